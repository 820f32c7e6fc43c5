-- Laid by a program of this session out of the translation's print
import Derived.Test.YtfnmjecofgeboaaPAll0
import Derived.Test.YtfnmjecofgeboaaPAllAb
import Derived.Test.YtfnmjecofgeboaaPAllSOk
import Derived.Test.YtfnmjecofgeboaaPAllSSteps
import Derived.Test.YtfnmjecofgeboaaPAllSpecl17Meet
namespace Go.Proofs.Ytfnmjecofgeboaa.PAll
open Go.RowKit Go.Proofs.YtfnmjecofgeboaaW.PrintWords Go.Proofs.YtfnmjecofgeboaaW.PrintLast Go.Proofs.YtfnmjecofgeboaaW.PrintMore
attribute [local go_sem] max2_int min2_int max_two min_two max_three min_three max_four min_four   -- for this text's walks alone
set_option linter.unusedVariables false
set_option linter.unusedSimpArgs false

/-! ### spec_l17Pass: function 47 -/
def spec_l17Pass.f : Nat → Int → Int → List (S25) → Option (Int × Int × (List (S25)) × Bool)
 | 0, _, _, _ => none
 | k + 1, a0_0, a0_1, l0_2 => if a0_0 = 0 then (some (0, 0, ([] : List (S25)), true)) else (if a0_0 = 1 then ((spec_l17Copy.f k a0_0 a0_1 l0_2).bind fun bt588 => (some (bt588.1, bt588.2.1, bt588.2.2, (a0_1 != 0)))) else (if a0_0 = 2 then (if a0_1 = 1 then (if 0 < (l0_2.length : Int) then ((spec_l17Copy.f k ((rd_T25 l0_2 0).f0) ((rd_T25 l0_2 0).f1) ((rd_T25 l0_2 0).f2)).bind fun bt594 => (some (bt594.1, bt594.2.1, bt594.2.2, true))) else (none)) else (if 0 < (l0_2.length : Int) then ((spec_l17Copy.f k ((rd_T25 l0_2 0).f0) ((rd_T25 l0_2 0).f1) ((rd_T25 l0_2 0).f2)).bind fun bt600 => (some (a0_0, wrap64 (a0_1 - 1), (([(⟨bt600.1, bt600.2.1, bt600.2.2⟩ : S25)] : List (S25))), true))) else (none))) else (if 0 < (l0_2.length : Int) then ((spec_l17Pass.f k ((rd_T25 l0_2 0).f0) ((rd_T25 l0_2 0).f1) ((rd_T25 l0_2 0).f2)).bind fun bt609 => (if 1 < (l0_2.length : Int) then ((spec_l17Pass.f k ((rd_T25 l0_2 1).f0) ((rd_T25 l0_2 1).f1) ((rd_T25 l0_2 1).f2)).bind fun bt617 => (if bt609.2.2.2 = true then (if bt617.2.2.2 = true then (if a0_0 = 4 then ((spec_l17Meet.f k ((rd_T25 l0_2 0).f0) ((rd_T25 l0_2 0).f1) ((rd_T25 l0_2 0).f2) ((rd_T25 l0_2 1).f0) ((rd_T25 l0_2 1).f1) ((rd_T25 l0_2 1).f2)).bind fun t626 => (if t626 = true then (some (0, 0, ([] : List (S25)), false)) else ((spec_l17Two.f a0_0 bt609.1 bt609.2.1 bt609.2.2.1 bt617.1 bt617.2.1 bt617.2.2.1).bind fun bt627 => (some (bt627.1, bt627.2.1, bt627.2.2, true))))) else ((spec_l17Two.f a0_0 bt609.1 bt609.2.1 bt609.2.2.1 bt617.1 bt617.2.1 bt617.2.2.1).bind fun bt632 => (some (bt632.1, bt632.2.1, bt632.2.2, true)))) else (some (0, 0, ([] : List (S25)), false))) else (some (0, 0, ([] : List (S25)), false)))) else (none))) else (none))))
theorem spec_l17Pass.mono_l : ∀ k, (∀ y0 y1 y2, LeO (spec_l17Pass.f k y0 y1 y2) (spec_l17Pass.f (k + 1) y0 y1 y2))
 | 0 => fun _ _ _ r h => by simp [spec_l17Pass.f] at h
 | k + 1 => by
  have ih0 := spec_l17Pass.mono_l k
  ·
   intro y0 y1 y2
   unfold spec_l17Pass.f
   repeat' first
   | (with_reducible exact ih0 _ _ _)
   | (with_reducible exact spec_l17Copy.mono _ _ _ _)
   | (with_reducible exact spec_l17Meet.mono _ _ _ _ _ _ _)
   | (with_reducible exact LeO.refl _)
   | (with_reducible exact LeO.none _)
   | (with_reducible refine LeO.ite ?_ ?_)
   | (with_reducible refine LeO.bind ?_ (fun _ => ?_))
   | exact ih0 _ _ _
   | exact spec_l17Copy.mono _ _ _ _
   | exact spec_l17Meet.mono _ _ _ _ _ _ _
   | exact LeO.none _
   | refine LeO.ite ?_ ?_
   | refine LeO.bind ?_ (fun _ => ?_)
theorem spec_l17Pass.mono : ∀ a0 a1 a2 k, LeO (spec_l17Pass.f k a0 a1 a2) (spec_l17Pass.f (k + 1) a0 a1 a2) := by
 intro a0 a1 a2 k
 have ih0 := spec_l17Pass.mono_l k
 exact ih0 a0 a1 a2
def spec_l17Pass.T9 : Bool × List (List Nat × List Nat) := (true, [([], []), ([0], [0]), ([], []), ([2], [2]), ([3], [3]), ([], []), ([5], [5]), ([6], [6]), ([7], [7]), ([8], [8]), ([9], [9]), ([1, 4, 10], [1, 4, 10]), ([11, 9, 0, 1, 2, 3, 4, 5, 6, 7, 8, 9, 10, 11], [11]), ([12, 0, 1, 2, 3, 4, 5, 6, 7, 8, 9, 10, 11, 12], [])])
def spec_l17Pass.B9 : List Nat := [0, 1, 0, 4, 12, 0, 32, 96, 224, 480, 992, 2047, 4095, 8191]
theorem spec_l17Pass.tab9 : rtab .any (opsOf Try.f47 9) = spec_l17Pass.T9 := by kernel_rfl
theorem spec_l17Pass.bits9 : waitsOk spec_l17Pass.T9.2 spec_l17Pass.B9 = true := by kernel_rfl
def spec_l17Pass.T12 : Bool × List (List Nat × List Nat) := (true, [([], []), ([0], [0]), ([1], [1]), ([2], [2]), ([3, 2], [2, 3]), ([2, 4], [2, 4]), ([5, 2], [5]), ([6], [6]), ([7, 6], [6, 7]), ([8, 6], [6, 8]), ([9, 6, 6], [6, 9]), ([10], [10]), ([11, 10], [10, 11]), ([12, 10], [10, 12]), ([13, 10], [10, 13]), ([10], [10]), ([15, 10], [10, 15]), ([16, 10], [10, 16]), ([17, 10], [10, 17]), ([14, 18, 10, 10], [10, 14, 18]), ([10, 19, 6], [6, 10, 19]), ([6, 20], [6, 20])])
def spec_l17Pass.B12 : List Nat := [0, 1, 3, 7, 15, 31, 63, 127, 255, 511, 1023, 2047, 4095, 8191, 16383, 2047, 34815, 100351, 231423, 524287, 1048575, 2097151]
theorem spec_l17Pass.tab12 : rtab .any (opsOf Try.f47 12) = spec_l17Pass.T12 := by kernel_rfl
theorem spec_l17Pass.bits12 : waitsOk spec_l17Pass.T12.2 spec_l17Pass.B12 = true := by kernel_rfl
end Go.Proofs.Ytfnmjecofgeboaa.PAll
