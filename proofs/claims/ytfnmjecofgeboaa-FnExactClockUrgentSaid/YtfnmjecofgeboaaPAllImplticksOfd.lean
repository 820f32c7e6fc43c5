-- Laid by a program of this session out of the translation's print
import Derived.Test.YtfnmjecofgeboaaPAll0
import Derived.Test.YtfnmjecofgeboaaPAllAb
import Derived.Test.YtfnmjecofgeboaaPAllSmall
namespace Go.Proofs.Ytfnmjecofgeboaa.PAll
open Go.RowKit Go.Proofs.YtfnmjecofgeboaaW.PrintWords Go.Proofs.YtfnmjecofgeboaaW.PrintLast Go.Proofs.YtfnmjecofgeboaaW.PrintMore
attribute [local go_sem] max2_int min2_int max_two min_two max_three min_three max_four min_four   -- for this text's walks alone
set_option linter.unusedVariables false
set_option linter.unusedSimpArgs false

/-! ### impl_ticksOf: function 43 -/
mutual
def impl_ticksOf.l0 : Nat → List (S44) → List (S44) → List (S44) → List (S44) → Int → Int → Int → Int → List (S25) → Option ((List (S44)))
 | 0, _, _, _, _, _, _, _, _, _ => none
 | k + 1, x3, x4, x5, x52, x53, x54, x245000, x245001, x245002 => if x54 < x53 then (if 0 ≤ x54 then (if x54 < (x52.length : Int) then (if 1 < (x245002.length : Int) then ((impl_beside.f ((rd_T44 x52 x54).f1.f0) ((rd_T44 x52 x54).f1.f1) ((rd_T44 x52 x54).f1.f2) ((rd_T25 x245002 1).f0) ((rd_T25 x245002 1).f1) ((rd_T25 x245002 1).f2)).bind fun bt274 => (if x5.length < 2932031007402 then (impl_ticksOf.l0 k x3 x4 (x5 ++ [(⟨(rd_T44 x52 x54).f0, (⟨bt274.1, bt274.2.1, bt274.2.2⟩ : S25)⟩ : S44)]) x52 x53 (wrap64 (x54 + 1)) x245000 x245001 x245002) else (none))) else (none)) else (none)) else (none)) else (impl_ticksOf.l1 k x3 x4 x5 x4 (x4.length : Int) 0 x245000 x245001 x245002)
def impl_ticksOf.l1 : Nat → List (S44) → List (S44) → List (S44) → List (S44) → Int → Int → Int → Int → List (S25) → Option ((List (S44)))
 | 0, _, _, _, _, _, _, _, _, _ => none
 | k + 1, x3, x4, x5, x72, x73, x74, x245000, x245001, x245002 => if x74 < x73 then (if 0 ≤ x74 then (if x74 < (x72.length : Int) then (if 0 < (x245002.length : Int) then ((impl_beside.f ((rd_T25 x245002 0).f0) ((rd_T25 x245002 0).f1) ((rd_T25 x245002 0).f2) ((rd_T44 x72 x74).f1.f0) ((rd_T44 x72 x74).f1.f1) ((rd_T44 x72 x74).f1.f2)).bind fun bt285 => (if x5.length < 2932031007402 then (impl_ticksOf.l1 k x3 x4 (x5 ++ [(⟨(rd_T44 x72 x74).f0, (⟨bt285.1, bt285.2.1, bt285.2.2⟩ : S25)⟩ : S44)]) x72 x73 (wrap64 (x74 + 1)) x245000 x245001 x245002) else (none))) else (none)) else (none)) else (none)) else (impl_ticksOf.l2 k x4 x5 x3 (x3.length : Int) 0)
def impl_ticksOf.l2 : Nat → List (S44) → List (S44) → List (S44) → Int → Int → Option ((List (S44)))
 | 0, _, _, _, _, _ => none
 | k + 1, x4, x5, x92, x93, x94 => if x94 < x93 then (if 0 ≤ x94 then (if x94 < (x92.length : Int) then (impl_ticksOf.l3 k x4 x5 x92 x93 x94 x4 (x4.length : Int) 0 ((rd_T44 x92 x94).f0) ((rd_T44 x92 x94).f1.f0) ((rd_T44 x92 x94).f1.f1) ((rd_T44 x92 x94).f1.f2)) else (none)) else (none)) else (some x5)
def impl_ticksOf.l3 : Nat → List (S44) → List (S44) → List (S44) → Int → Int → List (S44) → Int → Int → Int → Int → Int → List (S25) → Option ((List (S44)))
 | 0, _, _, _, _, _, _, _, _, _, _, _, _ => none
 | k + 1, x4, x5, x92, x93, x94, x98, x99, x100, x295000, x295001, x295002, x295003 => if x100 < x99 then (if 0 ≤ x100 then (if x100 < (x98.length : Int) then (if x295000 = 0 then (impl_ticksOf.l3 k x4 x5 x92 x93 x94 x98 x99 (wrap64 (x100 + 1)) x295000 x295001 x295002 x295003) else (if x295000 = (wrap64 (-((rd_T44 x98 x100).f0))) then ((impl_beside.f x295001 x295002 x295003 ((rd_T44 x98 x100).f1.f0) ((rd_T44 x98 x100).f1.f1) ((rd_T44 x98 x100).f1.f2)).bind fun bt297 => (if x5.length < 2932031007402 then (impl_ticksOf.l3 k x4 (x5 ++ [(⟨0, (⟨bt297.1, bt297.2.1, bt297.2.2⟩ : S25)⟩ : S44)]) x92 x93 x94 x98 x99 (wrap64 (x100 + 1)) x295000 x295001 x295002 x295003) else (none))) else (impl_ticksOf.l3 k x4 x5 x92 x93 x94 x98 x99 (wrap64 (x100 + 1)) x295000 x295001 x295002 x295003))) else (none)) else (none)) else (impl_ticksOf.l2 k x4 x5 x92 x93 (wrap64 (x94 + 1)))
def impl_ticksOf.f : Nat → Int → Int → List (S25) → Option ((List (S44)))
 | 0, _, _, _ => none
 | k + 1, a0_0, a0_1, l0_2 => if a0_0 = 1 then (if 0 < (l0_2.length : Int) then (some (([(⟨a0_1, (⟨(rd_T25 l0_2 0).f0, (rd_T25 l0_2 0).f1, (rd_T25 l0_2 0).f2⟩ : S25)⟩ : S44)] : List (S44)))) else (none)) else (if a0_0 = 3 then (if 0 < (l0_2.length : Int) then ((impl_ticksOf.f k ((rd_T25 l0_2 0).f0) ((rd_T25 l0_2 0).f1) ((rd_T25 l0_2 0).f2)).bind fun t250 => (if 1 < (l0_2.length : Int) then ((impl_ticksOf.f k ((rd_T25 l0_2 1).f0) ((rd_T25 l0_2 1).f1) ((rd_T25 l0_2 1).f2)).bind fun t254 => (if t250.length + t254.length < 2932031007402 then (some (t250 ++ t254)) else (none))) else (none))) else (none)) else (if a0_0 = 4 then (if 0 < (l0_2.length : Int) then ((impl_ticksOf.f k ((rd_T25 l0_2 0).f0) ((rd_T25 l0_2 0).f1) ((rd_T25 l0_2 0).f2)).bind fun t261 => (if 1 < (l0_2.length : Int) then ((impl_ticksOf.f k ((rd_T25 l0_2 1).f0) ((rd_T25 l0_2 1).f1) ((rd_T25 l0_2 1).f2)).bind fun t265 => (impl_ticksOf.l0 k t261 t265 (([] : List (S44))) t261 (t261.length : Int) 0 a0_0 a0_1 l0_2)) else (none))) else (none)) else (some ([] : List (S44)))))
end
theorem impl_ticksOf.mono_l : ∀ k, (∀ y0 y1 y2, LeO (impl_ticksOf.f k y0 y1 y2) (impl_ticksOf.f (k + 1) y0 y1 y2)) ∧ (∀ y0 y1 y2 y3 y4 y5 y6 y7 y8, LeO (impl_ticksOf.l0 k y0 y1 y2 y3 y4 y5 y6 y7 y8) (impl_ticksOf.l0 (k + 1) y0 y1 y2 y3 y4 y5 y6 y7 y8)) ∧ (∀ y0 y1 y2 y3 y4 y5 y6 y7 y8, LeO (impl_ticksOf.l1 k y0 y1 y2 y3 y4 y5 y6 y7 y8) (impl_ticksOf.l1 (k + 1) y0 y1 y2 y3 y4 y5 y6 y7 y8)) ∧ (∀ y0 y1 y2 y3 y4, LeO (impl_ticksOf.l2 k y0 y1 y2 y3 y4) (impl_ticksOf.l2 (k + 1) y0 y1 y2 y3 y4)) ∧ (∀ y0 y1 y2 y3 y4 y5 y6 y7 y8 y9 y10 y11, LeO (impl_ticksOf.l3 k y0 y1 y2 y3 y4 y5 y6 y7 y8 y9 y10 y11) (impl_ticksOf.l3 (k + 1) y0 y1 y2 y3 y4 y5 y6 y7 y8 y9 y10 y11))
 | 0 => ⟨fun _ _ _ r h => by simp [impl_ticksOf.f] at h, fun _ _ _ _ _ _ _ _ _ r h => by simp [impl_ticksOf.l0] at h, fun _ _ _ _ _ _ _ _ _ r h => by simp [impl_ticksOf.l1] at h, fun _ _ _ _ _ r h => by simp [impl_ticksOf.l2] at h, fun _ _ _ _ _ _ _ _ _ _ _ _ r h => by simp [impl_ticksOf.l3] at h⟩
 | k + 1 => by
  obtain ⟨ih0, ih1, ih2, ih3, ih4⟩ := impl_ticksOf.mono_l k
  refine ⟨?_, ?_, ?_, ?_, ?_⟩
  ·
   intro y0 y1 y2
   unfold impl_ticksOf.f
   repeat' first
   | (with_reducible exact ih0 _ _ _)
   | (with_reducible exact ih1 _ _ _ _ _ _ _ _ _)
   | (with_reducible exact ih2 _ _ _ _ _ _ _ _ _)
   | (with_reducible exact ih3 _ _ _ _ _)
   | (with_reducible exact ih4 _ _ _ _ _ _ _ _ _ _ _ _)
   | (with_reducible exact LeO.refl _)
   | (with_reducible exact LeO.none _)
   | (with_reducible refine LeO.ite ?_ ?_)
   | (with_reducible refine LeO.bind ?_ (fun _ => ?_))
   | exact ih0 _ _ _
   | exact ih1 _ _ _ _ _ _ _ _ _
   | exact ih2 _ _ _ _ _ _ _ _ _
   | exact ih3 _ _ _ _ _
   | exact ih4 _ _ _ _ _ _ _ _ _ _ _ _
   | exact LeO.none _
   | refine LeO.ite ?_ ?_
   | refine LeO.bind ?_ (fun _ => ?_)
  ·
   intro y0 y1 y2 y3 y4 y5 y6 y7 y8
   unfold impl_ticksOf.l0
   repeat' first
   | (with_reducible exact ih0 _ _ _)
   | (with_reducible exact ih1 _ _ _ _ _ _ _ _ _)
   | (with_reducible exact ih2 _ _ _ _ _ _ _ _ _)
   | (with_reducible exact ih3 _ _ _ _ _)
   | (with_reducible exact ih4 _ _ _ _ _ _ _ _ _ _ _ _)
   | (with_reducible exact LeO.refl _)
   | (with_reducible exact LeO.none _)
   | (with_reducible refine LeO.ite ?_ ?_)
   | (with_reducible refine LeO.bind ?_ (fun _ => ?_))
   | exact ih0 _ _ _
   | exact ih1 _ _ _ _ _ _ _ _ _
   | exact ih2 _ _ _ _ _ _ _ _ _
   | exact ih3 _ _ _ _ _
   | exact ih4 _ _ _ _ _ _ _ _ _ _ _ _
   | exact LeO.none _
   | refine LeO.ite ?_ ?_
   | refine LeO.bind ?_ (fun _ => ?_)
  ·
   intro y0 y1 y2 y3 y4 y5 y6 y7 y8
   unfold impl_ticksOf.l1
   repeat' first
   | (with_reducible exact ih0 _ _ _)
   | (with_reducible exact ih1 _ _ _ _ _ _ _ _ _)
   | (with_reducible exact ih2 _ _ _ _ _ _ _ _ _)
   | (with_reducible exact ih3 _ _ _ _ _)
   | (with_reducible exact ih4 _ _ _ _ _ _ _ _ _ _ _ _)
   | (with_reducible exact LeO.refl _)
   | (with_reducible exact LeO.none _)
   | (with_reducible refine LeO.ite ?_ ?_)
   | (with_reducible refine LeO.bind ?_ (fun _ => ?_))
   | exact ih0 _ _ _
   | exact ih1 _ _ _ _ _ _ _ _ _
   | exact ih2 _ _ _ _ _ _ _ _ _
   | exact ih3 _ _ _ _ _
   | exact ih4 _ _ _ _ _ _ _ _ _ _ _ _
   | exact LeO.none _
   | refine LeO.ite ?_ ?_
   | refine LeO.bind ?_ (fun _ => ?_)
  ·
   intro y0 y1 y2 y3 y4
   unfold impl_ticksOf.l2
   repeat' first
   | (with_reducible exact ih0 _ _ _)
   | (with_reducible exact ih1 _ _ _ _ _ _ _ _ _)
   | (with_reducible exact ih2 _ _ _ _ _ _ _ _ _)
   | (with_reducible exact ih3 _ _ _ _ _)
   | (with_reducible exact ih4 _ _ _ _ _ _ _ _ _ _ _ _)
   | (with_reducible exact LeO.refl _)
   | (with_reducible exact LeO.none _)
   | (with_reducible refine LeO.ite ?_ ?_)
   | (with_reducible refine LeO.bind ?_ (fun _ => ?_))
   | exact ih0 _ _ _
   | exact ih1 _ _ _ _ _ _ _ _ _
   | exact ih2 _ _ _ _ _ _ _ _ _
   | exact ih3 _ _ _ _ _
   | exact ih4 _ _ _ _ _ _ _ _ _ _ _ _
   | exact LeO.none _
   | refine LeO.ite ?_ ?_
   | refine LeO.bind ?_ (fun _ => ?_)
  ·
   intro y0 y1 y2 y3 y4 y5 y6 y7 y8 y9 y10 y11
   unfold impl_ticksOf.l3
   repeat' first
   | (with_reducible exact ih0 _ _ _)
   | (with_reducible exact ih1 _ _ _ _ _ _ _ _ _)
   | (with_reducible exact ih2 _ _ _ _ _ _ _ _ _)
   | (with_reducible exact ih3 _ _ _ _ _)
   | (with_reducible exact ih4 _ _ _ _ _ _ _ _ _ _ _ _)
   | (with_reducible exact LeO.refl _)
   | (with_reducible exact LeO.none _)
   | (with_reducible refine LeO.ite ?_ ?_)
   | (with_reducible refine LeO.bind ?_ (fun _ => ?_))
   | exact ih0 _ _ _
   | exact ih1 _ _ _ _ _ _ _ _ _
   | exact ih2 _ _ _ _ _ _ _ _ _
   | exact ih3 _ _ _ _ _
   | exact ih4 _ _ _ _ _ _ _ _ _ _ _ _
   | exact LeO.none _
   | refine LeO.ite ?_ ?_
   | refine LeO.bind ?_ (fun _ => ?_)
theorem impl_ticksOf.mono : ∀ a0 a1 a2 k, LeO (impl_ticksOf.f k a0 a1 a2) (impl_ticksOf.f (k + 1) a0 a1 a2) := by
 intro a0 a1 a2 k
 obtain ⟨ih0, ih1, ih2, ih3, ih4⟩ := impl_ticksOf.mono_l k
 exact ih0 a0 a1 a2
def impl_ticksOf.T3 : Bool × List (List Nat × List Nat) := (true, [([], []), ([0], [0]), ([], []), ([2], [2]), ([3], [3]), ([4], [4]), ([1, 5], [1, 5]), ([6], [6]), ([7, 0, 1, 2, 3, 4, 5, 6, 7], [7])])
def impl_ticksOf.B3 : List Nat := [0, 1, 0, 4, 12, 28, 63, 127, 255]
theorem impl_ticksOf.tab3 : rtab .any (opsOf Try.f43 3) = impl_ticksOf.T3 := by kernel_rfl
theorem impl_ticksOf.bits3 : waitsOk impl_ticksOf.T3.2 impl_ticksOf.B3 = true := by kernel_rfl
def impl_ticksOf.T5 : Bool × List (List Nat × List Nat) := (true, [([], []), ([0], [0]), ([1], [1]), ([2], [2]), ([3], [3]), ([], []), ([5], [5]), ([6], [6]), ([7], [7]), ([8, 4], [8]), ([4, 9, 9], [4, 9]), ([10, 10, 0, 1, 2, 3, 4, 5, 6, 7, 8, 9, 10], [10])])
def impl_ticksOf.B5 : List Nat := [0, 1, 3, 7, 15, 0, 32, 96, 224, 511, 1023, 2047]
theorem impl_ticksOf.tab5 : rtab .any (opsOf Try.f43 5) = impl_ticksOf.T5 := by kernel_rfl
theorem impl_ticksOf.bits5 : waitsOk impl_ticksOf.T5.2 impl_ticksOf.B5 = true := by kernel_rfl
def impl_ticksOf.T7 : Bool × List (List Nat × List Nat) := (true, [([], []), ([0], [0]), ([1], [1]), ([2], [2]), ([3], [3]), ([], []), ([5], [5]), ([6], [6]), ([7], [7]), ([8, 4], [8]), ([4, 9, 0, 1, 2, 3, 4], [4]), ([9, 10, 0, 1, 2, 3, 4, 5, 6, 7, 8, 9, 10], [9])])
def impl_ticksOf.B7 : List Nat := [0, 1, 3, 7, 15, 0, 32, 96, 224, 511, 1023, 2047]
theorem impl_ticksOf.tab7 : rtab .any (opsOf Try.f43 7) = impl_ticksOf.T7 := by kernel_rfl
theorem impl_ticksOf.bits7 : waitsOk impl_ticksOf.T7.2 impl_ticksOf.B7 = true := by kernel_rfl
def impl_ticksOf.T12 : Bool × List (List Nat × List Nat) := (true, [([], []), ([], []), ([1], [1]), ([], []), ([3], [3]), ([], []), ([5], [5]), ([6], [6]), ([7], [7]), ([4, 8], [4, 8]), ([2, 9], [2, 9]), ([10], [10]), ([0, 11, 9], [0, 11]), ([12, 12, 0, 1, 2, 3, 4, 5, 6, 7, 8, 9, 10, 11, 12], [0, 12])])
def impl_ticksOf.B12 : List Nat := [0, 0, 2, 0, 8, 0, 32, 96, 224, 504, 1022, 2046, 4095, 8191]
theorem impl_ticksOf.tab12 : rtab .any (opsOf Try.f43 12) = impl_ticksOf.T12 := by kernel_rfl
theorem impl_ticksOf.bits12 : waitsOk impl_ticksOf.T12.2 impl_ticksOf.B12 = true := by kernel_rfl
def impl_ticksOf.T17 : Bool × List (List Nat × List Nat) := (true, [([], []), ([], []), ([1], [1]), ([], []), ([3], [3]), ([4], [4]), ([5], [5]), ([], []), ([7], [7]), ([6, 8], [6, 8]), ([2, 9], [2, 9]), ([10], [10]), ([0, 11, 9], [0, 11]), ([12, 12, 0, 1, 2, 3, 4, 5, 6, 7, 8, 9, 10, 11, 12], [0, 12])])
def impl_ticksOf.B17 : List Nat := [0, 0, 2, 0, 8, 24, 56, 0, 128, 504, 1022, 2046, 4095, 8191]
theorem impl_ticksOf.tab17 : rtab .any (opsOf Try.f43 17) = impl_ticksOf.T17 := by kernel_rfl
theorem impl_ticksOf.bits17 : waitsOk impl_ticksOf.T17.2 impl_ticksOf.B17 = true := by kernel_rfl
end Go.Proofs.Ytfnmjecofgeboaa.PAll
