-- Laid by a program of this session out of the translation's print
import Derived.Test.YtfnmjecofgeboaaPAll0
import Derived.Test.YtfnmjecofgeboaaPAllAb
import Derived.Test.YtfnmjecofgeboaaPAllSOk
namespace Go.Proofs.Ytfnmjecofgeboaa.PAll
open Go.RowKit Go.Proofs.YtfnmjecofgeboaaW.PrintWords Go.Proofs.YtfnmjecofgeboaaW.PrintLast Go.Proofs.YtfnmjecofgeboaaW.PrintMore
attribute [local go_sem] max2_int min2_int max_two min_two max_three min_three max_four min_four   -- for this text's walks alone
set_option linter.unusedVariables false
set_option linter.unusedSimpArgs false

/-! ### spec_l17Steps: function 50 -/
mutual
def spec_l17Steps.l0 : Nat → List (S44) → List (S44) → List (S44) → Int → Int → Int → List (S25) → Option ((List (S44)))
 | 0, _, _, _, _, _, _, _ => none
 | k + 1, x3, x4, x5, x6, x427000, x427001, x427002 => if x6 < (x4.length : Int) then (if 0 ≤ x6 then (if 1 < (x427002.length : Int) then ((spec_l17Two.f x427000 ((rd_T44 x4 x6).f1.f0) ((rd_T44 x4 x6).f1.f1) ((rd_T44 x4 x6).f1.f2) ((rd_T25 x427002 1).f0) ((rd_T25 x427002 1).f1) ((rd_T25 x427002 1).f2)).bind fun bt456 => (if x3.length < 2932031007402 then (spec_l17Steps.l0 k (x3 ++ [(⟨(rd_T44 x4 x6).f0, (⟨bt456.1, bt456.2.1, bt456.2.2⟩ : S25)⟩ : S44)]) x4 x5 (wrap64 (x6 + 1)) x427000 x427001 x427002) else (none))) else (none)) else (none)) else (spec_l17Steps.l1 k x3 x4 x5 0 x427000 x427001 x427002)
def spec_l17Steps.l1 : Nat → List (S44) → List (S44) → List (S44) → Int → Int → Int → List (S25) → Option ((List (S44)))
 | 0, _, _, _, _, _, _, _ => none
 | k + 1, x3, x4, x5, x7, x427000, x427001, x427002 => if x7 < (x5.length : Int) then (if 0 ≤ x7 then (if 0 < (x427002.length : Int) then ((spec_l17Two.f x427000 ((rd_T25 x427002 0).f0) ((rd_T25 x427002 0).f1) ((rd_T25 x427002 0).f2) ((rd_T44 x5 x7).f1.f0) ((rd_T44 x5 x7).f1.f1) ((rd_T44 x5 x7).f1.f2)).bind fun bt467 => (if x3.length < 2932031007402 then (spec_l17Steps.l1 k (x3 ++ [(⟨(rd_T44 x5 x7).f0, (⟨bt467.1, bt467.2.1, bt467.2.2⟩ : S25)⟩ : S44)]) x4 x5 (wrap64 (x7 + 1)) x427000 x427001 x427002) else (none))) else (none)) else (none)) else (spec_l17Steps.l2 k x3 x4 x5 0 x427000 x427001 x427002)
def spec_l17Steps.l2 : Nat → List (S44) → List (S44) → List (S44) → Int → Int → Int → List (S25) → Option ((List (S44)))
 | 0, _, _, _, _, _, _, _ => none
 | k + 1, x3, x4, x5, x8, x427000, x427001, x427002 => if x8 < (x4.length : Int) then (spec_l17Steps.l3 k x3 x4 x5 x8 0 x427000 x427001 x427002) else (some x3)
def spec_l17Steps.l3 : Nat → List (S44) → List (S44) → List (S44) → Int → Int → Int → Int → List (S25) → Option ((List (S44)))
 | 0, _, _, _, _, _, _, _, _ => none
 | k + 1, x3, x4, x5, x8, x9, x427000, x427001, x427002 => if x9 < (x5.length : Int) then (if 0 ≤ x8 then (if x8 < (x4.length : Int) then (if ((rd_T44 x4 x8).f0) = 0 then (spec_l17Steps.l3 k x3 x4 x5 x8 (wrap64 (x9 + 1)) x427000 x427001 x427002) else (if 0 ≤ x9 then (if ((rd_T44 x4 x8).f0) = (wrap64 (-((rd_T44 x5 x9).f0))) then ((spec_l17Two.f x427000 ((rd_T44 x4 x8).f1.f0) ((rd_T44 x4 x8).f1.f1) ((rd_T44 x4 x8).f1.f2) ((rd_T44 x5 x9).f1.f0) ((rd_T44 x5 x9).f1.f1) ((rd_T44 x5 x9).f1.f2)).bind fun bt480 => (if x3.length < 2932031007402 then (spec_l17Steps.l3 k (x3 ++ [(⟨0, (⟨bt480.1, bt480.2.1, bt480.2.2⟩ : S25)⟩ : S44)]) x4 x5 x8 (wrap64 (x9 + 1)) x427000 x427001 x427002) else (none))) else (spec_l17Steps.l3 k x3 x4 x5 x8 (wrap64 (x9 + 1)) x427000 x427001 x427002)) else (none))) else (none)) else (none)) else (spec_l17Steps.l2 k x3 x4 x5 (wrap64 (x8 + 1)) x427000 x427001 x427002)
def spec_l17Steps.f : Nat → Int → Int → List (S25) → Option ((List (S44)))
 | 0, _, _, _ => none
 | k + 1, a0_0, a0_1, l0_2 => if a0_0 = 1 then (if 0 < (l0_2.length : Int) then (some (([(⟨a0_1, (⟨(rd_T25 l0_2 0).f0, (rd_T25 l0_2 0).f1, (rd_T25 l0_2 0).f2⟩ : S25)⟩ : S44)] : List (S44)))) else (none)) else (if a0_0 = 3 then (if 0 < (l0_2.length : Int) then ((spec_l17Steps.f k ((rd_T25 l0_2 0).f0) ((rd_T25 l0_2 0).f1) ((rd_T25 l0_2 0).f2)).bind fun t432 => (if 1 < (l0_2.length : Int) then ((spec_l17Steps.f k ((rd_T25 l0_2 1).f0) ((rd_T25 l0_2 1).f1) ((rd_T25 l0_2 1).f2)).bind fun t436 => (if t432.length + t436.length < 2932031007402 then (some (t432 ++ t436)) else (none))) else (none))) else (none)) else (if a0_0 = 4 then (if 0 < (l0_2.length : Int) then ((spec_l17Steps.f k ((rd_T25 l0_2 0).f0) ((rd_T25 l0_2 0).f1) ((rd_T25 l0_2 0).f2)).bind fun t446 => (if 1 < (l0_2.length : Int) then ((spec_l17Steps.f k ((rd_T25 l0_2 1).f0) ((rd_T25 l0_2 1).f1) ((rd_T25 l0_2 1).f2)).bind fun t450 => (spec_l17Steps.l0 k (([] : List (S44))) t446 t450 0 a0_0 a0_1 l0_2)) else (none))) else (none)) else (some (([] : List (S44))))))
end
theorem spec_l17Steps.mono_l : ∀ k, (∀ y0 y1 y2, LeO (spec_l17Steps.f k y0 y1 y2) (spec_l17Steps.f (k + 1) y0 y1 y2)) ∧ (∀ y0 y1 y2 y3 y4 y5 y6, LeO (spec_l17Steps.l0 k y0 y1 y2 y3 y4 y5 y6) (spec_l17Steps.l0 (k + 1) y0 y1 y2 y3 y4 y5 y6)) ∧ (∀ y0 y1 y2 y3 y4 y5 y6, LeO (spec_l17Steps.l1 k y0 y1 y2 y3 y4 y5 y6) (spec_l17Steps.l1 (k + 1) y0 y1 y2 y3 y4 y5 y6)) ∧ (∀ y0 y1 y2 y3 y4 y5 y6, LeO (spec_l17Steps.l2 k y0 y1 y2 y3 y4 y5 y6) (spec_l17Steps.l2 (k + 1) y0 y1 y2 y3 y4 y5 y6)) ∧ (∀ y0 y1 y2 y3 y4 y5 y6 y7, LeO (spec_l17Steps.l3 k y0 y1 y2 y3 y4 y5 y6 y7) (spec_l17Steps.l3 (k + 1) y0 y1 y2 y3 y4 y5 y6 y7))
 | 0 => ⟨fun _ _ _ r h => by simp [spec_l17Steps.f] at h, fun _ _ _ _ _ _ _ r h => by simp [spec_l17Steps.l0] at h, fun _ _ _ _ _ _ _ r h => by simp [spec_l17Steps.l1] at h, fun _ _ _ _ _ _ _ r h => by simp [spec_l17Steps.l2] at h, fun _ _ _ _ _ _ _ _ r h => by simp [spec_l17Steps.l3] at h⟩
 | k + 1 => by
  obtain ⟨ih0, ih1, ih2, ih3, ih4⟩ := spec_l17Steps.mono_l k
  refine ⟨?_, ?_, ?_, ?_, ?_⟩
  ·
   intro y0 y1 y2
   unfold spec_l17Steps.f
   repeat' first
   | (with_reducible exact ih0 _ _ _)
   | (with_reducible exact ih1 _ _ _ _ _ _ _)
   | (with_reducible exact ih2 _ _ _ _ _ _ _)
   | (with_reducible exact ih3 _ _ _ _ _ _ _)
   | (with_reducible exact ih4 _ _ _ _ _ _ _ _)
   | (with_reducible exact LeO.refl _)
   | (with_reducible exact LeO.none _)
   | (with_reducible refine LeO.ite ?_ ?_)
   | (with_reducible refine LeO.bind ?_ (fun _ => ?_))
   | exact ih0 _ _ _
   | exact ih1 _ _ _ _ _ _ _
   | exact ih2 _ _ _ _ _ _ _
   | exact ih3 _ _ _ _ _ _ _
   | exact ih4 _ _ _ _ _ _ _ _
   | exact LeO.none _
   | refine LeO.ite ?_ ?_
   | refine LeO.bind ?_ (fun _ => ?_)
  ·
   intro y0 y1 y2 y3 y4 y5 y6
   unfold spec_l17Steps.l0
   repeat' first
   | (with_reducible exact ih0 _ _ _)
   | (with_reducible exact ih1 _ _ _ _ _ _ _)
   | (with_reducible exact ih2 _ _ _ _ _ _ _)
   | (with_reducible exact ih3 _ _ _ _ _ _ _)
   | (with_reducible exact ih4 _ _ _ _ _ _ _ _)
   | (with_reducible exact LeO.refl _)
   | (with_reducible exact LeO.none _)
   | (with_reducible refine LeO.ite ?_ ?_)
   | (with_reducible refine LeO.bind ?_ (fun _ => ?_))
   | exact ih0 _ _ _
   | exact ih1 _ _ _ _ _ _ _
   | exact ih2 _ _ _ _ _ _ _
   | exact ih3 _ _ _ _ _ _ _
   | exact ih4 _ _ _ _ _ _ _ _
   | exact LeO.none _
   | refine LeO.ite ?_ ?_
   | refine LeO.bind ?_ (fun _ => ?_)
  ·
   intro y0 y1 y2 y3 y4 y5 y6
   unfold spec_l17Steps.l1
   repeat' first
   | (with_reducible exact ih0 _ _ _)
   | (with_reducible exact ih1 _ _ _ _ _ _ _)
   | (with_reducible exact ih2 _ _ _ _ _ _ _)
   | (with_reducible exact ih3 _ _ _ _ _ _ _)
   | (with_reducible exact ih4 _ _ _ _ _ _ _ _)
   | (with_reducible exact LeO.refl _)
   | (with_reducible exact LeO.none _)
   | (with_reducible refine LeO.ite ?_ ?_)
   | (with_reducible refine LeO.bind ?_ (fun _ => ?_))
   | exact ih0 _ _ _
   | exact ih1 _ _ _ _ _ _ _
   | exact ih2 _ _ _ _ _ _ _
   | exact ih3 _ _ _ _ _ _ _
   | exact ih4 _ _ _ _ _ _ _ _
   | exact LeO.none _
   | refine LeO.ite ?_ ?_
   | refine LeO.bind ?_ (fun _ => ?_)
  ·
   intro y0 y1 y2 y3 y4 y5 y6
   unfold spec_l17Steps.l2
   repeat' first
   | (with_reducible exact ih0 _ _ _)
   | (with_reducible exact ih1 _ _ _ _ _ _ _)
   | (with_reducible exact ih2 _ _ _ _ _ _ _)
   | (with_reducible exact ih3 _ _ _ _ _ _ _)
   | (with_reducible exact ih4 _ _ _ _ _ _ _ _)
   | (with_reducible exact LeO.refl _)
   | (with_reducible exact LeO.none _)
   | (with_reducible refine LeO.ite ?_ ?_)
   | (with_reducible refine LeO.bind ?_ (fun _ => ?_))
   | exact ih0 _ _ _
   | exact ih1 _ _ _ _ _ _ _
   | exact ih2 _ _ _ _ _ _ _
   | exact ih3 _ _ _ _ _ _ _
   | exact ih4 _ _ _ _ _ _ _ _
   | exact LeO.none _
   | refine LeO.ite ?_ ?_
   | refine LeO.bind ?_ (fun _ => ?_)
  ·
   intro y0 y1 y2 y3 y4 y5 y6 y7
   unfold spec_l17Steps.l3
   repeat' first
   | (with_reducible exact ih0 _ _ _)
   | (with_reducible exact ih1 _ _ _ _ _ _ _)
   | (with_reducible exact ih2 _ _ _ _ _ _ _)
   | (with_reducible exact ih3 _ _ _ _ _ _ _)
   | (with_reducible exact ih4 _ _ _ _ _ _ _ _)
   | (with_reducible exact LeO.refl _)
   | (with_reducible exact LeO.none _)
   | (with_reducible refine LeO.ite ?_ ?_)
   | (with_reducible refine LeO.bind ?_ (fun _ => ?_))
   | exact ih0 _ _ _
   | exact ih1 _ _ _ _ _ _ _
   | exact ih2 _ _ _ _ _ _ _
   | exact ih3 _ _ _ _ _ _ _
   | exact ih4 _ _ _ _ _ _ _ _
   | exact LeO.none _
   | refine LeO.ite ?_ ?_
   | refine LeO.bind ?_ (fun _ => ?_)
theorem spec_l17Steps.mono : ∀ a0 a1 a2 k, LeO (spec_l17Steps.f k a0 a1 a2) (spec_l17Steps.f (k + 1) a0 a1 a2) := by
 intro a0 a1 a2 k
 obtain ⟨ih0, ih1, ih2, ih3, ih4⟩ := spec_l17Steps.mono_l k
 exact ih0 a0 a1 a2
def spec_l17Steps.T3 : Bool × List (List Nat × List Nat) := (true, [([], []), ([0], [0]), ([], []), ([2], [2]), ([3], [3]), ([4], [4]), ([1, 5], [1, 5]), ([6], [6]), ([7, 0, 1, 2, 3, 4, 5, 6, 7], [7])])
def spec_l17Steps.B3 : List Nat := [0, 1, 0, 4, 12, 28, 63, 127, 255]
theorem spec_l17Steps.tab3 : rtab .any (opsOf Try.f50 3) = spec_l17Steps.T3 := by kernel_rfl
theorem spec_l17Steps.bits3 : waitsOk spec_l17Steps.T3.2 spec_l17Steps.B3 = true := by kernel_rfl
def spec_l17Steps.T5 : Bool × List (List Nat × List Nat) := (true, [([], []), ([0], [0]), ([1], [1]), ([2], [2]), ([3], [3]), ([], []), ([5], [5]), ([6], [6]), ([7], [7]), ([8, 4], [8]), ([4, 9, 9], [4, 9]), ([10, 10, 0, 1, 2, 3, 4, 5, 6, 7, 8, 9, 10], [10])])
def spec_l17Steps.B5 : List Nat := [0, 1, 3, 7, 15, 0, 32, 96, 224, 511, 1023, 2047]
theorem spec_l17Steps.tab5 : rtab .any (opsOf Try.f50 5) = spec_l17Steps.T5 := by kernel_rfl
theorem spec_l17Steps.bits5 : waitsOk spec_l17Steps.T5.2 spec_l17Steps.B5 = true := by kernel_rfl
def spec_l17Steps.T13 : Bool × List (List Nat × List Nat) := (true, [([], []), ([], []), ([], []), ([1, 2], [1, 2]), ([3], [3]), ([4], [4]), ([], []), ([6], [6]), ([], []), ([], []), ([8, 9], [8, 9]), ([10], [10]), ([11], [11]), ([], []), ([13], [13]), ([14], [14]), ([15], [15]), ([7, 12, 16], [7, 12, 16]), ([5, 17], [5, 17]), ([18], [18]), ([0, 19, 17], [0, 19]), ([20, 20, 0, 1, 2, 3, 4, 5, 6, 7, 8, 9, 10, 11, 12, 13, 14, 15, 16, 17, 18, 19, 20], [0, 20])])
def spec_l17Steps.B13 : List Nat := [0, 0, 0, 6, 14, 30, 0, 64, 0, 0, 768, 1792, 3840, 0, 8192, 24576, 57344, 131008, 262142, 524286, 1048575, 2097151]
theorem spec_l17Steps.tab13 : rtab .any (opsOf Try.f50 13) = spec_l17Steps.T13 := by kernel_rfl
theorem spec_l17Steps.bits13 : waitsOk spec_l17Steps.T13.2 spec_l17Steps.B13 = true := by kernel_rfl
def spec_l17Steps.T17 : Bool × List (List Nat × List Nat) := (true, [([], []), ([], []), ([], []), ([1, 2], [1, 2]), ([3], [3]), ([4], [4]), ([], []), ([6], [6]), ([], []), ([8], [8]), ([9], [9]), ([10], [10]), ([], []), ([], []), ([12, 13], [12, 13]), ([14], [14]), ([15], [15]), ([7, 11, 16], [7, 11, 16]), ([5, 17], [5, 17]), ([18], [18]), ([0, 19, 17], [0, 19]), ([20, 20, 0, 1, 2, 3, 4, 5, 6, 7, 8, 9, 10, 11, 12, 13, 14, 15, 16, 17, 18, 19, 20], [0, 20])])
def spec_l17Steps.B17 : List Nat := [0, 0, 0, 6, 14, 30, 0, 64, 0, 256, 768, 1792, 0, 0, 12288, 28672, 61440, 131008, 262142, 524286, 1048575, 2097151]
theorem spec_l17Steps.tab17 : rtab .any (opsOf Try.f50 17) = spec_l17Steps.T17 := by kernel_rfl
theorem spec_l17Steps.bits17 : waitsOk spec_l17Steps.T17.2 spec_l17Steps.B17 = true := by kernel_rfl
def spec_l17Steps.T24 : Bool × List (List Nat × List Nat) := (true, [([], []), ([], []), ([0, 1], [0, 1]), ([2], [2]), ([3], [3]), ([4], [4]), ([5], [5]), ([6], [6]), ([6], [6]), ([7, 8, 6], [6, 7, 8]), ([9, 6], [6, 9]), ([10, 6], [6, 10]), ([6], [6]), ([6], [6]), ([12, 13, 6], [6, 12, 13]), ([14, 6], [6, 14]), ([15, 6], [6, 15]), ([16, 6], [6, 16]), ([11, 17, 6], [6, 11, 17]), ([6, 18], [6, 18])])
def spec_l17Steps.B24 : List Nat := [0, 0, 3, 7, 15, 31, 63, 127, 127, 511, 1023, 2047, 127, 127, 12415, 28799, 61567, 127103, 262143, 524287]
theorem spec_l17Steps.tab24 : rtab .any (opsOf Try.f50 24) = spec_l17Steps.T24 := by kernel_rfl
theorem spec_l17Steps.bits24 : waitsOk spec_l17Steps.T24.2 spec_l17Steps.B24 = true := by kernel_rfl
def spec_l17Steps.T25 : Bool × List (List Nat × List Nat) := (true, [([], []), ([], []), ([1], [1]), ([], []), ([], []), ([3, 4], [3, 4]), ([5], [5]), ([6], [6]), ([], []), ([], []), ([8, 9], [8, 9]), ([10], [10]), ([11], [11]), ([2, 7, 12], [2, 7, 12]), ([13], [13]), ([14], [14]), ([0, 15, 13], [0, 15]), ([16, 16, 0, 1, 2, 3, 4, 5, 6, 7, 8, 9, 10, 11, 12, 13, 14, 15, 16], [0, 16])])
def spec_l17Steps.B25 : List Nat := [0, 0, 2, 0, 0, 24, 56, 120, 0, 0, 768, 1792, 3840, 8190, 16382, 32766, 65535, 131071]
theorem spec_l17Steps.tab25 : rtab .any (opsOf Try.f50 25) = spec_l17Steps.T25 := by kernel_rfl
theorem spec_l17Steps.bits25 : waitsOk spec_l17Steps.T25.2 spec_l17Steps.B25 = true := by kernel_rfl
set_option maxHeartbeats 8000000 in
set_option maxRecDepth 100000 in
theorem spec_l17Steps.calls (k : Nat) : ∀ (gD : Int) (gI : Int) (g5 : Nat → Prop) (l7 : Option Addr) (gU : Nat) (g1 : List (S25)) (r : List (S44)) (w : World) (qU : Kd.V k25 25 w w.heap.size (fun k_ => g5 k_) (.slice l7 g1.length gU) g1) (h : spec_l17Steps.f k gD gI g1 = some r),
  Calls Try.prog 50 #[.agg #[.int .i64 gD, .int .i64 gI, .slice l7 g1.length gU]] w fun e w' => ∃ v0_ : Value, e = .returned (v0_) ∧ Kd.N k44 44 w' w.heap.size (fun k_ => (g5 k_ ∨ w.heap.size ≤ k_)) v0_ r ∧ Below w.heap.size w w' := by
 induction k using Nat.strongRecOn with
 | _ k ih =>
 intro gD gI g5 l7 gU g1 r w qU h
 cases k with
 | zero => exact absurd h (by simp [spec_l17Steps.f])
 | succ k =>
 simp only [spec_l17Steps.f] at h
 have vZ := Try.underlying25
 have w2 := Try.underlying44
 have gA := am (show Kd.V k25 25 w w.heap.size (fun k_ => (g5 k_ ∨ w.heap.size ≤ k_)) (.slice l7 g1.length gU) g1 from Kd.V_mono qU (fun k_ hk => .inl hk)); have HB := am (Below.refl w.heap.size w)
 have H : (if gD = 1 then (if 0 < (g1.length : Int) then (some (([(⟨gI, (⟨(rd_T25 g1 0).f0, (rd_T25 g1 0).f1, (rd_T25 g1 0).f2⟩ : S25)⟩ : S44)] : List (S44)))) else (none)) else (if gD = 3 then (if 0 < (g1.length : Int) then ((spec_l17Steps.f k ((rd_T25 g1 0).f0) ((rd_T25 g1 0).f1) ((rd_T25 g1 0).f2)).bind fun kR => (if 1 < (g1.length : Int) then ((spec_l17Steps.f k ((rd_T25 g1 1).f0) ((rd_T25 g1 1).f1) ((rd_T25 g1 1).f2)).bind fun iI => (if kR.length + iI.length < 2932031007402 then (some (kR ++ iI)) else (none))) else (none))) else (none)) else (if gD = 4 then (if 0 < (g1.length : Int) then ((spec_l17Steps.f k ((rd_T25 g1 0).f0) ((rd_T25 g1 0).f1) ((rd_T25 g1 0).f2)).bind fun g4 => (if 1 < (g1.length : Int) then ((spec_l17Steps.f k ((rd_T25 g1 1).f0) ((rd_T25 g1 1).f1) ((rd_T25 g1 1).f2)).bind fun g7 => (spec_l17Steps.l0 k (([] : List (S44))) g4 g7 0 gD gI g1)) else (none))) else (none)) else (some (([] : List (S44))))))) = some r := h
 clear h
 by_cases c2 : gD = 1
 ·
  rw [if_pos c2] at H; have c2b0 : (gD == 1) = true := beq_iff_eq.mpr c2; have c2b1 : (gD != 1) = false := bne_eq_false_iff_eq.mpr c2; clear c2
  by_cases c3 : 0 < (g1.length : Int)
  ·
   rw [if_pos c3] at H; have c3b0 : decide (0 < (g1.length : Int)) = true := decide_eq_true c3; have c3b1 : decide (0 < g1.length) = true := decide_eq_true (by omega); clear c3
   obtain ⟨uJ, mQ⟩ : ∃ y_ : List (S44), y_ = (([(⟨gI, (⟨(rd_T25 g1 0).f0, (rd_T25 g1 0).f1, (rd_T25 g1 0).f2⟩ : S25)⟩ : S44)] : List (S44))) := ⟨_, rfl⟩
   replace H : (some uJ) = some r := by first | (rw [mQ]; with_reducible exact H) | (have H2_ := (Option.bind_some _ _).symm.trans H; rw [mQ]; with_reducible exact H2_) | (have H2_ := (Option.bind_some _ _).symm.trans H; with_reducible exact H2_) | with_reducible exact H | (rw [mQ]; exact H) | exact H
   have qV := am mQ
   clear mQ
   obtain rfl := Option.some.inj H
   go_enter Try.func50, Try.ntmps50
   try go_wp2_with (first | ((with_reducible refine gate_dst (N := 1) rfl ?_); refine bx (cs := #[.int .i64 gD, .int .i64 gI, .slice l7 g1.length gU]) (t := 25) fun g3 hg w4 hbox hb => ?_; replace gA := vb gA hg hb; have g0 := am (hbox); have pJ := bz HB hg; have kS := bz HB hg; replace HB := bs HB hb; clear hb hbox hg; obtain ⟨l9, lA, lB, lC, lD, lE⟩ := cs3 g0))
   replace gA := am (Kd.V_drew gA.1); replace g0 := am (blk_drew g0.1); replace HB := am (below_drew1 HB.1); have mR : 0 ≤ (0 : Int) := (by omega); have mS : 0 < (g1.length : Int) := od
   obtain ⟨kT, nB, nC, uK, gZ, h0, gV, nZ, o0⟩ := at_T25 (Kd.V_reads' gA.1).2.2 0 mR mS
   cases uK
   obtain ⟨vF, qZ, r0, pK⟩ := Kd.V_get gA.1 z25 0 mR (by first | exact mS | exact od | (have e_ := (Kd.V_reads' gA.1).1; omega))
   obtain ⟨t9, tA, rfl, lF, lG⟩ := k25_openF r0
   have jE := pK 2 _ rfl; rw [add_field _ _ 2 (by omega)] at jE; replace jE := Option.some.inj (jE.symm.trans gV); injection jE with hva_ hvn_ hvc_; rw [hva_] at lG; rw [hvc_] at lF; have iD := am (show Kd.V k25 25 _ w.heap.size _ _ ((rd_T25 g1 0).f2) from Kd.V_mk lF lG); clear hva_ hvn_ hvc_ lG lF pK qZ
   have vG : (0 < g1.length) = True := eq_true (by omega)
   (try rw [tz] at gZ)
   (try rw [z3] at gZ)
   (try rw [Addr.add_zero'] at gZ)
   (try rw [tz] at h0)
   (try rw [z3] at h0)
   (try rw [Addr.add_zero'] at h0)
   (try rw [tz] at gV)
   (try rw [z3] at gV)
   (try rw [Addr.add_zero'] at gV)
   have jF := am o0; have tB := am nZ; clear o0 nZ; replace mR := eq_true mR; replace mS := eq_true mS
   refine start_ (n := 9) (S := fun w' => w'.cell? ⟨g3, 0, none⟩ = some (.int .i64 gD) ∧ w'.cell? ⟨g3, 1, none⟩ = some (.int .i64 gI) ∧ w'.cell? ⟨g3, 2, none⟩ = some (.slice (some kT) g1.length gU) ∧ w'.cell? kT = some (.int .i64 ((rd_T25 g1 0).f0)) ∧ w'.cell? ⟨kT.block, kT.off + 1, none⟩ = some (.int .i64 ((rd_T25 g1 0).f1)) ∧ w'.cell? ⟨kT.block, kT.off + 2, none⟩ = some (.slice nB ((rd_T25 g1 0).f2).length nC)) (ds := []) #[ff,ff,ff,ff,ff,ff,ff,ff,ff] (by kernel_rfl) rfl rfl ⟨(blk_cell g0.1 0).trans rfl, (blk_cell g0.1 1).trans rfl, (blk_cell g0.1 2).trans rfl, gZ, h0, gV⟩ (fun hHeld => ?_); refine with_tabW spec_l17Steps.tab3 spec_l17Steps.bits3 (fun HT_ HW_ => ?_)
   generalize w4.drew = w6 at gA g0 HB iD jF gZ h0 gV hHeld ⊢
   refine pu (i := 0) (N := some 14) #[tt,ff,ff,ff,ff,ff,ff,ff,ff] HT_ ?_
   refine pu (i := 2) (N := some 16) #[tt,ff,tt,ff,ff,ff,ff,ff,ff] HT_ ?_
   refine tk (i := 1) (N := some 15) #[tt,tt,tt,ff,ff,ff,ff,ff,ff] HT_ HW_ hHeld ?_
   refine tk (i := 3) (N := some 17) #[tt,tt,tt,tt,ff,ff,ff,ff,ff] HT_ HW_ hHeld ?_
   refine pu (i := 4) (N := some 18) #[tt,tt,tt,tt,tt,ff,ff,ff,ff] HT_ ?_
   refine tk (i := 5) (N := some 19) #[tt,tt,tt,tt,tt,tt,ff,ff,ff] HT_ HW_ hHeld ?_
   refine pu (i := 6) (N := some 20) #[tt,tt,tt,tt,tt,tt,tt,ff,ff] HT_ ?_
   refine on (i := 7) (N := some 21) #[tt,tt,tt,tt,tt,tt,tt,tt,ff] HT_ (fun K hK => ?_)
   refine Kd.N_lit_step k44 _ 44 ?hg (N' := 21) ?hd (xs := ([(⟨gI, (⟨(rd_T25 g1 0).f0, (rd_T25 g1 0).f1, (rd_T25 g1 0).f2⟩ : S25)⟩ : S44)] : List (S44))) (inner := [.int .i64 gI, .int .i64 ((rd_T25 g1 0).f0), .int .i64 ((rd_T25 g1 0).f1), .slice nB ((rd_T25 g1 0).f2).length nC]) (ok := (fun k_ => (g5 k_ ∨ w.heap.size ≤ k_) ∧ k_ ≠ g3)) (okp := (fun k_ => (g5 k_ ∨ w.heap.size ≤ k_) ∧ k_ ≠ g3)) ?hr ?hp (fun _ hk => hk) ((show ∀ k_, w6.heap.size ≤ k_ → (fun k_ => (g5 k_ ∨ w.heap.size ≤ k_) ∧ k_ ≠ g3) k_ from fun k_ hk => ⟨(.inr (zt HB hk)), Kd.freshB (g := g3) (o := .cells #[.int .i64 gD, .int .i64 gI, .slice (some kT) g1.length gU] 25 (0, 0)) (kf g0).1 k_ hk⟩) _ (Nat.le_refl _)) (Below.refl _ _) (Nat.le_refl _) (by simp) ?_; (case hd => rfl); (case hg => rfl); (case hr => first | (go_simp; done) | (go_simp; rfl)); (case hp => exact (Reps.c4 (show Kd.FK k44 _ _ (⟨gI, (⟨(rd_T25 g1 0).f0, (rd_T25 g1 0).f1, (rd_T25 g1 0).f2⟩ : S25)⟩ : S44) [.int .i64 gI, .int .i64 ((rd_T25 g1 0).f0), .int .i64 ((rd_T25 g1 0).f1), .slice nB ((rd_T25 g1 0).f2).length nC] from (k44_mkF _ _ (⟨gI, (⟨(rd_T25 g1 0).f0, (rd_T25 g1 0).f1, (rd_T25 g1 0).f2⟩ : S25)⟩ : S44) (Kd.V_reads' (Kd.V_mono (ok' := (fun k_ => (g5 k_ ∨ w.heap.size ≤ k_) ∧ k_ ≠ g3)) (iD.1) mq)).2.1 (Kd.V_F (Kd.V_mono (ok' := (fun k_ => (g5 k_ ∨ w.heap.size ≤ k_) ∧ k_ ≠ g3)) (iD.1) mq)))) (Reps.none _ _)))
   intro w3 w7 ho8 hb hg_ hnew_
   have kU := (hb.cell (World.block_lt_of_cell? _ _ (hHeld.2.2.2.1))).trans (hHeld.2.2.2.1)
   have kV := (hb.cell (World.block_lt_of_cell? _ _ (hHeld.2.2.2.2.1))).trans (hHeld.2.2.2.2.1)
   have kW := (hb.cell (World.block_lt_of_cell? _ _ (hHeld.2.2.2.2.2))).trans (hHeld.2.2.2.2.2)
   clear hg_ hnew_
   (first | rw [← qV.1] at ho8 | (simp only [Int.reduceToNat] at ho8; rw [← qV.1] at ho8))
   have n0_ := ve gA hb (by first | exact Kd.N_base ho8 | exact Kd.R_base ho8); have n1_ := ve iD hb (by first | exact Kd.N_base ho8 | exact Kd.R_base ho8); have n2_ := am (Kd.N_lower ho8 (below_size bq)); have n3_ := kb g0 hb; have n4_ := cb jF hb; have n5_ := bs HB hb; clear gA iD g0 jF HB; have gA := n0_; have iD := n1_; have rZ := n2_; have g0 := n3_; have jF := n4_; have HB := n5_; clear n0_ n1_ n2_ n3_ n4_ n5_ hb ho8
   refine hK.out _ _ ⟨(blk_cell g0.1 0).trans rfl, (blk_cell g0.1 1).trans rfl, (blk_cell g0.1 2).trans rfl, kU, kV, kW⟩ (fun hHeld => ?_)
   clear hK K
   refine norm_ (a' := ?_) ?_ ?_
   rotate_left
   ·
    show Act.put _ (some 21) _ = _
    simp only [Act.put, List.setIfInBounds_toArray, List.set_cons_zero, List.set_cons_succ, i64_w, i32_w]
    rfl
   refine pu (i := 8) (N := some 2) #[tt,tt,tt,tt,tt,tt,tt,tt,tt] HT_ ?_
   refine done_ (done_of HT_.1 (by kernel_rfl)) ?_
   try go_wp2
   go_ret
   exact ⟨_, by first | rfl | (simp [errW_none, errW_some] <;> rfl) | (simp [*, errW_none, errW_some] <;> rfl), by (with_reducible repeat (first | apply Kd.N_alloc | apply Kd.N_drewN | apply Kd.N_drew)); exact Kd.N_mono rZ.1 mq, by repeat (first | (with_reducible first | exact HB.1 | apply below_alloc | apply pw_below_drewN | apply below_drew1 | refine below_set ?_ kS.1) | exact HB.1)⟩
  ·
   rw [if_neg c3] at H
   exact absurd H (by simp)
 ·
  rw [if_neg c2] at H; have c2b0 : (gD == 1) = false := beq_eq_false_iff_ne.mpr c2; have c2b1 : (gD != 1) = true := bne_iff_ne.mpr c2
  by_cases c9 : gD = 3
  ·
   rw [if_pos c9] at H; have c9b0 : (gD == 3) = true := beq_iff_eq.mpr c9; have c9b1 : (gD != 3) = false := bne_eq_false_iff_eq.mpr c9; clear c9
   by_cases c10 : 0 < (g1.length : Int)
   ·
    rw [if_pos c10] at H; have c10b0 : decide (0 < (g1.length : Int)) = true := decide_eq_true c10; have c10b1 : decide (0 < g1.length) = true := decide_eq_true (by omega); clear c10
    replace H := Option.bind_eq_some_iff.mp H
    obtain ⟨kR, s0, H⟩ := H
    replace H : (if 1 < (g1.length : Int) then ((spec_l17Steps.f k ((rd_T25 g1 1).f0) ((rd_T25 g1 1).f1) ((rd_T25 g1 1).f2)).bind fun iI => (if kR.length + iI.length < 2932031007402 then (some (kR ++ iI)) else (none))) else (none)) = some r := H
    have A11 := am s0
    clear s0
    by_cases c12 : 1 < (g1.length : Int)
    ·
     rw [if_pos c12] at H; have c12b0 : decide (1 < (g1.length : Int)) = true := decide_eq_true c12; have c12b1 : decide (1 < g1.length) = true := decide_eq_true (by omega); clear c12
     replace H := Option.bind_eq_some_iff.mp H
     obtain ⟨iI, s1, H⟩ := H
     replace H : (if kR.length + iI.length < 2932031007402 then (some (kR ++ iI)) else (none)) = some r := H
     have A13 := am s1
     clear s1
     by_cases c14 : kR.length + iI.length < 2932031007402
     ·
      rw [if_pos c14] at H
      have s2 := am c14
      clear c14
      obtain ⟨uL, mT⟩ : ∃ y_ : List (S44), y_ = (kR ++ iI) := ⟨_, rfl⟩
      replace H : (some uL) = some r := by first | (rw [mT]; with_reducible exact H) | (have H2_ := (Option.bind_some _ _).symm.trans H; rw [mT]; with_reducible exact H2_) | (have H2_ := (Option.bind_some _ _).symm.trans H; with_reducible exact H2_) | with_reducible exact H | (rw [mT]; exact H) | exact H
      have s3 := am mT
      clear mT
      obtain rfl := Option.some.inj H
      go_enter Try.func50, Try.ntmps50
      try go_wp2_with (first | ((with_reducible refine gate_dst (N := 1) rfl ?_); refine bx (cs := #[.int .i64 gD, .int .i64 gI, .slice l7 g1.length gU]) (t := 25) fun g3 hg w15 hbox hb => ?_; replace gA := vb gA hg hb; have g0 := am (hbox); have pJ := bz HB hg; have kS := bz HB hg; replace HB := bs HB hb; clear hb hbox hg; obtain ⟨jG, jH, jI, jJ, jK, jL⟩ := cs3 g0))
      replace gA := am (Kd.V_drew gA.1); replace g0 := am (blk_drew g0.1); replace HB := am (below_drew1 HB.1); have mU : 0 ≤ (0 : Int) := (by omega); have mV : 0 < (g1.length : Int) := od
      obtain ⟨hD, pL, pM, uM, h1, h2, gW, o1, o2⟩ := at_T25 (Kd.V_reads' gA.1).2.2 0 mU mV
      cases uM
      obtain ⟨vH, r1, r2, pN⟩ := Kd.V_get gA.1 z25 0 mU (by first | exact mV | exact od | (have e_ := (Kd.V_reads' gA.1).1; omega))
      obtain ⟨tC, tD, rfl, lH, lI⟩ := k25_openF r2
      have jM := pN 2 _ rfl; rw [add_field _ _ 2 (by omega)] at jM; replace jM := Option.some.inj (jM.symm.trans gW); injection jM with hva_ hvn_ hvc_; rw [hva_] at lI; rw [hvc_] at lH; have h3 := am (show Kd.V k25 25 _ w.heap.size _ _ ((rd_T25 g1 0).f2) from Kd.V_mk lH lI); clear hva_ hvn_ hvc_ lI lH pN r1
      have vI : (0 < g1.length) = True := eq_true (by omega)
      (try rw [tz] at h1)
      (try rw [z3] at h1)
      (try rw [Addr.add_zero'] at h1)
      (try rw [tz] at h2)
      (try rw [z3] at h2)
      (try rw [Addr.add_zero'] at h2)
      (try rw [tz] at gW)
      (try rw [z3] at gW)
      (try rw [Addr.add_zero'] at gW)
      have iL := am o2; have tE := am o1; clear o2 o1; replace mU := eq_true mU; replace mV := eq_true mV; have mW : 0 ≤ (1 : Int) := (by omega); have mX : 1 < (g1.length : Int) := od
      obtain ⟨s4, pO, pP, uN, h4, h5, gX, o3, o4⟩ := at_T25 (Kd.V_reads' gA.1).2.2 1 mW mX
      obtain rfl : hD = s4 := (by injection uN)
      obtain ⟨vJ, r3, r4, pQ⟩ := Kd.V_get gA.1 z25 1 mW (by first | exact mX | exact od | (have e_ := (Kd.V_reads' gA.1).1; omega))
      obtain ⟨tF, tG, rfl, lJ, lK⟩ := k25_openF r4
      have jN := pQ 2 _ rfl; rw [add_field _ _ 2 (by omega)] at jN; replace jN := Option.some.inj (jN.symm.trans gX); injection jN with hva_ hvn_ hvc_; rw [hva_] at lK; rw [hvc_] at lJ; have h6 := am (show Kd.V k25 25 _ w.heap.size _ _ ((rd_T25 g1 1).f2) from Kd.V_mk lJ lK); clear hva_ hvn_ hvc_ lK lJ pQ r3
      (try simp only [show (1 : Int).toNat = 1 from rfl, Nat.reduceMul, Nat.reduceEqDiff, Go.Addr.add, ↓reduceIte] at h4)
      (try simp only [show (1 : Int).toNat = 1 from rfl, Nat.reduceMul, Nat.reduceEqDiff, Go.Addr.add, ↓reduceIte] at h5)
      (try simp only [show (1 : Int).toNat = 1 from rfl, Nat.reduceMul, Nat.reduceEqDiff, Go.Addr.add, ↓reduceIte] at gX)
      have vK : (1 < g1.length) = True := eq_true (by omega)
      (try rw [show ((1 : Int)).toNat = 1 from rfl] at h4)
      (try rw [show 1 * 3 = 3 from rfl] at h4)
      (try rw [show ((1 : Int)).toNat = 1 from rfl] at h5)
      (try rw [show 1 * 3 = 3 from rfl] at h5)
      (try rw [show ((1 : Int)).toNat = 1 from rfl] at gX)
      (try rw [show 1 * 3 = 3 from rfl] at gX)
      have iM := am o4; have tH := am o3; clear o4 o3; replace mW := eq_true mW; replace mX := eq_true mX
      refine start_ (n := 12) (S := fun w' => w'.cell? ⟨g3, 0, none⟩ = some (.int .i64 gD) ∧ w'.cell? ⟨g3, 1, none⟩ = some (.int .i64 gI) ∧ w'.cell? ⟨g3, 2, none⟩ = some (.slice (some hD) g1.length gU) ∧ w'.cell? hD = some (.int .i64 ((rd_T25 g1 0).f0)) ∧ w'.cell? ⟨hD.block, hD.off + 1, none⟩ = some (.int .i64 ((rd_T25 g1 0).f1)) ∧ w'.cell? ⟨hD.block, hD.off + 2, none⟩ = some (.slice pL ((rd_T25 g1 0).f2).length pM) ∧ w'.cell? ⟨hD.block, hD.off + 3, none⟩ = some (.int .i64 ((rd_T25 g1 1).f0)) ∧ w'.cell? ⟨hD.block, hD.off + 3 + 1, none⟩ = some (.int .i64 ((rd_T25 g1 1).f1)) ∧ w'.cell? ⟨hD.block, hD.off + 3 + 2, none⟩ = some (.slice pO ((rd_T25 g1 1).f2).length pP)) (ds := [10]) #[ff,ff,ff,ff,ff,ff,ff,ff,ff,ff,ff,ff] (by kernel_rfl) rfl rfl ⟨(blk_cell g0.1 0).trans rfl, (blk_cell g0.1 1).trans rfl, (blk_cell g0.1 2).trans rfl, h1, h2, gW, h4, h5, gX⟩ (fun hHeld => ?_); refine with_tabW spec_l17Steps.tab5 spec_l17Steps.bits5 (fun HT_ HW_ => ?_)
      generalize w15.drew = w17 at gA g0 HB h3 h6 iL iM h1 h2 gW h4 h5 gX hHeld ⊢
      refine pu (i := 0) (N := some 24) #[tt,ff,ff,ff,ff,ff,ff,ff,ff,ff,ff,ff] HT_ ?_
      refine pu (i := 5) (N := some 29) #[tt,ff,ff,ff,ff,tt,ff,ff,ff,ff,ff,ff] HT_ ?_
      refine tk (i := 1) (N := some 25) #[tt,tt,ff,ff,ff,tt,ff,ff,ff,ff,ff,ff] HT_ HW_ hHeld ?_
      refine pu (i := 2) (N := some 26) #[tt,tt,tt,ff,ff,tt,ff,ff,ff,ff,ff,ff] HT_ ?_
      refine tk (i := 3) (N := some 27) #[tt,tt,tt,tt,ff,tt,ff,ff,ff,ff,ff,ff] HT_ HW_ hHeld ?_
      refine tk (i := 6) (N := some 30) #[tt,tt,tt,tt,ff,tt,tt,ff,ff,ff,ff,ff] HT_ HW_ hHeld ?_
      refine pu (i := 7) (N := some 31) #[tt,tt,tt,tt,ff,tt,tt,tt,ff,ff,ff,ff] HT_ ?_
      refine tk (i := 8) (N := some 32) #[tt,tt,tt,tt,ff,tt,tt,tt,tt,ff,ff,ff] HT_ HW_ hHeld ?_
      refine on (i := 4) (N := some 28) #[tt,tt,tt,tt,tt,tt,tt,tt,tt,ff,ff,ff] HT_ (fun K hK => ?_)
      refine goes_ Try.func50 (by kernel_rfl) rfl #[.agg #[.int .i64 ((rd_T25 g1 0).f0), .int .i64 ((rd_T25 g1 0).f1), .slice pL ((rd_T25 g1 0).f2).length pM]] (by rfl) rfl rfl (by (try simp only [List.map_toArray, List.map_cons, List.map_nil]); first | done | rfl | (simp only [List.length_drop, List.length_take]; rfl)) ?_
      with_reducible refine (ih k (by omega) ((rd_T25 g1 0).f0) ((rd_T25 g1 0).f1) (fun k_ => ((g5 k_ ∨ w.heap.size ≤ k_) ∧ k_ ≠ g3)) _ _ ((rd_T25 g1 0).f2) kR _ ?side1 A11.1).mono ?_
      (case side1 => exact h3.1)
      rintro e w18 ⟨pR, rfl, ho0, hb⟩
      have kU := (hb.cell (World.block_lt_of_cell? _ _ (hHeld.2.2.2.1))).trans (hHeld.2.2.2.1)
      have kV := (hb.cell (World.block_lt_of_cell? _ _ (hHeld.2.2.2.2.1))).trans (hHeld.2.2.2.2.1)
      have kW := (hb.cell (World.block_lt_of_cell? _ _ (hHeld.2.2.2.2.2.1))).trans (hHeld.2.2.2.2.2.1)
      have lL := (hb.cell (World.block_lt_of_cell? _ _ (hHeld.2.2.2.2.2.2.1))).trans (hHeld.2.2.2.2.2.2.1)
      have lM := (hb.cell (World.block_lt_of_cell? _ _ (hHeld.2.2.2.2.2.2.2.1))).trans (hHeld.2.2.2.2.2.2.2.1)
      have lN := (hb.cell (World.block_lt_of_cell? _ _ (hHeld.2.2.2.2.2.2.2.2))).trans (hHeld.2.2.2.2.2.2.2.2)
      refine ⟨_, rfl, ?_⟩
      replace gA := ve gA hb; replace h3 := ve h3 hb; replace h6 := ve h6 hb; have l8 := nm HB ho0 (fun k_ => (g5 k_ ∨ w.heap.size ≤ k_) ∧ k_ ≠ g3) (fun k_ hk_ => ⟨Or.elim hk_ (fun hs_ => hs_.1) (fun hn_ => (.inr (zt HB hn_))), Or.elim hk_ (fun hs_ => hs_.2) (fun hn_ => (fb g0 k_ hn_))⟩); replace g0 := kb g0 hb; replace iL := cb iL hb; replace iM := cb iM hb; replace HB := bs HB hb; (try clear hb); (try clear hb2); (try clear hk); (try clear hi); (try clear ho0)
      refine hK.out _ _ ⟨(blk_cell g0.1 0).trans rfl, (blk_cell g0.1 1).trans rfl, (blk_cell g0.1 2).trans rfl, kU, kV, kW, lL, lM, lN⟩ (fun hHeld => ?_)
      clear hK K
      refine norm_ (a' := ?_) ?_ ?_
      rotate_left
      ·
       show Act.put _ (some 28) _ = _
       simp only [Act.put, List.setIfInBounds_toArray, List.set_cons_zero, List.set_cons_succ, i64_w, i32_w]
       rfl
      refine on (i := 9) (N := some 33) #[tt,tt,tt,tt,tt,tt,tt,tt,tt,tt,ff,ff] HT_ (fun K hK => ?_)
      refine goes_ Try.func50 (by kernel_rfl) rfl #[.agg #[.int .i64 ((rd_T25 g1 1).f0), .int .i64 ((rd_T25 g1 1).f1), .slice pO ((rd_T25 g1 1).f2).length pP]] (by rfl) rfl rfl (by (try simp only [List.map_toArray, List.map_cons, List.map_nil]); first | done | rfl | (simp only [List.length_drop, List.length_take]; rfl)) ?_
      with_reducible refine (ih k (by omega) ((rd_T25 g1 1).f0) ((rd_T25 g1 1).f1) (fun k_ => (((g5 k_ ∨ w.heap.size ≤ k_) ∧ k_ ≠ g3) ∧ some k_ ≠ (pR : Value).ownBlock)) _ _ ((rd_T25 g1 1).f2) iI _ ?side1 A13.1).mono ?_
      (case side1 => exact h6.1)
      rintro e w19 ⟨w5, rfl, ho0, hb⟩
      have kU := (hb.cell (World.block_lt_of_cell? _ _ (hHeld.2.2.2.1))).trans (hHeld.2.2.2.1)
      have kV := (hb.cell (World.block_lt_of_cell? _ _ (hHeld.2.2.2.2.1))).trans (hHeld.2.2.2.2.1)
      have kW := (hb.cell (World.block_lt_of_cell? _ _ (hHeld.2.2.2.2.2.1))).trans (hHeld.2.2.2.2.2.1)
      have lL := (hb.cell (World.block_lt_of_cell? _ _ (hHeld.2.2.2.2.2.2.1))).trans (hHeld.2.2.2.2.2.2.1)
      have lM := (hb.cell (World.block_lt_of_cell? _ _ (hHeld.2.2.2.2.2.2.2.1))).trans (hHeld.2.2.2.2.2.2.2.1)
      have lN := (hb.cell (World.block_lt_of_cell? _ _ (hHeld.2.2.2.2.2.2.2.2))).trans (hHeld.2.2.2.2.2.2.2.2)
      refine ⟨_, rfl, ?_⟩
      replace gA := ve gA hb; replace h3 := ve h3 hb; replace h6 := ve h6 hb; have mY := nm HB ho0 (fun k_ => (g5 k_ ∨ w.heap.size ≤ k_) ∧ some k_ ≠ (pR : Value).ownBlock ∧ k_ ≠ g3) (fun k_ hk_ => ⟨Or.elim hk_ (fun hs_ => hs_.1.1) (fun hn_ => (.inr (zt HB hn_))), Or.elim hk_ (fun hs_ => hs_.2) (fun hn_ => (fr l8 k_ hn_)), Or.elim hk_ (fun hs_ => hs_.1.2) (fun hn_ => (fb g0 k_ hn_))⟩); replace l8 := ne l8 hb; replace g0 := kb g0 hb; replace iL := cb iL hb; replace iM := cb iM hb; replace HB := bs HB hb; (try clear hb); (try clear hb2); (try clear hk); (try clear hi); (try clear ho0)
      obtain ⟨r5, r6, s5⟩ := Kd.N_slice mY.1
      (first | subst s5 | (injection s5 with f1_ f2_ f3_; have f4_ := f1_.symm; have f5_ := f3_.symm; clear f1_ f2_ f3_; subst f4_; subst f5_))
      refine hK.out _ _ ⟨(blk_cell g0.1 0).trans rfl, (blk_cell g0.1 1).trans rfl, (blk_cell g0.1 2).trans rfl, kU, kV, kW, lL, lM, lN⟩ (fun hHeld => ?_)
      clear hK K
      refine norm_ (a' := ?_) ?_ ?_
      rotate_left
      ·
       show Act.put _ (some 33) _ = _
       simp only [Act.put, List.setIfInBounds_toArray, List.set_cons_zero, List.set_cons_succ, i64_w, i32_w]
       rfl
      refine la (i := 10) (N := some 34) #[tt,tt,tt,tt,tt,tt,tt,tt,tt,tt,tt,ff] HT_ (fun K hK => ?_)
      refine Kd.N_append_rows_step k44 (w0 := w) w.heap.size (by rfl) (.tmp 28) (.tmp 33) 28 44 (.agg #[(.int .i64 0), (.int .i64 0), (.int .i64 0), (.slice none 0 0)]) 48 rfl Try.underlying28 info44 rfl (by decide) (by omega) pR kR iI _ _ _ (fun k_ => (g5 k_ ∨ w.heap.size ≤ k_) ∧ k_ ≠ g3) (fun k_ => ((fun k_ => (g5 k_ ∨ w.heap.size ≤ k_) ∧ k_ ≠ g3)) k_ ∧ some k_ ≠ (pR : Value).ownBlock) rfl rfl ?aO ?aR (fun _ hk => hk) ?aF ?aB ?aS ?aL ?_
      (case aR => exact (by skip; exact Kd.N_F (Kd.N_mono (ok' := (fun k_ => ((fun k_ => (g5 k_ ∨ w.heap.size ≤ k_) ∧ k_ ≠ g3)) k_ ∧ some k_ ≠ (pR : Value).ownBlock)) (mY.1) mq)))
      (case aB => exact bq)
      (case aF => exact (fun k_ hk => ⟨(.inr (zt HB hk)), Kd.freshB (g := g3) (o := .cells #[.int .i64 gD, .int .i64 gI, .slice (some hD) g1.length gU] 25 (0, 0)) (kf g0).1 k_ hk⟩))
      (case aO => exact (nf l8).1)
      (case aS => exact (below_size bq))
      (case aL => have := s2.1; omega)
      intro w8 w20 ho hb hg hat
      rw [← s3.1] at ho; have n0_ := va gA hg hat (fun k_ => (g5 k_ ∨ w.heap.size ≤ k_) ∧ some k_ ≠ (.slice r5 iI.length r6 : Value).ownBlock ∧ k_ ≠ g3); have n1_ := kg g0 hg (Kd.N_ne l8.1 g0.1 (by decide)); have n2_ := va h3 hg hat (fun k_ => (g5 k_ ∨ w.heap.size ≤ k_) ∧ some k_ ≠ (.slice r5 iI.length r6 : Value).ownBlock ∧ k_ ≠ g3); have n3_ := va h6 hg hat (fun k_ => (g5 k_ ∨ w.heap.size ≤ k_) ∧ some k_ ≠ (.slice r5 iI.length r6 : Value).ownBlock ∧ k_ ≠ g3); have n4_ := na mY hg hat (fun k_ => (g5 k_ ∨ w.heap.size ≤ k_) ∧ k_ ≠ g3); have n5_ := am (hb); have n6_ := am (ho); clear gA g0 h3 h6 mY HB l8; have gA := n0_; have g0 := n1_; have h3 := n2_; have h6 := n3_; have mY := n4_; have HB := n5_; have s6 := n6_; clear n0_ n1_ n2_ n3_ n4_ n5_ n6_ ho hb hg hat
      refine hK.out _ _ ?_
      clear hK K
      refine norm_ (a' := ?_) ?_ ?_
      rotate_left
      ·
       show Act.put _ (some 34) _ = _
       simp only [Act.put, List.setIfInBounds_toArray, List.set_cons_zero, List.set_cons_succ, i64_w, i32_w]
       rfl
      refine pu (i := 11) (N := some 2) #[tt,tt,tt,tt,tt,tt,tt,tt,tt,tt,tt,tt] HT_ ?_
      refine done_ (done_of HT_.1 (by kernel_rfl)) ?_
      try go_wp2
      go_ret
      exact ⟨_, by first | rfl | (simp [errW_none, errW_some] <;> rfl) | (simp [*, errW_none, errW_some] <;> rfl), by (with_reducible repeat (first | apply Kd.N_alloc | apply Kd.N_drewN | apply Kd.N_drew)); exact Kd.N_mono s6.1 mq, by repeat (first | (with_reducible first | exact HB.1 | apply below_alloc | apply pw_below_drewN | apply below_drew1 | refine below_set ?_ kS.1) | exact HB.1)⟩
     ·
      rw [if_neg c14] at H
      exact absurd H (by simp)
    ·
     rw [if_neg c12] at H
     exact absurd H (by simp)
   ·
    rw [if_neg c10] at H
    exact absurd H (by simp)
  ·
   rw [if_neg c9] at H; have c9b0 : (gD == 3) = false := beq_eq_false_iff_ne.mpr c9; have c9b1 : (gD != 3) = true := bne_iff_ne.mpr c9
   by_cases c22 : gD = 4
   ·
    rw [if_pos c22] at H; have c22b0 : (gD == 4) = true := beq_iff_eq.mpr c22; have c22b1 : (gD != 4) = false := bne_eq_false_iff_eq.mpr c22; clear c22
    obtain ⟨qH, mZ⟩ : ∃ y_ : List (S44), y_ = (([] : List (S44))) := ⟨_, rfl⟩
    replace H : (if 0 < (g1.length : Int) then ((spec_l17Steps.f k ((rd_T25 g1 0).f0) ((rd_T25 g1 0).f1) ((rd_T25 g1 0).f2)).bind fun g4 => (if 1 < (g1.length : Int) then ((spec_l17Steps.f k ((rd_T25 g1 1).f0) ((rd_T25 g1 1).f1) ((rd_T25 g1 1).f2)).bind fun g7 => (spec_l17Steps.l0 k qH g4 g7 0 gD gI g1)) else (none))) else (none)) = some r := by first | (rw [mZ]; with_reducible exact H) | (have H2_ := (Option.bind_some _ _).symm.trans H; rw [mZ]; with_reducible exact H2_) | (have H2_ := (Option.bind_some _ _).symm.trans H; with_reducible exact H2_) | with_reducible exact H | (rw [mZ]; exact H) | exact H
    have qW := am mZ
    clear mZ
    by_cases c23 : 0 < (g1.length : Int)
    ·
     rw [if_pos c23] at H; have c23b0 : decide (0 < (g1.length : Int)) = true := decide_eq_true c23; have c23b1 : decide (0 < g1.length) = true := decide_eq_true (by omega); clear c23
     replace H := Option.bind_eq_some_iff.mp H
     obtain ⟨g4, s7, H⟩ := H
     replace H : (if 1 < (g1.length : Int) then ((spec_l17Steps.f k ((rd_T25 g1 1).f0) ((rd_T25 g1 1).f1) ((rd_T25 g1 1).f2)).bind fun g7 => (spec_l17Steps.l0 k qH g4 g7 0 gD gI g1)) else (none)) = some r := H
     have A24 := am s7
     clear s7
     by_cases c25 : 1 < (g1.length : Int)
     ·
      rw [if_pos c25] at H; have c25b0 : decide (1 < (g1.length : Int)) = true := decide_eq_true c25; have c25b1 : decide (1 < g1.length) = true := decide_eq_true (by omega); clear c25
      replace H := Option.bind_eq_some_iff.mp H
      obtain ⟨g7, s8, H⟩ := H
      replace H : (spec_l17Steps.l0 k qH g4 g7 0 gD gI g1) = some r := H
      have A26 := am s8
      clear s8
      have H' := am H
      clear H
      go_enter Try.func50, Try.ntmps50
      go_wp2_with (first | ((with_reducible refine gate_dst (N := 1) rfl ?_); refine bx (cs := #[.int .i64 gD, .int .i64 gI, .slice l7 g1.length gU]) (t := 25) fun g3 hg w27 hbox hb => ?_; replace gA := vb gA hg hb; have g0 := am (hbox); have pJ := bz HB hg; have kS := bz HB hg; replace HB := bs HB hb; clear hb hbox hg; obtain ⟨jO, jP, jQ, jR, jS, jT⟩ := cs3 g0) | ((with_reducible refine gate_dst (N := 37) rfl ?_); refine Kd.N_lit k44 _ 44 ?hg (N' := 37) ?hd (xs := ([] : List (S44))) (inner := []) (ok := (fun k_ => (g5 k_ ∨ w.heap.size ≤ k_) ∧ k_ ≠ g3)) (okp := (fun k_ => (g5 k_ ∨ w.heap.size ≤ k_) ∧ k_ ≠ g3)) ?hr ?hp (fun _ hk => hk) ((show ∀ k_, w27.heap.size ≤ k_ → (fun k_ => (g5 k_ ∨ w.heap.size ≤ k_) ∧ k_ ≠ g3) k_ from fun k_ hk => ⟨(.inr (zt HB hk)), Kd.freshB (g := g3) (o := .cells #[.int .i64 gD, .int .i64 gI, .slice l7 g1.length gU] 25 (0, 0)) (kf g0).1 k_ hk⟩) _ (Nat.le_refl _)) (Below.refl _ _) (Nat.le_refl _) (by simp) ?_; (case hd => rfl); (case hg => rfl); (case hr => first | (go_simp; done) | (go_simp; rfl)); (case hp => exact (Reps.none _ _)); intro qI w29 nD hb hg_ hnew_; clear hg_ hnew_; (first | rw [← qW.1] at nD | (simp only [Int.reduceToNat] at nD; rw [← qW.1] at nD)); replace gA := ve gA hb (by first | exact Kd.N_base nD | exact Kd.R_base nD); have kX := am (Kd.N_lower nD (below_size bq)); replace g0 := kb g0 hb; replace HB := bs HB hb; clear hb nD; obtain ⟨jU, jV, jW, jX, jY, jZ⟩ := cs3 g0; have n0 : 0 ≤ (0 : Int) := (by omega); have n2 : 0 < (g1.length : Int) := od; obtain ⟨gJ, r7, r8, uO, hS, hT, hE, o5, o6⟩ := at_T25 (Kd.V_reads' gA.1).2.2 0 n0 n2; cases uO; obtain ⟨vL, r9, rA, pS⟩ := Kd.V_get gA.1 z25 0 n0 (by first | exact n2 | exact od | (have e_ := (Kd.V_reads' gA.1).1; omega)); obtain ⟨tI, tJ, rfl, lO, lP⟩ := k25_openF rA; have k0 := pS 2 _ rfl; rw [add_field _ _ 2 (by omega)] at k0; replace k0 := Option.some.inj (k0.symm.trans hE); injection k0 with hva_ hvn_ hvc_; rw [hva_] at lP; rw [hvc_] at lO; have hU := am (show Kd.V k25 25 _ w.heap.size _ _ ((rd_T25 g1 0).f2) from Kd.V_mk lO lP); clear hva_ hvn_ hvc_ lP lO pS r9; have vM : (0 < g1.length) = True := eq_true (by omega); (try rw [tz] at hS); (try rw [z3] at hS); (try rw [Addr.add_zero'] at hS); (try rw [tz] at hT); (try rw [z3] at hT); (try rw [Addr.add_zero'] at hT); (try rw [tz] at hE); (try rw [z3] at hE); (try rw [Addr.add_zero'] at hE); have k5 := am o6; have tK := am o5; clear o6 o5; replace n0 := eq_true n0; replace n2 := eq_true n2) | ((with_reducible refine gate_callee (f := 50) rfl ?_); refine gl (some 42) Try.func50 #[.agg #[.int .i64 ((rd_T25 g1 0).f0), .int .i64 ((rd_T25 g1 0).f1), .slice r7 ((rd_T25 g1 0).f2).length r8]] ?_; (with_reducible refine (ih k (by omega) ((rd_T25 g1 0).f0) ((rd_T25 g1 0).f1) (fun k_ => (((g5 k_ ∨ w.heap.size ≤ k_) ∧ k_ ≠ g3) ∧ some k_ ≠ (qI : Value).ownBlock)) _ _ ((rd_T25 g1 0).f2) g4 _ ?side1 A24.1).mono ?_); (case side1 => first | exact hU.1 | exact (vg hU).1 | exact (nf hU).1); rintro e w32 ⟨p5, rfl, ho0, hb⟩; refine ⟨_, rfl, ?_⟩; replace gA := ve gA hb; replace hU := ve hU hb; have o7 := nm HB ho0 (fun k_ => (g5 k_ ∨ w.heap.size ≤ k_) ∧ some k_ ≠ (qI : Value).ownBlock ∧ k_ ≠ g3) (fun k_ hk_ => ⟨Or.elim hk_ (fun hs_ => hs_.1.1) (fun hn_ => (.inr (zt HB hn_))), Or.elim hk_ (fun hs_ => hs_.2) (fun hn_ => (fr kX k_ hn_)), Or.elim hk_ (fun hs_ => hs_.1.2) (fun hn_ => (fb g0 k_ hn_))⟩); replace kX := ne kX hb; replace g0 := kb g0 hb; replace k5 := cb k5 hb; replace HB := bs HB hb; clear hb ho0; obtain ⟨k6, k7, k8, k9, kA, kB⟩ := cs3 g0; have n3 : 0 ≤ (1 : Int) := (by omega); have n4 : 1 < (g1.length : Int) := od; obtain ⟨s9, rB, rC, uP, hV, hW, hF, o8, o9⟩ := at_T25 (Kd.V_reads' gA.1).2.2 1 n3 n4; obtain rfl : gJ = s9 := (by injection uP); obtain ⟨vN, rD, rE, pT⟩ := Kd.V_get gA.1 z25 1 n3 (by first | exact n4 | exact od | (have e_ := (Kd.V_reads' gA.1).1; omega)); obtain ⟨tL, tM, rfl, lQ, lR⟩ := k25_openF rE; have kC := pT 2 _ rfl; rw [add_field _ _ 2 (by omega)] at kC; replace kC := Option.some.inj (kC.symm.trans hF); injection kC with hva_ hvn_ hvc_; rw [hva_] at lR; rw [hvc_] at lQ; have iN := am (show Kd.V k25 25 _ w.heap.size _ _ ((rd_T25 g1 1).f2) from Kd.V_mk lQ lR); clear hva_ hvn_ hvc_ lR lQ pT rD; (try simp only [show (1 : Int).toNat = 1 from rfl, Nat.reduceMul, Nat.reduceEqDiff, Go.Addr.add, ↓reduceIte] at hV); (try simp only [show (1 : Int).toNat = 1 from rfl, Nat.reduceMul, Nat.reduceEqDiff, Go.Addr.add, ↓reduceIte] at hW); (try simp only [show (1 : Int).toNat = 1 from rfl, Nat.reduceMul, Nat.reduceEqDiff, Go.Addr.add, ↓reduceIte] at hF); have vO : (1 < g1.length) = True := eq_true (by omega); (try rw [show ((1 : Int)).toNat = 1 from rfl] at hV); (try rw [show 1 * 3 = 3 from rfl] at hV); (try rw [show ((1 : Int)).toNat = 1 from rfl] at hW); (try rw [show 1 * 3 = 3 from rfl] at hW); (try rw [show ((1 : Int)).toNat = 1 from rfl] at hF); (try rw [show 1 * 3 = 3 from rfl] at hF); have oA := am o9; have tN := am o8; clear o9 o8; replace n3 := eq_true n3; replace n4 := eq_true n4) | ((with_reducible refine gate_callee (f := 50) rfl ?_); refine gl (some 47) Try.func50 #[.agg #[.int .i64 ((rd_T25 g1 1).f0), .int .i64 ((rd_T25 g1 1).f1), .slice rB ((rd_T25 g1 1).f2).length rC]] ?_; (with_reducible refine (ih k (by omega) ((rd_T25 g1 1).f0) ((rd_T25 g1 1).f1) (fun k_ => ((((g5 k_ ∨ w.heap.size ≤ k_) ∧ k_ ≠ g3) ∧ some k_ ≠ (qI : Value).ownBlock) ∧ some k_ ≠ (p5 : Value).ownBlock)) _ _ ((rd_T25 g1 1).f2) g7 _ ?side1 A26.1).mono ?_); (case side1 => first | exact iN.1 | exact (vg iN).1 | exact (nf iN).1); rintro e w34 ⟨hR, rfl, ho0, hb⟩; refine ⟨_, rfl, ?_⟩; replace gA := ve gA hb; replace hU := ve hU hb; replace iN := ve iN hb; have sA := nm HB ho0 (fun k_ => (g5 k_ ∨ w.heap.size ≤ k_) ∧ some k_ ≠ (qI : Value).ownBlock ∧ some k_ ≠ (p5 : Value).ownBlock ∧ k_ ≠ g3) (fun k_ hk_ => ⟨Or.elim hk_ (fun hs_ => hs_.1.1.1) (fun hn_ => (.inr (zt HB hn_))), Or.elim hk_ (fun hs_ => hs_.1.2) (fun hn_ => (fr kX k_ hn_)), Or.elim hk_ (fun hs_ => hs_.2) (fun hn_ => (fr o7 k_ hn_)), Or.elim hk_ (fun hs_ => hs_.1.1.2) (fun hn_ => (fb g0 k_ hn_))⟩); replace kX := ne kX hb; replace o7 := ne o7 hb; replace g0 := kb g0 hb; replace k5 := cb k5 hb; replace oA := cb oA hb; replace HB := bs HB hb; clear hb ho0))
      go_loopg [3, 6] k (fun kq v3 v6 w' => ∃ (lS : List (S44)) (gF : Int), v6 = .int .i64 gF ∧ Aside0 (spec_l17Steps.l0 kq lS g4 g7 gF gD gI g1 = some r) ∧ Aside0 (kq ≤ k) ∧ Aside0 (Kd.N k44 44 w' w.heap.size (fun k_ => (g5 k_ ∨ w.heap.size ≤ k_) ∧ some k_ ≠ (p5 : Value).ownBlock ∧ some k_ ≠ (hR : Value).ownBlock ∧ k_ ≠ g3) v3 lS) ∧ Aside0 (Kd.N k44 44 w' w.heap.size (fun k_ => (g5 k_ ∨ w.heap.size ≤ k_) ∧ some k_ ≠ (v3 : Value).ownBlock ∧ some k_ ≠ (hR : Value).ownBlock ∧ k_ ≠ g3) p5 g4) ∧ Aside0 (Kd.N k44 44 w' w.heap.size (fun k_ => (g5 k_ ∨ w.heap.size ≤ k_) ∧ some k_ ≠ (v3 : Value).ownBlock ∧ some k_ ≠ (p5 : Value).ownBlock ∧ k_ ≠ g3) hR g7) ∧ Aside0 (Kd.V k25 25 w' w.heap.size (fun k_ => (g5 k_ ∨ w.heap.size ≤ k_) ∧ some k_ ≠ (v3 : Value).ownBlock ∧ some k_ ≠ (p5 : Value).ownBlock ∧ some k_ ≠ (hR : Value).ownBlock ∧ k_ ≠ g3) (.slice (some gJ) g1.length gU) g1) ∧ Aside0 (w'.heap[g3]? = some (.cells #[.int .i64 gD, .int .i64 gI, (.slice (some gJ) g1.length gU)] 25 (0, 0))) ∧ Aside0 (Below w.heap.size w w'))
      case atStart => exact ⟨(qH), (0), rq, H', ⟨Nat.le_refl _⟩, nf kX, nf o7, nf sA, vf gA, kf g0, bw⟩
      case round =>
       clear H'; (try clear c1); (try clear c2); (try clear c2b0); (try clear c2b1); (try clear p2); (try clear c3); (try clear c3b0); (try clear c3b1); (try clear c4); (try clear p4); (try clear q4); (try clear hx4); (try clear qi4); (try clear c5); (try clear c9); (try clear c9b0); (try clear c9b1); (try clear c10); (try clear c10b0); (try clear c10b1); (try clear c12); (try clear c12b0); (try clear c12b1); (try clear c14); (try clear c22); (try clear c22b0); (try clear c22b1); (try clear c23); (try clear c23b0); (try clear c23b1); (try clear c25); (try clear c25b0); (try clear c25b1); (try clear jG); (try clear jH); (try clear jI); (try clear jO); (try clear jP); (try clear jQ); (try clear jU); (try clear jV); (try clear jW); (try clear k6); (try clear k7); (try clear k8); (try clear l9); (try clear lA); (try clear lB); (try clear jJ); (try clear jK); (try clear jL); (try clear jR); (try clear jS); (try clear jT); (try clear jX); (try clear jY); (try clear jZ); (try clear k9); (try clear kA); (try clear kB); (try clear lC); (try clear lD); (try clear lE); (try clear gZ); (try clear h0); (try clear gV); (try clear h1); (try clear h2); (try clear gW); (try clear h4); (try clear h5); (try clear gX); (try clear hS); (try clear hT); (try clear hE); (try clear hV); (try clear hW); (try clear hF); (try clear mR); (try clear mU); (try clear mW); (try clear n0); (try clear n3); (try clear mS); (try clear mV); (try clear mX); (try clear n2); (try clear n4); (try clear gH); (try clear g9); (try clear gB); (try clear g2); (try clear g0); (try clear HB)
       obtain ⟨lS, gF, rfl, HA, HK1, gH, g9, gB, g2, g0, HB⟩ := hrel
       cases gk with
       | zero => exact absurd HA.1 (by simp [spec_l17Steps.l0])
       | succ k1 =>
        have H := HA.1
        clear HA
        simp only [spec_l17Steps.l0] at H
        by_cases c35 : gF < (g4.length : Int)
        ·
         rw [if_pos c35] at H; have c35b0 : decide (gF < (g4.length : Int)) = true := decide_eq_true c35; clear c35
         by_cases c36 : 0 ≤ gF
         ·
          rw [if_pos c36] at H; have c36b0 : decide (0 ≤ gF) = true := decide_eq_true c36; clear c36
          by_cases c37 : 1 < (g1.length : Int)
          ·
           rw [if_pos c37] at H; have c37b0 : decide (1 < (g1.length : Int)) = true := decide_eq_true c37; have c37b1 : decide (1 < g1.length) = true := decide_eq_true (by omega); clear c37
           replace H := Option.bind_eq_some_iff.mp H
           obtain ⟨⟨p7, p8, jA⟩, sB, H⟩ := H
           replace H : (if lS.length < 2932031007402 then (spec_l17Steps.l0 k1 (lS ++ [(⟨(rd_T44 g4 gF).f0, (⟨p7, p8, jA⟩ : S25)⟩ : S44)]) g4 g7 (wrap64 (gF + 1)) gD gI g1) else (none)) = some r := H
           have A38 := am sB
           clear sB
           by_cases c39 : lS.length < 2932031007402
           ·
            rw [if_pos c39] at H
            have sC := am c39
            clear c39
            obtain ⟨sD, n5⟩ : ∃ y_ : List (S44), y_ = (lS ++ [(⟨(rd_T44 g4 gF).f0, (⟨p7, p8, jA⟩ : S25)⟩ : S44)]) := ⟨_, rfl⟩
            replace H : (spec_l17Steps.l0 k1 sD g4 g7 (wrap64 (gF + 1)) gD gI g1) = some r := by first | (rw [n5]; with_reducible exact H) | (have H2_ := (Option.bind_some _ _).symm.trans H; rw [n5]; with_reducible exact H2_) | (have H2_ := (Option.bind_some _ _).symm.trans H; with_reducible exact H2_) | with_reducible exact H | (rw [n5]; exact H) | exact H
            have sE := am n5
            clear n5
            have H' := am H
            clear H
            obtain ⟨w9, jB, uQ⟩ := Kd.N_slice g9.1
            subst uQ
            try go_wp2
            replace gH := am (Kd.N_drew gH.1); replace g9 := am (Kd.N_drew g9.1); replace gB := am (Kd.N_drew gB.1); replace g2 := am (Kd.V_drew g2.1); replace g0 := am (blk_drew g0.1); replace HB := am (below_drew1 HB.1); have nE : 0 ≤ (gF : Int) := od; have nF : gF < (g4.length : Int) := od
            obtain ⟨gK, nG, nH, uR, iO, iP, iQ, hX, oB, oC⟩ := at_T44 (Kd.N_reads' g9.1).2.2 gF nE nF
            cases uR
            obtain ⟨vP, rF, rG, pU⟩ := Kd.N_get g9.1 z44 gF nE (by first | exact nF | exact od | (have e_ := (Kd.N_reads' g9.1).1; omega))
            obtain ⟨tO, tP, rfl, lT, lU⟩ := k44_openF rG
            have kD := pU 3 _ rfl; rw [add_field _ _ 3 (by omega)] at kD; replace kD := Option.some.inj (kD.symm.trans hX); injection kD with hva_ hvn_ hvc_; rw [hva_] at lU; rw [hvc_] at lT; have iE := am (show Kd.V k25 25 _ w.heap.size _ _ ((rd_T44 g4 gF).f1.f2) from Kd.V_mk lT lU); clear hva_ hvn_ hvc_ lU lT pU rF; have lV := am oC; have tQ := am oB; clear oC oB; replace nE := eq_true nE; replace nF := eq_true nF; have nI : 0 ≤ (gF : Int) := od; have nJ : gF < (g4.length : Int) := od
            obtain ⟨sF, uS, uT, uU, iR, iS, iT, hY, oD, oE⟩ := at_T44 (Kd.N_reads' g9.1).2.2 gF nI nJ
            obtain rfl : gK = sF := (by injection uU)
            obtain ⟨vQ, rH, rI, pV⟩ := Kd.N_get g9.1 z44 gF nI (by first | exact nJ | exact od | (have e_ := (Kd.N_reads' g9.1).1; omega))
            obtain ⟨tR, tS, rfl, lW, lX⟩ := k44_openF rI
            have kE := pV 3 _ rfl; rw [add_field _ _ 3 (by omega)] at kE; replace kE := Option.some.inj (kE.symm.trans hY); injection kE with hva_ hvn_ hvc_; rw [hva_] at lX; rw [hvc_] at lW; have hZ := am (show Kd.V k25 25 _ w.heap.size _ _ ((rd_T44 g4 gF).f1.f2) from Kd.V_mk lW lX); clear hva_ hvn_ hvc_ lX lW pV rH; have lY := am oE; have tT := am oD; clear oE oD; replace nI := eq_true nI; replace nJ := eq_true nJ
            have ea_ := Option.some.inj (hX.symm.trans hY)
            injection ea_ with ea_ en_ ec_
            subst ea_
            subst ec_
            clear en_; have nK : 0 ≤ (1 : Int) := (by omega); have nL : 1 < (g1.length : Int) := od
            obtain ⟨sG, pW, pX, uV, hG, hH, h7, oF, oG⟩ := at_T25 (Kd.V_reads' g2.1).2.2 1 nK nL
            obtain rfl : gJ = sG := (by injection uV)
            obtain ⟨vR, rJ, rK, pY⟩ := Kd.V_get g2.1 z25 1 nK (by first | exact nL | exact od | (have e_ := (Kd.V_reads' g2.1).1; omega))
            obtain ⟨tU, tV, rfl, lZ, m0⟩ := k25_openF rK
            have kF := pY 2 _ rfl; rw [add_field _ _ 2 (by omega)] at kF; replace kF := Option.some.inj (kF.symm.trans h7); injection kF with hva_ hvn_ hvc_; rw [hva_] at m0; rw [hvc_] at lZ; have i0 := am (show Kd.V k25 25 _ w.heap.size _ _ ((rd_T25 g1 1).f2) from Kd.V_mk lZ m0); clear hva_ hvn_ hvc_ m0 lZ pY rJ
            (try simp only [show (1 : Int).toNat = 1 from rfl, Nat.reduceMul, Nat.reduceEqDiff, Go.Addr.add, ↓reduceIte] at hG)
            (try simp only [show (1 : Int).toNat = 1 from rfl, Nat.reduceMul, Nat.reduceEqDiff, Go.Addr.add, ↓reduceIte] at hH)
            (try simp only [show (1 : Int).toNat = 1 from rfl, Nat.reduceMul, Nat.reduceEqDiff, Go.Addr.add, ↓reduceIte] at h7)
            have vS : (1 < g1.length) = True := eq_true (by omega)
            (try rw [show ((1 : Int)).toNat = 1 from rfl] at hG)
            (try rw [show 1 * 3 = 3 from rfl] at hG)
            (try rw [show ((1 : Int)).toNat = 1 from rfl] at hH)
            (try rw [show 1 * 3 = 3 from rfl] at hH)
            (try rw [show ((1 : Int)).toNat = 1 from rfl] at h7)
            (try rw [show 1 * 3 = 3 from rfl] at h7)
            have m1 := am oG; have tW := am oF; clear oG oF; replace nK := eq_true nK; replace nL := eq_true nL
            refine start_ (n := 22) (S := fun w' => w'.cell? ⟨g3, 0, none⟩ = some (.int .i64 gD) ∧ w'.cell? ⟨g3, 1, none⟩ = some (.int .i64 gI) ∧ w'.cell? ⟨g3, 2, none⟩ = some (.slice (some gJ) g1.length gU) ∧ w'.cell? (gK.add ((gF).toNat * 4)) = some (.int .i64 ((rd_T44 g4 gF).f0)) ∧ w'.cell? ⟨(gK.add ((gF).toNat * 4)).block, (gK.add ((gF).toNat * 4)).off + 1, none⟩ = some (.int .i64 ((rd_T44 g4 gF).f1.f0)) ∧ w'.cell? ⟨(gK.add ((gF).toNat * 4)).block, (gK.add ((gF).toNat * 4)).off + 2, none⟩ = some (.int .i64 ((rd_T44 g4 gF).f1.f1)) ∧ w'.cell? ⟨(gK.add ((gF).toNat * 4)).block, (gK.add ((gF).toNat * 4)).off + 3, none⟩ = some (.slice nG ((rd_T44 g4 gF).f1.f2).length nH) ∧ w'.cell? (gK.add ((gF).toNat * 4)) = some (.int .i64 ((rd_T44 g4 gF).f0)) ∧ w'.cell? ⟨(gK.add ((gF).toNat * 4)).block, (gK.add ((gF).toNat * 4)).off + 1, none⟩ = some (.int .i64 ((rd_T44 g4 gF).f1.f0)) ∧ w'.cell? ⟨(gK.add ((gF).toNat * 4)).block, (gK.add ((gF).toNat * 4)).off + 2, none⟩ = some (.int .i64 ((rd_T44 g4 gF).f1.f1)) ∧ w'.cell? ⟨(gK.add ((gF).toNat * 4)).block, (gK.add ((gF).toNat * 4)).off + 3, none⟩ = some (.slice nG ((rd_T44 g4 gF).f1.f2).length nH) ∧ w'.cell? ⟨gJ.block, gJ.off + 3, none⟩ = some (.int .i64 ((rd_T25 g1 1).f0)) ∧ w'.cell? ⟨gJ.block, gJ.off + 3 + 1, none⟩ = some (.int .i64 ((rd_T25 g1 1).f1)) ∧ w'.cell? ⟨gJ.block, gJ.off + 3 + 2, none⟩ = some (.slice pW ((rd_T25 g1 1).f2).length pX)) (ds := [19, 20]) #[ff,ff,ff,ff,ff,ff,ff,ff,ff,ff,ff,ff,ff,ff,ff,ff,ff,ff,ff,ff,ff,ff] (by kernel_rfl) rfl rfl ⟨(blk_cell g0.1 0).trans rfl, (blk_cell g0.1 1).trans rfl, (blk_cell g0.1 2).trans rfl, iO, iP, iQ, hX, iR, iS, iT, hY, hG, hH, h7⟩ (fun hHeld => ?_); refine with_tabW spec_l17Steps.tab13 spec_l17Steps.bits13 (fun HT_ HW_ => ?_)
            generalize wr.drew = w41 at gH g9 gB g2 g0 HB iE hZ i0 lV lY m1 iO iP iQ hX iR iS iT hY hG hH h7 hHeld ⊢
            refine pu (i := 0) (N := some 54) #[tt,ff,ff,ff,ff,ff,ff,ff,ff,ff,ff,ff,ff,ff,ff,ff,ff,ff,ff,ff,ff,ff] HT_ ?_
            refine pu (i := 1) (N := some 55) #[tt,tt,ff,ff,ff,ff,ff,ff,ff,ff,ff,ff,ff,ff,ff,ff,ff,ff,ff,ff,ff,ff] HT_ ?_
            refine pu (i := 2) (N := some 56) #[tt,tt,tt,ff,ff,ff,ff,ff,ff,ff,ff,ff,ff,ff,ff,ff,ff,ff,ff,ff,ff,ff] HT_ ?_
            refine pu (i := 3) (N := some 57) #[tt,tt,tt,tt,ff,ff,ff,ff,ff,ff,ff,ff,ff,ff,ff,ff,ff,ff,ff,ff,ff,ff] HT_ ?_
            refine pu (i := 4) (N := some 58) #[tt,tt,tt,tt,tt,ff,ff,ff,ff,ff,ff,ff,ff,ff,ff,ff,ff,ff,ff,ff,ff,ff] HT_ ?_
            refine pu (i := 6) (N := some 60) #[tt,tt,tt,tt,tt,ff,tt,ff,ff,ff,ff,ff,ff,ff,ff,ff,ff,ff,ff,ff,ff,ff] HT_ ?_
            refine pu (i := 8) (N := some 62) #[tt,tt,tt,tt,tt,ff,tt,ff,tt,ff,ff,ff,ff,ff,ff,ff,ff,ff,ff,ff,ff,ff] HT_ ?_
            refine pu (i := 9) (N := some 63) #[tt,tt,tt,tt,tt,ff,tt,ff,tt,tt,ff,ff,ff,ff,ff,ff,ff,ff,ff,ff,ff,ff] HT_ ?_
            refine pu (i := 10) (N := some 64) #[tt,tt,tt,tt,tt,ff,tt,ff,tt,tt,tt,ff,ff,ff,ff,ff,ff,ff,ff,ff,ff,ff] HT_ ?_
            refine pu (i := 11) (N := some 65) #[tt,tt,tt,tt,tt,ff,tt,ff,tt,tt,tt,tt,ff,ff,ff,ff,ff,ff,ff,ff,ff,ff] HT_ ?_
            refine pu (i := 13) (N := some 67) #[tt,tt,tt,tt,tt,ff,tt,ff,tt,tt,tt,tt,ff,tt,ff,ff,ff,ff,ff,ff,ff,ff] HT_ ?_
            refine tk (i := 5) (N := some 59) #[tt,tt,tt,tt,tt,tt,tt,ff,tt,tt,tt,tt,ff,tt,ff,ff,ff,ff,ff,ff,ff,ff] HT_ HW_ hHeld ?_
            refine tk (i := 7) (N := some 61) #[tt,tt,tt,tt,tt,tt,tt,tt,tt,tt,tt,tt,ff,tt,ff,ff,ff,ff,ff,ff,ff,ff] HT_ HW_ hHeld ?_
            refine tk (i := 12) (N := some 66) #[tt,tt,tt,tt,tt,tt,tt,tt,tt,tt,tt,tt,tt,tt,ff,ff,ff,ff,ff,ff,ff,ff] HT_ HW_ hHeld ?_
            refine tk (i := 14) (N := some 68) #[tt,tt,tt,tt,tt,tt,tt,tt,tt,tt,tt,tt,tt,tt,tt,ff,ff,ff,ff,ff,ff,ff] HT_ HW_ hHeld ?_
            refine pu (i := 15) (N := some 69) #[tt,tt,tt,tt,tt,tt,tt,tt,tt,tt,tt,tt,tt,tt,tt,tt,ff,ff,ff,ff,ff,ff] HT_ ?_
            refine tk (i := 16) (N := some 70) #[tt,tt,tt,tt,tt,tt,tt,tt,tt,tt,tt,tt,tt,tt,tt,tt,tt,ff,ff,ff,ff,ff] HT_ HW_ hHeld ?_
            refine on (i := 17) (N := some 71) #[tt,tt,tt,tt,tt,tt,tt,tt,tt,tt,tt,tt,tt,tt,tt,tt,tt,tt,ff,ff,ff,ff] HT_ (fun K hK => ?_)
            refine goes_ Try.func65 (by kernel_rfl) rfl #[.int .i64 gD, .agg #[.int .i64 ((rd_T44 g4 gF).f1.f0), .int .i64 ((rd_T44 g4 gF).f1.f1), .slice nG ((rd_T44 g4 gF).f1.f2).length nH], .agg #[.int .i64 ((rd_T25 g1 1).f0), .int .i64 ((rd_T25 g1 1).f1), .slice pW ((rd_T25 g1 1).f2).length pX]] (by rfl) rfl rfl (by (try simp only [List.map_toArray, List.map_cons, List.map_nil]); first | done | rfl | (simp only [List.length_drop, List.length_take]; rfl)) ?_
            with_reducible refine (spec_l17Two.calls gD ((rd_T44 g4 gF).f1.f0) ((rd_T44 g4 gF).f1.f1) (fun k_ => (((g5 k_ ∨ w.heap.size ≤ k_) ∧ (some k_ ≠ (u3 : Value).ownBlock ∧ (some k_ ≠ (hR : Value).ownBlock ∧ k_ ≠ g3))) ∧ some k_ ≠ (.slice (some gK) g4.length jB : Value).ownBlock)) _ _ ((rd_T44 g4 gF).f1.f2) ((rd_T25 g1 1).f0) ((rd_T25 g1 1).f1) (fun k_ => ((g5 k_ ∨ w.heap.size ≤ k_) ∧ (some k_ ≠ (u3 : Value).ownBlock ∧ (some k_ ≠ (.slice (some gK) g4.length jB : Value).ownBlock ∧ (some k_ ≠ (hR : Value).ownBlock ∧ k_ ≠ g3))))) _ _ ((rd_T25 g1 1).f2) p7 p8 jA _ ?side1 ?side2 A38.1).mono ?_
            (case side1 => exact hZ.1)
            (case side2 => exact i0.1)
            rintro e w42 ⟨wA, rfl, ho0, hb⟩
            have kU := (hb.cell (World.block_lt_of_cell? _ _ (hHeld.2.2.2.1))).trans (hHeld.2.2.2.1)
            have kV := (hb.cell (World.block_lt_of_cell? _ _ (hHeld.2.2.2.2.1))).trans (hHeld.2.2.2.2.1)
            have kW := (hb.cell (World.block_lt_of_cell? _ _ (hHeld.2.2.2.2.2.1))).trans (hHeld.2.2.2.2.2.1)
            have lL := (hb.cell (World.block_lt_of_cell? _ _ (hHeld.2.2.2.2.2.2.1))).trans (hHeld.2.2.2.2.2.2.1)
            have lM := (hb.cell (World.block_lt_of_cell? _ _ (hHeld.2.2.2.2.2.2.2.1))).trans (hHeld.2.2.2.2.2.2.2.1)
            have lN := (hb.cell (World.block_lt_of_cell? _ _ (hHeld.2.2.2.2.2.2.2.2.1))).trans (hHeld.2.2.2.2.2.2.2.2.1)
            have pZ := (hb.cell (World.block_lt_of_cell? _ _ (hHeld.2.2.2.2.2.2.2.2.2.1))).trans (hHeld.2.2.2.2.2.2.2.2.2.1)
            have n6 := (hb.cell (World.block_lt_of_cell? _ _ (hHeld.2.2.2.2.2.2.2.2.2.2.1))).trans (hHeld.2.2.2.2.2.2.2.2.2.2.1)
            have q0 := (hb.cell (World.block_lt_of_cell? _ _ (hHeld.2.2.2.2.2.2.2.2.2.2.2.1))).trans (hHeld.2.2.2.2.2.2.2.2.2.2.2.1)
            have q1 := (hb.cell (World.block_lt_of_cell? _ _ (hHeld.2.2.2.2.2.2.2.2.2.2.2.2.1))).trans (hHeld.2.2.2.2.2.2.2.2.2.2.2.2.1)
            have q2 := (hb.cell (World.block_lt_of_cell? _ _ (hHeld.2.2.2.2.2.2.2.2.2.2.2.2.2))).trans (hHeld.2.2.2.2.2.2.2.2.2.2.2.2.2)
            refine ⟨_, rfl, ?_⟩
            replace g2 := ve g2 hb; replace iE := ve iE hb; replace hZ := ve hZ hb; replace i0 := ve i0 hb; have oH := nm HB ho0 (fun k_ => (g5 k_ ∨ w.heap.size ≤ k_) ∧ some k_ ≠ (u3 : Value).ownBlock ∧ some k_ ≠ (.slice (some gK) g4.length jB : Value).ownBlock ∧ some k_ ≠ (hR : Value).ownBlock ∧ k_ ≠ g3) (fun k_ hk_ => ⟨Or.elim hk_ (fun hs_ => Or.elim hs_ (fun hs_ => hs_.1.1) (fun hs_ => hs_.1)) (fun hn_ => (.inr (zt HB hn_))), Or.elim hk_ (fun hs_ => Or.elim hs_ (fun hs_ => hs_.1.2.1) (fun hs_ => hs_.2.1)) (fun hn_ => (fr gH k_ hn_)), Or.elim hk_ (fun hs_ => Or.elim hs_ (fun hs_ => hs_.2) (fun hs_ => hs_.2.2.1)) (fun hn_ => (fr g9 k_ hn_)), Or.elim hk_ (fun hs_ => Or.elim hs_ (fun hs_ => hs_.1.2.2.1) (fun hs_ => hs_.2.2.2.1)) (fun hn_ => (fr gB k_ hn_)), Or.elim hk_ (fun hs_ => Or.elim hs_ (fun hs_ => hs_.1.2.2.2) (fun hs_ => hs_.2.2.2.2)) (fun hn_ => (fb g0 k_ hn_))⟩); replace gH := ne gH hb; replace g9 := ne g9 hb; replace gB := ne gB hb; replace g0 := kb g0 hb; replace lV := cb lV hb; replace lY := cb lY hb; replace m1 := cb m1 hb; replace HB := bs HB hb; (try clear hb); (try clear hb2); (try clear hk); (try clear hi); (try clear ho0)
            obtain ⟨nM, nN, sH⟩ := Kd.N_slice oH.1
            (first | subst sH | (injection sH with f1_ f2_ f3_; have f4_ := f1_.symm; have f5_ := f3_.symm; clear f1_ f2_ f3_; subst f4_; subst f5_))
            refine hK.out _ _ ⟨(blk_cell g0.1 0).trans rfl, (blk_cell g0.1 1).trans rfl, (blk_cell g0.1 2).trans rfl, kU, kV, kW, lL, lM, lN, pZ, n6, q0, q1, q2⟩ (fun hHeld => ?_)
            clear hK K
            refine norm_ (a' := ?_) ?_ ?_
            rotate_left
            ·
             show Act.put _ (some 71) _ = _
             simp only [Act.put, List.setIfInBounds_toArray, List.set_cons_zero, List.set_cons_succ, i64_w, i32_w]
             rfl
            refine pu (i := 18) (N := some 72) #[tt,tt,tt,tt,tt,tt,tt,tt,tt,tt,tt,tt,tt,tt,tt,tt,tt,tt,tt,ff,ff,ff] HT_ ?_
            refine la (i := 19) (N := some 73) #[tt,tt,tt,tt,tt,tt,tt,tt,tt,tt,tt,tt,tt,tt,tt,tt,tt,tt,tt,tt,ff,ff] HT_ (fun K hK => ?_)
            refine value_ (w1 := ?_) (v := ?_) (by rfl) rfl ?_ ?_
            rotate_left 2
            ·
             go_simp
             constructor
             ·
              rfl
             ·
              rfl
            refine hK.out _ _ ?_
            clear hK K
            refine norm_ (a' := ?_) ?_ ?_
            rotate_left
            ·
             show Act.put _ (some 73) _ = _
             simp only [Act.put, List.setIfInBounds_toArray, List.set_cons_zero, List.set_cons_succ, i64_w, i32_w]
             rfl
            refine la (i := 20) (N := some 74) #[tt,tt,tt,tt,tt,tt,tt,tt,tt,tt,tt,tt,tt,tt,tt,tt,tt,tt,tt,tt,tt,ff] HT_ (fun K hK => ?_)
            refine Kd.N_append_step k44 (w0 := w) w.heap.size (by rfl) (.tmp 54) (.tmp 73) 28 44 (.agg #[(.int .i64 0), (.int .i64 0), (.int .i64 0), (.slice none 0 0)]) 48 rfl Try.underlying28 info44 rfl (by decide) (by omega) u3 lS (⟨(rd_T44 g4 gF).f0, (⟨p7, p8, jA⟩ : S25)⟩ : S44) [.int .i64 ((rd_T44 g4 gF).f0), .int .i64 p7, .int .i64 p8, .slice nM jA.length nN] (fun k_ => (g5 k_ ∨ w.heap.size ≤ k_) ∧ some k_ ≠ (.slice (some gK) g4.length jB : Value).ownBlock ∧ some k_ ≠ (hR : Value).ownBlock ∧ k_ ≠ g3) (fun k_ => ((fun k_ => (g5 k_ ∨ w.heap.size ≤ k_) ∧ some k_ ≠ (.slice (some gK) g4.length jB : Value).ownBlock ∧ some k_ ≠ (hR : Value).ownBlock ∧ k_ ≠ g3)) k_ ∧ some k_ ≠ (u3 : Value).ownBlock) rfl rfl ?aP (fun _ hk => hk) ?aF ?aO ?aB ?aS ?aL ?_
            (case aP => exact (k44_mkF _ _ (⟨(rd_T44 g4 gF).f0, (⟨p7, p8, jA⟩ : S25)⟩ : S44) (Kd.N_reads' (Kd.N_mono (ok' := (fun k_ => ((fun k_ => (g5 k_ ∨ w.heap.size ≤ k_) ∧ some k_ ≠ (.slice (some gK) g4.length jB : Value).ownBlock ∧ some k_ ≠ (hR : Value).ownBlock ∧ k_ ≠ g3)) k_ ∧ some k_ ≠ (u3 : Value).ownBlock)) (oH.1) mq)).2.1 (Kd.N_F (Kd.N_mono (ok' := (fun k_ => ((fun k_ => (g5 k_ ∨ w.heap.size ≤ k_) ∧ some k_ ≠ (.slice (some gK) g4.length jB : Value).ownBlock ∧ some k_ ≠ (hR : Value).ownBlock ∧ k_ ≠ g3)) k_ ∧ some k_ ≠ (u3 : Value).ownBlock)) (oH.1) mq))))
            (case aB => exact bq)
            (case aF => exact (fun k_ hk => ⟨(.inr (zt HB hk)), Kd.fresh' (Kd.N_lt (n1 g9).1) k_ hk, Kd.fresh' (Kd.N_lt (n1 gB).1) k_ hk, Kd.freshB (g := g3) (o := .cells #[.int .i64 gD, .int .i64 gI, .slice (some gJ) g1.length gU] 25 (0, 0)) (kf g0).1 k_ hk⟩))
            (case aO => exact (nf gH).1)
            (case aS => exact (below_size bq))
            (case aL => have := sC.1; omega)
            intro wB w44 ho hb hg hat
            rw [← sE.1] at ho; have n0_ := na g9 hg hat (fun k_ => (g5 k_ ∨ w.heap.size ≤ k_) ∧ some k_ ≠ (hR : Value).ownBlock ∧ some k_ ≠ (.slice nM jA.length nN : Value).ownBlock ∧ k_ ≠ g3); have n1_ := na gB hg hat (fun k_ => (g5 k_ ∨ w.heap.size ≤ k_) ∧ some k_ ≠ (.slice (some gK) g4.length jB : Value).ownBlock ∧ some k_ ≠ (.slice nM jA.length nN : Value).ownBlock ∧ k_ ≠ g3); have n2_ := va g2 hg hat (fun k_ => (g5 k_ ∨ w.heap.size ≤ k_) ∧ some k_ ≠ (.slice (some gK) g4.length jB : Value).ownBlock ∧ some k_ ≠ (hR : Value).ownBlock ∧ some k_ ≠ (.slice nM jA.length nN : Value).ownBlock ∧ k_ ≠ g3); have n3_ := kg g0 hg (Kd.N_ne gH.1 g0.1 (by decide)); have n4_ := va iE hg hat (fun k_ => (g5 k_ ∨ w.heap.size ≤ k_) ∧ some k_ ≠ (.slice (some gK) g4.length jB : Value).ownBlock ∧ some k_ ≠ (hR : Value).ownBlock ∧ some k_ ≠ (.slice nM jA.length nN : Value).ownBlock ∧ k_ ≠ g3); have n5_ := va hZ hg hat (fun k_ => (g5 k_ ∨ w.heap.size ≤ k_) ∧ some k_ ≠ (.slice (some gK) g4.length jB : Value).ownBlock ∧ some k_ ≠ (hR : Value).ownBlock ∧ some k_ ≠ (.slice nM jA.length nN : Value).ownBlock ∧ k_ ≠ g3); have n6_ := va i0 hg hat (fun k_ => (g5 k_ ∨ w.heap.size ≤ k_) ∧ some k_ ≠ (.slice (some gK) g4.length jB : Value).ownBlock ∧ some k_ ≠ (hR : Value).ownBlock ∧ some k_ ≠ (.slice nM jA.length nN : Value).ownBlock ∧ k_ ≠ g3); have n7_ := am (hb); have n8_ := am (ho); clear g9 gB g2 g0 iE hZ i0 HB gH oH; have g9 := n0_; have gB := n1_; have g2 := n2_; have g0 := n3_; have iE := n4_; have hZ := n5_; have i0 := n6_; have HB := n7_; have sI := n8_; clear n0_ n1_ n2_ n3_ n4_ n5_ n6_ n7_ n8_ ho hb hg hat
            refine hK.out _ _ ?_
            clear hK K
            refine norm_ (a' := ?_) ?_ ?_
            rotate_left
            ·
             show Act.put _ (some 74) _ = _
             simp only [Act.put, List.setIfInBounds_toArray, List.set_cons_zero, List.set_cons_succ, i64_w, i32_w]
             rfl
            refine pu (i := 21) (N := some 3) #[tt,tt,tt,tt,tt,tt,tt,tt,tt,tt,tt,tt,tt,tt,tt,tt,tt,tt,tt,tt,tt,tt] HT_ ?_
            refine done_ (done_of HT_.1 (by kernel_rfl)) ?_
            try go_wp2
            go_roundg k1
            case measure => have := HK1.1; omega
            case rel => exact ⟨(sD), (wrap64 (gF + 1)), rq, H', km, nf sI, nf g9, nf gB, vf g2, kf g0, bw⟩
           ·
            rw [if_neg c39] at H
            exact absurd H (by simp)
          ·
           rw [if_neg c37] at H
           exact absurd H (by simp)
         ·
          rw [if_neg c36] at H
          exact absurd H (by simp)
        ·
         rw [if_neg c35] at H; have c35b0 : decide (gF < (g4.length : Int)) = false := decide_eq_false c35; clear c35
         have H' := am H
         clear H
         obtain ⟨h8, gM, uW⟩ := Kd.N_slice g9.1
         subst uW
         go_wp2
         go_loopg [3, 7] k1 (fun kq v3 v7 w' => ∃ (m2 : List (S44)) (gG : Int), v7 = .int .i64 gG ∧ Aside0 (spec_l17Steps.l1 kq m2 g4 g7 gG gD gI g1 = some r) ∧ Aside0 (kq ≤ k1) ∧ Aside0 (Kd.N k44 44 w' w.heap.size (fun k_ => (g5 k_ ∨ w.heap.size ≤ k_) ∧ some k_ ≠ ((.slice h8 g4.length gM) : Value).ownBlock ∧ some k_ ≠ (hR : Value).ownBlock ∧ k_ ≠ g3) v3 m2) ∧ Aside0 (Kd.N k44 44 w' w.heap.size (fun k_ => (g5 k_ ∨ w.heap.size ≤ k_) ∧ some k_ ≠ (v3 : Value).ownBlock ∧ some k_ ≠ (hR : Value).ownBlock ∧ k_ ≠ g3) (.slice h8 g4.length gM) g4) ∧ Aside0 (Kd.N k44 44 w' w.heap.size (fun k_ => (g5 k_ ∨ w.heap.size ≤ k_) ∧ some k_ ≠ (v3 : Value).ownBlock ∧ some k_ ≠ ((.slice h8 g4.length gM) : Value).ownBlock ∧ k_ ≠ g3) hR g7) ∧ Aside0 (Kd.V k25 25 w' w.heap.size (fun k_ => (g5 k_ ∨ w.heap.size ≤ k_) ∧ some k_ ≠ (v3 : Value).ownBlock ∧ some k_ ≠ ((.slice h8 g4.length gM) : Value).ownBlock ∧ some k_ ≠ (hR : Value).ownBlock ∧ k_ ≠ g3) (.slice (some gJ) g1.length gU) g1) ∧ Aside0 (w'.heap[g3]? = some (.cells #[.int .i64 gD, .int .i64 gI, (.slice (some gJ) g1.length gU)] 25 (0, 0))) ∧ Aside0 (Below w.heap.size w w'))
         case atStart => exact ⟨(lS), (0), rq, H', ⟨Nat.le_refl _⟩, nf gH, nf g9, nf gB, vf g2, kf g0, bw⟩
         case round =>
          clear H'; (try clear c1); (try clear c2); (try clear c2b0); (try clear c2b1); (try clear p2); (try clear c3); (try clear c3b0); (try clear c3b1); (try clear c4); (try clear p4); (try clear q4); (try clear hx4); (try clear qi4); (try clear c5); (try clear c6); (try clear p6); (try clear c9); (try clear c9b0); (try clear c9b1); (try clear c10); (try clear c10b0); (try clear c10b1); (try clear c12); (try clear c12b0); (try clear c12b1); (try clear c14); (try clear c22); (try clear c22b0); (try clear c22b1); (try clear c23); (try clear c23b0); (try clear c23b1); (try clear c25); (try clear c25b0); (try clear c25b1); (try clear c35); (try clear c35b0); (try clear c36); (try clear c36b0); (try clear c37); (try clear c37b0); (try clear c37b1); (try clear c39); (try clear p42); (try clear q42); (try clear sJ); (try clear p43); (try clear q43); (try clear sK); (try clear c44); (try clear p44); (try clear q44); (try clear sL); (try clear sM); (try clear c45); (try clear p45); (try clear q45); (try clear sN); (try clear sO); (try clear jG); (try clear jH); (try clear jI); (try clear jO); (try clear jP); (try clear jQ); (try clear jU); (try clear jV); (try clear jW); (try clear k6); (try clear k7); (try clear k8); (try clear l9); (try clear lA); (try clear lB); (try clear jJ); (try clear jK); (try clear jL); (try clear jR); (try clear jS); (try clear jT); (try clear jX); (try clear jY); (try clear jZ); (try clear k9); (try clear kA); (try clear kB); (try clear lC); (try clear lD); (try clear lE); (try clear gZ); (try clear h0); (try clear gV); (try clear h1); (try clear h2); (try clear gW); (try clear h4); (try clear h5); (try clear gX); (try clear hS); (try clear hT); (try clear hE); (try clear hV); (try clear hW); (try clear hF); (try clear iO); (try clear iP); (try clear iQ); (try clear hX); (try clear iR); (try clear iS); (try clear iT); (try clear hY); (try clear hG); (try clear hH); (try clear h7); (try clear p2); (try clear p4); (try clear mR); (try clear mU); (try clear mW); (try clear n0); (try clear n3); (try clear nE); (try clear nI); (try clear nK); (try clear q4); (try clear mS); (try clear mV); (try clear mX); (try clear n2); (try clear n4); (try clear nF); (try clear nJ); (try clear nL); (try clear gH); (try clear g9); (try clear gB); (try clear g2); (try clear g0); (try clear HB)
          obtain ⟨m2, gG, rfl, HA, HK2, gH, g9, gB, g2, g0, HB⟩ := hrel
          cases gk with
          | zero => exact absurd HA.1 (by simp [spec_l17Steps.l1])
          | succ k2 =>
           have H := HA.1
           clear HA
           simp only [spec_l17Steps.l1] at H
           by_cases c46 : gG < (g7.length : Int)
           ·
            rw [if_pos c46] at H; have c46b0 : decide (gG < (g7.length : Int)) = true := decide_eq_true c46; clear c46
            by_cases c47 : 0 ≤ gG
            ·
             rw [if_pos c47] at H; have c47b0 : decide (0 ≤ gG) = true := decide_eq_true c47; clear c47
             by_cases c48 : 0 < (g1.length : Int)
             ·
              rw [if_pos c48] at H; have c48b0 : decide (0 < (g1.length : Int)) = true := decide_eq_true c48; have c48b1 : decide (0 < g1.length) = true := decide_eq_true (by omega); clear c48
              replace H := Option.bind_eq_some_iff.mp H
              obtain ⟨⟨p9, pA, jC⟩, sP, H⟩ := H
              replace H : (if m2.length < 2932031007402 then (spec_l17Steps.l1 k2 (m2 ++ [(⟨(rd_T44 g7 gG).f0, (⟨p9, pA, jC⟩ : S25)⟩ : S44)]) g4 g7 (wrap64 (gG + 1)) gD gI g1) else (none)) = some r := H
              have A49 := am sP
              clear sP
              by_cases c50 : m2.length < 2932031007402
              ·
               rw [if_pos c50] at H
               have sQ := am c50
               clear c50
               obtain ⟨sR, n7⟩ : ∃ y_ : List (S44), y_ = (m2 ++ [(⟨(rd_T44 g7 gG).f0, (⟨p9, pA, jC⟩ : S25)⟩ : S44)]) := ⟨_, rfl⟩
               replace H : (spec_l17Steps.l1 k2 sR g4 g7 (wrap64 (gG + 1)) gD gI g1) = some r := by first | (rw [n7]; with_reducible exact H) | (have H2_ := (Option.bind_some _ _).symm.trans H; rw [n7]; with_reducible exact H2_) | (have H2_ := (Option.bind_some _ _).symm.trans H; with_reducible exact H2_) | with_reducible exact H | (rw [n7]; exact H) | exact H
               have sS := am n7
               clear n7
               have H' := am H
               clear H
               obtain ⟨wC, jD, uX⟩ := Kd.N_slice gB.1
               subst uX
               try go_wp2
               replace gH := am (Kd.N_drew gH.1); replace g9 := am (Kd.N_drew g9.1); replace gB := am (Kd.N_drew gB.1); replace g2 := am (Kd.V_drew g2.1); replace g0 := am (blk_drew g0.1); replace HB := am (below_drew1 HB.1); have pB : 0 ≤ (gG : Int) := od; have pC : gG < (g7.length : Int) := od
               obtain ⟨gL, nO, nP, uY, kG, kH, kI, iF, oI, oJ⟩ := at_T44 (Kd.N_reads' gB.1).2.2 gG pB pC
               cases uY
               obtain ⟨vT, rL, rM, q3⟩ := Kd.N_get gB.1 z44 gG pB (by first | exact pC | exact od | (have e_ := (Kd.N_reads' gB.1).1; omega))
               obtain ⟨tX, tY, rfl, m3, m4⟩ := k44_openF rM
               have kJ := q3 3 _ rfl; rw [add_field _ _ 3 (by omega)] at kJ; replace kJ := Option.some.inj (kJ.symm.trans iF); injection kJ with hva_ hvn_ hvc_; rw [hva_] at m4; rw [hvc_] at m3; have iG := am (show Kd.V k25 25 _ w.heap.size _ _ ((rd_T44 g7 gG).f1.f2) from Kd.V_mk m3 m4); clear hva_ hvn_ hvc_ m4 m3 q3 rL; have m5 := am oJ; have tZ := am oI; clear oJ oI; replace pB := eq_true pB; replace pC := eq_true pC; have pD : 0 ≤ (0 : Int) := (by omega); have pE : 0 < (g1.length : Int) := od
               obtain ⟨sT, q5, q6, uZ, i1, i2, hI, oK, oL⟩ := at_T25 (Kd.V_reads' g2.1).2.2 0 pD pE
               obtain rfl : gJ = sT := (by injection uZ)
               obtain ⟨vU, rN, rO, q7⟩ := Kd.V_get g2.1 z25 0 pD (by first | exact pE | exact od | (have e_ := (Kd.V_reads' g2.1).1; omega))
               obtain ⟨u0, u1, rfl, m6, m7⟩ := k25_openF rO
               have kK := q7 2 _ rfl; rw [add_field _ _ 2 (by omega)] at kK; replace kK := Option.some.inj (kK.symm.trans hI); injection kK with hva_ hvn_ hvc_; rw [hva_] at m7; rw [hvc_] at m6; have i3 := am (show Kd.V k25 25 _ w.heap.size _ _ ((rd_T25 g1 0).f2) from Kd.V_mk m6 m7); clear hva_ hvn_ hvc_ m7 m6 q7 rN
               have vV : (0 < g1.length) = True := eq_true (by omega)
               (try rw [tz] at i1)
               (try rw [z3] at i1)
               (try rw [Addr.add_zero'] at i1)
               (try rw [tz] at i2)
               (try rw [z3] at i2)
               (try rw [Addr.add_zero'] at i2)
               (try rw [tz] at hI)
               (try rw [z3] at hI)
               (try rw [Addr.add_zero'] at hI)
               have m8 := am oL; have u2 := am oK; clear oL oK; replace pD := eq_true pD; replace pE := eq_true pE; have pF : 0 ≤ (gG : Int) := od; have pG : gG < (g7.length : Int) := od
               obtain ⟨sU, v0, v2, v4, kL, kM, kN, iH, oM, oN⟩ := at_T44 (Kd.N_reads' gB.1).2.2 gG pF pG
               obtain rfl : gL = sU := (by injection v4)
               obtain ⟨vW, rP, rQ, q8⟩ := Kd.N_get gB.1 z44 gG pF (by first | exact pG | exact od | (have e_ := (Kd.N_reads' gB.1).1; omega))
               obtain ⟨u4, u5, rfl, m9, mA⟩ := k44_openF rQ
               have kO := q8 3 _ rfl; rw [add_field _ _ 3 (by omega)] at kO; replace kO := Option.some.inj (kO.symm.trans iH); injection kO with hva_ hvn_ hvc_; rw [hva_] at mA; rw [hvc_] at m9; have i4 := am (show Kd.V k25 25 _ w.heap.size _ _ ((rd_T44 g7 gG).f1.f2) from Kd.V_mk m9 mA); clear hva_ hvn_ hvc_ mA m9 q8 rP; have mB := am oN; have u6 := am oM; clear oN oM; replace pF := eq_true pF; replace pG := eq_true pG
               have ea_ := Option.some.inj (iF.symm.trans iH)
               injection ea_ with ea_ en_ ec_
               subst ea_
               subst ec_
               clear en_
               refine start_ (n := 22) (S := fun w' => w'.cell? ⟨g3, 0, none⟩ = some (.int .i64 gD) ∧ w'.cell? ⟨g3, 1, none⟩ = some (.int .i64 gI) ∧ w'.cell? ⟨g3, 2, none⟩ = some (.slice (some gJ) g1.length gU) ∧ w'.cell? (gL.add ((gG).toNat * 4)) = some (.int .i64 ((rd_T44 g7 gG).f0)) ∧ w'.cell? ⟨(gL.add ((gG).toNat * 4)).block, (gL.add ((gG).toNat * 4)).off + 1, none⟩ = some (.int .i64 ((rd_T44 g7 gG).f1.f0)) ∧ w'.cell? ⟨(gL.add ((gG).toNat * 4)).block, (gL.add ((gG).toNat * 4)).off + 2, none⟩ = some (.int .i64 ((rd_T44 g7 gG).f1.f1)) ∧ w'.cell? ⟨(gL.add ((gG).toNat * 4)).block, (gL.add ((gG).toNat * 4)).off + 3, none⟩ = some (.slice nO ((rd_T44 g7 gG).f1.f2).length nP) ∧ w'.cell? gJ = some (.int .i64 ((rd_T25 g1 0).f0)) ∧ w'.cell? ⟨gJ.block, gJ.off + 1, none⟩ = some (.int .i64 ((rd_T25 g1 0).f1)) ∧ w'.cell? ⟨gJ.block, gJ.off + 2, none⟩ = some (.slice q5 ((rd_T25 g1 0).f2).length q6) ∧ w'.cell? (gL.add ((gG).toNat * 4)) = some (.int .i64 ((rd_T44 g7 gG).f0)) ∧ w'.cell? ⟨(gL.add ((gG).toNat * 4)).block, (gL.add ((gG).toNat * 4)).off + 1, none⟩ = some (.int .i64 ((rd_T44 g7 gG).f1.f0)) ∧ w'.cell? ⟨(gL.add ((gG).toNat * 4)).block, (gL.add ((gG).toNat * 4)).off + 2, none⟩ = some (.int .i64 ((rd_T44 g7 gG).f1.f1)) ∧ w'.cell? ⟨(gL.add ((gG).toNat * 4)).block, (gL.add ((gG).toNat * 4)).off + 3, none⟩ = some (.slice nO ((rd_T44 g7 gG).f1.f2).length nP)) (ds := [19, 20]) #[ff,ff,ff,ff,ff,ff,ff,ff,ff,ff,ff,ff,ff,ff,ff,ff,ff,ff,ff,ff,ff,ff] (by kernel_rfl) rfl rfl ⟨(blk_cell g0.1 0).trans rfl, (blk_cell g0.1 1).trans rfl, (blk_cell g0.1 2).trans rfl, kG, kH, kI, iF, i1, i2, hI, kL, kM, kN, iH⟩ (fun hHeld => ?_); refine with_tabW spec_l17Steps.tab17 spec_l17Steps.bits17 (fun HT_ HW_ => ?_)
               generalize wr.drew = w52 at gH g9 gB g2 g0 HB iG i3 i4 m5 m8 mB kG kH kI iF i1 i2 hI kL kM kN iH hHeld ⊢
               refine pu (i := 0) (N := some 81) #[tt,ff,ff,ff,ff,ff,ff,ff,ff,ff,ff,ff,ff,ff,ff,ff,ff,ff,ff,ff,ff,ff] HT_ ?_
               refine pu (i := 1) (N := some 82) #[tt,tt,ff,ff,ff,ff,ff,ff,ff,ff,ff,ff,ff,ff,ff,ff,ff,ff,ff,ff,ff,ff] HT_ ?_
               refine pu (i := 2) (N := some 83) #[tt,tt,tt,ff,ff,ff,ff,ff,ff,ff,ff,ff,ff,ff,ff,ff,ff,ff,ff,ff,ff,ff] HT_ ?_
               refine pu (i := 3) (N := some 84) #[tt,tt,tt,tt,ff,ff,ff,ff,ff,ff,ff,ff,ff,ff,ff,ff,ff,ff,ff,ff,ff,ff] HT_ ?_
               refine pu (i := 4) (N := some 85) #[tt,tt,tt,tt,tt,ff,ff,ff,ff,ff,ff,ff,ff,ff,ff,ff,ff,ff,ff,ff,ff,ff] HT_ ?_
               refine pu (i := 6) (N := some 87) #[tt,tt,tt,tt,tt,ff,tt,ff,ff,ff,ff,ff,ff,ff,ff,ff,ff,ff,ff,ff,ff,ff] HT_ ?_
               refine pu (i := 8) (N := some 89) #[tt,tt,tt,tt,tt,ff,tt,ff,tt,ff,ff,ff,ff,ff,ff,ff,ff,ff,ff,ff,ff,ff] HT_ ?_
               refine pu (i := 12) (N := some 93) #[tt,tt,tt,tt,tt,ff,tt,ff,tt,ff,ff,ff,tt,ff,ff,ff,ff,ff,ff,ff,ff,ff] HT_ ?_
               refine pu (i := 13) (N := some 94) #[tt,tt,tt,tt,tt,ff,tt,ff,tt,ff,ff,ff,tt,tt,ff,ff,ff,ff,ff,ff,ff,ff] HT_ ?_
               refine pu (i := 14) (N := some 95) #[tt,tt,tt,tt,tt,ff,tt,ff,tt,ff,ff,ff,tt,tt,tt,ff,ff,ff,ff,ff,ff,ff] HT_ ?_
               refine pu (i := 15) (N := some 96) #[tt,tt,tt,tt,tt,ff,tt,ff,tt,ff,ff,ff,tt,tt,tt,tt,ff,ff,ff,ff,ff,ff] HT_ ?_
               refine tk (i := 5) (N := some 86) #[tt,tt,tt,tt,tt,tt,tt,ff,tt,ff,ff,ff,tt,tt,tt,tt,ff,ff,ff,ff,ff,ff] HT_ HW_ hHeld ?_
               refine tk (i := 7) (N := some 88) #[tt,tt,tt,tt,tt,tt,tt,tt,tt,ff,ff,ff,tt,tt,tt,tt,ff,ff,ff,ff,ff,ff] HT_ HW_ hHeld ?_
               refine tk (i := 9) (N := some 90) #[tt,tt,tt,tt,tt,tt,tt,tt,tt,tt,ff,ff,tt,tt,tt,tt,ff,ff,ff,ff,ff,ff] HT_ HW_ hHeld ?_
               refine pu (i := 10) (N := some 91) #[tt,tt,tt,tt,tt,tt,tt,tt,tt,tt,tt,ff,tt,tt,tt,tt,ff,ff,ff,ff,ff,ff] HT_ ?_
               refine tk (i := 11) (N := some 92) #[tt,tt,tt,tt,tt,tt,tt,tt,tt,tt,tt,tt,tt,tt,tt,tt,ff,ff,ff,ff,ff,ff] HT_ HW_ hHeld ?_
               refine tk (i := 16) (N := some 97) #[tt,tt,tt,tt,tt,tt,tt,tt,tt,tt,tt,tt,tt,tt,tt,tt,tt,ff,ff,ff,ff,ff] HT_ HW_ hHeld ?_
               refine on (i := 17) (N := some 98) #[tt,tt,tt,tt,tt,tt,tt,tt,tt,tt,tt,tt,tt,tt,tt,tt,tt,tt,ff,ff,ff,ff] HT_ (fun K hK => ?_)
               refine goes_ Try.func65 (by kernel_rfl) rfl #[.int .i64 gD, .agg #[.int .i64 ((rd_T25 g1 0).f0), .int .i64 ((rd_T25 g1 0).f1), .slice q5 ((rd_T25 g1 0).f2).length q6], .agg #[.int .i64 ((rd_T44 g7 gG).f1.f0), .int .i64 ((rd_T44 g7 gG).f1.f1), .slice nO ((rd_T44 g7 gG).f1.f2).length nP]] (by rfl) rfl rfl (by (try simp only [List.map_toArray, List.map_cons, List.map_nil]); first | done | rfl | (simp only [List.length_drop, List.length_take]; rfl)) ?_
               with_reducible refine (spec_l17Two.calls gD ((rd_T25 g1 0).f0) ((rd_T25 g1 0).f1) (fun k_ => ((g5 k_ ∨ w.heap.size ≤ k_) ∧ (some k_ ≠ (u3 : Value).ownBlock ∧ (some k_ ≠ (.slice h8 g4.length gM : Value).ownBlock ∧ (some k_ ≠ (.slice (some gL) g7.length jD : Value).ownBlock ∧ k_ ≠ g3))))) _ _ ((rd_T25 g1 0).f2) ((rd_T44 g7 gG).f1.f0) ((rd_T44 g7 gG).f1.f1) (fun k_ => (((g5 k_ ∨ w.heap.size ≤ k_) ∧ (some k_ ≠ (u3 : Value).ownBlock ∧ (some k_ ≠ (.slice h8 g4.length gM : Value).ownBlock ∧ k_ ≠ g3))) ∧ some k_ ≠ (.slice (some gL) g7.length jD : Value).ownBlock)) _ _ ((rd_T44 g7 gG).f1.f2) p9 pA jC _ ?side1 ?side2 A49.1).mono ?_
               (case side1 => exact i3.1)
               (case side2 => exact i4.1)
               rintro e w53 ⟨wD, rfl, ho0, hb⟩
               have kU := (hb.cell (World.block_lt_of_cell? _ _ (hHeld.2.2.2.1))).trans (hHeld.2.2.2.1)
               have kV := (hb.cell (World.block_lt_of_cell? _ _ (hHeld.2.2.2.2.1))).trans (hHeld.2.2.2.2.1)
               have kW := (hb.cell (World.block_lt_of_cell? _ _ (hHeld.2.2.2.2.2.1))).trans (hHeld.2.2.2.2.2.1)
               have lL := (hb.cell (World.block_lt_of_cell? _ _ (hHeld.2.2.2.2.2.2.1))).trans (hHeld.2.2.2.2.2.2.1)
               have lM := (hb.cell (World.block_lt_of_cell? _ _ (hHeld.2.2.2.2.2.2.2.1))).trans (hHeld.2.2.2.2.2.2.2.1)
               have lN := (hb.cell (World.block_lt_of_cell? _ _ (hHeld.2.2.2.2.2.2.2.2.1))).trans (hHeld.2.2.2.2.2.2.2.2.1)
               have pZ := (hb.cell (World.block_lt_of_cell? _ _ (hHeld.2.2.2.2.2.2.2.2.2.1))).trans (hHeld.2.2.2.2.2.2.2.2.2.1)
               have n6 := (hb.cell (World.block_lt_of_cell? _ _ (hHeld.2.2.2.2.2.2.2.2.2.2.1))).trans (hHeld.2.2.2.2.2.2.2.2.2.2.1)
               have q0 := (hb.cell (World.block_lt_of_cell? _ _ (hHeld.2.2.2.2.2.2.2.2.2.2.2.1))).trans (hHeld.2.2.2.2.2.2.2.2.2.2.2.1)
               have q1 := (hb.cell (World.block_lt_of_cell? _ _ (hHeld.2.2.2.2.2.2.2.2.2.2.2.2.1))).trans (hHeld.2.2.2.2.2.2.2.2.2.2.2.2.1)
               have q2 := (hb.cell (World.block_lt_of_cell? _ _ (hHeld.2.2.2.2.2.2.2.2.2.2.2.2.2))).trans (hHeld.2.2.2.2.2.2.2.2.2.2.2.2.2)
               refine ⟨_, rfl, ?_⟩
               replace g2 := ve g2 hb; replace iG := ve iG hb; replace i3 := ve i3 hb; replace i4 := ve i4 hb; have oO := nm HB ho0 (fun k_ => (g5 k_ ∨ w.heap.size ≤ k_) ∧ some k_ ≠ (u3 : Value).ownBlock ∧ some k_ ≠ (.slice h8 g4.length gM : Value).ownBlock ∧ some k_ ≠ (.slice (some gL) g7.length jD : Value).ownBlock ∧ k_ ≠ g3) (fun k_ hk_ => ⟨Or.elim hk_ (fun hs_ => Or.elim hs_ (fun hs_ => hs_.1) (fun hs_ => hs_.1.1)) (fun hn_ => (.inr (zt HB hn_))), Or.elim hk_ (fun hs_ => Or.elim hs_ (fun hs_ => hs_.2.1) (fun hs_ => hs_.1.2.1)) (fun hn_ => (fr gH k_ hn_)), Or.elim hk_ (fun hs_ => Or.elim hs_ (fun hs_ => hs_.2.2.1) (fun hs_ => hs_.1.2.2.1)) (fun hn_ => (fr g9 k_ hn_)), Or.elim hk_ (fun hs_ => Or.elim hs_ (fun hs_ => hs_.2.2.2.1) (fun hs_ => hs_.2)) (fun hn_ => (fr gB k_ hn_)), Or.elim hk_ (fun hs_ => Or.elim hs_ (fun hs_ => hs_.2.2.2.2) (fun hs_ => hs_.1.2.2.2)) (fun hn_ => (fb g0 k_ hn_))⟩); replace gH := ne gH hb; replace g9 := ne g9 hb; replace gB := ne gB hb; replace g0 := kb g0 hb; replace m5 := cb m5 hb; replace m8 := cb m8 hb; replace mB := cb mB hb; replace HB := bs HB hb; (try clear hb); (try clear hb2); (try clear hk); (try clear hi); (try clear ho0)
               obtain ⟨nQ, nR, sV⟩ := Kd.N_slice oO.1
               (first | subst sV | (injection sV with f1_ f2_ f3_; have f4_ := f1_.symm; have f5_ := f3_.symm; clear f1_ f2_ f3_; subst f4_; subst f5_))
               refine hK.out _ _ ⟨(blk_cell g0.1 0).trans rfl, (blk_cell g0.1 1).trans rfl, (blk_cell g0.1 2).trans rfl, kU, kV, kW, lL, lM, lN, pZ, n6, q0, q1, q2⟩ (fun hHeld => ?_)
               clear hK K
               refine norm_ (a' := ?_) ?_ ?_
               rotate_left
               ·
                show Act.put _ (some 98) _ = _
                simp only [Act.put, List.setIfInBounds_toArray, List.set_cons_zero, List.set_cons_succ, i64_w, i32_w]
                rfl
               refine pu (i := 18) (N := some 99) #[tt,tt,tt,tt,tt,tt,tt,tt,tt,tt,tt,tt,tt,tt,tt,tt,tt,tt,tt,ff,ff,ff] HT_ ?_
               refine la (i := 19) (N := some 100) #[tt,tt,tt,tt,tt,tt,tt,tt,tt,tt,tt,tt,tt,tt,tt,tt,tt,tt,tt,tt,ff,ff] HT_ (fun K hK => ?_)
               refine value_ (w1 := ?_) (v := ?_) (by rfl) rfl ?_ ?_
               rotate_left 2
               ·
                go_simp
                constructor
                ·
                 rfl
                ·
                 rfl
               refine hK.out _ _ ?_
               clear hK K
               refine norm_ (a' := ?_) ?_ ?_
               rotate_left
               ·
                show Act.put _ (some 100) _ = _
                simp only [Act.put, List.setIfInBounds_toArray, List.set_cons_zero, List.set_cons_succ, i64_w, i32_w]
                rfl
               refine la (i := 20) (N := some 101) #[tt,tt,tt,tt,tt,tt,tt,tt,tt,tt,tt,tt,tt,tt,tt,tt,tt,tt,tt,tt,tt,ff] HT_ (fun K hK => ?_)
               refine Kd.N_append_step k44 (w0 := w) w.heap.size (by rfl) (.tmp 81) (.tmp 100) 28 44 (.agg #[(.int .i64 0), (.int .i64 0), (.int .i64 0), (.slice none 0 0)]) 48 rfl Try.underlying28 info44 rfl (by decide) (by omega) u3 m2 (⟨(rd_T44 g7 gG).f0, (⟨p9, pA, jC⟩ : S25)⟩ : S44) [.int .i64 ((rd_T44 g7 gG).f0), .int .i64 p9, .int .i64 pA, .slice nQ jC.length nR] (fun k_ => (g5 k_ ∨ w.heap.size ≤ k_) ∧ some k_ ≠ (.slice h8 g4.length gM : Value).ownBlock ∧ some k_ ≠ (.slice (some gL) g7.length jD : Value).ownBlock ∧ k_ ≠ g3) (fun k_ => ((fun k_ => (g5 k_ ∨ w.heap.size ≤ k_) ∧ some k_ ≠ (.slice h8 g4.length gM : Value).ownBlock ∧ some k_ ≠ (.slice (some gL) g7.length jD : Value).ownBlock ∧ k_ ≠ g3)) k_ ∧ some k_ ≠ (u3 : Value).ownBlock) rfl rfl ?aP (fun _ hk => hk) ?aF ?aO ?aB ?aS ?aL ?_
               (case aP => exact (k44_mkF _ _ (⟨(rd_T44 g7 gG).f0, (⟨p9, pA, jC⟩ : S25)⟩ : S44) (Kd.N_reads' (Kd.N_mono (ok' := (fun k_ => ((fun k_ => (g5 k_ ∨ w.heap.size ≤ k_) ∧ some k_ ≠ (.slice h8 g4.length gM : Value).ownBlock ∧ some k_ ≠ (.slice (some gL) g7.length jD : Value).ownBlock ∧ k_ ≠ g3)) k_ ∧ some k_ ≠ (u3 : Value).ownBlock)) (oO.1) mq)).2.1 (Kd.N_F (Kd.N_mono (ok' := (fun k_ => ((fun k_ => (g5 k_ ∨ w.heap.size ≤ k_) ∧ some k_ ≠ (.slice h8 g4.length gM : Value).ownBlock ∧ some k_ ≠ (.slice (some gL) g7.length jD : Value).ownBlock ∧ k_ ≠ g3)) k_ ∧ some k_ ≠ (u3 : Value).ownBlock)) (oO.1) mq))))
               (case aB => exact bq)
               (case aF => exact (fun k_ hk => ⟨(.inr (zt HB hk)), Kd.fresh' (Kd.N_lt (n1 g9).1) k_ hk, Kd.fresh' (Kd.N_lt (n1 gB).1) k_ hk, Kd.freshB (g := g3) (o := .cells #[.int .i64 gD, .int .i64 gI, .slice (some gJ) g1.length gU] 25 (0, 0)) (kf g0).1 k_ hk⟩))
               (case aO => exact (nf gH).1)
               (case aS => exact (below_size bq))
               (case aL => have := sQ.1; omega)
               intro wE w55 ho hb hg hat
               rw [← sS.1] at ho; have n0_ := na g9 hg hat (fun k_ => (g5 k_ ∨ w.heap.size ≤ k_) ∧ some k_ ≠ (.slice (some gL) g7.length jD : Value).ownBlock ∧ some k_ ≠ (.slice nQ jC.length nR : Value).ownBlock ∧ k_ ≠ g3); have n1_ := na gB hg hat (fun k_ => (g5 k_ ∨ w.heap.size ≤ k_) ∧ some k_ ≠ (.slice h8 g4.length gM : Value).ownBlock ∧ some k_ ≠ (.slice nQ jC.length nR : Value).ownBlock ∧ k_ ≠ g3); have n2_ := va g2 hg hat (fun k_ => (g5 k_ ∨ w.heap.size ≤ k_) ∧ some k_ ≠ (.slice h8 g4.length gM : Value).ownBlock ∧ some k_ ≠ (.slice (some gL) g7.length jD : Value).ownBlock ∧ some k_ ≠ (.slice nQ jC.length nR : Value).ownBlock ∧ k_ ≠ g3); have n3_ := kg g0 hg (Kd.N_ne gH.1 g0.1 (by decide)); have n4_ := va iG hg hat (fun k_ => (g5 k_ ∨ w.heap.size ≤ k_) ∧ some k_ ≠ (.slice h8 g4.length gM : Value).ownBlock ∧ some k_ ≠ (.slice (some gL) g7.length jD : Value).ownBlock ∧ some k_ ≠ (.slice nQ jC.length nR : Value).ownBlock ∧ k_ ≠ g3); have n5_ := va i3 hg hat (fun k_ => (g5 k_ ∨ w.heap.size ≤ k_) ∧ some k_ ≠ (.slice h8 g4.length gM : Value).ownBlock ∧ some k_ ≠ (.slice (some gL) g7.length jD : Value).ownBlock ∧ some k_ ≠ (.slice nQ jC.length nR : Value).ownBlock ∧ k_ ≠ g3); have n6_ := va i4 hg hat (fun k_ => (g5 k_ ∨ w.heap.size ≤ k_) ∧ some k_ ≠ (.slice h8 g4.length gM : Value).ownBlock ∧ some k_ ≠ (.slice (some gL) g7.length jD : Value).ownBlock ∧ some k_ ≠ (.slice nQ jC.length nR : Value).ownBlock ∧ k_ ≠ g3); have n7_ := am (hb); have n8_ := am (ho); clear g9 gB g2 g0 iG i3 i4 HB gH oO; have g9 := n0_; have gB := n1_; have g2 := n2_; have g0 := n3_; have iG := n4_; have i3 := n5_; have i4 := n6_; have HB := n7_; have sW := n8_; clear n0_ n1_ n2_ n3_ n4_ n5_ n6_ n7_ n8_ ho hb hg hat
               refine hK.out _ _ ?_
               clear hK K
               refine norm_ (a' := ?_) ?_ ?_
               rotate_left
               ·
                show Act.put _ (some 101) _ = _
                simp only [Act.put, List.setIfInBounds_toArray, List.set_cons_zero, List.set_cons_succ, i64_w, i32_w]
                rfl
               refine pu (i := 21) (N := some 3) #[tt,tt,tt,tt,tt,tt,tt,tt,tt,tt,tt,tt,tt,tt,tt,tt,tt,tt,tt,tt,tt,tt] HT_ ?_
               refine done_ (done_of HT_.1 (by kernel_rfl)) ?_
               try go_wp2
               go_roundg k2
               case measure => have := HK1.1; have := HK2.1; omega
               case rel => exact ⟨(sR), (wrap64 (gG + 1)), rq, H', km, nf sW, nf g9, nf gB, vf g2, kf g0, bw⟩
              ·
               rw [if_neg c50] at H
               exact absurd H (by simp)
             ·
              rw [if_neg c48] at H
              exact absurd H (by simp)
            ·
             rw [if_neg c47] at H
             exact absurd H (by simp)
           ·
            rw [if_neg c46] at H; have c46b0 : decide (gG < (g7.length : Int)) = false := decide_eq_false c46; clear c46
            have H' := am H
            clear H
            obtain ⟨n8, hC, v5⟩ := Kd.N_slice gB.1
            subst v5
            go_wp2
            go_loopg [3, 8] k2 (fun kq v3 v8 w' => ∃ (qJ : List (S44)) (g6 : Int), v8 = .int .i64 g6 ∧ Aside0 (spec_l17Steps.l2 kq qJ g4 g7 g6 gD gI g1 = some r) ∧ Aside0 (kq ≤ k2) ∧ Aside0 (Kd.N k44 44 w' w.heap.size (fun k_ => (g5 k_ ∨ w.heap.size ≤ k_) ∧ some k_ ≠ ((.slice h8 g4.length gM) : Value).ownBlock ∧ some k_ ≠ ((.slice n8 g7.length hC) : Value).ownBlock ∧ k_ ≠ g3) v3 qJ) ∧ Aside0 (Kd.N k44 44 w' w.heap.size (fun k_ => (g5 k_ ∨ w.heap.size ≤ k_) ∧ some k_ ≠ (v3 : Value).ownBlock ∧ some k_ ≠ ((.slice n8 g7.length hC) : Value).ownBlock ∧ k_ ≠ g3) (.slice h8 g4.length gM) g4) ∧ Aside0 (Kd.N k44 44 w' w.heap.size (fun k_ => (g5 k_ ∨ w.heap.size ≤ k_) ∧ some k_ ≠ (v3 : Value).ownBlock ∧ some k_ ≠ ((.slice h8 g4.length gM) : Value).ownBlock ∧ k_ ≠ g3) (.slice n8 g7.length hC) g7) ∧ Aside0 (Kd.V k25 25 w' w.heap.size (fun k_ => (g5 k_ ∨ w.heap.size ≤ k_) ∧ some k_ ≠ (v3 : Value).ownBlock ∧ some k_ ≠ ((.slice h8 g4.length gM) : Value).ownBlock ∧ some k_ ≠ ((.slice n8 g7.length hC) : Value).ownBlock ∧ k_ ≠ g3) (.slice (some gJ) g1.length gU) g1) ∧ Aside0 (w'.heap[g3]? = some (.cells #[.int .i64 gD, .int .i64 gI, (.slice (some gJ) g1.length gU)] 25 (0, 0))) ∧ Aside0 (Below w.heap.size w w'))
            case atStart => exact ⟨(m2), (0), rq, H', ⟨Nat.le_refl _⟩, nf gH, nf g9, nf gB, vf g2, kf g0, bw⟩
            case round =>
             clear H'; (try clear c1); (try clear c2); (try clear c2b0); (try clear c2b1); (try clear p2); (try clear c3); (try clear c3b0); (try clear c3b1); (try clear c4); (try clear p4); (try clear q4); (try clear hx4); (try clear qi4); (try clear c5); (try clear c6); (try clear p6); (try clear c9); (try clear c9b0); (try clear c9b1); (try clear c10); (try clear c10b0); (try clear c10b1); (try clear c12); (try clear c12b0); (try clear c12b1); (try clear c14); (try clear c22); (try clear c22b0); (try clear c22b1); (try clear c23); (try clear c23b0); (try clear c23b1); (try clear c25); (try clear c25b0); (try clear c25b1); (try clear c35); (try clear c35b0); (try clear c36); (try clear c36b0); (try clear c37); (try clear c37b0); (try clear c37b1); (try clear c39); (try clear p42); (try clear q42); (try clear sJ); (try clear p43); (try clear q43); (try clear sK); (try clear c44); (try clear p44); (try clear q44); (try clear sL); (try clear sM); (try clear c45); (try clear p45); (try clear q45); (try clear sN); (try clear sO); (try clear c46); (try clear c46b0); (try clear p46); (try clear q46); (try clear vA); (try clear vB); (try clear c47); (try clear c47b0); (try clear c48); (try clear c48b0); (try clear c48b1); (try clear c50); (try clear jG); (try clear jH); (try clear jI); (try clear jO); (try clear jP); (try clear jQ); (try clear jU); (try clear jV); (try clear jW); (try clear k6); (try clear k7); (try clear k8); (try clear l9); (try clear lA); (try clear lB); (try clear jJ); (try clear jK); (try clear jL); (try clear jR); (try clear jS); (try clear jT); (try clear jX); (try clear jY); (try clear jZ); (try clear k9); (try clear kA); (try clear kB); (try clear lC); (try clear lD); (try clear lE); (try clear gZ); (try clear h0); (try clear gV); (try clear h1); (try clear h2); (try clear gW); (try clear h4); (try clear h5); (try clear gX); (try clear hS); (try clear hT); (try clear hE); (try clear hV); (try clear hW); (try clear hF); (try clear iO); (try clear iP); (try clear iQ); (try clear hX); (try clear iR); (try clear iS); (try clear iT); (try clear hY); (try clear hG); (try clear hH); (try clear h7); (try clear kG); (try clear kH); (try clear kI); (try clear iF); (try clear i1); (try clear i2); (try clear hI); (try clear kL); (try clear kM); (try clear kN); (try clear iH); (try clear p2); (try clear p4); (try clear p42); (try clear mR); (try clear p43); (try clear mU); (try clear mW); (try clear p44); (try clear n0); (try clear n3); (try clear p45); (try clear nE); (try clear nI); (try clear nK); (try clear pB); (try clear pD); (try clear pF); (try clear p6); (try clear q4); (try clear q42); (try clear mS); (try clear q43); (try clear mV); (try clear mX); (try clear q44); (try clear n2); (try clear n4); (try clear q45); (try clear nF); (try clear nJ); (try clear nL); (try clear pC); (try clear pE); (try clear pG); (try clear gH); (try clear g9); (try clear gB); (try clear g2); (try clear g0); (try clear HB)
             obtain ⟨qJ, g6, rfl, HA, HK3, gH, g9, gB, g2, g0, HB⟩ := hrel
             cases gk with
             | zero => exact absurd HA.1 (by simp [spec_l17Steps.l2])
             | succ k3 =>
              have H := HA.1
              clear HA
              simp only [spec_l17Steps.l2] at H
              by_cases c57 : g6 < (g4.length : Int)
              ·
               rw [if_pos c57] at H; have c57b0 : decide (g6 < (g4.length : Int)) = true := decide_eq_true c57; clear c57
               have H' := am H
               clear H
               go_wp2
               go_loopg [3, 9] k3 (fun kq v3 v9 w' => ∃ (kY : List (S44)) (gC : Int), v9 = .int .i64 gC ∧ Aside0 (spec_l17Steps.l3 kq kY g4 g7 g6 gC gD gI g1 = some r) ∧ Aside0 (kq ≤ k3) ∧ Aside0 (Kd.N k44 44 w' w.heap.size (fun k_ => (g5 k_ ∨ w.heap.size ≤ k_) ∧ some k_ ≠ ((.slice h8 g4.length gM) : Value).ownBlock ∧ some k_ ≠ ((.slice n8 g7.length hC) : Value).ownBlock ∧ k_ ≠ g3) v3 kY) ∧ Aside0 (Kd.N k44 44 w' w.heap.size (fun k_ => (g5 k_ ∨ w.heap.size ≤ k_) ∧ some k_ ≠ (v3 : Value).ownBlock ∧ some k_ ≠ ((.slice n8 g7.length hC) : Value).ownBlock ∧ k_ ≠ g3) (.slice h8 g4.length gM) g4) ∧ Aside0 (Kd.N k44 44 w' w.heap.size (fun k_ => (g5 k_ ∨ w.heap.size ≤ k_) ∧ some k_ ≠ (v3 : Value).ownBlock ∧ some k_ ≠ ((.slice h8 g4.length gM) : Value).ownBlock ∧ k_ ≠ g3) (.slice n8 g7.length hC) g7) ∧ Aside0 (Kd.V k25 25 w' w.heap.size (fun k_ => (g5 k_ ∨ w.heap.size ≤ k_) ∧ some k_ ≠ (v3 : Value).ownBlock ∧ some k_ ≠ ((.slice h8 g4.length gM) : Value).ownBlock ∧ some k_ ≠ ((.slice n8 g7.length hC) : Value).ownBlock ∧ k_ ≠ g3) (.slice (some gJ) g1.length gU) g1) ∧ Aside0 (w'.heap[g3]? = some (.cells #[.int .i64 gD, .int .i64 gI, (.slice (some gJ) g1.length gU)] 25 (0, 0))) ∧ Aside0 (Below w.heap.size w w'))
               case atStart => exact ⟨(qJ), (0), rq, H', ⟨Nat.le_refl _⟩, nf gH, nf g9, nf gB, vf g2, kf g0, bw⟩
               case round =>
                clear H'; (try clear c1); (try clear c2); (try clear c2b0); (try clear c2b1); (try clear p2); (try clear c3); (try clear c3b0); (try clear c3b1); (try clear c4); (try clear p4); (try clear q4); (try clear hx4); (try clear qi4); (try clear c5); (try clear c6); (try clear p6); (try clear c9); (try clear c9b0); (try clear c9b1); (try clear c10); (try clear c10b0); (try clear c10b1); (try clear c12); (try clear c12b0); (try clear c12b1); (try clear c14); (try clear c22); (try clear c22b0); (try clear c22b1); (try clear c23); (try clear c23b0); (try clear c23b1); (try clear c25); (try clear c25b0); (try clear c25b1); (try clear c35); (try clear c35b0); (try clear c36); (try clear c36b0); (try clear c37); (try clear c37b0); (try clear c37b1); (try clear c39); (try clear p42); (try clear q42); (try clear sJ); (try clear p43); (try clear q43); (try clear sK); (try clear c44); (try clear p44); (try clear q44); (try clear sL); (try clear sM); (try clear c45); (try clear p45); (try clear q45); (try clear sN); (try clear sO); (try clear c46); (try clear c46b0); (try clear p46); (try clear q46); (try clear vA); (try clear vB); (try clear c47); (try clear c47b0); (try clear c48); (try clear c48b0); (try clear c48b1); (try clear c50); (try clear c57); (try clear c57b0); (try clear jG); (try clear jH); (try clear jI); (try clear jO); (try clear jP); (try clear jQ); (try clear jU); (try clear jV); (try clear jW); (try clear k6); (try clear k7); (try clear k8); (try clear l9); (try clear lA); (try clear lB); (try clear jJ); (try clear jK); (try clear jL); (try clear jR); (try clear jS); (try clear jT); (try clear jX); (try clear jY); (try clear jZ); (try clear k9); (try clear kA); (try clear kB); (try clear lC); (try clear lD); (try clear lE); (try clear gZ); (try clear h0); (try clear gV); (try clear h1); (try clear h2); (try clear gW); (try clear h4); (try clear h5); (try clear gX); (try clear hS); (try clear hT); (try clear hE); (try clear hV); (try clear hW); (try clear hF); (try clear iO); (try clear iP); (try clear iQ); (try clear hX); (try clear iR); (try clear iS); (try clear iT); (try clear hY); (try clear hG); (try clear hH); (try clear h7); (try clear kG); (try clear kH); (try clear kI); (try clear iF); (try clear i1); (try clear i2); (try clear hI); (try clear kL); (try clear kM); (try clear kN); (try clear iH); (try clear p2); (try clear p4); (try clear p42); (try clear mR); (try clear p43); (try clear mU); (try clear mW); (try clear p44); (try clear n0); (try clear n3); (try clear p45); (try clear nE); (try clear nI); (try clear nK); (try clear p46); (try clear pB); (try clear pD); (try clear pF); (try clear p6); (try clear q4); (try clear q42); (try clear mS); (try clear q43); (try clear mV); (try clear mX); (try clear q44); (try clear n2); (try clear n4); (try clear q45); (try clear nF); (try clear nJ); (try clear nL); (try clear q46); (try clear pC); (try clear pE); (try clear pG); (try clear gH); (try clear g9); (try clear gB); (try clear g2); (try clear g0); (try clear HB)
                obtain ⟨kY, gC, rfl, HA, HK4, gH, g9, gB, g2, g0, HB⟩ := hrel
                cases gk with
                | zero => exact absurd HA.1 (by simp [spec_l17Steps.l3])
                | succ k4 =>
                 have H := HA.1
                 clear HA
                 simp only [spec_l17Steps.l3] at H
                 by_cases c58 : gC < (g7.length : Int)
                 ·
                  rw [if_pos c58] at H; have c58b0 : decide (gC < (g7.length : Int)) = true := decide_eq_true c58; clear c58
                  by_cases c59 : 0 ≤ g6
                  ·
                   rw [if_pos c59] at H; have c59b0 : decide (0 ≤ g6) = true := decide_eq_true c59; clear c59
                   by_cases c60 : g6 < (g4.length : Int)
                   ·
                    rw [if_pos c60] at H; have c60b0 : decide (g6 < (g4.length : Int)) = true := decide_eq_true c60; clear c60
                    by_cases c61 : ((rd_T44 g4 g6).f0) = 0
                    ·
                     rw [if_pos c61] at H; have c61b0 : (((rd_T44 g4 g6).f0) == 0) = true := beq_iff_eq.mpr c61; have c61b1 : (((rd_T44 g4 g6).f0) != 0) = false := bne_eq_false_iff_eq.mpr c61; clear c61
                     have H' := am H
                     clear H
                     try go_wp2
                     replace gH := am (Kd.N_drew gH.1); replace g9 := am (Kd.N_drew g9.1); replace gB := am (Kd.N_drew gB.1); replace g2 := am (Kd.V_drew g2.1); replace g0 := am (blk_drew g0.1); replace HB := am (below_drew1 HB.1); have iU : 0 ≤ (g6 : Int) := od; have iV : g6 < (g4.length : Int) := od
                     obtain ⟨g8, iJ, iK, q9, hJ, hL, hM, gO, hN, hO⟩ := at_T44 (Kd.N_reads' g9.1).2.2 g6 iU iV
                     cases q9
                     obtain ⟨qX, kZ, l4, iC⟩ := Kd.N_get g9.1 z44 g6 iU (by first | exact iV | exact od | (have e_ := (Kd.N_reads' g9.1).1; omega))
                     obtain ⟨oP, oQ, rfl, gQ, gR⟩ := k44_openF l4
                     have gN := iC 3 _ rfl; rw [add_field _ _ 3 (by omega)] at gN; replace gN := Option.some.inj (gN.symm.trans gO); injection gN with hva_ hvn_ hvc_; rw [hva_] at gR; rw [hvc_] at gQ; have gP := am (show Kd.V k25 25 _ w.heap.size _ _ ((rd_T44 g4 g6).f1.f2) from Kd.V_mk gQ gR); clear hva_ hvn_ hvc_ gR gQ iC kZ; have gY := am hO; have oR := am hN; clear hO hN; replace iU := eq_true iU; replace iV := eq_true iV
                     refine start_ (n := 20) (S := fun w' => w'.cell? (g8.add ((g6).toNat * 4)) = some (.int .i64 ((rd_T44 g4 g6).f0)) ∧ w'.cell? ⟨(g8.add ((g6).toNat * 4)).block, (g8.add ((g6).toNat * 4)).off + 1, none⟩ = some (.int .i64 ((rd_T44 g4 g6).f1.f0)) ∧ w'.cell? ⟨(g8.add ((g6).toNat * 4)).block, (g8.add ((g6).toNat * 4)).off + 2, none⟩ = some (.int .i64 ((rd_T44 g4 g6).f1.f1)) ∧ w'.cell? ⟨(g8.add ((g6).toNat * 4)).block, (g8.add ((g6).toNat * 4)).off + 3, none⟩ = some (.slice iJ ((rd_T44 g4 g6).f1.f2).length iK)) (ds := []) #[ff,ff,ff,ff,ff,ff,ff,ff,ff,ff,ff,ff,ff,ff,ff,ff,ff,ff,ff,ff] (by kernel_rfl) rfl rfl ⟨hJ, hL, hM, gO⟩ (fun hHeld => ?_); refine with_tabW spec_l17Steps.tab24 spec_l17Steps.bits24 (fun HT_ HW_ => ?_)
                     generalize wr.drew = w62 at gH g9 gB g2 g0 HB gP gY hJ hL hM gO hHeld ⊢
                     refine pu (i := 0) (N := some 114) #[tt,ff,ff,ff,ff,ff,ff,ff,ff,ff,ff,ff,ff,ff,ff,ff,ff,ff,ff,ff] HT_ ?_
                     refine pu (i := 1) (N := some 115) #[tt,tt,ff,ff,ff,ff,ff,ff,ff,ff,ff,ff,ff,ff,ff,ff,ff,ff,ff,ff] HT_ ?_
                     refine pu (i := 2) (N := some 116) #[tt,tt,tt,ff,ff,ff,ff,ff,ff,ff,ff,ff,ff,ff,ff,ff,ff,ff,ff,ff] HT_ ?_
                     refine pu (i := 3) (N := some 117) #[tt,tt,tt,tt,ff,ff,ff,ff,ff,ff,ff,ff,ff,ff,ff,ff,ff,ff,ff,ff] HT_ ?_
                     refine tk (i := 4) (N := some 118) #[tt,tt,tt,tt,tt,ff,ff,ff,ff,ff,ff,ff,ff,ff,ff,ff,ff,ff,ff,ff] HT_ HW_ hHeld ?_
                     refine pu (i := 5) (N := some 119) #[tt,tt,tt,tt,tt,tt,ff,ff,ff,ff,ff,ff,ff,ff,ff,ff,ff,ff,ff,ff] HT_ ?_
                     refine pu (i := 6) (N := some 120) #[tt,tt,tt,tt,tt,tt,tt,ff,ff,ff,ff,ff,ff,ff,ff,ff,ff,ff,ff,ff] HT_ ?_
                     refine pr (i := 7) (N := some 121) #[tt,tt,tt,tt,tt,tt,tt,tt,ff,ff,ff,ff,ff,ff,ff,ff,ff,ff,ff,ff] HT_ ?_
                     refine pr (i := 8) (N := some 122) #[tt,tt,tt,tt,tt,tt,tt,tt,tt,ff,ff,ff,ff,ff,ff,ff,ff,ff,ff,ff] HT_ ?_
                     refine pr (i := 9) (N := some 123) #[tt,tt,tt,tt,tt,tt,tt,tt,tt,tt,ff,ff,ff,ff,ff,ff,ff,ff,ff,ff] HT_ ?_
                     refine pr (i := 10) (N := some 124) #[tt,tt,tt,tt,tt,tt,tt,tt,tt,tt,tt,ff,ff,ff,ff,ff,ff,ff,ff,ff] HT_ ?_
                     refine pr (i := 11) (N := some 125) #[tt,tt,tt,tt,tt,tt,tt,tt,tt,tt,tt,tt,ff,ff,ff,ff,ff,ff,ff,ff] HT_ ?_
                     refine pr (i := 12) (N := some 126) #[tt,tt,tt,tt,tt,tt,tt,tt,tt,tt,tt,tt,tt,ff,ff,ff,ff,ff,ff,ff] HT_ ?_
                     refine pr (i := 13) (N := some 127) #[tt,tt,tt,tt,tt,tt,tt,tt,tt,tt,tt,tt,tt,tt,ff,ff,ff,ff,ff,ff] HT_ ?_
                     refine pr (i := 14) (N := some 128) #[tt,tt,tt,tt,tt,tt,tt,tt,tt,tt,tt,tt,tt,tt,tt,ff,ff,ff,ff,ff] HT_ ?_
                     refine pr (i := 15) (N := some 129) #[tt,tt,tt,tt,tt,tt,tt,tt,tt,tt,tt,tt,tt,tt,tt,tt,ff,ff,ff,ff] HT_ ?_
                     refine pr (i := 16) (N := some 130) #[tt,tt,tt,tt,tt,tt,tt,tt,tt,tt,tt,tt,tt,tt,tt,tt,tt,ff,ff,ff] HT_ ?_
                     refine pr (i := 17) (N := some 131) #[tt,tt,tt,tt,tt,tt,tt,tt,tt,tt,tt,tt,tt,tt,tt,tt,tt,tt,ff,ff] HT_ ?_
                     refine pr (i := 18) (N := some 132) #[tt,tt,tt,tt,tt,tt,tt,tt,tt,tt,tt,tt,tt,tt,tt,tt,tt,tt,tt,ff] HT_ ?_
                     refine pu (i := 19) (N := some 133) #[tt,tt,tt,tt,tt,tt,tt,tt,tt,tt,tt,tt,tt,tt,tt,tt,tt,tt,tt,tt] HT_ ?_
                     refine done_ (done_of HT_.1 (by kernel_rfl)) ?_
                     try go_wp2
                     go_roundg k4
                     case measure => have := HK1.1; have := HK2.1; have := HK3.1; have := HK4.1; omega
                     case rel => exact ⟨(kY), (wrap64 (gC + 1)), rq, H', km, nf gH, nf g9, nf gB, vf g2, kf g0, bw⟩
                    ·
                     rw [if_neg c61] at H; have c61b0 : (((rd_T44 g4 g6).f0) == 0) = false := beq_eq_false_iff_ne.mpr c61; have c61b1 : (((rd_T44 g4 g6).f0) != 0) = true := bne_iff_ne.mpr c61
                     by_cases c63 : 0 ≤ gC
                     ·
                      rw [if_pos c63] at H; have c63b0 : decide (0 ≤ gC) = true := decide_eq_true c63; clear c63
                      by_cases c64 : ((rd_T44 g4 g6).f0) = (wrap64 (-((rd_T44 g7 gC).f0)))
                      ·
                       rw [if_pos c64] at H; have c64b0 : (((rd_T44 g4 g6).f0) == (wrap64 (-((rd_T44 g7 gC).f0)))) = true := beq_iff_eq.mpr c64; have c64b1 : (((rd_T44 g4 g6).f0) != (wrap64 (-((rd_T44 g7 gC).f0)))) = false := bne_eq_false_iff_eq.mpr c64; clear c64
                       replace H := Option.bind_eq_some_iff.mp H
                       obtain ⟨⟨pH, pI, iW⟩, sX, H⟩ := H
                       replace H : (if kY.length < 2932031007402 then (spec_l17Steps.l3 k4 (kY ++ [(⟨0, (⟨pH, pI, iW⟩ : S25)⟩ : S44)]) g4 g7 g6 (wrap64 (gC + 1)) gD gI g1) else (none)) = some r := H
                       have A65 := am sX
                       clear sX
                       by_cases c66 : kY.length < 2932031007402
                       ·
                        rw [if_pos c66] at H
                        have sY := am c66
                        clear c66
                        obtain ⟨sZ, n9⟩ : ∃ y_ : List (S44), y_ = (kY ++ [(⟨0, (⟨pH, pI, iW⟩ : S25)⟩ : S44)]) := ⟨_, rfl⟩
                        replace H : (spec_l17Steps.l3 k4 sZ g4 g7 g6 (wrap64 (gC + 1)) gD gI g1) = some r := by first | (rw [n9]; with_reducible exact H) | (have H2_ := (Option.bind_some _ _).symm.trans H; rw [n9]; with_reducible exact H2_) | (have H2_ := (Option.bind_some _ _).symm.trans H; with_reducible exact H2_) | with_reducible exact H | (rw [n9]; exact H) | exact H
                        have t0 := am n9
                        clear n9
                        have H' := am H
                        clear H
                        try go_wp2
                        replace gH := am (Kd.N_drew gH.1); replace g9 := am (Kd.N_drew g9.1); replace gB := am (Kd.N_drew gB.1); replace g2 := am (Kd.V_drew g2.1); replace g0 := am (blk_drew g0.1); replace HB := am (below_drew1 HB.1); have iU : 0 ≤ (g6 : Int) := od; have iV : g6 < (g4.length : Int) := od
                        obtain ⟨g8, iJ, iK, q9, hJ, hL, hM, gO, hN, hO⟩ := at_T44 (Kd.N_reads' g9.1).2.2 g6 iU iV
                        cases q9
                        obtain ⟨qX, kZ, l4, iC⟩ := Kd.N_get g9.1 z44 g6 iU (by first | exact iV | exact od | (have e_ := (Kd.N_reads' g9.1).1; omega))
                        obtain ⟨oP, oQ, rfl, gQ, gR⟩ := k44_openF l4
                        have gN := iC 3 _ rfl; rw [add_field _ _ 3 (by omega)] at gN; replace gN := Option.some.inj (gN.symm.trans gO); injection gN with hva_ hvn_ hvc_; rw [hva_] at gR; rw [hvc_] at gQ; have gP := am (show Kd.V k25 25 _ w.heap.size _ _ ((rd_T44 g4 g6).f1.f2) from Kd.V_mk gQ gR); clear hva_ hvn_ hvc_ gR gQ iC kZ; have gY := am hO; have oR := am hN; clear hO hN; replace iU := eq_true iU; replace iV := eq_true iV; have mC : 0 ≤ (g6 : Int) := od; have mD : g6 < (g4.length : Int) := od
                        obtain ⟨qA, rR, rS, rT, iX, iY, iZ, h9, j3, j4⟩ := at_T44 (Kd.N_reads' g9.1).2.2 g6 mC mD
                        obtain rfl : g8 = qA := (by injection rT)
                        obtain ⟨t1, nS, nT, l5⟩ := Kd.N_get g9.1 z44 g6 mC (by first | exact mD | exact od | (have e_ := (Kd.N_reads' g9.1).1; omega))
                        obtain ⟨qK, qL, rfl, i5, i6⟩ := k44_openF nT
                        have hA := l5 3 _ rfl; rw [add_field _ _ 3 (by omega)] at hA; replace hA := Option.some.inj (hA.symm.trans h9); injection hA with hva_ hvn_ hvc_; rw [hva_] at i6; rw [hvc_] at i5; have gS := am (show Kd.V k25 25 _ w.heap.size _ _ ((rd_T44 g4 g6).f1.f2) from Kd.V_mk i5 i6); clear hva_ hvn_ hvc_ i6 i5 l5 nS; have hP := am j4; have qM := am j3; clear j4 j3; replace mC := eq_true mC; replace mD := eq_true mD
                        have ea_ := Option.some.inj (gO.symm.trans h9)
                        injection ea_ with ea_ en_ ec_
                        subst ea_
                        subst ec_
                        clear en_; have mE : 0 ≤ (gC : Int) := od; have mF : gC < (g7.length : Int) := od
                        obtain ⟨gE, nU, nV, rU, j5, j6, j7, i7, j8, j9⟩ := at_T44 (Kd.N_reads' gB.1).2.2 gC mE mF
                        cases rU
                        obtain ⟨t2, nW, nX, l6⟩ := Kd.N_get gB.1 z44 gC mE (by first | exact mF | exact od | (have e_ := (Kd.N_reads' gB.1).1; omega))
                        obtain ⟨qN, qO, rfl, i8, i9⟩ := k44_openF nX
                        have hB := l6 3 _ rfl; rw [add_field _ _ 3 (by omega)] at hB; replace hB := Option.some.inj (hB.symm.trans i7); injection hB with hva_ hvn_ hvc_; rw [hva_] at i9; rw [hvc_] at i8; have gT := am (show Kd.V k25 25 _ w.heap.size _ _ ((rd_T44 g7 gC).f1.f2) from Kd.V_mk i8 i9); clear hva_ hvn_ hvc_ i9 i8 l6 nW; have hQ := am j9; have qP := am j8; clear j9 j8; replace mE := eq_true mE; replace mF := eq_true mF
                        refine start_ (n := 20) (S := fun w' => w'.cell? (g8.add ((g6).toNat * 4)) = some (.int .i64 ((rd_T44 g4 g6).f0)) ∧ w'.cell? ⟨(g8.add ((g6).toNat * 4)).block, (g8.add ((g6).toNat * 4)).off + 1, none⟩ = some (.int .i64 ((rd_T44 g4 g6).f1.f0)) ∧ w'.cell? ⟨(g8.add ((g6).toNat * 4)).block, (g8.add ((g6).toNat * 4)).off + 2, none⟩ = some (.int .i64 ((rd_T44 g4 g6).f1.f1)) ∧ w'.cell? ⟨(g8.add ((g6).toNat * 4)).block, (g8.add ((g6).toNat * 4)).off + 3, none⟩ = some (.slice iJ ((rd_T44 g4 g6).f1.f2).length iK) ∧ w'.cell? (g8.add ((g6).toNat * 4)) = some (.int .i64 ((rd_T44 g4 g6).f0)) ∧ w'.cell? ⟨(g8.add ((g6).toNat * 4)).block, (g8.add ((g6).toNat * 4)).off + 1, none⟩ = some (.int .i64 ((rd_T44 g4 g6).f1.f0)) ∧ w'.cell? ⟨(g8.add ((g6).toNat * 4)).block, (g8.add ((g6).toNat * 4)).off + 2, none⟩ = some (.int .i64 ((rd_T44 g4 g6).f1.f1)) ∧ w'.cell? ⟨(g8.add ((g6).toNat * 4)).block, (g8.add ((g6).toNat * 4)).off + 3, none⟩ = some (.slice iJ ((rd_T44 g4 g6).f1.f2).length iK) ∧ w'.cell? (gE.add ((gC).toNat * 4)) = some (.int .i64 ((rd_T44 g7 gC).f0)) ∧ w'.cell? ⟨(gE.add ((gC).toNat * 4)).block, (gE.add ((gC).toNat * 4)).off + 1, none⟩ = some (.int .i64 ((rd_T44 g7 gC).f1.f0)) ∧ w'.cell? ⟨(gE.add ((gC).toNat * 4)).block, (gE.add ((gC).toNat * 4)).off + 2, none⟩ = some (.int .i64 ((rd_T44 g7 gC).f1.f1)) ∧ w'.cell? ⟨(gE.add ((gC).toNat * 4)).block, (gE.add ((gC).toNat * 4)).off + 3, none⟩ = some (.slice nU ((rd_T44 g7 gC).f1.f2).length nV)) (ds := []) #[ff,ff,ff,ff,ff,ff,ff,ff,ff,ff,ff,ff,ff,ff,ff,ff,ff,ff,ff,ff] (by kernel_rfl) rfl rfl ⟨hJ, hL, hM, gO, iX, iY, iZ, h9, j5, j6, j7, i7⟩ (fun hHeld => ?_); refine with_tabW spec_l17Steps.tab24 spec_l17Steps.bits24 (fun HT_ HW_ => ?_)
                        generalize wr.drew = w67 at gH g9 gB g2 g0 HB gP gS gT gY hP hQ hJ hL hM gO iX iY iZ h9 j5 j6 j7 i7 hHeld ⊢
                        refine pu (i := 0) (N := some 114) #[tt,ff,ff,ff,ff,ff,ff,ff,ff,ff,ff,ff,ff,ff,ff,ff,ff,ff,ff,ff] HT_ ?_
                        refine pu (i := 1) (N := some 115) #[tt,tt,ff,ff,ff,ff,ff,ff,ff,ff,ff,ff,ff,ff,ff,ff,ff,ff,ff,ff] HT_ ?_
                        refine pu (i := 2) (N := some 116) #[tt,tt,tt,ff,ff,ff,ff,ff,ff,ff,ff,ff,ff,ff,ff,ff,ff,ff,ff,ff] HT_ ?_
                        refine pu (i := 3) (N := some 117) #[tt,tt,tt,tt,ff,ff,ff,ff,ff,ff,ff,ff,ff,ff,ff,ff,ff,ff,ff,ff] HT_ ?_
                        refine tk (i := 4) (N := some 118) #[tt,tt,tt,tt,tt,ff,ff,ff,ff,ff,ff,ff,ff,ff,ff,ff,ff,ff,ff,ff] HT_ HW_ hHeld ?_
                        refine pu (i := 5) (N := some 119) #[tt,tt,tt,tt,tt,tt,ff,ff,ff,ff,ff,ff,ff,ff,ff,ff,ff,ff,ff,ff] HT_ ?_
                        refine pu (i := 6) (N := some 120) #[tt,tt,tt,tt,tt,tt,tt,ff,ff,ff,ff,ff,ff,ff,ff,ff,ff,ff,ff,ff] HT_ ?_
                        refine pu (i := 7) (N := some 121) #[tt,tt,tt,tt,tt,tt,tt,tt,ff,ff,ff,ff,ff,ff,ff,ff,ff,ff,ff,ff] HT_ ?_
                        refine pu (i := 8) (N := some 122) #[tt,tt,tt,tt,tt,tt,tt,tt,tt,ff,ff,ff,ff,ff,ff,ff,ff,ff,ff,ff] HT_ ?_
                        refine pu (i := 9) (N := some 123) #[tt,tt,tt,tt,tt,tt,tt,tt,tt,tt,ff,ff,ff,ff,ff,ff,ff,ff,ff,ff] HT_ ?_
                        refine pu (i := 10) (N := some 124) #[tt,tt,tt,tt,tt,tt,tt,tt,tt,tt,tt,ff,ff,ff,ff,ff,ff,ff,ff,ff] HT_ ?_
                        refine pu (i := 12) (N := some 126) #[tt,tt,tt,tt,tt,tt,tt,tt,tt,tt,tt,ff,tt,ff,ff,ff,ff,ff,ff,ff] HT_ ?_
                        refine pu (i := 13) (N := some 127) #[tt,tt,tt,tt,tt,tt,tt,tt,tt,tt,tt,ff,tt,tt,ff,ff,ff,ff,ff,ff] HT_ ?_
                        refine pu (i := 14) (N := some 128) #[tt,tt,tt,tt,tt,tt,tt,tt,tt,tt,tt,ff,tt,tt,tt,ff,ff,ff,ff,ff] HT_ ?_
                        refine pu (i := 15) (N := some 129) #[tt,tt,tt,tt,tt,tt,tt,tt,tt,tt,tt,ff,tt,tt,tt,tt,ff,ff,ff,ff] HT_ ?_
                        refine tk (i := 11) (N := some 125) #[tt,tt,tt,tt,tt,tt,tt,tt,tt,tt,tt,tt,tt,tt,tt,tt,ff,ff,ff,ff] HT_ HW_ hHeld ?_
                        refine tk (i := 16) (N := some 130) #[tt,tt,tt,tt,tt,tt,tt,tt,tt,tt,tt,tt,tt,tt,tt,tt,tt,ff,ff,ff] HT_ HW_ hHeld ?_
                        refine pu (i := 17) (N := some 131) #[tt,tt,tt,tt,tt,tt,tt,tt,tt,tt,tt,tt,tt,tt,tt,tt,tt,tt,ff,ff] HT_ ?_
                        refine pu (i := 18) (N := some 132) #[tt,tt,tt,tt,tt,tt,tt,tt,tt,tt,tt,tt,tt,tt,tt,tt,tt,tt,tt,ff] HT_ ?_
                        refine pu (i := 19) (N := some 133) #[tt,tt,tt,tt,tt,tt,tt,tt,tt,tt,tt,tt,tt,tt,tt,tt,tt,tt,tt,tt] HT_ ?_
                        refine done_ (done_of HT_.1 (by kernel_rfl)) ?_
                        try go_wp2
                        replace gH := am (Kd.N_drew gH.1); replace g9 := am (Kd.N_drew g9.1); replace gB := am (Kd.N_drew gB.1); replace g2 := am (Kd.V_drew g2.1); replace gP := am (Kd.V_drew gP.1); replace gS := am (Kd.V_drew gS.1); replace gT := am (Kd.V_drew gT.1); replace g0 := am (blk_drew g0.1); replace gY := am (Kd.C_drew gY.1); replace hP := am (Kd.C_drew hP.1); replace hQ := am (Kd.C_drew hQ.1); replace HB := am (below_drew1 HB.1); have qQ : 0 ≤ (g6 : Int) := od; have qR : g6 < (g4.length : Int) := od
                        obtain ⟨t3, qB, qC, vC, oS, oT, oU, mG, oV, oW⟩ := at_T44 (Kd.N_reads' g9.1).2.2 g6 qQ qR
                        obtain rfl : g8 = t3 := (by injection vC)
                        obtain ⟨vX, rV, rW, qD⟩ := Kd.N_get g9.1 z44 g6 qQ (by first | exact qR | exact od | (have e_ := (Kd.N_reads' g9.1).1; omega))
                        obtain ⟨u7, u8, rfl, mH, mI⟩ := k44_openF rW
                        have kP := qD 3 _ rfl; rw [add_field _ _ 3 (by omega)] at kP; replace kP := Option.some.inj (kP.symm.trans mG); injection kP with hva_ hvn_ hvc_; rw [hva_] at mI; rw [hvc_] at mH; have iA := am (show Kd.V k25 25 _ w.heap.size _ _ ((rd_T44 g4 g6).f1.f2) from Kd.V_mk mH mI); clear hva_ hvn_ hvc_ mI mH qD rV; have mJ := am oW; have u9 := am oV; clear oW oV; replace qQ := eq_true qQ; replace qR := eq_true qR; have qS : 0 ≤ (gC : Int) := od; have qT : gC < (g7.length : Int) := od
                        obtain ⟨t4, qE, qF, vD, oX, oY, oZ, mK, p0, p1⟩ := at_T44 (Kd.N_reads' gB.1).2.2 gC qS qT
                        obtain rfl : gE = t4 := (by injection vD)
                        obtain ⟨vY, rX, rY, qG⟩ := Kd.N_get gB.1 z44 gC qS (by first | exact qT | exact od | (have e_ := (Kd.N_reads' gB.1).1; omega))
                        obtain ⟨uA, uB, rfl, mL, mM⟩ := k44_openF rY
                        have kQ := qG 3 _ rfl; rw [add_field _ _ 3 (by omega)] at kQ; replace kQ := Option.some.inj (kQ.symm.trans mK); injection kQ with hva_ hvn_ hvc_; rw [hva_] at mM; rw [hvc_] at mL; have iB := am (show Kd.V k25 25 _ w.heap.size _ _ ((rd_T44 g7 gC).f1.f2) from Kd.V_mk mL mM); clear hva_ hvn_ hvc_ mM mL qG rX; have mN := am p1; have uC := am p0; clear p1 p0; replace qS := eq_true qS; replace qT := eq_true qT
                        refine start_ (n := 18) (S := fun w' => w'.cell? ⟨g3, 0, none⟩ = some (.int .i64 gD) ∧ w'.cell? ⟨g3, 1, none⟩ = some (.int .i64 gI) ∧ w'.cell? ⟨g3, 2, none⟩ = some (.slice (some gJ) g1.length gU) ∧ w'.cell? (g8.add ((g6).toNat * 4)) = some (.int .i64 ((rd_T44 g4 g6).f0)) ∧ w'.cell? ⟨(g8.add ((g6).toNat * 4)).block, (g8.add ((g6).toNat * 4)).off + 1, none⟩ = some (.int .i64 ((rd_T44 g4 g6).f1.f0)) ∧ w'.cell? ⟨(g8.add ((g6).toNat * 4)).block, (g8.add ((g6).toNat * 4)).off + 2, none⟩ = some (.int .i64 ((rd_T44 g4 g6).f1.f1)) ∧ w'.cell? ⟨(g8.add ((g6).toNat * 4)).block, (g8.add ((g6).toNat * 4)).off + 3, none⟩ = some (.slice qB ((rd_T44 g4 g6).f1.f2).length qC) ∧ w'.cell? (gE.add ((gC).toNat * 4)) = some (.int .i64 ((rd_T44 g7 gC).f0)) ∧ w'.cell? ⟨(gE.add ((gC).toNat * 4)).block, (gE.add ((gC).toNat * 4)).off + 1, none⟩ = some (.int .i64 ((rd_T44 g7 gC).f1.f0)) ∧ w'.cell? ⟨(gE.add ((gC).toNat * 4)).block, (gE.add ((gC).toNat * 4)).off + 2, none⟩ = some (.int .i64 ((rd_T44 g7 gC).f1.f1)) ∧ w'.cell? ⟨(gE.add ((gC).toNat * 4)).block, (gE.add ((gC).toNat * 4)).off + 3, none⟩ = some (.slice qE ((rd_T44 g7 gC).f1.f2).length qF)) (ds := [15, 16]) #[ff,ff,ff,ff,ff,ff,ff,ff,ff,ff,ff,ff,ff,ff,ff,ff,ff,ff] (by kernel_rfl) rfl rfl ⟨(blk_cell g0.1 0).trans rfl, (blk_cell g0.1 1).trans rfl, (blk_cell g0.1 2).trans rfl, oS, oT, oU, mG, oX, oY, oZ, mK⟩ (fun hHeld => ?_); refine with_tabW spec_l17Steps.tab25 spec_l17Steps.bits25 (fun HT_ HW_ => ?_)
                        generalize w67.drew = w68 at gH g9 gB g2 gP gS gT g0 gY hP hQ HB iA iB mJ mN oS oT oU mG oX oY oZ mK hHeld ⊢
                        refine pu (i := 0) (N := some 134) #[tt,ff,ff,ff,ff,ff,ff,ff,ff,ff,ff,ff,ff,ff,ff,ff,ff,ff] HT_ ?_
                        refine pu (i := 1) (N := some 135) #[tt,tt,ff,ff,ff,ff,ff,ff,ff,ff,ff,ff,ff,ff,ff,ff,ff,ff] HT_ ?_
                        refine pu (i := 3) (N := some 137) #[tt,tt,ff,tt,ff,ff,ff,ff,ff,ff,ff,ff,ff,ff,ff,ff,ff,ff] HT_ ?_
                        refine pu (i := 4) (N := some 138) #[tt,tt,ff,tt,tt,ff,ff,ff,ff,ff,ff,ff,ff,ff,ff,ff,ff,ff] HT_ ?_
                        refine pu (i := 5) (N := some 139) #[tt,tt,ff,tt,tt,tt,ff,ff,ff,ff,ff,ff,ff,ff,ff,ff,ff,ff] HT_ ?_
                        refine pu (i := 6) (N := some 140) #[tt,tt,ff,tt,tt,tt,tt,ff,ff,ff,ff,ff,ff,ff,ff,ff,ff,ff] HT_ ?_
                        refine pu (i := 8) (N := some 142) #[tt,tt,ff,tt,tt,tt,tt,ff,tt,ff,ff,ff,ff,ff,ff,ff,ff,ff] HT_ ?_
                        refine pu (i := 9) (N := some 143) #[tt,tt,ff,tt,tt,tt,tt,ff,tt,tt,ff,ff,ff,ff,ff,ff,ff,ff] HT_ ?_
                        refine pu (i := 10) (N := some 144) #[tt,tt,ff,tt,tt,tt,tt,ff,tt,tt,tt,ff,ff,ff,ff,ff,ff,ff] HT_ ?_
                        refine pu (i := 11) (N := some 145) #[tt,tt,ff,tt,tt,tt,tt,ff,tt,tt,tt,tt,ff,ff,ff,ff,ff,ff] HT_ ?_
                        refine tk (i := 2) (N := some 136) #[tt,tt,tt,tt,tt,tt,tt,ff,tt,tt,tt,tt,ff,ff,ff,ff,ff,ff] HT_ HW_ hHeld ?_
                        refine tk (i := 7) (N := some 141) #[tt,tt,tt,tt,tt,tt,tt,tt,tt,tt,tt,tt,ff,ff,ff,ff,ff,ff] HT_ HW_ hHeld ?_
                        refine tk (i := 12) (N := some 146) #[tt,tt,tt,tt,tt,tt,tt,tt,tt,tt,tt,tt,tt,ff,ff,ff,ff,ff] HT_ HW_ hHeld ?_
                        refine on (i := 13) (N := some 147) #[tt,tt,tt,tt,tt,tt,tt,tt,tt,tt,tt,tt,tt,tt,ff,ff,ff,ff] HT_ (fun K hK => ?_)
                        refine goes_ Try.func65 (by kernel_rfl) rfl #[.int .i64 gD, .agg #[.int .i64 ((rd_T44 g4 g6).f1.f0), .int .i64 ((rd_T44 g4 g6).f1.f1), .slice qB ((rd_T44 g4 g6).f1.f2).length qC], .agg #[.int .i64 ((rd_T44 g7 gC).f1.f0), .int .i64 ((rd_T44 g7 gC).f1.f1), .slice qE ((rd_T44 g7 gC).f1.f2).length qF]] (by rfl) rfl rfl (by (try simp only [List.map_toArray, List.map_cons, List.map_nil]); first | done | rfl | (simp only [List.length_drop, List.length_take]; rfl)) ?_
                        with_reducible refine (spec_l17Two.calls gD ((rd_T44 g4 g6).f1.f0) ((rd_T44 g4 g6).f1.f1) (fun k_ => (((g5 k_ ∨ w.heap.size ≤ k_) ∧ (some k_ ≠ (u3 : Value).ownBlock ∧ (some k_ ≠ (.slice (some gE) g7.length hC : Value).ownBlock ∧ k_ ≠ g3))) ∧ some k_ ≠ (.slice (some g8) g4.length gM : Value).ownBlock)) _ _ ((rd_T44 g4 g6).f1.f2) ((rd_T44 g7 gC).f1.f0) ((rd_T44 g7 gC).f1.f1) (fun k_ => (((g5 k_ ∨ w.heap.size ≤ k_) ∧ (some k_ ≠ (u3 : Value).ownBlock ∧ (some k_ ≠ (.slice (some g8) g4.length gM : Value).ownBlock ∧ k_ ≠ g3))) ∧ some k_ ≠ (.slice (some gE) g7.length hC : Value).ownBlock)) _ _ ((rd_T44 g7 gC).f1.f2) pH pI iW _ ?side1 ?side2 A65.1).mono ?_
                        (case side1 => exact iA.1)
                        (case side2 => exact iB.1)
                        rintro e w69 ⟨wF, rfl, ho0, hb⟩
                        have kU := (hb.cell (World.block_lt_of_cell? _ _ (hHeld.2.2.2.1))).trans (hHeld.2.2.2.1)
                        have kV := (hb.cell (World.block_lt_of_cell? _ _ (hHeld.2.2.2.2.1))).trans (hHeld.2.2.2.2.1)
                        have kW := (hb.cell (World.block_lt_of_cell? _ _ (hHeld.2.2.2.2.2.1))).trans (hHeld.2.2.2.2.2.1)
                        have lL := (hb.cell (World.block_lt_of_cell? _ _ (hHeld.2.2.2.2.2.2.1))).trans (hHeld.2.2.2.2.2.2.1)
                        have lM := (hb.cell (World.block_lt_of_cell? _ _ (hHeld.2.2.2.2.2.2.2.1))).trans (hHeld.2.2.2.2.2.2.2.1)
                        have lN := (hb.cell (World.block_lt_of_cell? _ _ (hHeld.2.2.2.2.2.2.2.2.1))).trans (hHeld.2.2.2.2.2.2.2.2.1)
                        have pZ := (hb.cell (World.block_lt_of_cell? _ _ (hHeld.2.2.2.2.2.2.2.2.2.1))).trans (hHeld.2.2.2.2.2.2.2.2.2.1)
                        have n6 := (hb.cell (World.block_lt_of_cell? _ _ (hHeld.2.2.2.2.2.2.2.2.2.2))).trans (hHeld.2.2.2.2.2.2.2.2.2.2)
                        refine ⟨_, rfl, ?_⟩
                        replace g2 := ve g2 hb; replace gP := ve gP hb; replace gS := ve gS hb; replace gT := ve gT hb; replace iA := ve iA hb; replace iB := ve iB hb; have p3 := nm HB ho0 (fun k_ => (g5 k_ ∨ w.heap.size ≤ k_) ∧ some k_ ≠ (u3 : Value).ownBlock ∧ some k_ ≠ (.slice (some g8) g4.length gM : Value).ownBlock ∧ some k_ ≠ (.slice (some gE) g7.length hC : Value).ownBlock ∧ k_ ≠ g3) (fun k_ hk_ => ⟨Or.elim hk_ (fun hs_ => Or.elim hs_ (fun hs_ => hs_.1.1) (fun hs_ => hs_.1.1)) (fun hn_ => (.inr (zt HB hn_))), Or.elim hk_ (fun hs_ => Or.elim hs_ (fun hs_ => hs_.1.2.1) (fun hs_ => hs_.1.2.1)) (fun hn_ => (fr gH k_ hn_)), Or.elim hk_ (fun hs_ => Or.elim hs_ (fun hs_ => hs_.2) (fun hs_ => hs_.1.2.2.1)) (fun hn_ => (fr g9 k_ hn_)), Or.elim hk_ (fun hs_ => Or.elim hs_ (fun hs_ => hs_.1.2.2.1) (fun hs_ => hs_.2)) (fun hn_ => (fr gB k_ hn_)), Or.elim hk_ (fun hs_ => Or.elim hs_ (fun hs_ => hs_.1.2.2.2) (fun hs_ => hs_.1.2.2.2)) (fun hn_ => (fb g0 k_ hn_))⟩); replace gH := ne gH hb; replace g9 := ne g9 hb; replace gB := ne gB hb; replace g0 := kb g0 hb; replace gY := cb gY hb; replace hP := cb hP hb; replace hQ := cb hQ hb; replace mJ := cb mJ hb; replace mN := cb mN hb; replace HB := bs HB hb; (try clear hb); (try clear hb2); (try clear hk); (try clear hi); (try clear ho0)
                        obtain ⟨mO, mP, t5⟩ := Kd.N_slice p3.1
                        (first | subst t5 | (injection t5 with f1_ f2_ f3_; have f4_ := f1_.symm; have f5_ := f3_.symm; clear f1_ f2_ f3_; subst f4_; subst f5_))
                        refine hK.out _ _ ⟨(blk_cell g0.1 0).trans rfl, (blk_cell g0.1 1).trans rfl, (blk_cell g0.1 2).trans rfl, kU, kV, kW, lL, lM, lN, pZ, n6⟩ (fun hHeld => ?_)
                        clear hK K
                        refine norm_ (a' := ?_) ?_ ?_
                        rotate_left
                        ·
                         show Act.put _ (some 147) _ = _
                         simp only [Act.put, List.setIfInBounds_toArray, List.set_cons_zero, List.set_cons_succ, i64_w, i32_w]
                         rfl
                        refine pu (i := 14) (N := some 148) #[tt,tt,tt,tt,tt,tt,tt,tt,tt,tt,tt,tt,tt,tt,tt,ff,ff,ff] HT_ ?_
                        refine la (i := 15) (N := some 149) #[tt,tt,tt,tt,tt,tt,tt,tt,tt,tt,tt,tt,tt,tt,tt,tt,ff,ff] HT_ (fun K hK => ?_)
                        refine value_ (w1 := ?_) (v := ?_) (by rfl) rfl ?_ ?_
                        rotate_left 2
                        ·
                         go_simp
                         constructor
                         ·
                          rfl
                         ·
                          rfl
                        refine hK.out _ _ ?_
                        clear hK K
                        refine norm_ (a' := ?_) ?_ ?_
                        rotate_left
                        ·
                         show Act.put _ (some 149) _ = _
                         simp only [Act.put, List.setIfInBounds_toArray, List.set_cons_zero, List.set_cons_succ, i64_w, i32_w]
                         rfl
                        refine la (i := 16) (N := some 150) #[tt,tt,tt,tt,tt,tt,tt,tt,tt,tt,tt,tt,tt,tt,tt,tt,tt,ff] HT_ (fun K hK => ?_)
                        refine Kd.N_append_step k44 (w0 := w) w.heap.size (by rfl) (.tmp 134) (.tmp 149) 28 44 (.agg #[(.int .i64 0), (.int .i64 0), (.int .i64 0), (.slice none 0 0)]) 48 rfl Try.underlying28 info44 rfl (by decide) (by omega) u3 kY (⟨0, (⟨pH, pI, iW⟩ : S25)⟩ : S44) [.int .i64 0, .int .i64 pH, .int .i64 pI, .slice mO iW.length mP] (fun k_ => (g5 k_ ∨ w.heap.size ≤ k_) ∧ some k_ ≠ (.slice (some g8) g4.length gM : Value).ownBlock ∧ some k_ ≠ (.slice (some gE) g7.length hC : Value).ownBlock ∧ k_ ≠ g3) (fun k_ => ((fun k_ => (g5 k_ ∨ w.heap.size ≤ k_) ∧ some k_ ≠ (.slice (some g8) g4.length gM : Value).ownBlock ∧ some k_ ≠ (.slice (some gE) g7.length hC : Value).ownBlock ∧ k_ ≠ g3)) k_ ∧ some k_ ≠ (u3 : Value).ownBlock) rfl rfl ?aP (fun _ hk => hk) ?aF ?aO ?aB ?aS ?aL ?_
                        (case aP => exact (k44_mkF _ _ (⟨0, (⟨pH, pI, iW⟩ : S25)⟩ : S44) (Kd.N_reads' (Kd.N_mono (ok' := (fun k_ => ((fun k_ => (g5 k_ ∨ w.heap.size ≤ k_) ∧ some k_ ≠ (.slice (some g8) g4.length gM : Value).ownBlock ∧ some k_ ≠ (.slice (some gE) g7.length hC : Value).ownBlock ∧ k_ ≠ g3)) k_ ∧ some k_ ≠ (u3 : Value).ownBlock)) (p3.1) mq)).2.1 (Kd.N_F (Kd.N_mono (ok' := (fun k_ => ((fun k_ => (g5 k_ ∨ w.heap.size ≤ k_) ∧ some k_ ≠ (.slice (some g8) g4.length gM : Value).ownBlock ∧ some k_ ≠ (.slice (some gE) g7.length hC : Value).ownBlock ∧ k_ ≠ g3)) k_ ∧ some k_ ≠ (u3 : Value).ownBlock)) (p3.1) mq))))
                        (case aB => exact bq)
                        (case aF => exact (fun k_ hk => ⟨(.inr (zt HB hk)), Kd.fresh' (Kd.N_lt (n1 g9).1) k_ hk, Kd.fresh' (Kd.N_lt (n1 gB).1) k_ hk, Kd.freshB (g := g3) (o := .cells #[.int .i64 gD, .int .i64 gI, .slice (some gJ) g1.length gU] 25 (0, 0)) (kf g0).1 k_ hk⟩))
                        (case aO => exact (nf gH).1)
                        (case aS => exact (below_size bq))
                        (case aL => have := sY.1; omega)
                        intro wG w71 ho hb hg hat
                        rw [← t0.1] at ho; have n0_ := na g9 hg hat (fun k_ => (g5 k_ ∨ w.heap.size ≤ k_) ∧ some k_ ≠ (.slice (some gE) g7.length hC : Value).ownBlock ∧ some k_ ≠ (.slice mO iW.length mP : Value).ownBlock ∧ k_ ≠ g3); have n1_ := na gB hg hat (fun k_ => (g5 k_ ∨ w.heap.size ≤ k_) ∧ some k_ ≠ (.slice (some g8) g4.length gM : Value).ownBlock ∧ some k_ ≠ (.slice mO iW.length mP : Value).ownBlock ∧ k_ ≠ g3); have n2_ := va g2 hg hat (fun k_ => (g5 k_ ∨ w.heap.size ≤ k_) ∧ some k_ ≠ (.slice (some g8) g4.length gM : Value).ownBlock ∧ some k_ ≠ (.slice (some gE) g7.length hC : Value).ownBlock ∧ some k_ ≠ (.slice mO iW.length mP : Value).ownBlock ∧ k_ ≠ g3); have n3_ := kg g0 hg (Kd.N_ne gH.1 g0.1 (by decide)); have n4_ := va gP hg hat (fun k_ => (g5 k_ ∨ w.heap.size ≤ k_) ∧ some k_ ≠ (.slice (some g8) g4.length gM : Value).ownBlock ∧ some k_ ≠ (.slice (some gE) g7.length hC : Value).ownBlock ∧ some k_ ≠ (.slice mO iW.length mP : Value).ownBlock ∧ k_ ≠ g3); have n5_ := va gS hg hat (fun k_ => (g5 k_ ∨ w.heap.size ≤ k_) ∧ some k_ ≠ (.slice (some g8) g4.length gM : Value).ownBlock ∧ some k_ ≠ (.slice (some gE) g7.length hC : Value).ownBlock ∧ some k_ ≠ (.slice mO iW.length mP : Value).ownBlock ∧ k_ ≠ g3); have n6_ := va gT hg hat (fun k_ => (g5 k_ ∨ w.heap.size ≤ k_) ∧ some k_ ≠ (.slice (some g8) g4.length gM : Value).ownBlock ∧ some k_ ≠ (.slice (some gE) g7.length hC : Value).ownBlock ∧ some k_ ≠ (.slice mO iW.length mP : Value).ownBlock ∧ k_ ≠ g3); have n7_ := va iA hg hat (fun k_ => (g5 k_ ∨ w.heap.size ≤ k_) ∧ some k_ ≠ (.slice (some g8) g4.length gM : Value).ownBlock ∧ some k_ ≠ (.slice (some gE) g7.length hC : Value).ownBlock ∧ some k_ ≠ (.slice mO iW.length mP : Value).ownBlock ∧ k_ ≠ g3); have n8_ := va iB hg hat (fun k_ => (g5 k_ ∨ w.heap.size ≤ k_) ∧ some k_ ≠ (.slice (some g8) g4.length gM : Value).ownBlock ∧ some k_ ≠ (.slice (some gE) g7.length hC : Value).ownBlock ∧ some k_ ≠ (.slice mO iW.length mP : Value).ownBlock ∧ k_ ≠ g3); have n9_ := am (hb); have t6 := am (ho); clear g9 gB g2 g0 gP gS gT iA iB HB gH p3; have g9 := n0_; have gB := n1_; have g2 := n2_; have g0 := n3_; have gP := n4_; have gS := n5_; have gT := n6_; have iA := n7_; have iB := n8_; have HB := n9_; have t7 := t6; clear n0_ n1_ n2_ n3_ n4_ n5_ n6_ n7_ n8_ n9_ t6 ho hb hg hat
                        refine hK.out _ _ ?_
                        clear hK K
                        refine norm_ (a' := ?_) ?_ ?_
                        rotate_left
                        ·
                         show Act.put _ (some 150) _ = _
                         simp only [Act.put, List.setIfInBounds_toArray, List.set_cons_zero, List.set_cons_succ, i64_w, i32_w]
                         rfl
                        refine pu (i := 17) (N := some 3) #[tt,tt,tt,tt,tt,tt,tt,tt,tt,tt,tt,tt,tt,tt,tt,tt,tt,tt] HT_ ?_
                        refine done_ (done_of HT_.1 (by kernel_rfl)) ?_
                        try go_wp2
                        go_roundg k4
                        case measure => have := HK1.1; have := HK2.1; have := HK3.1; have := HK4.1; omega
                        case rel => exact ⟨(sZ), (wrap64 (gC + 1)), rq, H', km, nf t7, nf g9, nf gB, vf g2, kf g0, bw⟩
                       ·
                        rw [if_neg c66] at H
                        exact absurd H (by simp)
                      ·
                       rw [if_neg c64] at H; have c64b0 : (((rd_T44 g4 g6).f0) == (wrap64 (-((rd_T44 g7 gC).f0)))) = false := beq_eq_false_iff_ne.mpr c64; have c64b1 : (((rd_T44 g4 g6).f0) != (wrap64 (-((rd_T44 g7 gC).f0)))) = true := bne_iff_ne.mpr c64
                       have H' := am H
                       clear H
                       try go_wp2
                       replace gH := am (Kd.N_drew gH.1); replace g9 := am (Kd.N_drew g9.1); replace gB := am (Kd.N_drew gB.1); replace g2 := am (Kd.V_drew g2.1); replace g0 := am (blk_drew g0.1); replace HB := am (below_drew1 HB.1); have iU : 0 ≤ (g6 : Int) := od; have iV : g6 < (g4.length : Int) := od
                       obtain ⟨g8, iJ, iK, q9, hJ, hL, hM, gO, hN, hO⟩ := at_T44 (Kd.N_reads' g9.1).2.2 g6 iU iV
                       cases q9
                       obtain ⟨qX, kZ, l4, iC⟩ := Kd.N_get g9.1 z44 g6 iU (by first | exact iV | exact od | (have e_ := (Kd.N_reads' g9.1).1; omega))
                       obtain ⟨oP, oQ, rfl, gQ, gR⟩ := k44_openF l4
                       have gN := iC 3 _ rfl; rw [add_field _ _ 3 (by omega)] at gN; replace gN := Option.some.inj (gN.symm.trans gO); injection gN with hva_ hvn_ hvc_; rw [hva_] at gR; rw [hvc_] at gQ; have gP := am (show Kd.V k25 25 _ w.heap.size _ _ ((rd_T44 g4 g6).f1.f2) from Kd.V_mk gQ gR); clear hva_ hvn_ hvc_ gR gQ iC kZ; have gY := am hO; have oR := am hN; clear hO hN; replace iU := eq_true iU; replace iV := eq_true iV; have mC : 0 ≤ (g6 : Int) := od; have mD : g6 < (g4.length : Int) := od
                       obtain ⟨qA, rR, rS, rT, iX, iY, iZ, h9, j3, j4⟩ := at_T44 (Kd.N_reads' g9.1).2.2 g6 mC mD
                       obtain rfl : g8 = qA := (by injection rT)
                       obtain ⟨t1, nS, nT, l5⟩ := Kd.N_get g9.1 z44 g6 mC (by first | exact mD | exact od | (have e_ := (Kd.N_reads' g9.1).1; omega))
                       obtain ⟨qK, qL, rfl, i5, i6⟩ := k44_openF nT
                       have hA := l5 3 _ rfl; rw [add_field _ _ 3 (by omega)] at hA; replace hA := Option.some.inj (hA.symm.trans h9); injection hA with hva_ hvn_ hvc_; rw [hva_] at i6; rw [hvc_] at i5; have gS := am (show Kd.V k25 25 _ w.heap.size _ _ ((rd_T44 g4 g6).f1.f2) from Kd.V_mk i5 i6); clear hva_ hvn_ hvc_ i6 i5 l5 nS; have hP := am j4; have qM := am j3; clear j4 j3; replace mC := eq_true mC; replace mD := eq_true mD
                       have ea_ := Option.some.inj (gO.symm.trans h9)
                       injection ea_ with ea_ en_ ec_
                       subst ea_
                       subst ec_
                       clear en_; have mE : 0 ≤ (gC : Int) := od; have mF : gC < (g7.length : Int) := od
                       obtain ⟨gE, nU, nV, rU, j5, j6, j7, i7, j8, j9⟩ := at_T44 (Kd.N_reads' gB.1).2.2 gC mE mF
                       cases rU
                       obtain ⟨t2, nW, nX, l6⟩ := Kd.N_get gB.1 z44 gC mE (by first | exact mF | exact od | (have e_ := (Kd.N_reads' gB.1).1; omega))
                       obtain ⟨qN, qO, rfl, i8, i9⟩ := k44_openF nX
                       have hB := l6 3 _ rfl; rw [add_field _ _ 3 (by omega)] at hB; replace hB := Option.some.inj (hB.symm.trans i7); injection hB with hva_ hvn_ hvc_; rw [hva_] at i9; rw [hvc_] at i8; have gT := am (show Kd.V k25 25 _ w.heap.size _ _ ((rd_T44 g7 gC).f1.f2) from Kd.V_mk i8 i9); clear hva_ hvn_ hvc_ i9 i8 l6 nW; have hQ := am j9; have qP := am j8; clear j9 j8; replace mE := eq_true mE; replace mF := eq_true mF
                       refine start_ (n := 20) (S := fun w' => w'.cell? (g8.add ((g6).toNat * 4)) = some (.int .i64 ((rd_T44 g4 g6).f0)) ∧ w'.cell? ⟨(g8.add ((g6).toNat * 4)).block, (g8.add ((g6).toNat * 4)).off + 1, none⟩ = some (.int .i64 ((rd_T44 g4 g6).f1.f0)) ∧ w'.cell? ⟨(g8.add ((g6).toNat * 4)).block, (g8.add ((g6).toNat * 4)).off + 2, none⟩ = some (.int .i64 ((rd_T44 g4 g6).f1.f1)) ∧ w'.cell? ⟨(g8.add ((g6).toNat * 4)).block, (g8.add ((g6).toNat * 4)).off + 3, none⟩ = some (.slice iJ ((rd_T44 g4 g6).f1.f2).length iK) ∧ w'.cell? (g8.add ((g6).toNat * 4)) = some (.int .i64 ((rd_T44 g4 g6).f0)) ∧ w'.cell? ⟨(g8.add ((g6).toNat * 4)).block, (g8.add ((g6).toNat * 4)).off + 1, none⟩ = some (.int .i64 ((rd_T44 g4 g6).f1.f0)) ∧ w'.cell? ⟨(g8.add ((g6).toNat * 4)).block, (g8.add ((g6).toNat * 4)).off + 2, none⟩ = some (.int .i64 ((rd_T44 g4 g6).f1.f1)) ∧ w'.cell? ⟨(g8.add ((g6).toNat * 4)).block, (g8.add ((g6).toNat * 4)).off + 3, none⟩ = some (.slice iJ ((rd_T44 g4 g6).f1.f2).length iK) ∧ w'.cell? (gE.add ((gC).toNat * 4)) = some (.int .i64 ((rd_T44 g7 gC).f0)) ∧ w'.cell? ⟨(gE.add ((gC).toNat * 4)).block, (gE.add ((gC).toNat * 4)).off + 1, none⟩ = some (.int .i64 ((rd_T44 g7 gC).f1.f0)) ∧ w'.cell? ⟨(gE.add ((gC).toNat * 4)).block, (gE.add ((gC).toNat * 4)).off + 2, none⟩ = some (.int .i64 ((rd_T44 g7 gC).f1.f1)) ∧ w'.cell? ⟨(gE.add ((gC).toNat * 4)).block, (gE.add ((gC).toNat * 4)).off + 3, none⟩ = some (.slice nU ((rd_T44 g7 gC).f1.f2).length nV)) (ds := []) #[ff,ff,ff,ff,ff,ff,ff,ff,ff,ff,ff,ff,ff,ff,ff,ff,ff,ff,ff,ff] (by kernel_rfl) rfl rfl ⟨hJ, hL, hM, gO, iX, iY, iZ, h9, j5, j6, j7, i7⟩ (fun hHeld => ?_); refine with_tabW spec_l17Steps.tab24 spec_l17Steps.bits24 (fun HT_ HW_ => ?_)
                       generalize wr.drew = w72 at gH g9 gB g2 g0 HB gP gS gT gY hP hQ hJ hL hM gO iX iY iZ h9 j5 j6 j7 i7 hHeld ⊢
                       refine pu (i := 0) (N := some 114) #[tt,ff,ff,ff,ff,ff,ff,ff,ff,ff,ff,ff,ff,ff,ff,ff,ff,ff,ff,ff] HT_ ?_
                       refine pu (i := 1) (N := some 115) #[tt,tt,ff,ff,ff,ff,ff,ff,ff,ff,ff,ff,ff,ff,ff,ff,ff,ff,ff,ff] HT_ ?_
                       refine pu (i := 2) (N := some 116) #[tt,tt,tt,ff,ff,ff,ff,ff,ff,ff,ff,ff,ff,ff,ff,ff,ff,ff,ff,ff] HT_ ?_
                       refine pu (i := 3) (N := some 117) #[tt,tt,tt,tt,ff,ff,ff,ff,ff,ff,ff,ff,ff,ff,ff,ff,ff,ff,ff,ff] HT_ ?_
                       refine tk (i := 4) (N := some 118) #[tt,tt,tt,tt,tt,ff,ff,ff,ff,ff,ff,ff,ff,ff,ff,ff,ff,ff,ff,ff] HT_ HW_ hHeld ?_
                       refine pu (i := 5) (N := some 119) #[tt,tt,tt,tt,tt,tt,ff,ff,ff,ff,ff,ff,ff,ff,ff,ff,ff,ff,ff,ff] HT_ ?_
                       refine pu (i := 6) (N := some 120) #[tt,tt,tt,tt,tt,tt,tt,ff,ff,ff,ff,ff,ff,ff,ff,ff,ff,ff,ff,ff] HT_ ?_
                       refine pu (i := 7) (N := some 121) #[tt,tt,tt,tt,tt,tt,tt,tt,ff,ff,ff,ff,ff,ff,ff,ff,ff,ff,ff,ff] HT_ ?_
                       refine pu (i := 8) (N := some 122) #[tt,tt,tt,tt,tt,tt,tt,tt,tt,ff,ff,ff,ff,ff,ff,ff,ff,ff,ff,ff] HT_ ?_
                       refine pu (i := 9) (N := some 123) #[tt,tt,tt,tt,tt,tt,tt,tt,tt,tt,ff,ff,ff,ff,ff,ff,ff,ff,ff,ff] HT_ ?_
                       refine pu (i := 10) (N := some 124) #[tt,tt,tt,tt,tt,tt,tt,tt,tt,tt,tt,ff,ff,ff,ff,ff,ff,ff,ff,ff] HT_ ?_
                       refine pu (i := 12) (N := some 126) #[tt,tt,tt,tt,tt,tt,tt,tt,tt,tt,tt,ff,tt,ff,ff,ff,ff,ff,ff,ff] HT_ ?_
                       refine pu (i := 13) (N := some 127) #[tt,tt,tt,tt,tt,tt,tt,tt,tt,tt,tt,ff,tt,tt,ff,ff,ff,ff,ff,ff] HT_ ?_
                       refine pu (i := 14) (N := some 128) #[tt,tt,tt,tt,tt,tt,tt,tt,tt,tt,tt,ff,tt,tt,tt,ff,ff,ff,ff,ff] HT_ ?_
                       refine pu (i := 15) (N := some 129) #[tt,tt,tt,tt,tt,tt,tt,tt,tt,tt,tt,ff,tt,tt,tt,tt,ff,ff,ff,ff] HT_ ?_
                       refine tk (i := 11) (N := some 125) #[tt,tt,tt,tt,tt,tt,tt,tt,tt,tt,tt,tt,tt,tt,tt,tt,ff,ff,ff,ff] HT_ HW_ hHeld ?_
                       refine tk (i := 16) (N := some 130) #[tt,tt,tt,tt,tt,tt,tt,tt,tt,tt,tt,tt,tt,tt,tt,tt,tt,ff,ff,ff] HT_ HW_ hHeld ?_
                       refine pu (i := 17) (N := some 131) #[tt,tt,tt,tt,tt,tt,tt,tt,tt,tt,tt,tt,tt,tt,tt,tt,tt,tt,ff,ff] HT_ ?_
                       refine pu (i := 18) (N := some 132) #[tt,tt,tt,tt,tt,tt,tt,tt,tt,tt,tt,tt,tt,tt,tt,tt,tt,tt,tt,ff] HT_ ?_
                       refine pu (i := 19) (N := some 133) #[tt,tt,tt,tt,tt,tt,tt,tt,tt,tt,tt,tt,tt,tt,tt,tt,tt,tt,tt,tt] HT_ ?_
                       refine done_ (done_of HT_.1 (by kernel_rfl)) ?_
                       try go_wp2
                       go_roundg k4
                       case measure => have := HK1.1; have := HK2.1; have := HK3.1; have := HK4.1; omega
                       case rel => exact ⟨(kY), (wrap64 (gC + 1)), rq, H', km, nf gH, nf g9, nf gB, vf g2, kf g0, bw⟩
                     ·
                      rw [if_neg c63] at H
                      exact absurd H (by simp)
                   ·
                    rw [if_neg c60] at H
                    exact absurd H (by simp)
                  ·
                   rw [if_neg c59] at H
                   exact absurd H (by simp)
                 ·
                  rw [if_neg c58] at H; have c58b0 : decide (gC < (g7.length : Int)) = false := decide_eq_false c58; clear c58
                  have H' := am H
                  clear H
                  go_wp2
                  go_roundg k4
                  case measure => have := HK1.1; have := HK2.1; have := HK3.1; have := HK4.1; omega
                  case rel => exact ⟨(kY), (wrap64 (g6 + 1)), rq, H', km, nf gH, nf g9, nf gB, vf g2, kf g0, bw⟩
              ·
               rw [if_neg c57] at H; have c57b0 : decide (g6 < (g4.length : Int)) = false := decide_eq_false c57; clear c57
               obtain rfl := Option.some.inj H
               go_wp2
               go_ret
               exact ⟨_, by first | rfl | (simp [errW_none, errW_some] <;> rfl) | (simp [*, errW_none, errW_some] <;> rfl), by (with_reducible repeat (first | apply Kd.N_alloc | apply Kd.N_drewN | apply Kd.N_drew)); exact Kd.N_mono gH.1 mq, by repeat (first | (with_reducible first | exact HB.1 | apply below_alloc | apply pw_below_drewN | apply below_drew1 | refine below_set ?_ kS.1) | exact HB.1)⟩
     ·
      rw [if_neg c25] at H
      exact absurd H (by simp)
    ·
     rw [if_neg c23] at H
     exact absurd H (by simp)
   ·
    rw [if_neg c22] at H; have c22b0 : (gD == 4) = false := beq_eq_false_iff_ne.mpr c22; have c22b1 : (gD != 4) = true := bne_iff_ne.mpr c22
    obtain ⟨vE, nA⟩ : ∃ y_ : List (S44), y_ = (([] : List (S44))) := ⟨_, rfl⟩
    replace H : (some vE) = some r := by first | (rw [nA]; with_reducible exact H) | (have H2_ := (Option.bind_some _ _).symm.trans H; rw [nA]; with_reducible exact H2_) | (have H2_ := (Option.bind_some _ _).symm.trans H; with_reducible exact H2_) | with_reducible exact H | (rw [nA]; exact H) | exact H
    have qY := am nA
    clear nA
    obtain rfl := Option.some.inj H
    go_enter Try.func50, Try.ntmps50
    go_wp2_with (first | ((with_reducible refine gate_dst (N := 1) rfl ?_); refine bx (cs := #[.int .i64 gD, .int .i64 gI, .slice l7 g1.length gU]) (t := 25) fun g3 hg w73 hbox hb => ?_; replace gA := vb gA hg hb; have g0 := am (hbox); have pJ := bz HB hg; have kS := bz HB hg; replace HB := bs HB hb; clear hb hbox hg; obtain ⟨uD, uE, uF, uG, uH, uI⟩ := cs3 g0) | ((with_reducible refine gate_dst (N := 152) rfl ?_); refine Kd.N_lit k44 _ 44 ?hg (N' := 152) ?hd (xs := ([] : List (S44))) (inner := []) (ok := (fun k_ => (g5 k_ ∨ w.heap.size ≤ k_) ∧ k_ ≠ g3)) (okp := (fun k_ => (g5 k_ ∨ w.heap.size ≤ k_) ∧ k_ ≠ g3)) ?hr ?hp (fun _ hk => hk) ((show ∀ k_, w73.heap.size ≤ k_ → (fun k_ => (g5 k_ ∨ w.heap.size ≤ k_) ∧ k_ ≠ g3) k_ from fun k_ hk => ⟨(.inr (zt HB hk)), Kd.freshB (g := g3) (o := .cells #[.int .i64 gD, .int .i64 gI, .slice l7 g1.length gU] 25 (0, 0)) (kf g0).1 k_ hk⟩) _ (Nat.le_refl _)) (Below.refl _ _) (Nat.le_refl _) (by simp) ?_; (case hd => rfl); (case hg => rfl); (case hr => first | (go_simp; done) | (go_simp; rfl)); (case hp => exact (Reps.none _ _)); intro wH w75 nY hb hg_ hnew_; clear hg_ hnew_; (first | rw [← qY.1] at nY | (simp only [Int.reduceToNat] at nY; rw [← qY.1] at nY)); replace gA := ve gA hb (by first | exact Kd.N_base nY | exact Kd.R_base nY); have t8 := am (Kd.N_lower nY (below_size bq)); replace g0 := kb g0 hb; replace HB := bs HB hb; clear hb nY))
    go_ret
    exact ⟨_, by first | rfl | (simp [errW_none, errW_some] <;> rfl) | (simp [*, errW_none, errW_some] <;> rfl), by (with_reducible repeat (first | apply Kd.N_alloc | apply Kd.N_drewN | apply Kd.N_drew)); exact Kd.N_mono t8.1 mq, by repeat (first | (with_reducible first | exact HB.1 | apply below_alloc | apply pw_below_drewN | apply below_drew1 | refine below_set ?_ kS.1) | exact HB.1)⟩
end Go.Proofs.Ytfnmjecofgeboaa.PAll
