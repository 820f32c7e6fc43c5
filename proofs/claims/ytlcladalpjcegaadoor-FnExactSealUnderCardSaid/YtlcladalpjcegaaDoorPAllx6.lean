-- Laid by a program of this session
import Derived.Test.YtlcladalpjcegaaDoorPAllx0
import Derived.Test.YtlcladalpjcegaaDoorPAllx3
import Derived.Test.YtlcladalpjcegaaDoorPAllx5
namespace Go.Proofs.YtlcladalpjcegaaDoor.PAll
open Go.RowKit Go.Proofs.YtlcladalpjcegaaDoorW.PrintWords Go.Proofs.YtlcladalpjcegaaDoorW.PrintLast Go.Proofs.YtlcladalpjcegaaDoorW.PrintMore
attribute [local go_sem] max2_int min2_int max_two min_two max_three min_three max_four min_four   -- for this text's walks alone
set_option linter.unusedVariables false
set_option linter.unusedSimpArgs false

/-! ### spec_l20Text: function 48 -/
def spec_l20Text.f : Nat → Int → Int → List (S25) → Option (ByteArray)
  | 0, _, _, _ => none
  | k + 1, a0_0, a0_1, l0_2 => if a0_0 = 0 then ((spec_l6Dec.f k a0_1).bind fun t234 => (if 1 + t234.size ≤ 9223372036854775807 then (some ((⟨#[109]⟩ : ByteArray) ++ t234)) else (none))) else (if a0_0 = 1 then (if 0 < (l0_2.length : Int) then ((spec_l20Text.f k ((rd_T25 l0_2 0).f0) ((rd_T25 l0_2 0).f1) ((rd_T25 l0_2 0).f2)).bind fun t236 => (if 1 + t236.size ≤ 9223372036854775807 then (if ((⟨#[40]⟩ : ByteArray) ++ t236).size + 1 ≤ 9223372036854775807 then (if 1 < (l0_2.length : Int) then ((spec_l20Text.f k ((rd_T25 l0_2 1).f0) ((rd_T25 l0_2 1).f1) ((rd_T25 l0_2 1).f2)).bind fun t238 => (if (((⟨#[40]⟩ : ByteArray) ++ t236) ++ (⟨#[32]⟩ : ByteArray)).size + t238.size ≤ 9223372036854775807 then (if ((((⟨#[40]⟩ : ByteArray) ++ t236) ++ (⟨#[32]⟩ : ByteArray)) ++ t238).size + 1 ≤ 9223372036854775807 then (some (((((⟨#[40]⟩ : ByteArray) ++ t236) ++ (⟨#[32]⟩ : ByteArray)) ++ t238) ++ (⟨#[41]⟩ : ByteArray))) else (none)) else (none))) else (none)) else (none)) else (none))) else (none)) else (if 1 < (l0_2.length : Int) then ((spec_l20Text.f k ((rd_T25 l0_2 1).f0) ((rd_T25 l0_2 1).f1) ((rd_T25 l0_2 1).f2)).bind fun t240 => (if 1 + t240.size ≤ 9223372036854775807 then (if ((⟨#[123]⟩ : ByteArray) ++ t240).size + 1 ≤ 9223372036854775807 then (if 0 < (l0_2.length : Int) then ((spec_l20Text.f k ((rd_T25 l0_2 0).f0) ((rd_T25 l0_2 0).f1) ((rd_T25 l0_2 0).f2)).bind fun t242 => (if (((⟨#[123]⟩ : ByteArray) ++ t240) ++ (⟨#[125]⟩ : ByteArray)).size + t242.size ≤ 9223372036854775807 then (some ((((⟨#[123]⟩ : ByteArray) ++ t240) ++ (⟨#[125]⟩ : ByteArray)) ++ t242)) else (none))) else (none)) else (none)) else (none))) else (none)))
theorem spec_l20Text.mono_l : ∀ k, (∀ y0 y1 y2, LeO (spec_l20Text.f k y0 y1 y2) (spec_l20Text.f (k + 1) y0 y1 y2))
  | 0 => fun _ _ _ r h => by simp [spec_l20Text.f] at h
  | k + 1 => by
    have ih0 := spec_l20Text.mono_l k
    · intro y0 y1 y2
      unfold spec_l20Text.f
      repeat' first
      | (with_reducible exact ih0 _ _ _)
      | (with_reducible exact spec_l6Dec.mono _ _)
      | (with_reducible exact LeO.refl _)
      | (with_reducible exact LeO.none _)
      | (with_reducible refine LeO.ite ?_ ?_)
      | (with_reducible refine LeO.bind ?_ (fun _ => ?_))
      | exact ih0 _ _ _
      | exact spec_l6Dec.mono _ _
      | exact LeO.none _
      | refine LeO.ite ?_ ?_
      | refine LeO.bind ?_ (fun _ => ?_)
theorem spec_l20Text.mono : ∀ a0 a1 a2 k, LeO (spec_l20Text.f k a0 a1 a2) (spec_l20Text.f (k + 1) a0 a1 a2) := by
  intro a0 a1 a2 k
  have ih0 := spec_l20Text.mono_l k
  exact ih0 a0 a1 a2
def spec_l20Text.T5 : Bool × List (List Nat × List Nat) := (true, [([], []), ([0], [0]), ([1], [1]), ([2], [2]), ([3], [3]), ([4], [4]), ([5], [5]), ([], []), ([7], [7]), ([8], [8]), ([9], [9]), ([10, 4], [10]), ([6, 11], [6, 11]), ([12], [12]), ([13, 11, 0, 1, 2, 3, 4, 5, 6, 7, 8, 9, 10, 11, 12, 13], [13])])
def spec_l20Text.B5 : List Nat := [0, 1, 3, 7, 15, 31, 63, 0, 128, 384, 896, 1951, 4095, 8191, 16383]
theorem spec_l20Text.tab5 : rtab .any (opsOf Tryd.f48 5) = spec_l20Text.T5 := by kernel_rfl
theorem spec_l20Text.bits5 : waitsOk spec_l20Text.T5.2 spec_l20Text.B5 = true := by kernel_rfl
def spec_l20Text.T6 : Bool × List (List Nat × List Nat) := (true, [([], []), ([0], [0]), ([1], [1]), ([2], [2]), ([3], [3]), ([4], [4]), ([5], [5]), ([], []), ([7], [7]), ([8], [8]), ([9], [9]), ([10, 4], [10]), ([6, 11], [6, 11]), ([12, 11, 0, 1, 2, 3, 4, 5, 6, 7, 8, 9, 10, 11, 12], [12])])
def spec_l20Text.B6 : List Nat := [0, 1, 3, 7, 15, 31, 63, 0, 128, 384, 896, 1951, 4095, 8191]
theorem spec_l20Text.tab6 : rtab .any (opsOf Tryd.f48 6) = spec_l20Text.T6 := by kernel_rfl
theorem spec_l20Text.bits6 : waitsOk spec_l20Text.T6.2 spec_l20Text.B6 = true := by kernel_rfl
set_option maxHeartbeats 8000000 in
set_option maxRecDepth 100000 in
theorem spec_l20Text.calls (k : Nat) : ∀ (a0_0 : Int) (a0_1 : Int) (A0_2 : Option Addr) (c0_2 : Nat) (l0_2 : List (S25)) (r : ByteArray) (w : World) (hr0_2 : Kd.C k25 w A0_2 l0_2.length l0_2) (hc0_2 : l0_2.length ≤ c0_2) (h : spec_l20Text.f k a0_0 a0_1 l0_2 = some r),
    Calls Tryd.prog 48 #[.agg #[.int .i64 a0_0, .int .i64 a0_1, .slice A0_2 l0_2.length c0_2]] w fun e w' => e = .returned (.string r) ∧ Below w.heap.size w w' := by
  induction k using Nat.strongRecOn with
  | _ k ih =>
  intro a0_0 a0_1 A0_2 c0_2 l0_2 r w hr0_2 hc0_2 h
  cases k with
  | zero => exact absurd h (by simp [spec_l20Text.f])
  | succ k =>
  simp only [spec_l20Text.f] at h
  have hu25 := Tryd.underlying25
  have HR0_2 := Aside0.mk hr0_2
  have HC0_2 := Aside0.mk hc0_2
  clear hr0_2 hc0_2
  have HB := Aside0.mk (Below.refl w.heap.size w)
  have H : (if a0_0 = 0 then ((spec_l6Dec.f k a0_1).bind fun t234 => (if 1 + t234.size ≤ 9223372036854775807 then (some ((⟨#[109]⟩ : ByteArray) ++ t234)) else (none))) else (if a0_0 = 1 then (if 0 < (l0_2.length : Int) then ((spec_l20Text.f k ((rd_T25 l0_2 0).f0) ((rd_T25 l0_2 0).f1) ((rd_T25 l0_2 0).f2)).bind fun t236 => (if 1 + t236.size ≤ 9223372036854775807 then (if ((⟨#[40]⟩ : ByteArray) ++ t236).size + 1 ≤ 9223372036854775807 then (if 1 < (l0_2.length : Int) then ((spec_l20Text.f k ((rd_T25 l0_2 1).f0) ((rd_T25 l0_2 1).f1) ((rd_T25 l0_2 1).f2)).bind fun t238 => (if (((⟨#[40]⟩ : ByteArray) ++ t236) ++ (⟨#[32]⟩ : ByteArray)).size + t238.size ≤ 9223372036854775807 then (if ((((⟨#[40]⟩ : ByteArray) ++ t236) ++ (⟨#[32]⟩ : ByteArray)) ++ t238).size + 1 ≤ 9223372036854775807 then (some (((((⟨#[40]⟩ : ByteArray) ++ t236) ++ (⟨#[32]⟩ : ByteArray)) ++ t238) ++ (⟨#[41]⟩ : ByteArray))) else (none)) else (none))) else (none)) else (none)) else (none))) else (none)) else (if 1 < (l0_2.length : Int) then ((spec_l20Text.f k ((rd_T25 l0_2 1).f0) ((rd_T25 l0_2 1).f1) ((rd_T25 l0_2 1).f2)).bind fun t240 => (if 1 + t240.size ≤ 9223372036854775807 then (if ((⟨#[123]⟩ : ByteArray) ++ t240).size + 1 ≤ 9223372036854775807 then (if 0 < (l0_2.length : Int) then ((spec_l20Text.f k ((rd_T25 l0_2 0).f0) ((rd_T25 l0_2 0).f1) ((rd_T25 l0_2 0).f2)).bind fun t242 => (if (((⟨#[123]⟩ : ByteArray) ++ t240) ++ (⟨#[125]⟩ : ByteArray)).size + t242.size ≤ 9223372036854775807 then (some ((((⟨#[123]⟩ : ByteArray) ++ t240) ++ (⟨#[125]⟩ : ByteArray)) ++ t242)) else (none))) else (none)) else (none)) else (none))) else (none)))) = some r := h
  clear h
  by_cases c2 : a0_0 = 0
  · rw [if_pos c2] at H
    have c2b0 : (a0_0 == 0) = true := beq_iff_eq.mpr c2
    have c2b1 : (a0_0 != 0) = false := bne_eq_false_iff_eq.mpr c2
    clear c2
    replace H := Option.bind_eq_some_iff.mp H
    obtain ⟨t234, A30, H⟩ := H
    replace H : (if 1 + t234.size ≤ 9223372036854775807 then (some ((⟨#[109]⟩ : ByteArray) ++ t234)) else (none)) = some r := H
    have A3 := Aside0.mk A30
    clear A30
    by_cases c4 : 1 + t234.size ≤ 9223372036854775807
    · rw [if_pos c4] at H
      have c4b0 := eq_true c4
      have c4b1 : decide (1 + t234.size ≤ 9223372036854775807) = true := decide_eq_true c4
      try have c4b2 : (9223372036854775807 < 1 + t234.size) = False := eq_false (Nat.not_lt.2 c4)
      obtain rfl := Option.some.inj H
      go_enter Tryd.func48, Tryd.ntmps48
      go_wp2_with (first | ((with_reducible refine gate_dst (N := 1) rfl ?_); refine box_event ?hg (N := 1) ?hd (cs := #[.int .i64 a0_0, .int .i64 a0_1, .slice A0_2 l0_2.length c0_2]) (t := 25) ?hr ?_; (case hd => rfl); (case hg => rfl); (case hr => first | (go_simp; done) | (go_simp; rfl)); intro gb233 hg w5 hbox hb; have n0_ := Aside0.mk (below_step (by repeat (first | (with_reducible first | exact HB.out | apply below_alloc | apply pw_below_drewN | apply below_drew1) | exact HB.out)) hb); have n1_ := Aside0.mk (hbox); have n2_ := Aside0.mk ((by rw [hg]; exact (below_size (by repeat (first | (with_reducible first | exact HB.out | apply below_alloc | apply pw_below_drewN | apply below_drew1) | exact HB.out))) : w.heap.size ≤ gb233)); have n3_ := Aside0.mk ((by rw [hg]; exact (below_size (by repeat (first | (with_reducible first | exact HB.out | apply below_alloc | apply pw_below_drewN | apply below_drew1) | exact HB.out))) : w.heap.size ≤ gb233)); clear HB; have HB := n0_; have BK233 := n1_; have GW233 := n2_; have GE233 := n3_; clear n0_ n1_ n2_ n3_; clear hb hbox hg; have hcz6_0 : w5.cell? ⟨gb233, 0, none⟩ = some (.int .i64 a0_0) := (blk_cell BK233.out 0).trans rfl; have hcz6_1 : w5.cell? ⟨gb233, 1, none⟩ = some (.int .i64 a0_1) := (blk_cell BK233.out 1).trans rfl; have hcz6_2 : w5.cell? ⟨gb233, 2, none⟩ = some (.slice A0_2 l0_2.length c0_2) := (blk_cell BK233.out 2).trans rfl; have hfz6_0 := blk_frozen BK233.out 0; have hfz6_1 := blk_frozen BK233.out 1; have hfz6_2 := blk_frozen BK233.out 2) | ((with_reducible refine gate_callee (f := 62) rfl ?_); refine goesL_ (some 9) rfl rfl Tryd.func62 (by kernel_rfl) rfl #[.int .i64 a0_1] rfl (by (try simp only [List.map_toArray, List.map_cons, List.map_nil]); first | done | rfl | (simp only [List.length_drop, List.length_take]; rfl)) ?_; (with_reducible refine (spec_l6Dec.calls k a0_1 t234 _ A3.out).mono ?_); rintro e w7 ⟨rfl, hb⟩; refine ⟨_, rfl, ?_⟩; have n0_ := Aside0.mk (blk_below (g := gb233) (o := .cells #[.int .i64 a0_0, .int .i64 a0_1, .slice A0_2 l0_2.length c0_2] 25 (0, 0)) (by (with_reducible repeat (first | refine blk_drewN ?_ _ | refine blk_drew ?_ | refine blk_alloc ?_ _)); exact BK233.out) hb); have n1_ := Aside0.mk (below_step (by repeat (first | (with_reducible first | exact HB.out | apply below_alloc | apply pw_below_drewN | apply below_drew1 | refine below_set ?_ GE233.out) | exact HB.out)) hb); clear BK233; clear HB; have BK233 := n0_; have HB := n1_; clear n0_ n1_; (try clear hb); (try clear hb2); (try clear hk); (try clear hi)))
      go_ret
      exact ⟨by first | rfl | (simp [errW_none, errW_some] <;> rfl) | (simp [*, errW_none, errW_some] <;> rfl), by repeat (first | (with_reducible first | exact HB.out | apply below_alloc | apply pw_below_drewN | apply below_drew1 | refine below_set ?_ GE233.out) | exact HB.out)⟩
    · rw [if_neg c4] at H
      exact absurd H (by simp)
  · rw [if_neg c2] at H
    have c2b0 : (a0_0 == 0) = false := beq_eq_false_iff_ne.mpr c2
    have c2b1 : (a0_0 != 0) = true := bne_iff_ne.mpr c2
    by_cases c8 : a0_0 = 1
    · rw [if_pos c8] at H
      have c8b0 : (a0_0 == 1) = true := beq_iff_eq.mpr c8
      have c8b1 : (a0_0 != 1) = false := bne_eq_false_iff_eq.mpr c8
      clear c8
      by_cases c9 : 0 < (l0_2.length : Int)
      · rw [if_pos c9] at H
        have c9b0 : decide (0 < (l0_2.length : Int)) = true := decide_eq_true c9
        have c9b1 : decide (0 < l0_2.length) = true := decide_eq_true (by omega)
        clear c9
        replace H := Option.bind_eq_some_iff.mp H
        obtain ⟨t236, A100, H⟩ := H
        replace H : (if 1 + t236.size ≤ 9223372036854775807 then (if ((⟨#[40]⟩ : ByteArray) ++ t236).size + 1 ≤ 9223372036854775807 then (if 1 < (l0_2.length : Int) then ((spec_l20Text.f k ((rd_T25 l0_2 1).f0) ((rd_T25 l0_2 1).f1) ((rd_T25 l0_2 1).f2)).bind fun t238 => (if (((⟨#[40]⟩ : ByteArray) ++ t236) ++ (⟨#[32]⟩ : ByteArray)).size + t238.size ≤ 9223372036854775807 then (if ((((⟨#[40]⟩ : ByteArray) ++ t236) ++ (⟨#[32]⟩ : ByteArray)) ++ t238).size + 1 ≤ 9223372036854775807 then (some (((((⟨#[40]⟩ : ByteArray) ++ t236) ++ (⟨#[32]⟩ : ByteArray)) ++ t238) ++ (⟨#[41]⟩ : ByteArray))) else (none)) else (none))) else (none)) else (none)) else (none)) = some r := H
        have A10 := Aside0.mk A100
        clear A100
        by_cases c11 : 1 + t236.size ≤ 9223372036854775807
        · rw [if_pos c11] at H
          have c11b0 := eq_true c11
          have c11b1 : decide (1 + t236.size ≤ 9223372036854775807) = true := decide_eq_true c11
          try have c11b2 : (9223372036854775807 < 1 + t236.size) = False := eq_false (Nat.not_lt.2 c11)
          by_cases c12 : ((⟨#[40]⟩ : ByteArray) ++ t236).size + 1 ≤ 9223372036854775807
          · rw [if_pos c12] at H
            have c12b0 := eq_true c12
            have c12b1 : decide (((⟨#[40]⟩ : ByteArray) ++ t236).size + 1 ≤ 9223372036854775807) = true := decide_eq_true c12
            try have c12b2 : (9223372036854775807 < ((⟨#[40]⟩ : ByteArray) ++ t236).size + 1) = False := eq_false (Nat.not_lt.2 c12)
            try have c12b3 : (9223372036854775807 < 1 + t236.size + 1) = False := eq_false (by have h := of_eq_false c12b2; simp only [ByteArray.size_append] at h; exact h)
            by_cases c13 : 1 < (l0_2.length : Int)
            · rw [if_pos c13] at H
              have c13b0 : decide (1 < (l0_2.length : Int)) = true := decide_eq_true c13
              have c13b1 : decide (1 < l0_2.length) = true := decide_eq_true (by omega)
              clear c13
              replace H := Option.bind_eq_some_iff.mp H
              obtain ⟨t238, A140, H⟩ := H
              replace H : (if (((⟨#[40]⟩ : ByteArray) ++ t236) ++ (⟨#[32]⟩ : ByteArray)).size + t238.size ≤ 9223372036854775807 then (if ((((⟨#[40]⟩ : ByteArray) ++ t236) ++ (⟨#[32]⟩ : ByteArray)) ++ t238).size + 1 ≤ 9223372036854775807 then (some (((((⟨#[40]⟩ : ByteArray) ++ t236) ++ (⟨#[32]⟩ : ByteArray)) ++ t238) ++ (⟨#[41]⟩ : ByteArray))) else (none)) else (none)) = some r := H
              have A14 := Aside0.mk A140
              clear A140
              by_cases c15 : (((⟨#[40]⟩ : ByteArray) ++ t236) ++ (⟨#[32]⟩ : ByteArray)).size + t238.size ≤ 9223372036854775807
              · rw [if_pos c15] at H
                have c15b0 := eq_true c15
                have c15b1 : decide ((((⟨#[40]⟩ : ByteArray) ++ t236) ++ (⟨#[32]⟩ : ByteArray)).size + t238.size ≤ 9223372036854775807) = true := decide_eq_true c15
                try have c15b2 : (9223372036854775807 < (((⟨#[40]⟩ : ByteArray) ++ t236) ++ (⟨#[32]⟩ : ByteArray)).size + t238.size) = False := eq_false (Nat.not_lt.2 c15)
                try have c15b3 : (9223372036854775807 < 1 + t236.size + 1 + t238.size) = False := eq_false (by have h := of_eq_false c15b2; simp only [ByteArray.size_append] at h; exact h)
                by_cases c16 : ((((⟨#[40]⟩ : ByteArray) ++ t236) ++ (⟨#[32]⟩ : ByteArray)) ++ t238).size + 1 ≤ 9223372036854775807
                · rw [if_pos c16] at H
                  have c16b0 := eq_true c16
                  have c16b1 : decide (((((⟨#[40]⟩ : ByteArray) ++ t236) ++ (⟨#[32]⟩ : ByteArray)) ++ t238).size + 1 ≤ 9223372036854775807) = true := decide_eq_true c16
                  try have c16b2 : (9223372036854775807 < ((((⟨#[40]⟩ : ByteArray) ++ t236) ++ (⟨#[32]⟩ : ByteArray)) ++ t238).size + 1) = False := eq_false (Nat.not_lt.2 c16)
                  try have c16b3 : (9223372036854775807 < 1 + t236.size + 1 + t238.size + 1) = False := eq_false (by have h := of_eq_false c16b2; simp only [ByteArray.size_append] at h; exact h)
                  obtain rfl := Option.some.inj H
                  go_enter Tryd.func48, Tryd.ntmps48
                  try go_wp2_with (first | ((with_reducible refine gate_dst (N := 1) rfl ?_); refine box_event ?hg (N := 1) ?hd (cs := #[.int .i64 a0_0, .int .i64 a0_1, .slice A0_2 l0_2.length c0_2]) (t := 25) ?hr ?_; (case hd => rfl); (case hg => rfl); (case hr => first | (go_simp; done) | (go_simp; rfl)); intro gb233 hg w17 hbox hb; have n0_ := Aside0.mk (below_step (by repeat (first | (with_reducible first | exact HB.out | apply below_alloc | apply pw_below_drewN | apply below_drew1) | exact HB.out)) hb); have n1_ := Aside0.mk (hbox); have n2_ := Aside0.mk ((by rw [hg]; exact (below_size (by repeat (first | (with_reducible first | exact HB.out | apply below_alloc | apply pw_below_drewN | apply below_drew1) | exact HB.out))) : w.heap.size ≤ gb233)); have n3_ := Aside0.mk ((by rw [hg]; exact (below_size (by repeat (first | (with_reducible first | exact HB.out | apply below_alloc | apply pw_below_drewN | apply below_drew1) | exact HB.out))) : w.heap.size ≤ gb233)); clear HB; have HB := n0_; have BK233 := n1_; have GW233 := n2_; have GE233 := n3_; clear n0_ n1_ n2_ n3_; clear hb hbox hg; have hcz18_0 : w17.cell? ⟨gb233, 0, none⟩ = some (.int .i64 a0_0) := (blk_cell BK233.out 0).trans rfl; have hcz18_1 : w17.cell? ⟨gb233, 1, none⟩ = some (.int .i64 a0_1) := (blk_cell BK233.out 1).trans rfl; have hcz18_2 : w17.cell? ⟨gb233, 2, none⟩ = some (.slice A0_2 l0_2.length c0_2) := (blk_cell BK233.out 2).trans rfl; have hfz18_0 := blk_frozen BK233.out 0; have hfz18_1 := blk_frozen BK233.out 1; have hfz18_2 := blk_frozen BK233.out 2))
                  have n0_ := Aside0.mk (blk_drew BK233.out)
                  have n1_ := Aside0.mk (below_drew1 HB.out)
                  clear BK233
                  clear HB
                  have BK233 := n0_
                  have HB := n1_
                  clear n0_ n1_
                  have p235 : 0 ≤ (0 : Int) := (by omega)
                  have q235 : 0 < (l0_2.length : Int) := of_decide_eq_true (by first | (with_reducible assumption) | assumption)
                  obtain ⟨ad235, A235_2, c235_2, e235, hx235_0, hx235_1, hx235_2, hl235_2, hi235_2⟩ := at_T25 HR0_2.out 0 p235 q235
                  have hw235_2 := hx235_2
                  (try rw [show ((0 : Int)).toNat = 0 from rfl] at hw235_2)
                  (try rw [show 0 * 3 = 0 from rfl] at hw235_2)
                  (try rw [Addr.add_zero'] at hw235_2)
                  have hw235_1 := hx235_1
                  (try rw [show ((0 : Int)).toNat = 0 from rfl] at hw235_1)
                  (try rw [show 0 * 3 = 0 from rfl] at hw235_1)
                  (try rw [Addr.add_zero'] at hw235_1)
                  have hw235_0 := hx235_0
                  (try rw [show ((0 : Int)).toNat = 0 from rfl] at hw235_0)
                  (try rw [show 0 * 3 = 0 from rfl] at hw235_0)
                  (try rw [Addr.add_zero'] at hw235_0)
                  cases e235
                  have qi235 : (0 < l0_2.length) = True := eq_true (by omega)
                  (try rw [show ((0 : Int)).toNat = 0 from rfl] at hx235_0)
                  (try rw [show 0 * 3 = 0 from rfl] at hx235_0)
                  (try rw [Addr.add_zero'] at hx235_0)
                  (try rw [show ((0 : Int)).toNat = 0 from rfl] at hx235_1)
                  (try rw [show 0 * 3 = 0 from rfl] at hx235_1)
                  (try rw [Addr.add_zero'] at hx235_1)
                  (try rw [show ((0 : Int)).toNat = 0 from rfl] at hx235_2)
                  (try rw [show 0 * 3 = 0 from rfl] at hx235_2)
                  (try rw [Addr.add_zero'] at hx235_2)
                  replace hx235_0 := (HB.out.cell (World.block_lt_of_cell? w _ hx235_0)).trans hx235_0
                  replace hx235_1 := (HB.out.cell (World.block_lt_of_cell? w _ hx235_1)).trans hx235_1
                  replace hx235_2 := (HB.out.cell (World.block_lt_of_cell? w _ hx235_2)).trans hx235_2
                  have HR235_2 := Aside0.mk hi235_2
                  have HC235_2 := Aside0.mk hl235_2
                  clear hi235_2 hl235_2
                  replace p235 := eq_true p235
                  replace q235 := eq_true q235
                  have p237 : 0 ≤ (1 : Int) := (by omega)
                  have q237 : 1 < (l0_2.length : Int) := of_decide_eq_true (by first | (with_reducible assumption) | assumption)
                  obtain ⟨ad237, A237_2, c237_2, e237, hx237_0, hx237_1, hx237_2, hl237_2, hi237_2⟩ := at_T25 HR0_2.out 1 p237 q237
                  have hw237_2 := hx237_2
                  (try rw [show ((1 : Int)).toNat = 1 from rfl] at hw237_2)
                  (try rw [show 1 * 3 = 3 from rfl] at hw237_2)
                  (try simp only [Nat.reduceMul, Nat.reduceEqDiff, Go.Addr.add, ↓reduceIte] at hw237_2)
                  have hw237_1 := hx237_1
                  (try rw [show ((1 : Int)).toNat = 1 from rfl] at hw237_1)
                  (try rw [show 1 * 3 = 3 from rfl] at hw237_1)
                  (try simp only [Nat.reduceMul, Nat.reduceEqDiff, Go.Addr.add, ↓reduceIte] at hw237_1)
                  have hw237_0 := hx237_0
                  (try rw [show ((1 : Int)).toNat = 1 from rfl] at hw237_0)
                  (try rw [show 1 * 3 = 3 from rfl] at hw237_0)
                  (try simp only [Nat.reduceMul, Nat.reduceEqDiff, Go.Addr.add, ↓reduceIte] at hw237_0)
                  obtain rfl : ad235 = ad237 := (by injection e237)
                  (try simp only [show (1 : Int).toNat = 1 from rfl, Nat.reduceMul, Nat.reduceEqDiff, Go.Addr.add, ↓reduceIte] at hx237_0)
                  (try simp only [show (1 : Int).toNat = 1 from rfl, Nat.reduceMul, Nat.reduceEqDiff, Go.Addr.add, ↓reduceIte] at hx237_1)
                  (try simp only [show (1 : Int).toNat = 1 from rfl, Nat.reduceMul, Nat.reduceEqDiff, Go.Addr.add, ↓reduceIte] at hx237_2)
                  have qi237 : (1 < l0_2.length) = True := eq_true (by omega)
                  (try rw [show ((1 : Int)).toNat = 1 from rfl] at hx237_0)
                  (try rw [show 1 * 3 = 3 from rfl] at hx237_0)
                  (try rw [show ((1 : Int)).toNat = 1 from rfl] at hx237_1)
                  (try rw [show 1 * 3 = 3 from rfl] at hx237_1)
                  (try rw [show ((1 : Int)).toNat = 1 from rfl] at hx237_2)
                  (try rw [show 1 * 3 = 3 from rfl] at hx237_2)
                  replace hx237_0 := (HB.out.cell (World.block_lt_of_cell? w _ hx237_0)).trans hx237_0
                  replace hx237_1 := (HB.out.cell (World.block_lt_of_cell? w _ hx237_1)).trans hx237_1
                  replace hx237_2 := (HB.out.cell (World.block_lt_of_cell? w _ hx237_2)).trans hx237_2
                  have HR237_2 := Aside0.mk hi237_2
                  have HC237_2 := Aside0.mk hl237_2
                  clear hi237_2 hl237_2
                  replace p237 := eq_true p237
                  replace q237 := eq_true q237
                  refine start_ (n := 15) (S := fun w' => w'.cell? ⟨gb233, 0, none⟩ = some (.int .i64 a0_0) ∧ w'.cell? ⟨gb233, 1, none⟩ = some (.int .i64 a0_1) ∧ w'.cell? ⟨gb233, 2, none⟩ = some (.slice (some ad235) l0_2.length c0_2) ∧ w'.cell? ad235 = some (.int .i64 ((rd_T25 l0_2 0).f0)) ∧ w'.cell? ⟨ad235.block, ad235.off + 1, none⟩ = some (.int .i64 ((rd_T25 l0_2 0).f1)) ∧ w'.cell? ⟨ad235.block, ad235.off + 2, none⟩ = some (.slice A235_2 ((rd_T25 l0_2 0).f2).length c235_2) ∧ w'.cell? ⟨ad235.block, ad235.off + 3, none⟩ = some (.int .i64 ((rd_T25 l0_2 1).f0)) ∧ w'.cell? ⟨ad235.block, ad235.off + 3 + 1, none⟩ = some (.int .i64 ((rd_T25 l0_2 1).f1)) ∧ w'.cell? ⟨ad235.block, ad235.off + 3 + 2, none⟩ = some (.slice A237_2 ((rd_T25 l0_2 1).f2).length c237_2)) (ds := []) #[false, false, false, false, false, false, false, false, false, false, false, false, false, false, false] (by kernel_rfl) rfl rfl ⟨(blk_cell BK233.out 0).trans rfl, (blk_cell BK233.out 1).trans rfl, (blk_cell BK233.out 2).trans rfl, ((HB.out.cell (World.block_lt_of_cell? w _ hw235_0)).trans hw235_0), ((HB.out.cell (World.block_lt_of_cell? w _ hw235_1)).trans hw235_1), ((HB.out.cell (World.block_lt_of_cell? w _ hw235_2)).trans hw235_2), ((HB.out.cell (World.block_lt_of_cell? w _ hw237_0)).trans hw237_0), ((HB.out.cell (World.block_lt_of_cell? w _ hw237_1)).trans hw237_1), ((HB.out.cell (World.block_lt_of_cell? w _ hw237_2)).trans hw237_2)⟩ (fun hHeld => ?_); refine with_tabW spec_l20Text.tab5 spec_l20Text.bits5 (fun HT_ HW_ => ?_)
                  generalize w17.drew = w19 at BK233 HB HR235_2 HR237_2 hx235_0 hx235_1 hx235_2 hx237_0 hx237_1 hx237_2 hHeld ⊢
                  refine pure_ (i := 0) (N := some 13) (v := ?_) (a' := ?_) #[true, false, false, false, false, false, false, false, false, false, false, false, false, false, false] rfl rfl (any_of HT_.out (by kernel_rfl)) (fun _ _ _ h => h) (Or.inl ⟨by rfl, ?_⟩) ?_ ?_
                  rotate_left
                  · intro w'
                    go_simp
                    with_reducible rfl
                  rotate_left
                  · simp only [Act.put, List.setIfInBounds_toArray, List.set_cons_zero, List.set_cons_succ, i64_w, i32_w]
                    rfl
                  refine pure_ (i := 7) (N := some 20) (v := ?_) (a' := ?_) #[true, false, false, false, false, false, false, true, false, false, false, false, false, false, false] rfl rfl (any_of HT_.out (by kernel_rfl)) (fun _ _ _ h => h) (Or.inl ⟨by rfl, ?_⟩) ?_ ?_
                  rotate_left
                  · intro w'
                    go_simp
                    with_reducible rfl
                  rotate_left
                  · simp only [Act.put, List.setIfInBounds_toArray, List.set_cons_zero, List.set_cons_succ, i64_w, i32_w]
                    rfl
                  refine take_ (i := 1) (N := some 14) (v := ?_) (a' := ?_) #[true, true, false, false, false, false, false, true, false, false, false, false, false, false, false] rfl rfl (take_ofW HT_.out HW_.out (by kernel_rfl)) (fun _ _ _ h => h) (Or.inl ⟨by rfl, ?_⟩) hHeld ?_ ?_
                  rotate_left
                  · rintro w' ⟨s0, s1, s2, s3, s4, s5, s6, s7, s8⟩
                    go_simp
                    with_reducible rfl
                  rotate_left
                  · simp only [Act.put, List.setIfInBounds_toArray, List.set_cons_zero, List.set_cons_succ, i64_w, i32_w]
                    rfl
                  refine pure_ (i := 2) (N := some 15) (v := ?_) (a' := ?_) #[true, true, true, false, false, false, false, true, false, false, false, false, false, false, false] rfl rfl (any_of HT_.out (by kernel_rfl)) (fun _ _ _ h => h) (Or.inl ⟨by rfl, ?_⟩) ?_ ?_
                  rotate_left
                  · intro w'
                    go_simp
                    with_reducible rfl
                  rotate_left
                  · simp only [Act.put, List.setIfInBounds_toArray, List.set_cons_zero, List.set_cons_succ, i64_w, i32_w]
                    rfl
                  refine take_ (i := 3) (N := some 16) (v := ?_) (a' := ?_) #[true, true, true, true, false, false, false, true, false, false, false, false, false, false, false] rfl rfl (take_ofW HT_.out HW_.out (by kernel_rfl)) (fun _ _ _ h => h) (Or.inl ⟨by rfl, ?_⟩) hHeld ?_ ?_
                  rotate_left
                  · rintro w' ⟨s0, s1, s2, s3, s4, s5, s6, s7, s8⟩
                    go_simp
                    with_reducible rfl
                  rotate_left
                  · simp only [Act.put, List.setIfInBounds_toArray, List.set_cons_zero, List.set_cons_succ, i64_w, i32_w]
                    rfl
                  refine take_ (i := 8) (N := some 21) (v := ?_) (a' := ?_) #[true, true, true, true, false, false, false, true, true, false, false, false, false, false, false] rfl rfl (take_ofW HT_.out HW_.out (by kernel_rfl)) (fun _ _ _ h => h) (Or.inl ⟨by rfl, ?_⟩) hHeld ?_ ?_
                  rotate_left
                  · rintro w' ⟨s0, s1, s2, s3, s4, s5, s6, s7, s8⟩
                    go_simp
                    with_reducible rfl
                  rotate_left
                  · simp only [Act.put, List.setIfInBounds_toArray, List.set_cons_zero, List.set_cons_succ, i64_w, i32_w]
                    rfl
                  refine pure_ (i := 9) (N := some 22) (v := ?_) (a' := ?_) #[true, true, true, true, false, false, false, true, true, true, false, false, false, false, false] rfl rfl (any_of HT_.out (by kernel_rfl)) (fun _ _ _ h => h) (Or.inl ⟨by rfl, ?_⟩) ?_ ?_
                  rotate_left
                  · intro w'
                    go_simp
                    with_reducible rfl
                  rotate_left
                  · simp only [Act.put, List.setIfInBounds_toArray, List.set_cons_zero, List.set_cons_succ, i64_w, i32_w]
                    rfl
                  refine take_ (i := 10) (N := some 23) (v := ?_) (a' := ?_) #[true, true, true, true, false, false, false, true, true, true, true, false, false, false, false] rfl rfl (take_ofW HT_.out HW_.out (by kernel_rfl)) (fun _ _ _ h => h) (Or.inl ⟨by rfl, ?_⟩) hHeld ?_ ?_
                  rotate_left
                  · rintro w' ⟨s0, s1, s2, s3, s4, s5, s6, s7, s8⟩
                    go_simp
                    with_reducible rfl
                  rotate_left
                  · simp only [Act.put, List.setIfInBounds_toArray, List.set_cons_zero, List.set_cons_succ, i64_w, i32_w]
                    rfl
                  refine one_ (i := 4) (N := some 17) #[true, true, true, true, true, false, false, true, true, true, true, false, false, false, false] rfl rfl (one_of HT_.out (by kernel_rfl)) (by decide) (fun K hK => ?_)
                  refine goes_ Tryd.func48 (by kernel_rfl) rfl #[.agg #[.int .i64 ((rd_T25 l0_2 0).f0), .int .i64 ((rd_T25 l0_2 0).f1), .slice A235_2 ((rd_T25 l0_2 0).f2).length c235_2]] (by rfl) rfl rfl (by (try simp only [List.map_toArray, List.map_cons, List.map_nil]); first | done | rfl | (simp only [List.length_drop, List.length_take]; rfl)) ?_
                  with_reducible refine (ih k (by omega) ((rd_T25 l0_2 0).f0) ((rd_T25 l0_2 0).f1) _ _ ((rd_T25 l0_2 0).f2) t236 _ ?side1 ?side2 A10.out).mono ?_
                  (case side1 => repeat (first | exact (Kd.C_below HR235_2.out HB.out) | (with_reducible refine Kd.C_alloc ?_ _) | (with_reducible refine Kd.C_drewN ?_ _) | (with_reducible refine Kd.C_drew ?_)))
                  (case side2 => exact HC235_2.out)
                  rintro e w20 ⟨rfl, hb⟩
                  refine ⟨_, rfl, ?_⟩
                  have n0_ := Aside0.mk (blk_below (g := gb233) (o := .cells #[.int .i64 a0_0, .int .i64 a0_1, .slice (some ad235) l0_2.length c0_2] 25 (0, 0)) (by (with_reducible repeat (first | refine blk_drewN ?_ _ | refine blk_drew ?_ | refine blk_alloc ?_ _)); exact BK233.out) hb)
                  have n1_ := Aside0.mk (below_step (by repeat (first | (with_reducible first | exact HB.out | apply below_alloc | apply pw_below_drewN | apply below_drew1 | refine below_set ?_ GE233.out) | exact HB.out)) hb)
                  clear BK233
                  clear HB
                  have BK233 := n0_
                  have HB := n1_
                  clear n0_ n1_
                  (try clear hb)
                  (try clear hb2)
                  (try clear hk)
                  (try clear hi)
                  refine hK.out _ _ ⟨(blk_cell BK233.out 0).trans rfl, (blk_cell BK233.out 1).trans rfl, (blk_cell BK233.out 2).trans rfl, ((HB.out.cell (World.block_lt_of_cell? w _ hw235_0)).trans hw235_0), ((HB.out.cell (World.block_lt_of_cell? w _ hw235_1)).trans hw235_1), ((HB.out.cell (World.block_lt_of_cell? w _ hw235_2)).trans hw235_2), ((HB.out.cell (World.block_lt_of_cell? w _ hw237_0)).trans hw237_0), ((HB.out.cell (World.block_lt_of_cell? w _ hw237_1)).trans hw237_1), ((HB.out.cell (World.block_lt_of_cell? w _ hw237_2)).trans hw237_2)⟩ (fun hHeld => ?_)
                  clear hK K
                  refine norm_ (a' := ?_) ?_ ?_
                  rotate_left
                  · show Act.put _ (some 17) _ = _
                    simp only [Act.put, List.setIfInBounds_toArray, List.set_cons_zero, List.set_cons_succ, i64_w, i32_w]
                    rfl
                  refine pure_ (i := 5) (N := some 18) (v := ?_) (a' := ?_) #[true, true, true, true, true, true, false, true, true, true, true, false, false, false, false] rfl rfl (any_of HT_.out (by kernel_rfl)) (fun _ _ _ h => h) (Or.inl ⟨by rfl, ?_⟩) ?_ ?_
                  rotate_left
                  · intro w'
                    go_simp
                    with_reducible rfl
                  rotate_left
                  · simp only [Act.put, List.setIfInBounds_toArray, List.set_cons_zero, List.set_cons_succ, i64_w, i32_w]
                    rfl
                  refine pure_ (i := 6) (N := some 19) (v := ?_) (a' := ?_) #[true, true, true, true, true, true, true, true, true, true, true, false, false, false, false] rfl rfl (any_of HT_.out (by kernel_rfl)) (fun _ _ _ h => h) (Or.inl ⟨by rfl, ?_⟩) ?_ ?_
                  rotate_left
                  · intro w'
                    go_simp
                    with_reducible rfl
                  rotate_left
                  · simp only [Act.put, List.setIfInBounds_toArray, List.set_cons_zero, List.set_cons_succ, i64_w, i32_w]
                    rfl
                  refine one_ (i := 11) (N := some 24) #[true, true, true, true, true, true, true, true, true, true, true, true, false, false, false] rfl rfl (one_of HT_.out (by kernel_rfl)) (by decide) (fun K hK => ?_)
                  refine goes_ Tryd.func48 (by kernel_rfl) rfl #[.agg #[.int .i64 ((rd_T25 l0_2 1).f0), .int .i64 ((rd_T25 l0_2 1).f1), .slice A237_2 ((rd_T25 l0_2 1).f2).length c237_2]] (by rfl) rfl rfl (by (try simp only [List.map_toArray, List.map_cons, List.map_nil]); first | done | rfl | (simp only [List.length_drop, List.length_take]; rfl)) ?_
                  with_reducible refine (ih k (by omega) ((rd_T25 l0_2 1).f0) ((rd_T25 l0_2 1).f1) _ _ ((rd_T25 l0_2 1).f2) t238 _ ?side1 ?side2 A14.out).mono ?_
                  (case side1 => repeat (first | exact (Kd.C_below HR237_2.out HB.out) | (with_reducible refine Kd.C_alloc ?_ _) | (with_reducible refine Kd.C_drewN ?_ _) | (with_reducible refine Kd.C_drew ?_)))
                  (case side2 => exact HC237_2.out)
                  rintro e w21 ⟨rfl, hb⟩
                  refine ⟨_, rfl, ?_⟩
                  have n0_ := Aside0.mk (blk_below (g := gb233) (o := .cells #[.int .i64 a0_0, .int .i64 a0_1, .slice (some ad235) l0_2.length c0_2] 25 (0, 0)) (by (with_reducible repeat (first | refine blk_drewN ?_ _ | refine blk_drew ?_ | refine blk_alloc ?_ _)); exact BK233.out) hb)
                  have n1_ := Aside0.mk (below_step (by repeat (first | (with_reducible first | exact HB.out | apply below_alloc | apply pw_below_drewN | apply below_drew1 | refine below_set ?_ GE233.out) | exact HB.out)) hb)
                  clear BK233
                  clear HB
                  have BK233 := n0_
                  have HB := n1_
                  clear n0_ n1_
                  (try clear hb)
                  (try clear hb2)
                  (try clear hk)
                  (try clear hi)
                  refine hK.out _ _ ⟨(blk_cell BK233.out 0).trans rfl, (blk_cell BK233.out 1).trans rfl, (blk_cell BK233.out 2).trans rfl, ((HB.out.cell (World.block_lt_of_cell? w _ hw235_0)).trans hw235_0), ((HB.out.cell (World.block_lt_of_cell? w _ hw235_1)).trans hw235_1), ((HB.out.cell (World.block_lt_of_cell? w _ hw235_2)).trans hw235_2), ((HB.out.cell (World.block_lt_of_cell? w _ hw237_0)).trans hw237_0), ((HB.out.cell (World.block_lt_of_cell? w _ hw237_1)).trans hw237_1), ((HB.out.cell (World.block_lt_of_cell? w _ hw237_2)).trans hw237_2)⟩ (fun hHeld => ?_)
                  clear hK K
                  refine norm_ (a' := ?_) ?_ ?_
                  rotate_left
                  · show Act.put _ (some 24) _ = _
                    simp only [Act.put, List.setIfInBounds_toArray, List.set_cons_zero, List.set_cons_succ, i64_w, i32_w]
                    rfl
                  refine pure_ (i := 12) (N := some 25) (v := ?_) (a' := ?_) #[true, true, true, true, true, true, true, true, true, true, true, true, true, false, false] rfl rfl (any_of HT_.out (by kernel_rfl)) (fun _ _ _ h => h) (Or.inl ⟨by rfl, ?_⟩) ?_ ?_
                  rotate_left
                  · intro w'
                    go_simp
                    with_reducible rfl
                  rotate_left
                  · simp only [Act.put, List.setIfInBounds_toArray, List.set_cons_zero, List.set_cons_succ, i64_w, i32_w]
                    rfl
                  refine pure_ (i := 13) (N := some 26) (v := ?_) (a' := ?_) #[true, true, true, true, true, true, true, true, true, true, true, true, true, true, false] rfl rfl (any_of HT_.out (by kernel_rfl)) (fun _ _ _ h => h) (Or.inl ⟨by rfl, ?_⟩) ?_ ?_
                  rotate_left
                  · intro w'
                    go_simp
                    with_reducible rfl
                  rotate_left
                  · simp only [Act.put, List.setIfInBounds_toArray, List.set_cons_zero, List.set_cons_succ, i64_w, i32_w]
                    rfl
                  refine pure_ (i := 14) (N := some 2) (v := ?_) (a' := ?_) #[true, true, true, true, true, true, true, true, true, true, true, true, true, true, true] rfl rfl (any_of HT_.out (by kernel_rfl)) (fun _ _ _ h => h) (Or.inl ⟨by rfl, ?_⟩) ?_ ?_
                  rotate_left
                  · intro w'
                    go_simp
                    with_reducible rfl
                  rotate_left
                  · simp only [Act.put, List.setIfInBounds_toArray, List.set_cons_zero, List.set_cons_succ, i64_w, i32_w]
                    rfl
                  refine done_ (done_of HT_.out (by kernel_rfl)) ?_
                  try go_wp2
                  go_ret
                  exact ⟨by first | rfl | (simp [errW_none, errW_some] <;> rfl) | (simp [*, errW_none, errW_some] <;> rfl), by repeat (first | (with_reducible first | exact HB.out | apply below_alloc | apply pw_below_drewN | apply below_drew1 | refine below_set ?_ GE233.out) | exact HB.out)⟩
                · rw [if_neg c16] at H
                  exact absurd H (by simp)
              · rw [if_neg c15] at H
                exact absurd H (by simp)
            · rw [if_neg c13] at H
              exact absurd H (by simp)
          · rw [if_neg c12] at H
            exact absurd H (by simp)
        · rw [if_neg c11] at H
          exact absurd H (by simp)
      · rw [if_neg c9] at H
        exact absurd H (by simp)
    · rw [if_neg c8] at H
      have c8b0 : (a0_0 == 1) = false := beq_eq_false_iff_ne.mpr c8
      have c8b1 : (a0_0 != 1) = true := bne_iff_ne.mpr c8
      by_cases c22 : 1 < (l0_2.length : Int)
      · rw [if_pos c22] at H
        have c22b0 : decide (1 < (l0_2.length : Int)) = true := decide_eq_true c22
        have c22b1 : decide (1 < l0_2.length) = true := decide_eq_true (by omega)
        clear c22
        replace H := Option.bind_eq_some_iff.mp H
        obtain ⟨t240, A230, H⟩ := H
        replace H : (if 1 + t240.size ≤ 9223372036854775807 then (if ((⟨#[123]⟩ : ByteArray) ++ t240).size + 1 ≤ 9223372036854775807 then (if 0 < (l0_2.length : Int) then ((spec_l20Text.f k ((rd_T25 l0_2 0).f0) ((rd_T25 l0_2 0).f1) ((rd_T25 l0_2 0).f2)).bind fun t242 => (if (((⟨#[123]⟩ : ByteArray) ++ t240) ++ (⟨#[125]⟩ : ByteArray)).size + t242.size ≤ 9223372036854775807 then (some ((((⟨#[123]⟩ : ByteArray) ++ t240) ++ (⟨#[125]⟩ : ByteArray)) ++ t242)) else (none))) else (none)) else (none)) else (none)) = some r := H
        have A23 := Aside0.mk A230
        clear A230
        by_cases c24 : 1 + t240.size ≤ 9223372036854775807
        · rw [if_pos c24] at H
          have c24b0 := eq_true c24
          have c24b1 : decide (1 + t240.size ≤ 9223372036854775807) = true := decide_eq_true c24
          try have c24b2 : (9223372036854775807 < 1 + t240.size) = False := eq_false (Nat.not_lt.2 c24)
          by_cases c25 : ((⟨#[123]⟩ : ByteArray) ++ t240).size + 1 ≤ 9223372036854775807
          · rw [if_pos c25] at H
            have c25b0 := eq_true c25
            have c25b1 : decide (((⟨#[123]⟩ : ByteArray) ++ t240).size + 1 ≤ 9223372036854775807) = true := decide_eq_true c25
            try have c25b2 : (9223372036854775807 < ((⟨#[123]⟩ : ByteArray) ++ t240).size + 1) = False := eq_false (Nat.not_lt.2 c25)
            try have c25b3 : (9223372036854775807 < 1 + t240.size + 1) = False := eq_false (by have h := of_eq_false c25b2; simp only [ByteArray.size_append] at h; exact h)
            by_cases c26 : 0 < (l0_2.length : Int)
            · rw [if_pos c26] at H
              have c26b0 : decide (0 < (l0_2.length : Int)) = true := decide_eq_true c26
              have c26b1 : decide (0 < l0_2.length) = true := decide_eq_true (by omega)
              clear c26
              replace H := Option.bind_eq_some_iff.mp H
              obtain ⟨t242, A270, H⟩ := H
              replace H : (if (((⟨#[123]⟩ : ByteArray) ++ t240) ++ (⟨#[125]⟩ : ByteArray)).size + t242.size ≤ 9223372036854775807 then (some ((((⟨#[123]⟩ : ByteArray) ++ t240) ++ (⟨#[125]⟩ : ByteArray)) ++ t242)) else (none)) = some r := H
              have A27 := Aside0.mk A270
              clear A270
              by_cases c28 : (((⟨#[123]⟩ : ByteArray) ++ t240) ++ (⟨#[125]⟩ : ByteArray)).size + t242.size ≤ 9223372036854775807
              · rw [if_pos c28] at H
                have c28b0 := eq_true c28
                have c28b1 : decide ((((⟨#[123]⟩ : ByteArray) ++ t240) ++ (⟨#[125]⟩ : ByteArray)).size + t242.size ≤ 9223372036854775807) = true := decide_eq_true c28
                try have c28b2 : (9223372036854775807 < (((⟨#[123]⟩ : ByteArray) ++ t240) ++ (⟨#[125]⟩ : ByteArray)).size + t242.size) = False := eq_false (Nat.not_lt.2 c28)
                try have c28b3 : (9223372036854775807 < 1 + t240.size + 1 + t242.size) = False := eq_false (by have h := of_eq_false c28b2; simp only [ByteArray.size_append] at h; exact h)
                obtain rfl := Option.some.inj H
                go_enter Tryd.func48, Tryd.ntmps48
                try go_wp2_with (first | ((with_reducible refine gate_dst (N := 1) rfl ?_); refine box_event ?hg (N := 1) ?hd (cs := #[.int .i64 a0_0, .int .i64 a0_1, .slice A0_2 l0_2.length c0_2]) (t := 25) ?hr ?_; (case hd => rfl); (case hg => rfl); (case hr => first | (go_simp; done) | (go_simp; rfl)); intro gb233 hg w29 hbox hb; have n0_ := Aside0.mk (below_step (by repeat (first | (with_reducible first | exact HB.out | apply below_alloc | apply pw_below_drewN | apply below_drew1) | exact HB.out)) hb); have n1_ := Aside0.mk (hbox); have n2_ := Aside0.mk ((by rw [hg]; exact (below_size (by repeat (first | (with_reducible first | exact HB.out | apply below_alloc | apply pw_below_drewN | apply below_drew1) | exact HB.out))) : w.heap.size ≤ gb233)); have n3_ := Aside0.mk ((by rw [hg]; exact (below_size (by repeat (first | (with_reducible first | exact HB.out | apply below_alloc | apply pw_below_drewN | apply below_drew1) | exact HB.out))) : w.heap.size ≤ gb233)); clear HB; have HB := n0_; have BK233 := n1_; have GW233 := n2_; have GE233 := n3_; clear n0_ n1_ n2_ n3_; clear hb hbox hg; have hcz30_0 : w29.cell? ⟨gb233, 0, none⟩ = some (.int .i64 a0_0) := (blk_cell BK233.out 0).trans rfl; have hcz30_1 : w29.cell? ⟨gb233, 1, none⟩ = some (.int .i64 a0_1) := (blk_cell BK233.out 1).trans rfl; have hcz30_2 : w29.cell? ⟨gb233, 2, none⟩ = some (.slice A0_2 l0_2.length c0_2) := (blk_cell BK233.out 2).trans rfl; have hfz30_0 := blk_frozen BK233.out 0; have hfz30_1 := blk_frozen BK233.out 1; have hfz30_2 := blk_frozen BK233.out 2))
                have n0_ := Aside0.mk (blk_drew BK233.out)
                have n1_ := Aside0.mk (below_drew1 HB.out)
                clear BK233
                clear HB
                have BK233 := n0_
                have HB := n1_
                clear n0_ n1_
                have p239 : 0 ≤ (1 : Int) := (by omega)
                have q239 : 1 < (l0_2.length : Int) := of_decide_eq_true (by first | (with_reducible assumption) | assumption)
                obtain ⟨ad239, A239_2, c239_2, e239, hx239_0, hx239_1, hx239_2, hl239_2, hi239_2⟩ := at_T25 HR0_2.out 1 p239 q239
                have hw239_2 := hx239_2
                (try rw [show ((1 : Int)).toNat = 1 from rfl] at hw239_2)
                (try rw [show 1 * 3 = 3 from rfl] at hw239_2)
                (try simp only [Nat.reduceMul, Nat.reduceEqDiff, Go.Addr.add, ↓reduceIte] at hw239_2)
                have hw239_1 := hx239_1
                (try rw [show ((1 : Int)).toNat = 1 from rfl] at hw239_1)
                (try rw [show 1 * 3 = 3 from rfl] at hw239_1)
                (try simp only [Nat.reduceMul, Nat.reduceEqDiff, Go.Addr.add, ↓reduceIte] at hw239_1)
                have hw239_0 := hx239_0
                (try rw [show ((1 : Int)).toNat = 1 from rfl] at hw239_0)
                (try rw [show 1 * 3 = 3 from rfl] at hw239_0)
                (try simp only [Nat.reduceMul, Nat.reduceEqDiff, Go.Addr.add, ↓reduceIte] at hw239_0)
                cases e239
                (try simp only [show (1 : Int).toNat = 1 from rfl, Nat.reduceMul, Nat.reduceEqDiff, Go.Addr.add, ↓reduceIte] at hx239_0)
                (try simp only [show (1 : Int).toNat = 1 from rfl, Nat.reduceMul, Nat.reduceEqDiff, Go.Addr.add, ↓reduceIte] at hx239_1)
                (try simp only [show (1 : Int).toNat = 1 from rfl, Nat.reduceMul, Nat.reduceEqDiff, Go.Addr.add, ↓reduceIte] at hx239_2)
                have qi239 : (1 < l0_2.length) = True := eq_true (by omega)
                (try rw [show ((1 : Int)).toNat = 1 from rfl] at hx239_0)
                (try rw [show 1 * 3 = 3 from rfl] at hx239_0)
                (try rw [show ((1 : Int)).toNat = 1 from rfl] at hx239_1)
                (try rw [show 1 * 3 = 3 from rfl] at hx239_1)
                (try rw [show ((1 : Int)).toNat = 1 from rfl] at hx239_2)
                (try rw [show 1 * 3 = 3 from rfl] at hx239_2)
                replace hx239_0 := (HB.out.cell (World.block_lt_of_cell? w _ hx239_0)).trans hx239_0
                replace hx239_1 := (HB.out.cell (World.block_lt_of_cell? w _ hx239_1)).trans hx239_1
                replace hx239_2 := (HB.out.cell (World.block_lt_of_cell? w _ hx239_2)).trans hx239_2
                have HR239_2 := Aside0.mk hi239_2
                have HC239_2 := Aside0.mk hl239_2
                clear hi239_2 hl239_2
                replace p239 := eq_true p239
                replace q239 := eq_true q239
                have p241 : 0 ≤ (0 : Int) := (by omega)
                have q241 : 0 < (l0_2.length : Int) := of_decide_eq_true (by first | (with_reducible assumption) | assumption)
                obtain ⟨ad241, A241_2, c241_2, e241, hx241_0, hx241_1, hx241_2, hl241_2, hi241_2⟩ := at_T25 HR0_2.out 0 p241 q241
                have hw241_2 := hx241_2
                (try rw [show ((0 : Int)).toNat = 0 from rfl] at hw241_2)
                (try rw [show 0 * 3 = 0 from rfl] at hw241_2)
                (try rw [Addr.add_zero'] at hw241_2)
                have hw241_1 := hx241_1
                (try rw [show ((0 : Int)).toNat = 0 from rfl] at hw241_1)
                (try rw [show 0 * 3 = 0 from rfl] at hw241_1)
                (try rw [Addr.add_zero'] at hw241_1)
                have hw241_0 := hx241_0
                (try rw [show ((0 : Int)).toNat = 0 from rfl] at hw241_0)
                (try rw [show 0 * 3 = 0 from rfl] at hw241_0)
                (try rw [Addr.add_zero'] at hw241_0)
                obtain rfl : ad239 = ad241 := (by injection e241)
                have qi241 : (0 < l0_2.length) = True := eq_true (by omega)
                (try rw [show ((0 : Int)).toNat = 0 from rfl] at hx241_0)
                (try rw [show 0 * 3 = 0 from rfl] at hx241_0)
                (try rw [Addr.add_zero'] at hx241_0)
                (try rw [show ((0 : Int)).toNat = 0 from rfl] at hx241_1)
                (try rw [show 0 * 3 = 0 from rfl] at hx241_1)
                (try rw [Addr.add_zero'] at hx241_1)
                (try rw [show ((0 : Int)).toNat = 0 from rfl] at hx241_2)
                (try rw [show 0 * 3 = 0 from rfl] at hx241_2)
                (try rw [Addr.add_zero'] at hx241_2)
                replace hx241_0 := (HB.out.cell (World.block_lt_of_cell? w _ hx241_0)).trans hx241_0
                replace hx241_1 := (HB.out.cell (World.block_lt_of_cell? w _ hx241_1)).trans hx241_1
                replace hx241_2 := (HB.out.cell (World.block_lt_of_cell? w _ hx241_2)).trans hx241_2
                have HR241_2 := Aside0.mk hi241_2
                have HC241_2 := Aside0.mk hl241_2
                clear hi241_2 hl241_2
                replace p241 := eq_true p241
                replace q241 := eq_true q241
                refine start_ (n := 14) (S := fun w' => w'.cell? ⟨gb233, 0, none⟩ = some (.int .i64 a0_0) ∧ w'.cell? ⟨gb233, 1, none⟩ = some (.int .i64 a0_1) ∧ w'.cell? ⟨gb233, 2, none⟩ = some (.slice (some ad239) l0_2.length c0_2) ∧ w'.cell? ⟨ad239.block, ad239.off + 3, none⟩ = some (.int .i64 ((rd_T25 l0_2 1).f0)) ∧ w'.cell? ⟨ad239.block, ad239.off + 3 + 1, none⟩ = some (.int .i64 ((rd_T25 l0_2 1).f1)) ∧ w'.cell? ⟨ad239.block, ad239.off + 3 + 2, none⟩ = some (.slice A239_2 ((rd_T25 l0_2 1).f2).length c239_2) ∧ w'.cell? ad239 = some (.int .i64 ((rd_T25 l0_2 0).f0)) ∧ w'.cell? ⟨ad239.block, ad239.off + 1, none⟩ = some (.int .i64 ((rd_T25 l0_2 0).f1)) ∧ w'.cell? ⟨ad239.block, ad239.off + 2, none⟩ = some (.slice A241_2 ((rd_T25 l0_2 0).f2).length c241_2)) (ds := []) #[false, false, false, false, false, false, false, false, false, false, false, false, false, false] (by kernel_rfl) rfl rfl ⟨(blk_cell BK233.out 0).trans rfl, (blk_cell BK233.out 1).trans rfl, (blk_cell BK233.out 2).trans rfl, ((HB.out.cell (World.block_lt_of_cell? w _ hw239_0)).trans hw239_0), ((HB.out.cell (World.block_lt_of_cell? w _ hw239_1)).trans hw239_1), ((HB.out.cell (World.block_lt_of_cell? w _ hw239_2)).trans hw239_2), ((HB.out.cell (World.block_lt_of_cell? w _ hw241_0)).trans hw241_0), ((HB.out.cell (World.block_lt_of_cell? w _ hw241_1)).trans hw241_1), ((HB.out.cell (World.block_lt_of_cell? w _ hw241_2)).trans hw241_2)⟩ (fun hHeld => ?_); refine with_tabW spec_l20Text.tab6 spec_l20Text.bits6 (fun HT_ HW_ => ?_)
                generalize w29.drew = w31 at BK233 HB HR239_2 HR241_2 hx239_0 hx239_1 hx239_2 hx241_0 hx241_1 hx241_2 hHeld ⊢
                refine pure_ (i := 0) (N := some 27) (v := ?_) (a' := ?_) #[true, false, false, false, false, false, false, false, false, false, false, false, false, false] rfl rfl (any_of HT_.out (by kernel_rfl)) (fun _ _ _ h => h) (Or.inl ⟨by rfl, ?_⟩) ?_ ?_
                rotate_left
                · intro w'
                  go_simp
                  with_reducible rfl
                rotate_left
                · simp only [Act.put, List.setIfInBounds_toArray, List.set_cons_zero, List.set_cons_succ, i64_w, i32_w]
                  rfl
                refine pure_ (i := 7) (N := some 34) (v := ?_) (a' := ?_) #[true, false, false, false, false, false, false, true, false, false, false, false, false, false] rfl rfl (any_of HT_.out (by kernel_rfl)) (fun _ _ _ h => h) (Or.inl ⟨by rfl, ?_⟩) ?_ ?_
                rotate_left
                · intro w'
                  go_simp
                  with_reducible rfl
                rotate_left
                · simp only [Act.put, List.setIfInBounds_toArray, List.set_cons_zero, List.set_cons_succ, i64_w, i32_w]
                  rfl
                refine take_ (i := 1) (N := some 28) (v := ?_) (a' := ?_) #[true, true, false, false, false, false, false, true, false, false, false, false, false, false] rfl rfl (take_ofW HT_.out HW_.out (by kernel_rfl)) (fun _ _ _ h => h) (Or.inl ⟨by rfl, ?_⟩) hHeld ?_ ?_
                rotate_left
                · rintro w' ⟨s0, s1, s2, s3, s4, s5, s6, s7, s8⟩
                  go_simp
                  with_reducible rfl
                rotate_left
                · simp only [Act.put, List.setIfInBounds_toArray, List.set_cons_zero, List.set_cons_succ, i64_w, i32_w]
                  rfl
                refine pure_ (i := 2) (N := some 29) (v := ?_) (a' := ?_) #[true, true, true, false, false, false, false, true, false, false, false, false, false, false] rfl rfl (any_of HT_.out (by kernel_rfl)) (fun _ _ _ h => h) (Or.inl ⟨by rfl, ?_⟩) ?_ ?_
                rotate_left
                · intro w'
                  go_simp
                  with_reducible rfl
                rotate_left
                · simp only [Act.put, List.setIfInBounds_toArray, List.set_cons_zero, List.set_cons_succ, i64_w, i32_w]
                  rfl
                refine take_ (i := 3) (N := some 30) (v := ?_) (a' := ?_) #[true, true, true, true, false, false, false, true, false, false, false, false, false, false] rfl rfl (take_ofW HT_.out HW_.out (by kernel_rfl)) (fun _ _ _ h => h) (Or.inl ⟨by rfl, ?_⟩) hHeld ?_ ?_
                rotate_left
                · rintro w' ⟨s0, s1, s2, s3, s4, s5, s6, s7, s8⟩
                  go_simp
                  with_reducible rfl
                rotate_left
                · simp only [Act.put, List.setIfInBounds_toArray, List.set_cons_zero, List.set_cons_succ, i64_w, i32_w]
                  rfl
                refine take_ (i := 8) (N := some 35) (v := ?_) (a' := ?_) #[true, true, true, true, false, false, false, true, true, false, false, false, false, false] rfl rfl (take_ofW HT_.out HW_.out (by kernel_rfl)) (fun _ _ _ h => h) (Or.inl ⟨by rfl, ?_⟩) hHeld ?_ ?_
                rotate_left
                · rintro w' ⟨s0, s1, s2, s3, s4, s5, s6, s7, s8⟩
                  go_simp
                  with_reducible rfl
                rotate_left
                · simp only [Act.put, List.setIfInBounds_toArray, List.set_cons_zero, List.set_cons_succ, i64_w, i32_w]
                  rfl
                refine pure_ (i := 9) (N := some 36) (v := ?_) (a' := ?_) #[true, true, true, true, false, false, false, true, true, true, false, false, false, false] rfl rfl (any_of HT_.out (by kernel_rfl)) (fun _ _ _ h => h) (Or.inl ⟨by rfl, ?_⟩) ?_ ?_
                rotate_left
                · intro w'
                  go_simp
                  with_reducible rfl
                rotate_left
                · simp only [Act.put, List.setIfInBounds_toArray, List.set_cons_zero, List.set_cons_succ, i64_w, i32_w]
                  rfl
                refine take_ (i := 10) (N := some 37) (v := ?_) (a' := ?_) #[true, true, true, true, false, false, false, true, true, true, true, false, false, false] rfl rfl (take_ofW HT_.out HW_.out (by kernel_rfl)) (fun _ _ _ h => h) (Or.inl ⟨by rfl, ?_⟩) hHeld ?_ ?_
                rotate_left
                · rintro w' ⟨s0, s1, s2, s3, s4, s5, s6, s7, s8⟩
                  go_simp
                  with_reducible rfl
                rotate_left
                · simp only [Act.put, List.setIfInBounds_toArray, List.set_cons_zero, List.set_cons_succ, i64_w, i32_w]
                  rfl
                refine one_ (i := 4) (N := some 31) #[true, true, true, true, true, false, false, true, true, true, true, false, false, false] rfl rfl (one_of HT_.out (by kernel_rfl)) (by decide) (fun K hK => ?_)
                refine goes_ Tryd.func48 (by kernel_rfl) rfl #[.agg #[.int .i64 ((rd_T25 l0_2 1).f0), .int .i64 ((rd_T25 l0_2 1).f1), .slice A239_2 ((rd_T25 l0_2 1).f2).length c239_2]] (by rfl) rfl rfl (by (try simp only [List.map_toArray, List.map_cons, List.map_nil]); first | done | rfl | (simp only [List.length_drop, List.length_take]; rfl)) ?_
                with_reducible refine (ih k (by omega) ((rd_T25 l0_2 1).f0) ((rd_T25 l0_2 1).f1) _ _ ((rd_T25 l0_2 1).f2) t240 _ ?side1 ?side2 A23.out).mono ?_
                (case side1 => repeat (first | exact (Kd.C_below HR239_2.out HB.out) | (with_reducible refine Kd.C_alloc ?_ _) | (with_reducible refine Kd.C_drewN ?_ _) | (with_reducible refine Kd.C_drew ?_)))
                (case side2 => exact HC239_2.out)
                rintro e w32 ⟨rfl, hb⟩
                refine ⟨_, rfl, ?_⟩
                have n0_ := Aside0.mk (blk_below (g := gb233) (o := .cells #[.int .i64 a0_0, .int .i64 a0_1, .slice (some ad239) l0_2.length c0_2] 25 (0, 0)) (by (with_reducible repeat (first | refine blk_drewN ?_ _ | refine blk_drew ?_ | refine blk_alloc ?_ _)); exact BK233.out) hb)
                have n1_ := Aside0.mk (below_step (by repeat (first | (with_reducible first | exact HB.out | apply below_alloc | apply pw_below_drewN | apply below_drew1 | refine below_set ?_ GE233.out) | exact HB.out)) hb)
                clear BK233
                clear HB
                have BK233 := n0_
                have HB := n1_
                clear n0_ n1_
                (try clear hb)
                (try clear hb2)
                (try clear hk)
                (try clear hi)
                refine hK.out _ _ ⟨(blk_cell BK233.out 0).trans rfl, (blk_cell BK233.out 1).trans rfl, (blk_cell BK233.out 2).trans rfl, ((HB.out.cell (World.block_lt_of_cell? w _ hw239_0)).trans hw239_0), ((HB.out.cell (World.block_lt_of_cell? w _ hw239_1)).trans hw239_1), ((HB.out.cell (World.block_lt_of_cell? w _ hw239_2)).trans hw239_2), ((HB.out.cell (World.block_lt_of_cell? w _ hw241_0)).trans hw241_0), ((HB.out.cell (World.block_lt_of_cell? w _ hw241_1)).trans hw241_1), ((HB.out.cell (World.block_lt_of_cell? w _ hw241_2)).trans hw241_2)⟩ (fun hHeld => ?_)
                clear hK K
                refine norm_ (a' := ?_) ?_ ?_
                rotate_left
                · show Act.put _ (some 31) _ = _
                  simp only [Act.put, List.setIfInBounds_toArray, List.set_cons_zero, List.set_cons_succ, i64_w, i32_w]
                  rfl
                refine pure_ (i := 5) (N := some 32) (v := ?_) (a' := ?_) #[true, true, true, true, true, true, false, true, true, true, true, false, false, false] rfl rfl (any_of HT_.out (by kernel_rfl)) (fun _ _ _ h => h) (Or.inl ⟨by rfl, ?_⟩) ?_ ?_
                rotate_left
                · intro w'
                  go_simp
                  with_reducible rfl
                rotate_left
                · simp only [Act.put, List.setIfInBounds_toArray, List.set_cons_zero, List.set_cons_succ, i64_w, i32_w]
                  rfl
                refine pure_ (i := 6) (N := some 33) (v := ?_) (a' := ?_) #[true, true, true, true, true, true, true, true, true, true, true, false, false, false] rfl rfl (any_of HT_.out (by kernel_rfl)) (fun _ _ _ h => h) (Or.inl ⟨by rfl, ?_⟩) ?_ ?_
                rotate_left
                · intro w'
                  go_simp
                  with_reducible rfl
                rotate_left
                · simp only [Act.put, List.setIfInBounds_toArray, List.set_cons_zero, List.set_cons_succ, i64_w, i32_w]
                  rfl
                refine one_ (i := 11) (N := some 38) #[true, true, true, true, true, true, true, true, true, true, true, true, false, false] rfl rfl (one_of HT_.out (by kernel_rfl)) (by decide) (fun K hK => ?_)
                refine goes_ Tryd.func48 (by kernel_rfl) rfl #[.agg #[.int .i64 ((rd_T25 l0_2 0).f0), .int .i64 ((rd_T25 l0_2 0).f1), .slice A241_2 ((rd_T25 l0_2 0).f2).length c241_2]] (by rfl) rfl rfl (by (try simp only [List.map_toArray, List.map_cons, List.map_nil]); first | done | rfl | (simp only [List.length_drop, List.length_take]; rfl)) ?_
                with_reducible refine (ih k (by omega) ((rd_T25 l0_2 0).f0) ((rd_T25 l0_2 0).f1) _ _ ((rd_T25 l0_2 0).f2) t242 _ ?side1 ?side2 A27.out).mono ?_
                (case side1 => repeat (first | exact (Kd.C_below HR241_2.out HB.out) | (with_reducible refine Kd.C_alloc ?_ _) | (with_reducible refine Kd.C_drewN ?_ _) | (with_reducible refine Kd.C_drew ?_)))
                (case side2 => exact HC241_2.out)
                rintro e w33 ⟨rfl, hb⟩
                refine ⟨_, rfl, ?_⟩
                have n0_ := Aside0.mk (blk_below (g := gb233) (o := .cells #[.int .i64 a0_0, .int .i64 a0_1, .slice (some ad239) l0_2.length c0_2] 25 (0, 0)) (by (with_reducible repeat (first | refine blk_drewN ?_ _ | refine blk_drew ?_ | refine blk_alloc ?_ _)); exact BK233.out) hb)
                have n1_ := Aside0.mk (below_step (by repeat (first | (with_reducible first | exact HB.out | apply below_alloc | apply pw_below_drewN | apply below_drew1 | refine below_set ?_ GE233.out) | exact HB.out)) hb)
                clear BK233
                clear HB
                have BK233 := n0_
                have HB := n1_
                clear n0_ n1_
                (try clear hb)
                (try clear hb2)
                (try clear hk)
                (try clear hi)
                refine hK.out _ _ ⟨(blk_cell BK233.out 0).trans rfl, (blk_cell BK233.out 1).trans rfl, (blk_cell BK233.out 2).trans rfl, ((HB.out.cell (World.block_lt_of_cell? w _ hw239_0)).trans hw239_0), ((HB.out.cell (World.block_lt_of_cell? w _ hw239_1)).trans hw239_1), ((HB.out.cell (World.block_lt_of_cell? w _ hw239_2)).trans hw239_2), ((HB.out.cell (World.block_lt_of_cell? w _ hw241_0)).trans hw241_0), ((HB.out.cell (World.block_lt_of_cell? w _ hw241_1)).trans hw241_1), ((HB.out.cell (World.block_lt_of_cell? w _ hw241_2)).trans hw241_2)⟩ (fun hHeld => ?_)
                clear hK K
                refine norm_ (a' := ?_) ?_ ?_
                rotate_left
                · show Act.put _ (some 38) _ = _
                  simp only [Act.put, List.setIfInBounds_toArray, List.set_cons_zero, List.set_cons_succ, i64_w, i32_w]
                  rfl
                refine pure_ (i := 12) (N := some 39) (v := ?_) (a' := ?_) #[true, true, true, true, true, true, true, true, true, true, true, true, true, false] rfl rfl (any_of HT_.out (by kernel_rfl)) (fun _ _ _ h => h) (Or.inl ⟨by rfl, ?_⟩) ?_ ?_
                rotate_left
                · intro w'
                  go_simp
                  with_reducible rfl
                rotate_left
                · simp only [Act.put, List.setIfInBounds_toArray, List.set_cons_zero, List.set_cons_succ, i64_w, i32_w]
                  rfl
                refine pure_ (i := 13) (N := some 2) (v := ?_) (a' := ?_) #[true, true, true, true, true, true, true, true, true, true, true, true, true, true] rfl rfl (any_of HT_.out (by kernel_rfl)) (fun _ _ _ h => h) (Or.inl ⟨by rfl, ?_⟩) ?_ ?_
                rotate_left
                · intro w'
                  go_simp
                  with_reducible rfl
                rotate_left
                · simp only [Act.put, List.setIfInBounds_toArray, List.set_cons_zero, List.set_cons_succ, i64_w, i32_w]
                  rfl
                refine done_ (done_of HT_.out (by kernel_rfl)) ?_
                try go_wp2
                go_ret
                exact ⟨by first | rfl | (simp [errW_none, errW_some] <;> rfl) | (simp [*, errW_none, errW_some] <;> rfl), by repeat (first | (with_reducible first | exact HB.out | apply below_alloc | apply pw_below_drewN | apply below_drew1 | refine below_set ?_ GE233.out) | exact HB.out)⟩
              · rw [if_neg c28] at H
                exact absurd H (by simp)
            · rw [if_neg c26] at H
              exact absurd H (by simp)
          · rw [if_neg c25] at H
            exact absurd H (by simp)
        · rw [if_neg c24] at H
          exact absurd H (by simp)
      · rw [if_neg c22] at H
        exact absurd H (by simp)

/-! ### spec_SealText: function 19 -/
def spec_SealText.f (k : Nat) (a0_0 : Int) (a0_1 : Int) (l0_2 : List (S25)) : Option (ByteArray) := (spec_SealOk.f k a0_0 a0_1 l0_2).bind fun t244 => (if t244 = true then ((spec_l20Text.f k a0_0 a0_1 l0_2).bind fun t245 => (some t245)) else (some (⟨#[]⟩ : ByteArray)))
theorem spec_SealText.mono : ∀ a0 a1 a2 k, LeO (spec_SealText.f k a0 a1 a2) (spec_SealText.f (k + 1) a0 a1 a2) := by
  intro a0 a1 a2 k
  unfold spec_SealText.f
  repeat' first
      | (with_reducible exact spec_SealOk.mono _ _ _ _)
      | (with_reducible exact spec_l20Text.mono _ _ _ _)
      | (with_reducible exact LeO.refl _)
      | (with_reducible exact LeO.none _)
      | (with_reducible refine LeO.ite ?_ ?_)
      | (with_reducible refine LeO.bind ?_ (fun _ => ?_))
      | exact spec_SealOk.mono _ _ _ _
      | exact spec_l20Text.mono _ _ _ _
      | exact LeO.none _
      | refine LeO.ite ?_ ?_
      | refine LeO.bind ?_ (fun _ => ?_)
set_option maxHeartbeats 8000000 in
set_option maxRecDepth 100000 in
theorem spec_SealText.calls (k : Nat) (a0_0 : Int) (a0_1 : Int) (A0_2 : Option Addr) (c0_2 : Nat) (l0_2 : List (S25)) (r : ByteArray) (w : World) (hr0_2 : Kd.C k25 w A0_2 l0_2.length l0_2) (hc0_2 : l0_2.length ≤ c0_2) (h : spec_SealText.f k a0_0 a0_1 l0_2 = some r) :
    Calls Tryd.prog 19 #[.agg #[.int .i64 a0_0, .int .i64 a0_1, .slice A0_2 l0_2.length c0_2]] w fun e w' => e = .returned (.string r) ∧ Below w.heap.size w w' := by
  have hu25 := Tryd.underlying25
  have HR0_2 := Aside0.mk hr0_2
  have HC0_2 := Aside0.mk hc0_2
  clear hr0_2 hc0_2
  have HB := Aside0.mk (Below.refl w.heap.size w)
  have H : ((spec_SealOk.f k a0_0 a0_1 l0_2).bind fun t244 => (if t244 = true then ((spec_l20Text.f k a0_0 a0_1 l0_2).bind fun t245 => (some t245)) else (some (⟨#[]⟩ : ByteArray)))) = some r := h
  clear h
  replace H := Option.bind_eq_some_iff.mp H
  obtain ⟨t244, A20, H⟩ := H
  replace H : (if t244 = true then ((spec_l20Text.f k a0_0 a0_1 l0_2).bind fun t245 => (some t245)) else (some (⟨#[]⟩ : ByteArray))) = some r := H
  have A2 := Aside0.mk A20
  clear A20
  by_cases c3 : t244 = true
  · subst c3
    have H1 : ((spec_l20Text.f k a0_0 a0_1 l0_2).bind fun t245 => (some t245)) = some r := by rw [if_pos rfl] at H; exact H
    clear H
    have H := H1
    clear H1
    replace H := Option.bind_eq_some_iff.mp H
    obtain ⟨t245, A40, H⟩ := H
    replace H : (some t245) = some r := H
    have A4 := Aside0.mk A40
    clear A40
    obtain rfl := Option.some.inj H
    go_enter Tryd.func19, Tryd.ntmps19
    go_wp2_with (first | ((with_reducible refine gate_dst (N := 1) rfl ?_); refine box_event ?hg (N := 1) ?hd (cs := #[.int .i64 a0_0, .int .i64 a0_1, .slice A0_2 l0_2.length c0_2]) (t := 25) ?hr ?_; (case hd => rfl); (case hg => rfl); (case hr => first | (go_simp; done) | (go_simp; rfl)); intro gb243 hg w5 hbox hb; have n0_ := Aside0.mk (below_step (by repeat (first | (with_reducible first | exact HB.out | apply below_alloc | apply pw_below_drewN | apply below_drew1) | exact HB.out)) hb); have n1_ := Aside0.mk (hbox); have n2_ := Aside0.mk ((by rw [hg]; exact (below_size (by repeat (first | (with_reducible first | exact HB.out | apply below_alloc | apply pw_below_drewN | apply below_drew1) | exact HB.out))) : w.heap.size ≤ gb243)); have n3_ := Aside0.mk ((by rw [hg]; exact (below_size (by repeat (first | (with_reducible first | exact HB.out | apply below_alloc | apply pw_below_drewN | apply below_drew1) | exact HB.out))) : w.heap.size ≤ gb243)); clear HB; have HB := n0_; have BK243 := n1_; have GW243 := n2_; have GE243 := n3_; clear n0_ n1_ n2_ n3_; clear hb hbox hg; have hcz6_0 : w5.cell? ⟨gb243, 0, none⟩ = some (.int .i64 a0_0) := (blk_cell BK243.out 0).trans rfl; have hcz6_1 : w5.cell? ⟨gb243, 1, none⟩ = some (.int .i64 a0_1) := (blk_cell BK243.out 1).trans rfl; have hcz6_2 : w5.cell? ⟨gb243, 2, none⟩ = some (.slice A0_2 l0_2.length c0_2) := (blk_cell BK243.out 2).trans rfl; have hfz6_0 := blk_frozen BK243.out 0; have hfz6_1 := blk_frozen BK243.out 1; have hfz6_2 := blk_frozen BK243.out 2) | ((with_reducible refine gate_callee (f := 15) rfl ?_); refine goesL_ (some 4) rfl rfl Tryd.func15 (by kernel_rfl) rfl #[.agg #[.int .i64 a0_0, .int .i64 a0_1, .slice A0_2 l0_2.length c0_2]] rfl (by (try simp only [List.map_toArray, List.map_cons, List.map_nil]); first | done | rfl | (simp only [List.length_drop, List.length_take]; rfl)) ?_; (with_reducible refine (spec_SealOk.calls k a0_0 a0_1 _ _ l0_2 true _ ?side1 ?side2 A2.out).mono ?_); (case side1 => repeat (first | exact (Kd.C_below HR0_2.out HB.out) | (with_reducible refine Kd.C_alloc ?_ _) | (with_reducible refine Kd.C_drewN ?_ _) | (with_reducible refine Kd.C_drew ?_))); (case side2 => exact HC0_2.out); rintro e w7 ⟨rfl, hb⟩; refine ⟨_, rfl, ?_⟩; have n0_ := Aside0.mk (blk_below (g := gb243) (o := .cells #[.int .i64 a0_0, .int .i64 a0_1, .slice A0_2 l0_2.length c0_2] 25 (0, 0)) (by (with_reducible repeat (first | refine blk_drewN ?_ _ | refine blk_drew ?_ | refine blk_alloc ?_ _)); exact BK243.out) hb); have n1_ := Aside0.mk (below_step (by repeat (first | (with_reducible first | exact HB.out | apply below_alloc | apply pw_below_drewN | apply below_drew1 | refine below_set ?_ GE243.out) | exact HB.out)) hb); clear BK243; clear HB; have BK243 := n0_; have HB := n1_; clear n0_ n1_; (try clear hb); (try clear hb2); (try clear hk); (try clear hi); have hcz8_0 : w7.cell? ⟨gb243, 0, none⟩ = some (.int .i64 a0_0) := (blk_cell BK243.out 0).trans rfl; have hcz8_1 : w7.cell? ⟨gb243, 1, none⟩ = some (.int .i64 a0_1) := (blk_cell BK243.out 1).trans rfl; have hcz8_2 : w7.cell? ⟨gb243, 2, none⟩ = some (.slice A0_2 l0_2.length c0_2) := (blk_cell BK243.out 2).trans rfl; have hfz8_0 := blk_frozen BK243.out 0; have hfz8_1 := blk_frozen BK243.out 1; have hfz8_2 := blk_frozen BK243.out 2) | ((with_reducible refine gate_callee (f := 48) rfl ?_); refine goesL_ (some 7) rfl rfl Tryd.func48 (by kernel_rfl) rfl #[.agg #[.int .i64 a0_0, .int .i64 a0_1, .slice A0_2 l0_2.length c0_2]] rfl (by (try simp only [List.map_toArray, List.map_cons, List.map_nil]); first | done | rfl | (simp only [List.length_drop, List.length_take]; rfl)) ?_; (with_reducible refine (spec_l20Text.calls k a0_0 a0_1 _ _ l0_2 t245 _ ?side1 ?side2 A4.out).mono ?_); (case side1 => repeat (first | exact (Kd.C_below HR0_2.out HB.out) | (with_reducible refine Kd.C_alloc ?_ _) | (with_reducible refine Kd.C_drewN ?_ _) | (with_reducible refine Kd.C_drew ?_))); (case side2 => exact HC0_2.out); rintro e w9 ⟨rfl, hb⟩; refine ⟨_, rfl, ?_⟩; have n0_ := Aside0.mk (blk_below (g := gb243) (o := .cells #[.int .i64 a0_0, .int .i64 a0_1, .slice A0_2 l0_2.length c0_2] 25 (0, 0)) (by (with_reducible repeat (first | refine blk_drewN ?_ _ | refine blk_drew ?_ | refine blk_alloc ?_ _)); exact BK243.out) hb); have n1_ := Aside0.mk (below_step (by repeat (first | (with_reducible first | exact HB.out | apply below_alloc | apply pw_below_drewN | apply below_drew1 | refine below_set ?_ GE243.out) | exact HB.out)) hb); clear BK243; clear HB; have BK243 := n0_; have HB := n1_; clear n0_ n1_; (try clear hb); (try clear hb2); (try clear hk); (try clear hi)))
    go_ret
    exact ⟨by first | rfl | (simp [errW_none, errW_some] <;> rfl) | (simp [*, errW_none, errW_some] <;> rfl), by repeat (first | (with_reducible first | exact HB.out | apply below_alloc | apply pw_below_drewN | apply below_drew1 | refine below_set ?_ GE243.out) | exact HB.out)⟩
  · replace c3 := Bool.eq_false_iff.mpr c3
    subst c3
    have H1 : (some (⟨#[]⟩ : ByteArray)) = some r := by rw [if_neg (show ¬ (false = true) by decide)] at H; exact H
    clear H
    have H := H1
    clear H1
    obtain rfl := Option.some.inj H
    go_enter Tryd.func19, Tryd.ntmps19
    go_wp2_with (first | ((with_reducible refine gate_dst (N := 1) rfl ?_); refine box_event ?hg (N := 1) ?hd (cs := #[.int .i64 a0_0, .int .i64 a0_1, .slice A0_2 l0_2.length c0_2]) (t := 25) ?hr ?_; (case hd => rfl); (case hg => rfl); (case hr => first | (go_simp; done) | (go_simp; rfl)); intro gb243 hg w10 hbox hb; have n0_ := Aside0.mk (below_step (by repeat (first | (with_reducible first | exact HB.out | apply below_alloc | apply pw_below_drewN | apply below_drew1) | exact HB.out)) hb); have n1_ := Aside0.mk (hbox); have n2_ := Aside0.mk ((by rw [hg]; exact (below_size (by repeat (first | (with_reducible first | exact HB.out | apply below_alloc | apply pw_below_drewN | apply below_drew1) | exact HB.out))) : w.heap.size ≤ gb243)); have n3_ := Aside0.mk ((by rw [hg]; exact (below_size (by repeat (first | (with_reducible first | exact HB.out | apply below_alloc | apply pw_below_drewN | apply below_drew1) | exact HB.out))) : w.heap.size ≤ gb243)); clear HB; have HB := n0_; have BK243 := n1_; have GW243 := n2_; have GE243 := n3_; clear n0_ n1_ n2_ n3_; clear hb hbox hg; have hcz11_0 : w10.cell? ⟨gb243, 0, none⟩ = some (.int .i64 a0_0) := (blk_cell BK243.out 0).trans rfl; have hcz11_1 : w10.cell? ⟨gb243, 1, none⟩ = some (.int .i64 a0_1) := (blk_cell BK243.out 1).trans rfl; have hcz11_2 : w10.cell? ⟨gb243, 2, none⟩ = some (.slice A0_2 l0_2.length c0_2) := (blk_cell BK243.out 2).trans rfl; have hfz11_0 := blk_frozen BK243.out 0; have hfz11_1 := blk_frozen BK243.out 1; have hfz11_2 := blk_frozen BK243.out 2) | ((with_reducible refine gate_callee (f := 15) rfl ?_); refine goesL_ (some 4) rfl rfl Tryd.func15 (by kernel_rfl) rfl #[.agg #[.int .i64 a0_0, .int .i64 a0_1, .slice A0_2 l0_2.length c0_2]] rfl (by (try simp only [List.map_toArray, List.map_cons, List.map_nil]); first | done | rfl | (simp only [List.length_drop, List.length_take]; rfl)) ?_; (with_reducible refine (spec_SealOk.calls k a0_0 a0_1 _ _ l0_2 false _ ?side1 ?side2 A2.out).mono ?_); (case side1 => repeat (first | exact (Kd.C_below HR0_2.out HB.out) | (with_reducible refine Kd.C_alloc ?_ _) | (with_reducible refine Kd.C_drewN ?_ _) | (with_reducible refine Kd.C_drew ?_))); (case side2 => exact HC0_2.out); rintro e w12 ⟨rfl, hb⟩; refine ⟨_, rfl, ?_⟩; have n0_ := Aside0.mk (blk_below (g := gb243) (o := .cells #[.int .i64 a0_0, .int .i64 a0_1, .slice A0_2 l0_2.length c0_2] 25 (0, 0)) (by (with_reducible repeat (first | refine blk_drewN ?_ _ | refine blk_drew ?_ | refine blk_alloc ?_ _)); exact BK243.out) hb); have n1_ := Aside0.mk (below_step (by repeat (first | (with_reducible first | exact HB.out | apply below_alloc | apply pw_below_drewN | apply below_drew1 | refine below_set ?_ GE243.out) | exact HB.out)) hb); clear BK243; clear HB; have BK243 := n0_; have HB := n1_; clear n0_ n1_; (try clear hb); (try clear hb2); (try clear hk); (try clear hi)))
    go_ret
    exact ⟨by first | rfl | (simp [errW_none, errW_some] <;> rfl) | (simp [*, errW_none, errW_some] <;> rfl), by repeat (first | (with_reducible first | exact HB.out | apply below_alloc | apply pw_below_drewN | apply below_drew1 | refine below_set ?_ GE243.out) | exact HB.out)⟩

-- NOT PRINTED: function 4 (laws_FnSealText)

end Go.Proofs.YtlcladalpjcegaaDoor.PAll
