-- Laid by a program of this session out of the translation's print
import Derived.Test.YtfnmjecofgeboaaPAll0
import Derived.Test.YtfnmjecofgeboaaPAllSmall
import Derived.Test.YtfnmjecofgeboaaPAllImplticksOf
import Derived.Test.YtfnmjecofgeboaaHa2
namespace Go.Proofs.Ytfnmjecofgeboaa.PAll
open Go.RowKit Go.Proofs.YtfnmjecofgeboaaW.PrintWords Go.Proofs.YtfnmjecofgeboaaW.PrintLast Go.Proofs.YtfnmjecofgeboaaW.PrintMore
attribute [local go_sem] max2_int min2_int max_two min_two max_three min_three max_four min_four   -- for this text's walks alone
set_option linter.unusedVariables false
set_option linter.unusedSimpArgs false

/-! ### impl_ClockOk: function 13 -/
def impl_ClockOk.f (k : Nat) (a0_0 : Int) (a0_1 : Int) (l0_2 : List (S25)) : Option (Bool) := (impl_clockNodes.f k a0_0 a0_1 l0_2 16).bind fun t227 => (if t227 ≤ 16 then ((impl_clockShape.f k a0_0 a0_1 l0_2).bind fun t228 => (some t228)) else (some false))
theorem impl_ClockOk.mono : ∀ a0 a1 a2 k, LeO (impl_ClockOk.f k a0 a1 a2) (impl_ClockOk.f (k + 1) a0 a1 a2) := by
 intro a0 a1 a2 k
 unfold impl_ClockOk.f
 repeat' first
   | (with_reducible exact impl_clockNodes.mono _ _ _ _ _)
   | (with_reducible exact impl_clockShape.mono _ _ _ _)
   | (with_reducible exact LeO.refl _)
   | (with_reducible exact LeO.none _)
   | (with_reducible refine LeO.ite ?_ ?_)
   | (with_reducible refine LeO.bind ?_ (fun _ => ?_))
   | exact impl_clockNodes.mono _ _ _ _ _
   | exact impl_clockShape.mono _ _ _ _
   | exact LeO.none _
   | refine LeO.ite ?_ ?_
   | refine LeO.bind ?_ (fun _ => ?_)
set_option maxHeartbeats 8000000 in
set_option maxRecDepth 100000 in
theorem impl_ClockOk.calls (k : Nat) (g2 : Int) (g3 : Int) (g5 : Option Addr) (g6 : Nat) (g1 : List (S25)) (r : Bool) (w : World) (gC : Kd.C k25 w g5 g1.length g1) (gD : g1.length ≤ g6) (h : impl_ClockOk.f k g2 g3 g1 = some r) :
  Calls Try.prog 13 #[.agg #[.int .i64 g2, .int .i64 g3, .slice g5 g1.length g6]] w fun e w' => e = .returned (.bool r) ∧ Below w.heap.size w w' := by
 have gF := Try.underlying25
 have gA := am gC; have gB := am gD; clear gC gD; have HB := am (Below.refl w.heap.size w)
 have H : ((impl_clockNodes.f k g2 g3 g1 16).bind fun g7 => (if g7 ≤ 16 then ((impl_clockShape.f k g2 g3 g1).bind fun g8 => (some g8)) else (some false))) = some r := h
 clear h
 replace H := Option.bind_eq_some_iff.mp H
 obtain ⟨g7, A20, H⟩ := H
 replace H : (if g7 ≤ 16 then ((impl_clockShape.f k g2 g3 g1).bind fun g8 => (some g8)) else (some false)) = some r := H
 have A2 := am A20
 clear A20
 by_cases c3 : g7 ≤ 16
 ·
  rw [if_pos c3] at H; have c3b0 : decide (g7 ≤ 16) = true := decide_eq_true c3; clear c3
  replace H := Option.bind_eq_some_iff.mp H
  obtain ⟨g8, A40, H⟩ := H
  replace H : (some g8) = some r := H
  have A4 := am A40
  clear A40
  obtain rfl := Option.some.inj H
  go_enter Try.func13, Try.ntmps13
  go_wp2_with (first | ((with_reducible refine gate_dst (N := 1) rfl ?_); refine box_event ?hg (N := 1) ?hd (cs := #[.int .i64 g2, .int .i64 g3, .slice g5 g1.length g6]) (t := 25) ?hr ?_; (case hd => rfl); (case hg => rfl); (case hr => first | (go_simp; done) | (go_simp; rfl)); intro g4 hg w5 hbox hb; have n0_ := am (below_step (by repeat (first | (with_reducible first | exact HB.out | apply below_alloc | apply pw_below_drewN | apply below_drew1) | exact HB.out)) hb); have n1_ := am (hbox); have n2_ := am ((by rw [hg]; exact (below_size (by repeat (first | (with_reducible first | exact HB.out | apply below_alloc | apply pw_below_drewN | apply below_drew1) | exact HB.out))) : w.heap.size ≤ g4)); have n3_ := am ((by rw [hg]; exact (below_size (by repeat (first | (with_reducible first | exact HB.out | apply below_alloc | apply pw_below_drewN | apply below_drew1) | exact HB.out))) : w.heap.size ≤ g4)); clear HB; have HB := n0_; have g0 := n1_; have gE := n2_; have g9 := n3_; clear n0_ n1_ n2_ n3_; clear hb hbox hg; have gG : w5.cell? ⟨g4, 0, none⟩ = some (.int .i64 g2) := (blk_cell g0.out 0).trans rfl; have gH : w5.cell? ⟨g4, 1, none⟩ = some (.int .i64 g3) := (blk_cell g0.out 1).trans rfl; have gI : w5.cell? ⟨g4, 2, none⟩ = some (.slice g5 g1.length g6) := (blk_cell g0.out 2).trans rfl; have gJ := blk_frozen g0.out 0; have gK := blk_frozen g0.out 1; have gL := blk_frozen g0.out 2) | ((with_reducible refine gate_callee (f := 39) rfl ?_); refine goesL_ (some 4) rfl rfl Try.func39 (by kernel_rfl) rfl #[.agg #[.int .i64 g2, .int .i64 g3, .slice g5 g1.length g6], .int .i64 16] rfl (by (try simp only [List.map_toArray, List.map_cons, List.map_nil]); first | done | rfl | (simp only [List.length_drop, List.length_take]; rfl)) ?_; (with_reducible refine (impl_clockNodes.calls k g2 g3 _ _ g1 16 g7 _ ?side1 ?side2 A2.out).mono ?_); (case side1 => repeat (first | exact (Kd.C_below gA.out HB.out) | (with_reducible refine Kd.C_alloc ?_ _) | (with_reducible refine Kd.C_drewN ?_ _) | (with_reducible refine Kd.C_drew ?_))); (case side2 => exact gB.out); rintro e w7 ⟨rfl, hb⟩; refine ⟨_, rfl, ?_⟩; have n0_ := am (blk_below (g := g4) (o := .cells #[.int .i64 g2, .int .i64 g3, .slice g5 g1.length g6] 25 (0, 0)) (by (with_reducible repeat (first | apply bN | apply bD | apply bA)); exact g0.out) hb); have n1_ := am (below_step (by repeat (first | (with_reducible first | exact HB.out | apply below_alloc | apply pw_below_drewN | apply below_drew1 | refine below_set ?_ g9.out) | exact HB.out)) hb); clear g0; clear HB; have g0 := n0_; have HB := n1_; clear n0_ n1_; (try clear hb); (try clear hb2); (try clear hk); (try clear hi); have gM : w7.cell? ⟨g4, 0, none⟩ = some (.int .i64 g2) := (blk_cell g0.out 0).trans rfl; have gN : w7.cell? ⟨g4, 1, none⟩ = some (.int .i64 g3) := (blk_cell g0.out 1).trans rfl; have gO : w7.cell? ⟨g4, 2, none⟩ = some (.slice g5 g1.length g6) := (blk_cell g0.out 2).trans rfl; have gP := blk_frozen g0.out 0; have gQ := blk_frozen g0.out 1; have gR := blk_frozen g0.out 2) | (go_at_call 40; (with_reducible refine (impl_clockShape.calls k g2 g3 _ _ g1 g8 _ ?side1 ?side2 A4.out).mono ?_); (case side1 => repeat (first | exact (Kd.C_below gA.out HB.out) | (with_reducible refine Kd.C_alloc ?_ _) | (with_reducible refine Kd.C_drewN ?_ _) | (with_reducible refine Kd.C_drew ?_))); (case side2 => exact gB.out); rintro e w9 ⟨rfl, hb⟩; have n0_ := am (blk_below (g := g4) (o := .cells #[.int .i64 g2, .int .i64 g3, .slice g5 g1.length g6] 25 (0, 0)) (by (with_reducible repeat (first | apply bN | apply bD | apply bA)); exact g0.out) hb); have n1_ := am (below_step (by repeat (first | (with_reducible first | exact HB.out | apply below_alloc | apply pw_below_drewN | apply below_drew1 | refine below_set ?_ g9.out) | exact HB.out)) hb); clear g0; clear HB; have g0 := n0_; have HB := n1_; clear n0_ n1_; (try clear hb); (try clear hb2); (try clear hk); (try clear hi)))
  go_ret
  exact ⟨by first | rfl | (simp [errW_none, errW_some] <;> rfl) | (simp [*, errW_none, errW_some] <;> rfl), by repeat (first | (with_reducible first | exact HB.out | apply below_alloc | apply pw_below_drewN | apply below_drew1 | refine below_set ?_ g9.out) | exact HB.out)⟩
 ·
  rw [if_neg c3] at H; have c3b0 : decide (g7 ≤ 16) = false := decide_eq_false c3; clear c3
  obtain rfl := Option.some.inj H
  go_enter Try.func13, Try.ntmps13
  go_wp2_with (first | ((with_reducible refine gate_dst (N := 1) rfl ?_); refine box_event ?hg (N := 1) ?hd (cs := #[.int .i64 g2, .int .i64 g3, .slice g5 g1.length g6]) (t := 25) ?hr ?_; (case hd => rfl); (case hg => rfl); (case hr => first | (go_simp; done) | (go_simp; rfl)); intro g4 hg w10 hbox hb; have n0_ := am (below_step (by repeat (first | (with_reducible first | exact HB.out | apply below_alloc | apply pw_below_drewN | apply below_drew1) | exact HB.out)) hb); have n1_ := am (hbox); have n2_ := am ((by rw [hg]; exact (below_size (by repeat (first | (with_reducible first | exact HB.out | apply below_alloc | apply pw_below_drewN | apply below_drew1) | exact HB.out))) : w.heap.size ≤ g4)); have n3_ := am ((by rw [hg]; exact (below_size (by repeat (first | (with_reducible first | exact HB.out | apply below_alloc | apply pw_below_drewN | apply below_drew1) | exact HB.out))) : w.heap.size ≤ g4)); clear HB; have HB := n0_; have g0 := n1_; have gE := n2_; have g9 := n3_; clear n0_ n1_ n2_ n3_; clear hb hbox hg; have gS : w10.cell? ⟨g4, 0, none⟩ = some (.int .i64 g2) := (blk_cell g0.out 0).trans rfl; have gT : w10.cell? ⟨g4, 1, none⟩ = some (.int .i64 g3) := (blk_cell g0.out 1).trans rfl; have gU : w10.cell? ⟨g4, 2, none⟩ = some (.slice g5 g1.length g6) := (blk_cell g0.out 2).trans rfl; have gV := blk_frozen g0.out 0; have gW := blk_frozen g0.out 1; have gX := blk_frozen g0.out 2) | ((with_reducible refine gate_callee (f := 39) rfl ?_); refine goesL_ (some 4) rfl rfl Try.func39 (by kernel_rfl) rfl #[.agg #[.int .i64 g2, .int .i64 g3, .slice g5 g1.length g6], .int .i64 16] rfl (by (try simp only [List.map_toArray, List.map_cons, List.map_nil]); first | done | rfl | (simp only [List.length_drop, List.length_take]; rfl)) ?_; (with_reducible refine (impl_clockNodes.calls k g2 g3 _ _ g1 16 g7 _ ?side1 ?side2 A2.out).mono ?_); (case side1 => repeat (first | exact (Kd.C_below gA.out HB.out) | (with_reducible refine Kd.C_alloc ?_ _) | (with_reducible refine Kd.C_drewN ?_ _) | (with_reducible refine Kd.C_drew ?_))); (case side2 => exact gB.out); rintro e w12 ⟨rfl, hb⟩; refine ⟨_, rfl, ?_⟩; have n0_ := am (blk_below (g := g4) (o := .cells #[.int .i64 g2, .int .i64 g3, .slice g5 g1.length g6] 25 (0, 0)) (by (with_reducible repeat (first | apply bN | apply bD | apply bA)); exact g0.out) hb); have n1_ := am (below_step (by repeat (first | (with_reducible first | exact HB.out | apply below_alloc | apply pw_below_drewN | apply below_drew1 | refine below_set ?_ g9.out) | exact HB.out)) hb); clear g0; clear HB; have g0 := n0_; have HB := n1_; clear n0_ n1_; (try clear hb); (try clear hb2); (try clear hk); (try clear hi)))
  go_ret
  exact ⟨by first | rfl | (simp [errW_none, errW_some] <;> rfl) | (simp [*, errW_none, errW_some] <;> rfl), by repeat (first | (with_reducible first | exact HB.out | apply below_alloc | apply pw_below_drewN | apply below_drew1 | refine below_set ?_ g9.out) | exact HB.out)⟩


/-! ### impl_ClockSteps: function 15 -/
def impl_ClockSteps.l0 : Nat → List (S44) → Int → Int → Option ((List (S44)) × Bool)
 | 0, _, _, _ => none
 | k + 1, x4, x12, x13 => if x13 < x12 then (if 0 ≤ x13 then (if x13 < (x4.length : Int) then ((impl_copyClock.f k ((rd_T44 x4 x13).f1.f0) ((rd_T44 x4 x13).f1.f1) ((rd_T44 x4 x13).f1.f2)).bind fun bt324 => (impl_ClockSteps.l0 k (x4.set (x13 : Int).toNat (⟨(rd_T44 x4 x13).f0, (⟨bt324.1, bt324.2.1, bt324.2.2⟩ : S25)⟩ : S44)) x12 (wrap64 (x13 + 1)))) else (none)) else (none)) else (some (x4, true))
def impl_ClockSteps.f (k : Nat) (a0_0 : Int) (a0_1 : Int) (l0_2 : List (S25)) : Option ((List (S44)) × Bool) := (impl_ClockOk.f k a0_0 a0_1 l0_2).bind fun t319 => (if t319 = true then ((impl_ticksOf.f k a0_0 a0_1 l0_2).bind fun t320 => (impl_ClockSteps.l0 k t320 (t320.length : Int) 0)) else (some (([] : List (S44)), false)))
theorem impl_ClockSteps.mono_l : ∀ k, (∀ y0 y1 y2, LeO (impl_ClockSteps.l0 k y0 y1 y2) (impl_ClockSteps.l0 (k + 1) y0 y1 y2))
 | 0 => fun _ _ _ r h => by simp [impl_ClockSteps.l0] at h
 | k + 1 => by
  have ih0 := impl_ClockSteps.mono_l k
  ·
   intro y0 y1 y2
   unfold impl_ClockSteps.l0
   repeat' first
   | (with_reducible exact ih0 _ _ _)
   | (with_reducible exact impl_ClockOk.mono _ _ _ _)
   | (with_reducible exact impl_copyClock.mono _ _ _ _)
   | (with_reducible exact impl_ticksOf.mono _ _ _ _)
   | (with_reducible exact LeO.refl _)
   | (with_reducible exact LeO.none _)
   | (with_reducible refine LeO.ite ?_ ?_)
   | (with_reducible refine LeO.bind ?_ (fun _ => ?_))
   | exact ih0 _ _ _
   | exact impl_ClockOk.mono _ _ _ _
   | exact impl_copyClock.mono _ _ _ _
   | exact impl_ticksOf.mono _ _ _ _
   | exact LeO.none _
   | refine LeO.ite ?_ ?_
   | refine LeO.bind ?_ (fun _ => ?_)
theorem impl_ClockSteps.mono : ∀ a0 a1 a2 k, LeO (impl_ClockSteps.f k a0 a1 a2) (impl_ClockSteps.f (k + 1) a0 a1 a2) := by
 intro a0 a1 a2 k
 have ih0 := impl_ClockSteps.mono_l k
 unfold impl_ClockSteps.f
 repeat' first
   | (with_reducible exact ih0 _ _ _)
   | (with_reducible exact impl_ClockOk.mono _ _ _ _)
   | (with_reducible exact impl_copyClock.mono _ _ _ _)
   | (with_reducible exact impl_ticksOf.mono _ _ _ _)
   | (with_reducible exact LeO.refl _)
   | (with_reducible exact LeO.none _)
   | (with_reducible refine LeO.ite ?_ ?_)
   | (with_reducible refine LeO.bind ?_ (fun _ => ?_))
   | exact ih0 _ _ _
   | exact impl_ClockOk.mono _ _ _ _
   | exact impl_copyClock.mono _ _ _ _
   | exact impl_ticksOf.mono _ _ _ _
   | exact LeO.none _
   | refine LeO.ite ?_ ?_
   | refine LeO.bind ?_ (fun _ => ?_)
set_option maxHeartbeats 8000000 in
set_option maxRecDepth 100000 in
theorem impl_ClockSteps.calls (k : Nat) (g5 : Int) (g6 : Int) (gD : Nat → Prop) (gA : Option Addr) (gB : Nat) (g4 : List (S25)) (r1 : List (S44)) (r2 : Bool) (w : World) (hI : Kd.V k25 25 w w.heap.size (fun k_ => gD k_) (.slice gA g4.length gB) g4) (h : impl_ClockSteps.f k g5 g6 g4 = some (r1, r2)) :
  Calls Try.prog 15 #[.agg #[.int .i64 g5, .int .i64 g6, .slice gA g4.length gB]] w fun e w' => ∃ v0_ : Value, e = .returned (.tuple #[v0_, .bool r2]) ∧ Kd.N k44 44 w' w.heap.size (fun k_ => (gD k_ ∨ w.heap.size ≤ k_)) v0_ r1 ∧ Below w.heap.size w w' := by
 have iJ := Try.underlying25
 have g8 := am (show Kd.V k25 25 w w.heap.size (fun k_ => (gD k_ ∨ w.heap.size ≤ k_)) (.slice gA g4.length gB) g4 from Kd.V_mono hI (fun k_ hk => .inl hk)); have HB := am (Below.refl w.heap.size w)
 have H : ((impl_ClockOk.f k g5 g6 g4).bind fun gT => (if gT = true then ((impl_ticksOf.f k g5 g6 g4).bind fun g9 => (impl_ClockSteps.l0 k g9 (g9.length : Int) 0)) else (some (([] : List (S44)), false)))) = some (r1, r2) := h
 clear h
 replace H := Option.bind_eq_some_iff.mp H
 obtain ⟨gT, A20, H⟩ := H
 replace H : (if gT = true then ((impl_ticksOf.f k g5 g6 g4).bind fun g9 => (impl_ClockSteps.l0 k g9 (g9.length : Int) 0)) else (some (([] : List (S44)), false))) = some (r1, r2) := H
 have A2 := am A20
 clear A20
 by_cases c3 : gT = true
 ·
  subst c3
  have H1 : ((impl_ticksOf.f k g5 g6 g4).bind fun g9 => (impl_ClockSteps.l0 k g9 (g9.length : Int) 0)) = some (r1, r2) := by rw [if_pos rfl] at H; exact H
  clear H
  have H := H1
  clear H1
  replace H := Option.bind_eq_some_iff.mp H
  obtain ⟨g9, A40, H⟩ := H
  replace H : (impl_ClockSteps.l0 k g9 (g9.length : Int) 0) = some (r1, r2) := H
  have A4 := am A40
  clear A40
  have H' := am H
  clear H
  go_enter Try.func15, Try.ntmps15
  go_wp2_with (first | ((with_reducible refine gate_dst (N := 1) rfl ?_); refine box_event ?hg (N := 1) ?hd (cs := #[.int .i64 g5, .int .i64 g6, .slice gA g4.length gB]) (t := 25) ?hr ?_; (case hd => rfl); (case hg => rfl); (case hr => first | (go_simp; done) | (go_simp; rfl)); intro g2 hg w5 hbox hb; have n0_ := am (Kd.V_below (Kd.V_elderB (by (with_reducible repeat (first | apply Kd.V_alloc | apply Kd.V_drewN | apply Kd.V_drew)); exact g8.out) g2 (Nat.le_of_eq hg.symm)) hb); have n1_ := am (below_step (by repeat (first | (with_reducible first | exact HB.out | apply below_alloc | apply pw_below_drewN | apply below_drew1) | exact HB.out)) hb); have n2_ := am (hbox); have n3_ := am ((by rw [hg]; exact (below_size (by repeat (first | (with_reducible first | exact HB.out | apply below_alloc | apply pw_below_drewN | apply below_drew1) | exact HB.out))) : w.heap.size ≤ g2)); have n4_ := am ((by rw [hg]; exact (below_size (by repeat (first | (with_reducible first | exact HB.out | apply below_alloc | apply pw_below_drewN | apply below_drew1) | exact HB.out))) : w.heap.size ≤ g2)); clear g8; clear HB; have g8 := n0_; have HB := n1_; have g1 := n2_; have hJ := n3_; have gE := n4_; clear n0_ n1_ n2_ n3_ n4_; clear hb hbox hg; have hK : w5.cell? ⟨g2, 0, none⟩ = some (.int .i64 g5) := (blk_cell g1.out 0).trans rfl; have hL : w5.cell? ⟨g2, 1, none⟩ = some (.int .i64 g6) := (blk_cell g1.out 1).trans rfl; have hM : w5.cell? ⟨g2, 2, none⟩ = some (.slice gA g4.length gB) := (blk_cell g1.out 2).trans rfl; have hN := blk_frozen g1.out 0; have hO := blk_frozen g1.out 1; have hP := blk_frozen g1.out 2) | ((with_reducible refine gate_callee (f := 13) rfl ?_); refine goesL_ (some 7) rfl rfl Try.func13 (by kernel_rfl) rfl #[.agg #[.int .i64 g5, .int .i64 g6, .slice gA g4.length gB]] rfl (by (try simp only [List.map_toArray, List.map_cons, List.map_nil]); first | done | rfl | (simp only [List.length_drop, List.length_take]; rfl)) ?_; (with_reducible refine (impl_ClockOk.calls k g5 g6 _ _ g4 true _ ?side1 ?side2 A2.out).mono ?_); (case side1 => repeat (first | exact (Kd.V_reads' g8.out).2.2 | (with_reducible refine Kd.C_alloc ?_ _) | (with_reducible refine Kd.C_drewN ?_ _) | (with_reducible refine Kd.C_drew ?_))); (case side2 => exact (Kd.V_reads' g8.out).2.1); rintro e w7 ⟨rfl, hb⟩; refine ⟨_, rfl, ?_⟩; have n0_ := am (Kd.V_below (by (with_reducible repeat (first | apply Kd.V_alloc | apply Kd.V_drewN | apply Kd.V_drew)); exact g8.out) hb); have n1_ := am (blk_below (g := g2) (o := .cells #[.int .i64 g5, .int .i64 g6, .slice gA g4.length gB] 25 (0, 0)) (by (with_reducible repeat (first | apply bN | apply bD | apply bA)); exact g1.out) hb); have n2_ := am (below_step (by repeat (first | (with_reducible first | exact HB.out | apply below_alloc | apply pw_below_drewN | apply below_drew1 | refine below_set ?_ gE.out) | exact HB.out)) hb); clear g8; clear g1; clear HB; have g8 := n0_; have g1 := n1_; have HB := n2_; clear n0_ n1_ n2_; (try clear hb); (try clear hb2); (try clear hk); (try clear hi); have hQ : w7.cell? ⟨g2, 0, none⟩ = some (.int .i64 g5) := (blk_cell g1.out 0).trans rfl; have hR : w7.cell? ⟨g2, 1, none⟩ = some (.int .i64 g6) := (blk_cell g1.out 1).trans rfl; have hS : w7.cell? ⟨g2, 2, none⟩ = some (.slice gA g4.length gB) := (blk_cell g1.out 2).trans rfl; have hT := blk_frozen g1.out 0; have hU := blk_frozen g1.out 1; have hV := blk_frozen g1.out 2) | ((with_reducible refine gate_callee (f := 43) rfl ?_); refine goesL_ (some 10) rfl rfl Try.func43 (by kernel_rfl) rfl #[.agg #[.int .i64 g5, .int .i64 g6, .slice gA g4.length gB]] rfl (by (try simp only [List.map_toArray, List.map_cons, List.map_nil]); first | done | rfl | (simp only [List.length_drop, List.length_take]; rfl)) ?_; (with_reducible refine (impl_ticksOf.calls k g5 g6 (fun k_ => ((gD k_ ∨ w.heap.size ≤ k_) ∧ k_ ≠ g2)) _ _ g4 g9 _ ?side1 A4.out).mono ?_); (case side1 => exact g8.out); rintro e w9 ⟨iK, rfl, ho0, hb⟩; refine ⟨_, rfl, ?_⟩; have n0_ := am (Kd.V_elder' (by (with_reducible repeat (first | apply Kd.V_alloc | apply Kd.V_drewN | apply Kd.V_drew)); exact g8.out) (by first | exact Kd.N_base ho0 | exact Kd.R_base ho0) hb); have n1_ := am (Kd.N_lower (Kd.N_mono (ok' := fun k_ => (gD k_ ∨ w.heap.size ≤ k_) ∧ k_ ≠ g2) ho0 (fun k_ hk_ => ⟨Or.elim hk_ (fun hs_ => hs_.1) (fun hn_ => (.inr (Nat.le_trans (below_size (by repeat (first | (with_reducible first | exact HB.out | apply below_alloc | apply pw_below_drewN | apply below_drew1 | refine below_set ?_ gE.out) | exact HB.out))) hn_))), Or.elim hk_ (fun hs_ => hs_.2) (fun hn_ => (Kd.freshB (g := g2) (o := .cells #[.int .i64 g5, .int .i64 g6, .slice gA g4.length gB] 25 (0, 0)) (by (with_reducible repeat (first | apply bN | apply bD | apply bA)); exact g1.out) k_ hn_))⟩)) (below_size (by repeat (first | (with_reducible first | exact HB.out | apply below_alloc | apply pw_below_drewN | apply below_drew1 | refine below_set ?_ gE.out) | exact HB.out)))); have n2_ := am (blk_below (g := g2) (o := .cells #[.int .i64 g5, .int .i64 g6, .slice gA g4.length gB] 25 (0, 0)) (by (with_reducible repeat (first | apply bN | apply bD | apply bA)); exact g1.out) hb); have n3_ := am (below_step (by repeat (first | (with_reducible first | exact HB.out | apply below_alloc | apply pw_below_drewN | apply below_drew1 | refine below_set ?_ gE.out) | exact HB.out)) hb); clear g8; clear g1; clear HB; have g8 := n0_; have h4 := n1_; have g1 := n2_; have HB := n3_; clear n0_ n1_ n2_ n3_; (try clear hb); (try clear hb2); (try clear hk); (try clear hi); (try clear ho0); obtain ⟨h5, gG, hW⟩ := Kd.N_slice h4.out; subst hW))
  go_loopg [13] k (fun kq v13 w' => ∃ (g3 : List (S44)) (g0 : Int), v13 = .int .i64 g0 ∧ Aside0 (impl_ClockSteps.l0 kq g3 (g9.length : Int) g0 = some (r1, r2)) ∧ Aside0 (kq ≤ k) ∧ Aside0 (Kd.N k44 44 w' w.heap.size (fun k_ => (gD k_ ∨ w.heap.size ≤ k_) ∧ k_ ≠ g2) (.slice h5 g9.length gG) g3) ∧ Aside0 (Kd.V k25 25 w' w.heap.size (fun k_ => (gD k_ ∨ w.heap.size ≤ k_) ∧ some k_ ≠ ((.slice h5 g9.length gG) : Value).ownBlock ∧ k_ ≠ g2) (.slice gA g4.length gB) g4) ∧ Aside0 (w'.heap[g2]? = some (.cells #[.int .i64 g5, .int .i64 g6, (.slice gA g4.length gB)] 25 (0, 0))) ∧ Aside0 (Below w.heap.size w w'))
  case atStart => exact ⟨(g9), (0), (by first | rfl | (simp; done) | (simp [*]; done)), H', ⟨Nat.le_refl _⟩, ⟨by (with_reducible repeat (first | apply Kd.N_alloc | apply Kd.N_drewN | apply Kd.N_drew)); exact h4.out⟩, ⟨by (with_reducible repeat (first | apply Kd.V_alloc | apply Kd.V_drewN | apply Kd.V_drew)); exact Kd.V_mono g8.out (fun _ hk => ⟨hk.1.1, ⟨hk.2, hk.1.2⟩⟩)⟩, ⟨by (with_reducible repeat (first | apply bN | apply bD | apply bA)); exact g1.out⟩, ⟨by repeat (first | (with_reducible first | exact HB.out | apply below_alloc | apply pw_below_drewN | apply below_drew1 | refine below_set ?_ gE.out) | exact HB.out)⟩⟩
  case round =>
   clear H'; (try clear c1); (try clear p2); (try clear c3); (try clear c4); (try clear hK); (try clear hL); (try clear hM); (try clear hQ); (try clear hR); (try clear hS); (try clear hN); (try clear hO); (try clear hP); (try clear hT); (try clear hU); (try clear hV); (try clear g7); (try clear gH); (try clear g1); (try clear HB)
   obtain ⟨g3, g0, rfl, HA, HK1, g7, gH, g1, HB⟩ := hrel
   have gI := (Kd.N_reads' g7.out).1
   rw [gI] at g7
   (try simp only [gI])
   (try simp only [gI] at g1)
   (try simp only [gI] at gH)
   cases gk with
   | zero => exact absurd HA.out (by simp [impl_ClockSteps.l0])
   | succ k1 =>
    have H := HA.out
    clear HA
    simp only [impl_ClockSteps.l0] at H
    by_cases c11 : g0 < (g9.length : Int)
    ·
     rw [if_pos c11] at H; have c11b0 : decide (g0 < (g9.length : Int)) = true := decide_eq_true c11; clear c11
     by_cases c12 : 0 ≤ g0
     ·
      rw [if_pos c12] at H; have c12b0 : decide (0 ≤ g0) = true := decide_eq_true c12; clear c12
      by_cases c13 : g0 < (g3.length : Int)
      ·
       rw [if_pos c13] at H; have c13b0 : decide (g0 < (g3.length : Int)) = true := decide_eq_true c13; clear c13
       replace H := Option.bind_eq_some_iff.mp H
       obtain ⟨⟨gJ, gK, gF⟩, h6, H⟩ := H
       replace H : (impl_ClockSteps.l0 k1 (g3.set (g0 : Int).toNat (⟨(rd_T44 g3 g0).f0, (⟨gJ, gK, gF⟩ : S25)⟩ : S44)) (g9.length : Int) (wrap64 (g0 + 1))) = some (r1, r2) := H
       have A14 := am h6
       clear h6
       obtain ⟨gZ, gN⟩ : ∃ y_ : List (S44), y_ = (g3.set (g0 : Int).toNat (⟨(rd_T44 g3 g0).f0, (⟨gJ, gK, gF⟩ : S25)⟩ : S44)) := ⟨_, rfl⟩
       replace H : (impl_ClockSteps.l0 k1 gZ (g9.length : Int) (wrap64 (g0 + 1))) = some (r1, r2) := by first | (rw [gN]; with_reducible exact H) | (have H2_ := (Option.bind_some _ _).symm.trans H; rw [gN]; with_reducible exact H2_) | (have H2_ := (Option.bind_some _ _).symm.trans H; with_reducible exact H2_) | with_reducible exact H | (rw [gN]; exact H) | exact H
       have hX := am gN
       clear gN
       have H' := am H
       clear H; have gU : 0 ≤ (g0 : Int) := of_decide_eq_true (by first | (with_reducible assumption) | assumption); have gV : g0 < (g3.length : Int) := of_decide_eq_true (by first | (with_reducible assumption) | assumption)
       obtain ⟨hY, hZ, i0, i1, i2, i3, i4, h7, h8, h9⟩ := at_T44 (Kd.N_reads' g7.out).2.2 g0 gU gV
       cases i1
       obtain ⟨iL, i5, i6, hA⟩ := Kd.N_get g7.out z44 g0 gU (by first | exact gV | exact of_decide_eq_true (by first | (with_reducible assumption) | assumption) | (have e_ := (Kd.N_reads' g7.out).1; omega))
       obtain ⟨iM, iN, rfl, h0, h1⟩ := k44_openF i6
       have gW := hA 3 _ rfl; rw [add_field _ _ 3 (by omega)] at gW; replace gW := Option.some.inj (gW.symm.trans h7); injection gW with hva_ hvn_ hvc_; rw [hva_] at h1; rw [hvc_] at h0; have gL := am (show Kd.V k25 25 _ w.heap.size _ _ ((rd_T44 g3 g0).f1.f2) from Kd.V_mk h0 h1); clear hva_ hvn_ hvc_ h1 h0 hA i5; have gM := am h9; have i7 := am h8; clear h9 h8; replace gU := eq_true gU; replace gV := eq_true gV
       go_wp2_with (first | ((with_reducible refine gate_callee (f := 44) rfl ?_); refine goesL_ (some 23) rfl rfl Try.func44 (by kernel_rfl) rfl #[.agg #[.int .i64 ((rd_T44 g3 g0).f1.f0), .int .i64 ((rd_T44 g3 g0).f1.f1), .slice hZ ((rd_T44 g3 g0).f1.f2).length i0]] rfl (by (try simp only [List.map_toArray, List.map_cons, List.map_nil]); first | done | rfl | (simp only [List.length_drop, List.length_take]; rfl)) ?_; (with_reducible refine (impl_copyClock.calls k1 ((rd_T44 g3 g0).f1.f0) ((rd_T44 g3 g0).f1.f1) _ _ ((rd_T44 g3 g0).f1.f2) gJ gK gF _ ?side1 ?side2 A14.out).mono ?_); (case side1 => repeat (first | exact (by repeat (first | (with_reducible exact gM.out) | (with_reducible refine Kd.C_alloc ?_ _) | (with_reducible refine Kd.C_drewN ?_ _) | (with_reducible refine Kd.C_drew ?_) | exact gM.out)) | (with_reducible refine Kd.C_alloc ?_ _) | (with_reducible refine Kd.C_drewN ?_ _) | (with_reducible refine Kd.C_drew ?_))); (case side2 => exact i7.out); rintro e w16 ⟨iO, rfl, ho0, hb⟩; refine ⟨_, rfl, ?_⟩; have n0_ := am (Kd.N_elder' (by (with_reducible repeat (first | apply Kd.N_alloc | apply Kd.N_drewN | apply Kd.N_drew)); exact g7.out) (by first | exact Kd.N_base ho0 | exact Kd.R_base ho0) hb); have n1_ := am (Kd.V_elder' (by (with_reducible repeat (first | apply Kd.V_alloc | apply Kd.V_drewN | apply Kd.V_drew)); exact gH.out) (by first | exact Kd.N_base ho0 | exact Kd.R_base ho0) hb); have n2_ := am (Kd.V_elder' (by (with_reducible repeat (first | apply Kd.V_alloc | apply Kd.V_drewN | apply Kd.V_drew)); exact gL.out) (by first | exact Kd.N_base ho0 | exact Kd.R_base ho0) hb); have n3_ := am (Kd.N_lower (Kd.N_mono (ok' := fun k_ => (gD k_ ∨ w.heap.size ≤ k_) ∧ some k_ ≠ (.slice (some hY) g3.length gG : Value).ownBlock ∧ k_ ≠ g2) (Kd.R_N (Kd.R_bound ho0)) (fun k_ hk_ => ⟨(.inr (Nat.le_trans (below_size (by repeat (first | (with_reducible first | exact HB.out | apply below_alloc | apply pw_below_drewN | apply below_drew1 | refine below_set ?_ gE.out) | exact HB.out))) hk_.2.1)), (Kd.fresh' (Kd.N_lt (by (with_reducible repeat (first | apply Kd.N_alloc | apply Kd.N_drewN | apply Kd.N_drew)); exact g7.out)) k_ hk_.2.1), (Kd.freshB (g := g2) (o := .cells #[.int .i64 g5, .int .i64 g6, .slice gA g4.length gB] 25 (0, 0)) (by (with_reducible repeat (first | apply bN | apply bD | apply bA)); exact g1.out) k_ hk_.2.1)⟩)) (below_size (by repeat (first | (with_reducible first | exact HB.out | apply below_alloc | apply pw_below_drewN | apply below_drew1 | refine below_set ?_ gE.out) | exact HB.out)))); have n4_ := am (blk_below (g := g2) (o := .cells #[.int .i64 g5, .int .i64 g6, .slice gA g4.length gB] 25 (0, 0)) (by (with_reducible repeat (first | apply bN | apply bD | apply bA)); exact g1.out) hb); have n5_ := am (Kd.C_below (by repeat (first | (with_reducible exact gM.out) | (with_reducible refine Kd.C_alloc ?_ _) | (with_reducible refine Kd.C_drewN ?_ _) | (with_reducible refine Kd.C_drew ?_) | exact gM.out)) hb); have n6_ := am (below_step (by repeat (first | (with_reducible first | exact HB.out | apply below_alloc | apply pw_below_drewN | apply below_drew1 | refine below_set ?_ gE.out) | exact HB.out)) hb); clear g7; clear gH; clear gL; clear g1; clear gM; clear HB; have g7 := n0_; have gH := n1_; have gL := n2_; have gX := n3_; have g1 := n4_; have gM := n5_; have HB := n6_; clear n0_ n1_ n2_ n3_ n4_ n5_ n6_; (try clear hb); (try clear hb2); (try clear hk); (try clear hi); (try clear ho0); obtain ⟨gO, gP, i8⟩ := Kd.N_slice gX.out; subst i8; have p15 : 0 ≤ (g0 : Int) := of_decide_eq_true (by first | (with_reducible assumption) | assumption); have q15 : (g0 : Int) < ((g3.length : Int) : Int) := of_decide_eq_true (by first | (with_reducible assumption) | assumption); obtain ⟨gC, iP, hB, hC, i9, iQ, hD⟩ := Kd.N_form g7.out (by omega); (first | cases hB | (injection hB with ea_ en_ ec_; (first | subst ea_ | (injection ea_ with ea_; subst ea_)); subst ec_; clear en_)); have h2 := am hC; have iR := am hD; clear hC i9 hD; (first | simp only [add_plain] at i2 | skip); (first | simp only [add_plain] at i3 | skip); (first | simp only [add_plain] at i4 | skip); (first | simp only [add_plain] at h7 | skip); obtain ⟨iS, iA, hE, gQ, gR⟩ := Kd.N_elem g7.out z44 (g0 : Int) p15 q15; obtain ⟨iB, iC, rfl, iT, iU⟩ := k44_openF hE; have iV : w16.cell? ⟨gC, (g0 : Int).toNat * 4, none⟩ = some (.int .i64 ((rd_T44 g3 g0).f0)) := gQ 0 _ rfl; have iW : w16.cell? ⟨gC, (g0 : Int).toNat * 4 + 1, none⟩ = some (.int .i64 ((rd_T44 g3 g0).f1.f0)) := gQ 1 _ rfl; have iX : w16.cell? ⟨gC, (g0 : Int).toNat * 4 + 2, none⟩ = some (.int .i64 ((rd_T44 g3 g0).f1.f1)) := gQ 2 _ rfl; have iY : w16.cell? ⟨gC, (g0 : Int).toNat * 4 + 3, none⟩ = some (.slice iB ((rd_T44 g3 g0).f1.f2).length iC) := gQ 3 _ rfl; have iZ : w16.frozen? ⟨gC, (g0 : Int).toNat * 4, none⟩ = false := gR 0; have j0 : w16.frozen? ⟨gC, (g0 : Int).toNat * 4 + 1, none⟩ = false := gR 1; have j1 : w16.frozen? ⟨gC, (g0 : Int).toNat * 4 + 2, none⟩ = false := gR 2; have j2 : w16.frozen? ⟨gC, (g0 : Int).toNat * 4 + 3, none⟩ = false := gR 3; clear iA gQ gR hE; replace p15 := eq_true p15; replace q15 := eq_true q15; have n_ := am (Kd.N_mono (ok' := (fun k_ => (gD k_ ∨ w.heap.size ≤ k_) ∧ some k_ ≠ ((.slice gO gF.length gP) : Value).ownBlock ∧ k_ ≠ g2)) g7.out (fun k_ hk => ⟨hk.1.1, ⟨hk.2, hk.1.2⟩⟩)); clear g7; have g7 := n_; clear n_; have hF := am (show Kd.N k44 44 w16 w.heap.size (fun k_ => (gD k_ ∨ w.heap.size ≤ k_) ∧ k_ ≠ g2) (.slice (some ⟨gC, 0, none⟩) g3.length gG) g3 from (by (with_reducible repeat (first | apply Kd.N_alloc | apply Kd.N_drewN | apply Kd.N_drew)); exact Kd.N_mono g7.out (fun _ hk => ⟨hk.1, hk.2.2⟩))); obtain ⟨j3, hG, hH, gS, gY⟩ := Kd.N_elem hF.out z44 (g0 : Int) (of_decide_eq_true (by first | (with_reducible assumption) | assumption)) (by have h_ : (g0 : Int) < ((g3.length : Int) : Int) := of_decide_eq_true (by first | (with_reducible assumption) | assumption); first | exact h_ | (have e_ := (Kd.N_reads' g7.out).1; omega) | simpa using h_); obtain ⟨j4, j5, rfl, j6, j7⟩ := k44_openF hH; have h3 := Kd.N_seg hF.out (g0 : Int) (of_decide_eq_true (by first | (with_reducible assumption) | assumption)) (by have h_ : (g0 : Int) < ((g3.length : Int) : Int) := of_decide_eq_true (by first | (with_reducible assumption) | assumption); first | exact h_ | (have e_ := (Kd.N_reads' g7.out).1; omega) | simpa using h_) (seg := [.int .i64 gJ, .int .i64 gK, (.slice gO gF.length gP)]) (j := 1) hG gS (show 4 ≤ 4 from by decide) (x' := (⟨(rd_T44 g3 g0).f0, (⟨gJ, gK, gF⟩ : S25)⟩ : S44)) (k44_mkF _ _ (⟨(rd_T44 g3 g0).f0, (⟨gJ, gK, gF⟩ : S25)⟩ : S44) (Kd.N_reads' (Kd.N_mono (ok' := (fun k_ => ((fun k_ => (gD k_ ∨ w.heap.size ≤ k_) ∧ k_ ≠ g2)) k_ ∧ k_ ≠ gC)) (gX.out) (fun k_ hk => ⟨⟨hk.1, hk.2.2⟩, fun e_ => (hk.2.1) (by rw [e_]; rfl)⟩))).2.1 (Kd.N_F (Kd.N_mono (ok' := (fun k_ => ((fun k_ => (gD k_ ∨ w.heap.size ≤ k_) ∧ k_ ≠ g2)) k_ ∧ k_ ≠ gC)) (gX.out) (fun k_ hk => ⟨⟨hk.1, hk.2.2⟩, fun e_ => (hk.2.1) (by rw [e_]; rfl)⟩)))) (fun _ hk => hk); have iD := gS 1 _ rfl; (try simp only [show (k44).sz = 4 from rfl, Nat.mul_one, Nat.add_zero] at iD); have iE := gY 1; (try simp only [show (k44).sz = 4 from rfl, Nat.mul_one, Nat.add_zero] at iE); have iF := gS 2 _ rfl; (try simp only [show (k44).sz = 4 from rfl, Nat.mul_one, Nat.add_zero] at iF); have iG := gY 2; (try simp only [show (k44).sz = 4 from rfl, Nat.mul_one, Nat.add_zero] at iG); have iH := gS 3 _ rfl; (try simp only [show (k44).sz = 4 from rfl, Nat.mul_one, Nat.add_zero] at iH); have iI := gY 3; (try simp only [show (k44).sz = 4 from rfl, Nat.mul_one, Nat.add_zero] at iI); clear hG gS gY hH) | ((with_reducible refine gate_store (t := 25) (p := 25) rfl ?_); refine store_event (t := 25) (p := 25) (v := ?vo_w18) (w1 := (((w16.setCell ⟨gC, (g0 : Int).toNat * 4 + 1, none⟩ (.int .i64 gJ)).setCell ⟨gC, (g0 : Int).toNat * 4 + 2, none⟩ (.int .i64 gK)).setCell ⟨gC, (g0 : Int).toNat * 4 + 3, none⟩ ((.slice gO gF.length gP)))) ?hg ?ho ?hn ?hr ?_; (case ho => rfl); (case hg => rfl); (case hn => rfl); (case hr => first | (go_simp; done) | (go_simp; rfl)); intro w18 hw; have hg : w16.grownBy w18 (some gC) := (by rw [hw]; exact h3.2); have hp_ : Kd.N k44 44 w18 w.heap.size (fun k_ => (gD k_ ∨ w.heap.size ≤ k_) ∧ k_ ≠ g2) (.slice (some ⟨gC, 0, none⟩) g3.length gG) gZ := (by rw [hw, hX.out]; exact h3.1); clear h3; have n0_ := am (hp_); have n1_ := am (Kd.V_afterv (v := (.slice (some ⟨gC, 0, none⟩) g3.length gG)) (v1 := (.slice (some ⟨gC, 0, none⟩) g3.length gG)) (ok := (fun k_ => (gD k_ ∨ w.heap.size ≤ k_) ∧ some k_ ≠ ((.slice gO gF.length gP) : Value).ownBlock ∧ k_ ≠ g2)) (by (with_reducible repeat (first | apply Kd.V_alloc | apply Kd.V_drewN | apply Kd.V_drew)); exact Kd.V_mono gH.out (fun _ hk => ⟨⟨hk.1.1, ⟨hk.2, hk.1.2.2⟩⟩, hk.1.2.1⟩)) hg (.inl rfl)); have n2_ := am (blk_grown (g := g2) (o := .cells #[.int .i64 g5, .int .i64 g6, .slice gA g4.length gB] 25 (0, 0)) (by (with_reducible repeat (first | apply bN | apply bD | apply bA)); exact g1.out) hg (Kd.N_ne g7.out g1.out (by decide))); have n3_ := am (Kd.V_afterv (v := (.slice (some ⟨gC, 0, none⟩) g3.length gG)) (v1 := (.slice (some ⟨gC, 0, none⟩) g3.length gG)) (ok := (fun k_ => (gD k_ ∨ w.heap.size ≤ k_) ∧ some k_ ≠ ((.slice gO gF.length gP) : Value).ownBlock ∧ k_ ≠ g2)) (by (with_reducible repeat (first | apply Kd.V_alloc | apply Kd.V_drewN | apply Kd.V_drew)); exact Kd.V_mono gL.out (fun _ hk => ⟨⟨hk.1.1.1, ⟨hk.2, hk.1.1.2⟩⟩, hk.1.2⟩)) hg (.inl rfl)); have n4_ := am ((by rw [hw]; exact below_set (below_set (below_set (HB.out) h2.out) h2.out) h2.out : Below w.heap.size w w18)); clear g7; clear gH; clear g1; clear gL; clear HB; clear gX; have g7 := n0_; have gH := n1_; have g1 := n2_; have gL := n3_; have HB := n4_; clear n0_ n1_ n2_ n3_ n4_; clear hg hw hp_))
       (try simp only [← gI])
       go_roundg k1
       case measure => have := HK1.out; omega
       case rel => exact ⟨(gZ), (wrap64 (g0 + 1)), (by first | rfl | (simp; done) | (simp [*]; done)), H', ⟨by have := HK1.out; omega⟩, ⟨by (try simp only [gI]); (with_reducible repeat (first | apply Kd.N_alloc | apply Kd.N_drewN | apply Kd.N_drew)); exact g7.out⟩, ⟨by (try simp only [gI]); (with_reducible repeat (first | apply Kd.V_alloc | apply Kd.V_drewN | apply Kd.V_drew)); exact Kd.V_mono gH.out (fun _ hk => ⟨hk.1.1, ⟨hk.2, hk.1.2.2⟩⟩)⟩, ⟨by (try simp only [gI]); (with_reducible repeat (first | apply bN | apply bD | apply bA)); exact g1.out⟩, ⟨by repeat (first | (with_reducible first | exact HB.out | apply below_alloc | apply pw_below_drewN | apply below_drew1 | refine below_set ?_ gE.out) | exact HB.out)⟩⟩
      ·
       rw [if_neg c13] at H
       exact absurd H (by simp)
     ·
      rw [if_neg c12] at H
      exact absurd H (by simp)
    ·
     rw [if_neg c11] at H; have c11b0 : decide (g0 < (g9.length : Int)) = false := decide_eq_false c11
     (try simp only [gI] at c11b0)
     clear c11
     simp only [Option.some.injEq, Prod.mk.injEq] at H
     obtain ⟨rfl, rfl⟩ := H
     go_wp2
     go_ret2
     exact ⟨_, by first | rfl | (simp [errW_none, errW_some] <;> rfl) | (simp [*, errW_none, errW_some] <;> rfl), by (with_reducible repeat (first | apply Kd.N_alloc | apply Kd.N_drewN | apply Kd.N_drew)); exact Kd.N_mono g7.out (fun _ hk => hk.1), by repeat (first | (with_reducible first | exact HB.out | apply below_alloc | apply pw_below_drewN | apply below_drew1 | refine below_set ?_ gE.out) | exact HB.out)⟩
 ·
  replace c3 := Bool.eq_false_iff.mpr c3
  subst c3
  have H1 : (some (([] : List (S44)), false)) = some (r1, r2) := by rw [if_neg (show ¬ (false = true) by decide)] at H; exact H
  clear H
  have H := H1
  clear H1
  simp only [Option.some.injEq, Prod.mk.injEq] at H
  obtain ⟨rfl, rfl⟩ := H
  go_enter Try.func15, Try.ntmps15
  go_wp2_with (first | ((with_reducible refine gate_dst (N := 1) rfl ?_); refine box_event ?hg (N := 1) ?hd (cs := #[.int .i64 g5, .int .i64 g6, .slice gA g4.length gB]) (t := 25) ?hr ?_; (case hd => rfl); (case hg => rfl); (case hr => first | (go_simp; done) | (go_simp; rfl)); intro g2 hg w19 hbox hb; have n0_ := am (Kd.V_below (Kd.V_elderB (by (with_reducible repeat (first | apply Kd.V_alloc | apply Kd.V_drewN | apply Kd.V_drew)); exact g8.out) g2 (Nat.le_of_eq hg.symm)) hb); have n1_ := am (below_step (by repeat (first | (with_reducible first | exact HB.out | apply below_alloc | apply pw_below_drewN | apply below_drew1) | exact HB.out)) hb); have n2_ := am (hbox); have n3_ := am ((by rw [hg]; exact (below_size (by repeat (first | (with_reducible first | exact HB.out | apply below_alloc | apply pw_below_drewN | apply below_drew1) | exact HB.out))) : w.heap.size ≤ g2)); have n4_ := am ((by rw [hg]; exact (below_size (by repeat (first | (with_reducible first | exact HB.out | apply below_alloc | apply pw_below_drewN | apply below_drew1) | exact HB.out))) : w.heap.size ≤ g2)); clear g8; clear HB; have g8 := n0_; have HB := n1_; have g1 := n2_; have hJ := n3_; have gE := n4_; clear n0_ n1_ n2_ n3_ n4_; clear hb hbox hg; have j8 : w19.cell? ⟨g2, 0, none⟩ = some (.int .i64 g5) := (blk_cell g1.out 0).trans rfl; have j9 : w19.cell? ⟨g2, 1, none⟩ = some (.int .i64 g6) := (blk_cell g1.out 1).trans rfl; have jA : w19.cell? ⟨g2, 2, none⟩ = some (.slice gA g4.length gB) := (blk_cell g1.out 2).trans rfl; have jB := blk_frozen g1.out 0; have jC := blk_frozen g1.out 1; have jD := blk_frozen g1.out 2) | ((with_reducible refine gate_callee (f := 13) rfl ?_); refine goesL_ (some 7) rfl rfl Try.func13 (by kernel_rfl) rfl #[.agg #[.int .i64 g5, .int .i64 g6, .slice gA g4.length gB]] rfl (by (try simp only [List.map_toArray, List.map_cons, List.map_nil]); first | done | rfl | (simp only [List.length_drop, List.length_take]; rfl)) ?_; (with_reducible refine (impl_ClockOk.calls k g5 g6 _ _ g4 false _ ?side1 ?side2 A2.out).mono ?_); (case side1 => repeat (first | exact (Kd.V_reads' g8.out).2.2 | (with_reducible refine Kd.C_alloc ?_ _) | (with_reducible refine Kd.C_drewN ?_ _) | (with_reducible refine Kd.C_drew ?_))); (case side2 => exact (Kd.V_reads' g8.out).2.1); rintro e w21 ⟨rfl, hb⟩; refine ⟨_, rfl, ?_⟩; have n0_ := am (Kd.V_below (by (with_reducible repeat (first | apply Kd.V_alloc | apply Kd.V_drewN | apply Kd.V_drew)); exact g8.out) hb); have n1_ := am (blk_below (g := g2) (o := .cells #[.int .i64 g5, .int .i64 g6, .slice gA g4.length gB] 25 (0, 0)) (by (with_reducible repeat (first | apply bN | apply bD | apply bA)); exact g1.out) hb); have n2_ := am (below_step (by repeat (first | (with_reducible first | exact HB.out | apply below_alloc | apply pw_below_drewN | apply below_drew1 | refine below_set ?_ gE.out) | exact HB.out)) hb); clear g8; clear g1; clear HB; have g8 := n0_; have g1 := n1_; have HB := n2_; clear n0_ n1_ n2_; (try clear hb); (try clear hb2); (try clear hk); (try clear hi)))
  go_ret2
  exact ⟨_, by first | rfl | (simp [errW_none, errW_some] <;> rfl) | (simp [*, errW_none, errW_some] <;> rfl), by first | exact Kd.R_nil _ _ _ _ _ | exact Kd.N_nil _ _ _ _ _ | exact Kd.V_nil _ _ _ _ _ | exact Kd.Q_nil _ _ _ _ _ | exact Kd.S_nil _ _ _ _ _, by repeat (first | (with_reducible first | exact HB.out | apply below_alloc | apply pw_below_drewN | apply below_drew1 | refine below_set ?_ gE.out) | exact HB.out)⟩

-- NOT PRINTED: function 68 (impl_Tick_68)
end Go.Proofs.Ytfnmjecofgeboaa.PAll
