-- Laid by a program of this session out of the translation's print
import Derived.Test.YtfnmjecofgeboaaPAll0
import Derived.Test.YtfnmjecofgeboaaPAllAb
import Derived.Test.YtfnmjecofgeboaaPAllClk
import Derived.Test.YtfnmjecofgeboaaPAllDraw
import Derived.Test.YtfnmjecofgeboaaPAllIOk
import Derived.Test.YtfnmjecofgeboaaPAllIPass
import Derived.Test.YtfnmjecofgeboaaPAllMn
import Derived.Test.YtfnmjecofgeboaaPAllSSteps
namespace Go.Proofs.Ytfnmjecofgeboaa.PAll
open Go.RowKit Go.Proofs.YtfnmjecofgeboaaW.PrintWords Go.Proofs.YtfnmjecofgeboaaW.PrintLast Go.Proofs.YtfnmjecofgeboaaW.PrintMore
attribute [local go_sem] max2_int min2_int max_two min_two max_three min_three max_four min_four   -- for this text's walks alone
set_option linter.unusedVariables false
set_option linter.unusedSimpArgs false

/-! ### spec_DrawClockSteps: function 21 -/
def spec_DrawClockSteps.f (k : Nat) (l0 : List Int) : Option (Int × Int × (List (S25))) := (spec_l6Open.f l0).bind fun bt410 => ((spec_l92Timed.f k bt410.1 bt410.2).bind fun bt413 => (some (bt413.1, bt413.2.1, bt413.2.2.1)))
theorem spec_DrawClockSteps.mono : ∀ a0 k, LeO (spec_DrawClockSteps.f k a0) (spec_DrawClockSteps.f (k + 1) a0) := by
 intro a0 k
 unfold spec_DrawClockSteps.f
 repeat' first
   | (with_reducible exact spec_l92Timed.mono _ _ _)
   | (with_reducible exact LeO.refl _)
   | (with_reducible exact LeO.none _)
   | (with_reducible refine LeO.ite ?_ ?_)
   | (with_reducible refine LeO.bind ?_ (fun _ => ?_))
   | exact spec_l92Timed.mono _ _ _
   | exact LeO.none _
   | refine LeO.ite ?_ ?_
   | refine LeO.bind ?_ (fun _ => ?_)
set_option maxHeartbeats 8000000 in
set_option maxRecDepth 100000 in
theorem spec_DrawClockSteps.calls (k : Nat) (A0 : Option Addr) (c0 : Nat) (l0 : List Int) (r1 : Int) (r2 : Int) (r3 : List (S25)) (w : World) (hr0 : Kd.C (Kd.int .u8) w A0 l0.length l0) (hc0 : l0.length ≤ c0) (h : spec_DrawClockSteps.f k l0 = some (r1, r2, r3)) :
  Calls Try.prog 21 #[.slice A0 l0.length c0] w fun e w' => ∃ v2_ : Value, e = .returned (.agg #[.int .i64 r1, .int .i64 r2, v2_]) ∧ Kd.N k25 25 w' w.heap.size (fun k_ => (w.heap.size ≤ k_)) v2_ r3 ∧ Below w.heap.size w w' := by
 have h5 := Try.underlying25
 have HR0 := am hr0; have HC0 := am hc0; clear hr0 hc0; have HB := am (Below.refl w.heap.size w)
 have H : ((spec_l6Open.f l0).bind fun gH => ((spec_l92Timed.f k gH.1 gH.2).bind fun g3 => (some (g3.1, g3.2.1, g3.2.2.1)))) = some (r1, r2, r3) := h
 clear h
 replace H := Option.bind_eq_some_iff.mp H
 obtain ⟨⟨gD, gI⟩, A20, H⟩ := H
 replace H : ((spec_l92Timed.f k gD gI).bind fun g3 => (some (g3.1, g3.2.1, g3.2.2.1))) = some (r1, r2, r3) := H
 have A2 := am A20
 clear A20
 replace H := Option.bind_eq_some_iff.mp H
 obtain ⟨⟨gE, gF, gG, gJ⟩, A30, H⟩ := H
 replace H : (some (gE, gF, gG)) = some (r1, r2, r3) := H
 have A3 := am A30
 clear A30
 simp only [Option.some.injEq, Prod.mk.injEq] at H
 obtain ⟨rfl, rfl, rfl⟩ := H
 go_enter Try.func21, Try.ntmps21
 go_wp2_with (first | ((with_reducible refine gate_dst (N := 2) rfl ?_); refine bx (cs := #[.int .i64 0, .int .i64 0, .slice none 0 0]) (t := 25) fun g2 hg w4 hbox hb => ?_; have g0 := am (hbox); have h1 := bz HB hg; have gM := bz HB hg; replace HB := bs HB hb; clear hb hbox hg) | ((with_reducible refine gate_callee (f := 37) rfl ?_); refine gl (some 6) Try.func37 #[.slice A0 l0.length c0] ?_; (with_reducible refine (spec_l6Open.calls _ _ l0 gD gI w _ ?side1 ?side2 ?side3 A2.1).mono ?_); (case side1 => exact bq); (case side2 => exact HR0.1); (case side3 => exact HC0.1); rintro e w5 ⟨g7, rfl, hi, hb, hb2⟩; refine ⟨_, rfl, ?_⟩; replace HB := am (hb); have g4 := am (hi); have g1 := am (IsS65.ne_blk hi (blk_below (g := g2) (o := .cells #[.int .i64 0, .int .i64 0, .slice none 0 0] 25 (0, 0)) (kf g0).1 hb2) (by decide)); have g5 := am (Ne.symm (IsS65.ne_blk hi (blk_below (g := g2) (o := .cells #[.int .i64 0, .int .i64 0, .slice none 0 0] 25 (0, 0)) (kf g0).1 hb2) (by decide))); replace g0 := kb g0 hb2; clear hb hb2 hi) | ((with_reducible refine gate_callee (f := 38) rfl ?_); refine gl (some 8) Try.func38 #[.pointer (some ⟨g7, 0, none⟩)] ?_; (with_reducible refine (spec_l92Timed.calls k g7 gD gI gE gF gG gJ w _ ?side1 ?side2 A3.1).mono ?_); (case side1 => exact ip); (case side2 => exact bq); rintro e w6 ⟨h6, rfl, ho0, hi, hb, hk⟩; refine ⟨_, rfl, ?_⟩; have g8 := nm HB ho0 (fun k_ => (w.heap.size ≤ k_) ∧ k_ ≠ g2 ∧ k_ ≠ g7) (fun k_ hk_ => ⟨(zt HB hk_), (fb g0 k_ hk_), (IsS65.fresh ip k_ hk_)⟩); replace g0 := kk g0 g5 hk; replace HB := am (hb); replace g4 := am (hi); clear hb hk hi ho0) | ((with_reducible refine gate_dst (N := 4) rfl ?_); refine bx (cs := #[.int .i64 0, .int .i64 0, .slice none 0 0]) (t := 25) fun g6 hg w7 hbox hb => ?_; replace g8 := nb g8 hg hb; have gN := am (hbox); have h2 := bz HB hg; have gO := bz HB hg; replace HB := bs HB hb; have g9 := nl g0 hg; have gA := ng g0 hg; replace g0 := kb g0 hb; have gB := am ((by rw [hg]; exact Nat.ne_of_lt (IsS65.lt (show IsS65 w _ g7 gD gJ from by repeat (first | (with_reducible first | exact g4.1 | apply IsS65.alloc | apply IsS65.drewN | apply IsS65.drew | apply IsS65.set_1 | refine IsS65.far ?_ g1.1 _) | exact g4.1))) : g7 ≠ g6)); have gC := am ((by rw [hg]; exact Nat.ne_of_gt (IsS65.lt (show IsS65 w _ g7 gD gJ from by repeat (first | (with_reducible first | exact g4.1 | apply IsS65.alloc | apply IsS65.drewN | apply IsS65.drew | apply IsS65.set_1 | refine IsS65.far ?_ g1.1 _) | exact g4.1))) : g6 ≠ g7)); replace g4 := am (IsS65.below ip hb); clear hb hbox hg; have h7 := gA.1; have h8 := g9.1; have h9 := gC.1; have hA := gB.1; obtain ⟨gP, gQ, gR, gS, gT, gU⟩ := cs3 gN; obtain ⟨gK, gL, rfl⟩ := Kd.N_slice g8.1; have h3 := g5.1; have h4 := g1.1; obtain ⟨gV, gW, gX, gY, gZ, h0⟩ := cs3 g0))
 refine bodyPost_ret (results_cell_row rfl _ _ g2 25 #[.int .i64 gE, .int .i64 gF, .slice gK gG.length gL] (0, 0) _ rfl (kf g0).1 Try.underlying25 rfl (by kernel_rfl)) rfl ?_
 exact ⟨_, by first | rfl | (simp [errW_none, errW_some] <;> rfl) | (simp [*, errW_none, errW_some] <;> rfl), by (with_reducible repeat (first | apply Kd.N_alloc | apply Kd.N_drewN | apply Kd.N_drew)); exact Kd.N_mono (Kd.N_far (p := ⟨g2, 2, none⟩) (Kd.N_far (p := ⟨g2, 1, none⟩) (Kd.N_far (p := ⟨g2, 0, none⟩) (Kd.N_far (p := ⟨g6, 2, none⟩) (Kd.N_far (p := ⟨g6, 1, none⟩) (Kd.N_far (p := ⟨g6, 0, none⟩) (Kd.N_mono (Kd.N_mono g8.1 (fun k_ hk => (⟨hk, hk.2⟩ : _ ∧ k_ ≠ g6))) (fun k_ hk => (⟨hk, hk.1.1.2.1⟩ : _ ∧ k_ ≠ g2))) mq (.int .i64 gE)) mq (.int .i64 gF)) mq (.slice gK gG.length gL)) mq (.int .i64 gE)) mq (.int .i64 gF)) mq (.slice gK gG.length gL)) mq, by repeat (first | (with_reducible first | exact HB.1 | apply below_alloc | apply pw_below_drewN | apply below_drew1 | refine below_set ?_ (IsS65.ge g4.1) | refine below_set ?_ gM.1 | refine below_set ?_ gO.1) | exact HB.1)⟩


/-! ### laws_FnClockSteps: function 5 -/
mutual
def laws_FnClockSteps.j0 : Nat → List (S44) → Bool → Int → Int → List (S25) → Option (Bool)
 | 0, _, _, _, _, _ => none
 | k + 1, x4, x38, x541000, x541001, x541002 => if x38 = true then (some false) else ((impl_ClockPass.f k x541000 x541001 x541002).bind fun bt550 => ((impl_ClockSteps.f k bt550.1 bt550.2.1 bt550.2.2.1).bind fun bt557 => (laws_FnClockSteps.l0 k x4 bt550.2.2.2 bt557.1 0)))
def laws_FnClockSteps.l0 : Nat → List (S44) → Bool → List (S44) → Int → Option (Bool)
 | 0, _, _, _, _ => none
 | k + 1, x4, x9, x10, x12 => if x12 < (x4.length : Int) then (if 0 ≤ x12 then (if ((rd_T44 x4 x12).f0) = 0 then (laws_FnClockSteps.j2 k x4 x9 x10 x12 x9) else (laws_FnClockSteps.j2 k x4 x9 x10 x12 false)) else (none)) else (some true)
def laws_FnClockSteps.j2 : Nat → List (S44) → Bool → List (S44) → Int → Bool → Option (Bool)
 | 0, _, _, _, _, _ => none
 | k + 1, x4, x9, x10, x12, x63 => if x63 = true then (some false) else (laws_FnClockSteps.l1 k x4 x9 x10 x12 false 0)
def laws_FnClockSteps.l1 : Nat → List (S44) → Bool → List (S44) → Int → Bool → Int → Option (Bool)
 | 0, _, _, _, _, _, _ => none
 | k + 1, x4, x9, x10, x12, x13, x14 => if x14 < (x10.length : Int) then (if x13 = true then (laws_FnClockSteps.l1 k x4 x9 x10 x12 true (wrap64 (x14 + 1))) else (if 0 ≤ x14 then (if 0 ≤ x12 then (if x12 < (x4.length : Int) then (laws_FnClockSteps.l1 k x4 x9 x10 x12 (((rd_T44 x10 x14).f0) == ((rd_T44 x4 x12).f0)) (wrap64 (x14 + 1))) else (none)) else (none)) else (none))) else (if x9 = true then (if x13 = true then (laws_FnClockSteps.l0 k x4 x9 x10 (wrap64 (x12 + 1))) else (some false)) else (laws_FnClockSteps.l0 k x4 x9 x10 (wrap64 (x12 + 1))))
end
def laws_FnClockSteps.f (k : Nat) (l0 : List Int) : Option (Bool) := if (l0.length : Int) > 1048576 then (some true) else ((spec_DrawClockSteps.f k l0).bind fun bt535 => ((impl_ClockSteps.f k bt535.1 bt535.2.1 bt535.2.2).bind fun bt541 => ((spec_ClockSteps.f k bt535.1 bt535.2.1 bt535.2.2).bind fun bt545 => ((laws_mnTicks.f k bt541.1 bt545.1).bind fun t549 => (if t549 = true then (laws_FnClockSteps.j0 k bt541.1 (bt541.2 != bt545.2) bt535.1 bt535.2.1 bt535.2.2) else (laws_FnClockSteps.j0 k bt541.1 true bt535.1 bt535.2.1 bt535.2.2))))))
theorem laws_FnClockSteps.mono_l : ∀ k, (∀ y0 y1 y2 y3 y4, LeO (laws_FnClockSteps.j0 k y0 y1 y2 y3 y4) (laws_FnClockSteps.j0 (k + 1) y0 y1 y2 y3 y4)) ∧ (∀ y0 y1 y2 y3, LeO (laws_FnClockSteps.l0 k y0 y1 y2 y3) (laws_FnClockSteps.l0 (k + 1) y0 y1 y2 y3)) ∧ (∀ y0 y1 y2 y3 y4, LeO (laws_FnClockSteps.j2 k y0 y1 y2 y3 y4) (laws_FnClockSteps.j2 (k + 1) y0 y1 y2 y3 y4)) ∧ (∀ y0 y1 y2 y3 y4 y5, LeO (laws_FnClockSteps.l1 k y0 y1 y2 y3 y4 y5) (laws_FnClockSteps.l1 (k + 1) y0 y1 y2 y3 y4 y5))
 | 0 => ⟨fun _ _ _ _ _ r h => by simp [laws_FnClockSteps.j0] at h, fun _ _ _ _ r h => by simp [laws_FnClockSteps.l0] at h, fun _ _ _ _ _ r h => by simp [laws_FnClockSteps.j2] at h, fun _ _ _ _ _ _ r h => by simp [laws_FnClockSteps.l1] at h⟩
 | k + 1 => by
  obtain ⟨ih0, ih1, ih2, ih3⟩ := laws_FnClockSteps.mono_l k
  refine ⟨?_, ?_, ?_, ?_⟩
  ·
   intro y0 y1 y2 y3 y4
   unfold laws_FnClockSteps.j0
   repeat' first
   | (with_reducible exact ih0 _ _ _ _ _)
   | (with_reducible exact ih1 _ _ _ _)
   | (with_reducible exact ih2 _ _ _ _ _)
   | (with_reducible exact ih3 _ _ _ _ _ _)
   | (with_reducible exact impl_ClockPass.mono _ _ _ _)
   | (with_reducible exact impl_ClockSteps.mono _ _ _ _)
   | (with_reducible exact laws_mnTicks.mono _ _ _)
   | (with_reducible exact spec_ClockSteps.mono _ _ _ _)
   | (with_reducible exact spec_DrawClockSteps.mono _ _)
   | (with_reducible exact LeO.refl _)
   | (with_reducible exact LeO.none _)
   | (with_reducible refine LeO.ite ?_ ?_)
   | (with_reducible refine LeO.bind ?_ (fun _ => ?_))
   | exact ih0 _ _ _ _ _
   | exact ih1 _ _ _ _
   | exact ih2 _ _ _ _ _
   | exact ih3 _ _ _ _ _ _
   | exact impl_ClockPass.mono _ _ _ _
   | exact impl_ClockSteps.mono _ _ _ _
   | exact laws_mnTicks.mono _ _ _
   | exact spec_ClockSteps.mono _ _ _ _
   | exact spec_DrawClockSteps.mono _ _
   | exact LeO.none _
   | refine LeO.ite ?_ ?_
   | refine LeO.bind ?_ (fun _ => ?_)
  ·
   intro y0 y1 y2 y3
   unfold laws_FnClockSteps.l0
   repeat' first
   | (with_reducible exact ih0 _ _ _ _ _)
   | (with_reducible exact ih1 _ _ _ _)
   | (with_reducible exact ih2 _ _ _ _ _)
   | (with_reducible exact ih3 _ _ _ _ _ _)
   | (with_reducible exact impl_ClockPass.mono _ _ _ _)
   | (with_reducible exact impl_ClockSteps.mono _ _ _ _)
   | (with_reducible exact laws_mnTicks.mono _ _ _)
   | (with_reducible exact spec_ClockSteps.mono _ _ _ _)
   | (with_reducible exact spec_DrawClockSteps.mono _ _)
   | (with_reducible exact LeO.refl _)
   | (with_reducible exact LeO.none _)
   | (with_reducible refine LeO.ite ?_ ?_)
   | (with_reducible refine LeO.bind ?_ (fun _ => ?_))
   | exact ih0 _ _ _ _ _
   | exact ih1 _ _ _ _
   | exact ih2 _ _ _ _ _
   | exact ih3 _ _ _ _ _ _
   | exact impl_ClockPass.mono _ _ _ _
   | exact impl_ClockSteps.mono _ _ _ _
   | exact laws_mnTicks.mono _ _ _
   | exact spec_ClockSteps.mono _ _ _ _
   | exact spec_DrawClockSteps.mono _ _
   | exact LeO.none _
   | refine LeO.ite ?_ ?_
   | refine LeO.bind ?_ (fun _ => ?_)
  ·
   intro y0 y1 y2 y3 y4
   unfold laws_FnClockSteps.j2
   repeat' first
   | (with_reducible exact ih0 _ _ _ _ _)
   | (with_reducible exact ih1 _ _ _ _)
   | (with_reducible exact ih2 _ _ _ _ _)
   | (with_reducible exact ih3 _ _ _ _ _ _)
   | (with_reducible exact impl_ClockPass.mono _ _ _ _)
   | (with_reducible exact impl_ClockSteps.mono _ _ _ _)
   | (with_reducible exact laws_mnTicks.mono _ _ _)
   | (with_reducible exact spec_ClockSteps.mono _ _ _ _)
   | (with_reducible exact spec_DrawClockSteps.mono _ _)
   | (with_reducible exact LeO.refl _)
   | (with_reducible exact LeO.none _)
   | (with_reducible refine LeO.ite ?_ ?_)
   | (with_reducible refine LeO.bind ?_ (fun _ => ?_))
   | exact ih0 _ _ _ _ _
   | exact ih1 _ _ _ _
   | exact ih2 _ _ _ _ _
   | exact ih3 _ _ _ _ _ _
   | exact impl_ClockPass.mono _ _ _ _
   | exact impl_ClockSteps.mono _ _ _ _
   | exact laws_mnTicks.mono _ _ _
   | exact spec_ClockSteps.mono _ _ _ _
   | exact spec_DrawClockSteps.mono _ _
   | exact LeO.none _
   | refine LeO.ite ?_ ?_
   | refine LeO.bind ?_ (fun _ => ?_)
  ·
   intro y0 y1 y2 y3 y4 y5
   unfold laws_FnClockSteps.l1
   repeat' first
   | (with_reducible exact ih0 _ _ _ _ _)
   | (with_reducible exact ih1 _ _ _ _)
   | (with_reducible exact ih2 _ _ _ _ _)
   | (with_reducible exact ih3 _ _ _ _ _ _)
   | (with_reducible exact impl_ClockPass.mono _ _ _ _)
   | (with_reducible exact impl_ClockSteps.mono _ _ _ _)
   | (with_reducible exact laws_mnTicks.mono _ _ _)
   | (with_reducible exact spec_ClockSteps.mono _ _ _ _)
   | (with_reducible exact spec_DrawClockSteps.mono _ _)
   | (with_reducible exact LeO.refl _)
   | (with_reducible exact LeO.none _)
   | (with_reducible refine LeO.ite ?_ ?_)
   | (with_reducible refine LeO.bind ?_ (fun _ => ?_))
   | exact ih0 _ _ _ _ _
   | exact ih1 _ _ _ _
   | exact ih2 _ _ _ _ _
   | exact ih3 _ _ _ _ _ _
   | exact impl_ClockPass.mono _ _ _ _
   | exact impl_ClockSteps.mono _ _ _ _
   | exact laws_mnTicks.mono _ _ _
   | exact spec_ClockSteps.mono _ _ _ _
   | exact spec_DrawClockSteps.mono _ _
   | exact LeO.none _
   | refine LeO.ite ?_ ?_
   | refine LeO.bind ?_ (fun _ => ?_)
theorem laws_FnClockSteps.mono : ∀ a0 k, LeO (laws_FnClockSteps.f k a0) (laws_FnClockSteps.f (k + 1) a0) := by
 intro a0 k
 obtain ⟨ih0, ih1, ih2, ih3⟩ := laws_FnClockSteps.mono_l k
 unfold laws_FnClockSteps.f
 repeat' first
   | (with_reducible exact ih0 _ _ _ _ _)
   | (with_reducible exact ih1 _ _ _ _)
   | (with_reducible exact ih2 _ _ _ _ _)
   | (with_reducible exact ih3 _ _ _ _ _ _)
   | (with_reducible exact impl_ClockPass.mono _ _ _ _)
   | (with_reducible exact impl_ClockSteps.mono _ _ _ _)
   | (with_reducible exact laws_mnTicks.mono _ _ _)
   | (with_reducible exact spec_ClockSteps.mono _ _ _ _)
   | (with_reducible exact spec_DrawClockSteps.mono _ _)
   | (with_reducible exact LeO.refl _)
   | (with_reducible exact LeO.none _)
   | (with_reducible refine LeO.ite ?_ ?_)
   | (with_reducible refine LeO.bind ?_ (fun _ => ?_))
   | exact ih0 _ _ _ _ _
   | exact ih1 _ _ _ _
   | exact ih2 _ _ _ _ _
   | exact ih3 _ _ _ _ _ _
   | exact impl_ClockPass.mono _ _ _ _
   | exact impl_ClockSteps.mono _ _ _ _
   | exact laws_mnTicks.mono _ _ _
   | exact spec_ClockSteps.mono _ _ _ _
   | exact spec_DrawClockSteps.mono _ _
   | exact LeO.none _
   | refine LeO.ite ?_ ?_
   | refine LeO.bind ?_ (fun _ => ?_)
set_option maxHeartbeats 8000000 in
set_option maxRecDepth 100000 in
theorem laws_FnClockSteps.calls (k : Nat) (A0 : Option Addr) (c0 : Nat) (l0 : List Int) (r : Bool) (w : World) (hr0 : Kd.C (Kd.int .u8) w A0 l0.length l0) (hc0 : l0.length ≤ c0) (h : laws_FnClockSteps.f k l0 = some r) :
  Calls Try.prog 5 #[.slice A0 l0.length c0] w fun e w' => e = .returned (.bool r) ∧ Below w.heap.size w w' := by
 have lA := Try.underlying25
 have HR0 := am hr0; have HC0 := am hc0; clear hr0 hc0; have HB := am (Below.refl w.heap.size w)
 have H : (if (l0.length : Int) > 1048576 then (some true) else ((spec_DrawClockSteps.f k l0).bind fun gS => ((impl_ClockSteps.f k gS.1 gS.2.1 gS.2.2).bind fun h9 => ((spec_ClockSteps.f k gS.1 gS.2.1 gS.2.2).bind fun hX => ((laws_mnTicks.f k h9.1 hX.1).bind fun i3 => (if i3 = true then (laws_FnClockSteps.j0 k h9.1 (h9.2 != hX.2) gS.1 gS.2.1 gS.2.2) else (laws_FnClockSteps.j0 k h9.1 true gS.1 gS.2.1 gS.2.2))))))) = some r := h
 clear h
 by_cases c2 : (l0.length : Int) > 1048576
 ·
  rw [if_pos c2] at H; have c2b0 : decide (1048576 < (l0.length : Int)) = true := decide_eq_true c2; have c2b1 : decide (1048576 < l0.length) = true := decide_eq_true (by omega); clear c2
  obtain rfl := Option.some.inj H
  go_enter Try.func5, Try.ntmps5
  go_wp2
  repeat (go_quiet (fail); try go_wp2)
  go_ret
  exact ⟨by first | rfl | (simp [errW_none, errW_some] <;> rfl) | (simp [*, errW_none, errW_some] <;> rfl), by repeat (first | (with_reducible first | exact HB.1 | apply below_alloc | apply pw_below_drewN | apply below_drew1) | exact HB.1)⟩
 ·
  rw [if_neg c2] at H; have c2b0 : decide (1048576 < (l0.length : Int)) = false := decide_eq_false c2; have c2b1 : decide (1048576 < l0.length) = false := decide_eq_false (by omega); clear c2
  replace H := Option.bind_eq_some_iff.mp H
  obtain ⟨⟨gE, gF, gC⟩, A30, H⟩ := H
  replace H : ((impl_ClockSteps.f k gE gF gC).bind fun h9 => ((spec_ClockSteps.f k gE gF gC).bind fun hX => ((laws_mnTicks.f k h9.1 hX.1).bind fun i3 => (if i3 = true then (laws_FnClockSteps.j0 k h9.1 (h9.2 != hX.2) gE gF gC) else (laws_FnClockSteps.j0 k h9.1 true gE gF gC))))) = some r := H
  have A3 := am A30
  clear A30
  replace H := Option.bind_eq_some_iff.mp H
  obtain ⟨⟨g8, iL⟩, A40, H⟩ := H
  replace H : ((spec_ClockSteps.f k gE gF gC).bind fun hX => ((laws_mnTicks.f k g8 hX.1).bind fun i3 => (if i3 = true then (laws_FnClockSteps.j0 k g8 (iL != hX.2) gE gF gC) else (laws_FnClockSteps.j0 k g8 true gE gF gC)))) = some r := H
  have A4 := am A40
  clear A40
  replace H := Option.bind_eq_some_iff.mp H
  obtain ⟨⟨i4, iQ⟩, A50, H⟩ := H
  replace H : ((laws_mnTicks.f k g8 i4).bind fun i3 => (if i3 = true then (laws_FnClockSteps.j0 k g8 (iL != iQ) gE gF gC) else (laws_FnClockSteps.j0 k g8 true gE gF gC))) = some r := H
  have A5 := am A50
  clear A50; have HC6 := am H; clear H
  go_enter Try.func5, Try.ntmps5
  go_upto_region 6 with (first | (go_at_call 21; (with_reducible refine (spec_DrawClockSteps.calls k _ _ l0 gE gF gC _ ?side1 ?side2 A3.1).mono ?_); (case side1 => exact cq HR0.1); (case side2 => exact HC0.1); rintro e w7 ⟨jV, rfl, ho0, hb⟩; have n0_ := nm HB ho0 (fun k_ => True) (fun k_ hk_ => trivial); have n1_ := bs HB hb; clear HB; have g2 := n0_; have HB := n1_; clear n0_ n1_ hb ho0) | ((with_reducible refine gate_dst (N := 3) rfl ?_); refine bx (cs := #[.int .i64 0, .int .i64 0, .slice none 0 0]) (t := 25) fun g3 hg w8 hbox hb => ?_; replace g2 := nb g2 hg hb; have g0 := am (hbox); have jH := bz HB hg; have i5 := bz HB hg; replace HB := bs HB hb; clear hb hbox hg; obtain ⟨hQ, hR, hS, hT, hU, hV⟩ := cs3 g0; obtain ⟨h5, h6, rfl⟩ := Kd.N_slice g2.1) | ((with_reducible refine gate_store (t := 25) (p := 3) rfl ?_); (try (rw [drewN_self w8]; generalize hq_ : World.drewN w8 _ = w8; have n0_ := am (Kd.N_at hq_ g2.1); have n1_ := am (blk_at hq_ g0.1); have n2_ := am (below_at hq_ HB.1); clear hq_ g2 g0 HB; have g2 := n0_; have g0 := n1_; have HB := n2_; clear n0_ n1_ n2_)); refine se (((w8.setCell ⟨g3, 0, none⟩ (.int .i64 gE)).setCell ⟨g3, 1, none⟩ (.int .i64 gF)).setCell ⟨g3, 2, none⟩ (.slice h5 gC.length h6)) fun w11 hw => ?_; replace g2 := nh g2 hw; replace g0 := kp g0 hw #[.int .i64 gE, .int .i64 gF, .slice h5 gC.length h6]; replace HB := bh HB hw; clear hw; obtain ⟨gT, gU, gV, gW, gX, gY⟩ := cs3 g0) | (go_at_call 15; (with_reducible refine (impl_ClockSteps.calls k gE gF (fun k_ => k_ ≠ g3) _ _ gC g8 iL _ ?side1 A4.1).mono ?_); (case side1 => exact Kd.N_V (nf g2).1); rintro e w13 ⟨gJ, rfl, ho0, hb⟩; have n0_ := ne g2 hb; have n1_ := nm HB ho0 (fun k_ => k_ ≠ g3) (fun k_ hk_ => Or.elim hk_ (fun hs_ => hs_) (fun hn_ => (fb g0 k_ hn_))); have n2_ := kb g0 hb; have n3_ := bs HB hb; clear g2 g0 HB; have g2 := n0_; have g4 := n1_; have g0 := n2_; have HB := n3_; clear n0_ n1_ n2_ n3_ hb ho0; obtain ⟨gZ, h0, h1, h2, h3, h4⟩ := cs3 g0) | (go_at_call 22; (with_reducible refine (spec_ClockSteps.calls k gE gF (fun k_ => (k_ ≠ g3 ∧ some k_ ≠ (gJ : Value).ownBlock)) _ _ gC i4 iQ _ ?side1 A5.1).mono ?_); (case side1 => exact Kd.N_V (nf g2).1); rintro e w15 ⟨jW, rfl, ho0, hb⟩; have n0_ := ne g2 hb; have n1_ := ne g4 hb; have n2_ := nm HB ho0 (fun k_ => some k_ ≠ (gJ : Value).ownBlock ∧ k_ ≠ g3) (fun k_ hk_ => ⟨Or.elim hk_ (fun hs_ => hs_.2) (fun hn_ => (fr g4 k_ hn_)), Or.elim hk_ (fun hs_ => hs_.1) (fun hn_ => (fb g0 k_ hn_))⟩); have n3_ := kb g0 hb; have n4_ := bs HB hb; clear g2 g4 g0 HB; have g2 := n0_; have g4 := n1_; have gA := n2_; have g0 := n3_; have HB := n4_; clear n0_ n1_ n2_ n3_ n4_ hb ho0))
  repeat (go_quiet (first | (go_at_call 21; (with_reducible refine (spec_DrawClockSteps.calls k _ _ l0 gE gF gC _ ?side1 ?side2 A3.1).mono ?_); (case side1 => exact cq HR0.1); (case side2 => exact HC0.1); rintro e w7 ⟨jV, rfl, ho0, hb⟩; have n0_ := nm HB ho0 (fun k_ => True) (fun k_ hk_ => trivial); have n1_ := bs HB hb; clear HB; have g2 := n0_; have HB := n1_; clear n0_ n1_ hb ho0) | ((with_reducible refine gate_dst (N := 3) rfl ?_); refine bx (cs := #[.int .i64 0, .int .i64 0, .slice none 0 0]) (t := 25) fun g3 hg w8 hbox hb => ?_; replace g2 := nb g2 hg hb; have g0 := am (hbox); have jH := bz HB hg; have i5 := bz HB hg; replace HB := bs HB hb; clear hb hbox hg; obtain ⟨hQ, hR, hS, hT, hU, hV⟩ := cs3 g0; obtain ⟨h5, h6, rfl⟩ := Kd.N_slice g2.1) | ((with_reducible refine gate_store (t := 25) (p := 3) rfl ?_); (try (rw [drewN_self w8]; generalize hq_ : World.drewN w8 _ = w8; have n0_ := am (Kd.N_at hq_ g2.1); have n1_ := am (blk_at hq_ g0.1); have n2_ := am (below_at hq_ HB.1); clear hq_ g2 g0 HB; have g2 := n0_; have g0 := n1_; have HB := n2_; clear n0_ n1_ n2_)); refine se (((w8.setCell ⟨g3, 0, none⟩ (.int .i64 gE)).setCell ⟨g3, 1, none⟩ (.int .i64 gF)).setCell ⟨g3, 2, none⟩ (.slice h5 gC.length h6)) fun w11 hw => ?_; replace g2 := nh g2 hw; replace g0 := kp g0 hw #[.int .i64 gE, .int .i64 gF, .slice h5 gC.length h6]; replace HB := bh HB hw; clear hw; obtain ⟨gT, gU, gV, gW, gX, gY⟩ := cs3 g0) | (go_at_call 15; (with_reducible refine (impl_ClockSteps.calls k gE gF (fun k_ => k_ ≠ g3) _ _ gC g8 iL _ ?side1 A4.1).mono ?_); (case side1 => exact Kd.N_V (nf g2).1); rintro e w13 ⟨gJ, rfl, ho0, hb⟩; have n0_ := ne g2 hb; have n1_ := nm HB ho0 (fun k_ => k_ ≠ g3) (fun k_ hk_ => Or.elim hk_ (fun hs_ => hs_) (fun hn_ => (fb g0 k_ hn_))); have n2_ := kb g0 hb; have n3_ := bs HB hb; clear g2 g0 HB; have g2 := n0_; have g4 := n1_; have g0 := n2_; have HB := n3_; clear n0_ n1_ n2_ n3_ hb ho0; obtain ⟨gZ, h0, h1, h2, h3, h4⟩ := cs3 g0) | (go_at_call 22; (with_reducible refine (spec_ClockSteps.calls k gE gF (fun k_ => (k_ ≠ g3 ∧ some k_ ≠ (gJ : Value).ownBlock)) _ _ gC i4 iQ _ ?side1 A5.1).mono ?_); (case side1 => exact Kd.N_V (nf g2).1); rintro e w15 ⟨jW, rfl, ho0, hb⟩; have n0_ := ne g2 hb; have n1_ := ne g4 hb; have n2_ := nm HB ho0 (fun k_ => some k_ ≠ (gJ : Value).ownBlock ∧ k_ ≠ g3) (fun k_ hk_ => ⟨Or.elim hk_ (fun hs_ => hs_.2) (fun hn_ => (fr g4 k_ hn_)), Or.elim hk_ (fun hs_ => hs_.1) (fun hn_ => (fb g0 k_ hn_))⟩); have n3_ := kb g0 hb; have n4_ := bs HB hb; clear g2 g4 g0 HB; have g2 := n0_; have g4 := n1_; have gA := n2_; have g0 := n3_; have HB := n4_; clear n0_ n1_ n2_ n3_ n4_ hb ho0)); go_upto_region 6 with (first | (go_at_call 21; (with_reducible refine (spec_DrawClockSteps.calls k _ _ l0 gE gF gC _ ?side1 ?side2 A3.1).mono ?_); (case side1 => exact cq HR0.1); (case side2 => exact HC0.1); rintro e w7 ⟨jV, rfl, ho0, hb⟩; have n0_ := nm HB ho0 (fun k_ => True) (fun k_ hk_ => trivial); have n1_ := bs HB hb; clear HB; have g2 := n0_; have HB := n1_; clear n0_ n1_ hb ho0) | ((with_reducible refine gate_dst (N := 3) rfl ?_); refine bx (cs := #[.int .i64 0, .int .i64 0, .slice none 0 0]) (t := 25) fun g3 hg w8 hbox hb => ?_; replace g2 := nb g2 hg hb; have g0 := am (hbox); have jH := bz HB hg; have i5 := bz HB hg; replace HB := bs HB hb; clear hb hbox hg; obtain ⟨hQ, hR, hS, hT, hU, hV⟩ := cs3 g0; obtain ⟨h5, h6, rfl⟩ := Kd.N_slice g2.1) | ((with_reducible refine gate_store (t := 25) (p := 3) rfl ?_); (try (rw [drewN_self w8]; generalize hq_ : World.drewN w8 _ = w8; have n0_ := am (Kd.N_at hq_ g2.1); have n1_ := am (blk_at hq_ g0.1); have n2_ := am (below_at hq_ HB.1); clear hq_ g2 g0 HB; have g2 := n0_; have g0 := n1_; have HB := n2_; clear n0_ n1_ n2_)); refine se (((w8.setCell ⟨g3, 0, none⟩ (.int .i64 gE)).setCell ⟨g3, 1, none⟩ (.int .i64 gF)).setCell ⟨g3, 2, none⟩ (.slice h5 gC.length h6)) fun w11 hw => ?_; replace g2 := nh g2 hw; replace g0 := kp g0 hw #[.int .i64 gE, .int .i64 gF, .slice h5 gC.length h6]; replace HB := bh HB hw; clear hw; obtain ⟨gT, gU, gV, gW, gX, gY⟩ := cs3 g0) | (go_at_call 15; (with_reducible refine (impl_ClockSteps.calls k gE gF (fun k_ => k_ ≠ g3) _ _ gC g8 iL _ ?side1 A4.1).mono ?_); (case side1 => exact Kd.N_V (nf g2).1); rintro e w13 ⟨gJ, rfl, ho0, hb⟩; have n0_ := ne g2 hb; have n1_ := nm HB ho0 (fun k_ => k_ ≠ g3) (fun k_ hk_ => Or.elim hk_ (fun hs_ => hs_) (fun hn_ => (fb g0 k_ hn_))); have n2_ := kb g0 hb; have n3_ := bs HB hb; clear g2 g0 HB; have g2 := n0_; have g4 := n1_; have g0 := n2_; have HB := n3_; clear n0_ n1_ n2_ n3_ hb ho0; obtain ⟨gZ, h0, h1, h2, h3, h4⟩ := cs3 g0) | (go_at_call 22; (with_reducible refine (spec_ClockSteps.calls k gE gF (fun k_ => (k_ ≠ g3 ∧ some k_ ≠ (gJ : Value).ownBlock)) _ _ gC i4 iQ _ ?side1 A5.1).mono ?_); (case side1 => exact Kd.N_V (nf g2).1); rintro e w15 ⟨jW, rfl, ho0, hb⟩; have n0_ := ne g2 hb; have n1_ := ne g4 hb; have n2_ := nm HB ho0 (fun k_ => some k_ ≠ (gJ : Value).ownBlock ∧ k_ ≠ g3) (fun k_ hk_ => ⟨Or.elim hk_ (fun hs_ => hs_.2) (fun hn_ => (fr g4 k_ hn_)), Or.elim hk_ (fun hs_ => hs_.1) (fun hn_ => (fb g0 k_ hn_))⟩); have n3_ := kb g0 hb; have n4_ := bs HB hb; clear g2 g4 g0 HB; have g2 := n0_; have g4 := n1_; have gA := n2_; have g0 := n3_; have HB := n4_; clear n0_ n1_ n2_ n3_ n4_ hb ho0)))
  (try simp only [Act.put, List.setIfInBounds_toArray, List.set_cons_zero, List.set_cons_succ])
  go_cut [38] (fun v38 wc => ∃ (kq : Nat) (iT : Bool), v38 = .bool iT ∧ Aside0 (laws_FnClockSteps.j0 kq g8 iT gE gF gC = some r) ∧ Aside0 (kq ≤ k) ∧ Aside0 (Kd.N k44 44 wc w.heap.size (fun k_ => k_ ≠ g3) gJ g8) ∧ Aside0 (Kd.N k25 25 wc w.heap.size (fun k_ => some k_ ≠ (gJ : Value).ownBlock ∧ k_ ≠ g3) (.slice h5 gC.length h6) gC) ∧ Aside0 (wc.heap[g3]? = some (.cells #[.int .i64 gE, .int .i64 gF, (.slice h5 gC.length h6)] 25 (0, 0))) ∧ Aside0 (Below w.heap.size w wc))
  case first =>
   have H := HC6.1
   clear HC6
   replace H := Option.bind_eq_some_iff.mp H
   obtain ⟨i3, jX, H⟩ := H
   replace H : (if i3 = true then (laws_FnClockSteps.j0 k g8 (iL != iQ) gE gF gC) else (laws_FnClockSteps.j0 k g8 true gE gF gC)) = some r := H
   have A16 := am jX
   clear jX
   by_cases c17 : i3 = true
   ·
    subst c17
    have H1 : (laws_FnClockSteps.j0 k g8 (iL != iQ) gE gF gC) = some r := by rw [if_pos rfl] at H; exact H
    clear H
    have H := H1
    clear H1
    have H' := am H
    clear H
    obtain ⟨lB, lC, kL⟩ := Kd.N_slice g4.1
    subst kL
    obtain ⟨lD, lE, kM⟩ := Kd.N_slice gA.1
    subst kM
    go_wp2_with (first | (go_at_call 23; (with_reducible refine (laws_mnTicks.calls k _ _ g8 _ _ i4 true _ ?side1 ?side2 ?side3 ?side4 A16.1).mono ?_); (case side1 => exact cq (Kd.N_reads' g4.1).2.2); (case side2 => exact (Kd.N_reads' g4.1).2.1); (case side3 => exact cq (Kd.N_reads' gA.1).2.2); (case side4 => exact (Kd.N_reads' gA.1).2.1); rintro e w20 ⟨rfl, hb⟩; have n0_ := nw g2 hb; have n1_ := nw g4 hb; have n2_ := nw gA hb; have n3_ := kb g0 hb; have n4_ := bs HB hb; clear g2 g4 gA g0 HB; have g2 := n0_; have g4 := n1_; have gA := n2_; have g0 := n3_; have HB := n4_; clear n0_ n1_ n2_ n3_ n4_ hb))
    repeat (go_quiet (first | (go_at_call 23; (with_reducible refine (laws_mnTicks.calls k _ _ g8 _ _ i4 true _ ?side1 ?side2 ?side3 ?side4 A16.1).mono ?_); (case side1 => exact cq (Kd.N_reads' g4.1).2.2); (case side2 => exact (Kd.N_reads' g4.1).2.1); (case side3 => exact cq (Kd.N_reads' gA.1).2.2); (case side4 => exact (Kd.N_reads' gA.1).2.1); rintro e w20 ⟨rfl, hb⟩; have n0_ := nw g2 hb; have n1_ := nw g4 hb; have n2_ := nw gA hb; have n3_ := kb g0 hb; have n4_ := bs HB hb; clear g2 g4 gA g0 HB; have g2 := n0_; have g4 := n1_; have gA := n2_; have g0 := n3_; have HB := n4_; clear n0_ n1_ n2_ n3_ n4_ hb)); try go_wp2_with (first | (go_at_call 23; (with_reducible refine (laws_mnTicks.calls k _ _ g8 _ _ i4 true _ ?side1 ?side2 ?side3 ?side4 A16.1).mono ?_); (case side1 => exact cq (Kd.N_reads' g4.1).2.2); (case side2 => exact (Kd.N_reads' g4.1).2.1); (case side3 => exact cq (Kd.N_reads' gA.1).2.2); (case side4 => exact (Kd.N_reads' gA.1).2.1); rintro e w20 ⟨rfl, hb⟩; have n0_ := nw g2 hb; have n1_ := nw g4 hb; have n2_ := nw gA hb; have n3_ := kb g0 hb; have n4_ := bs HB hb; clear g2 g4 gA g0 HB; have g2 := n0_; have g4 := n1_; have gA := n2_; have g0 := n3_; have HB := n4_; clear n0_ n1_ n2_ n3_ n4_ hb)))
    go_meet
    case rel => exact ⟨_, ((iL != iQ)), rq, H', ⟨by first | omega | exact Nat.le_refl _⟩, nf g4, nf g2, kf g0, bw⟩
   ·
    replace c17 := Bool.eq_false_iff.mpr c17
    subst c17
    have H1 : (laws_FnClockSteps.j0 k g8 true gE gF gC) = some r := by rw [if_neg (show ¬ (false = true) by decide)] at H; exact H
    clear H
    have H := H1
    clear H1
    have H' := am H
    clear H
    obtain ⟨lF, lG, kN⟩ := Kd.N_slice g4.1
    subst kN
    obtain ⟨lH, lI, kO⟩ := Kd.N_slice gA.1
    subst kO
    go_wp2_with (first | (go_at_call 23; (with_reducible refine (laws_mnTicks.calls k _ _ g8 _ _ i4 false _ ?side1 ?side2 ?side3 ?side4 A16.1).mono ?_); (case side1 => exact cq (Kd.N_reads' g4.1).2.2); (case side2 => exact (Kd.N_reads' g4.1).2.1); (case side3 => exact cq (Kd.N_reads' gA.1).2.2); (case side4 => exact (Kd.N_reads' gA.1).2.1); rintro e w23 ⟨rfl, hb⟩; have n0_ := nw g2 hb; have n1_ := nw g4 hb; have n2_ := nw gA hb; have n3_ := kb g0 hb; have n4_ := bs HB hb; clear g2 g4 gA g0 HB; have g2 := n0_; have g4 := n1_; have gA := n2_; have g0 := n3_; have HB := n4_; clear n0_ n1_ n2_ n3_ n4_ hb))
    repeat (go_quiet (first | (go_at_call 23; (with_reducible refine (laws_mnTicks.calls k _ _ g8 _ _ i4 false _ ?side1 ?side2 ?side3 ?side4 A16.1).mono ?_); (case side1 => exact cq (Kd.N_reads' g4.1).2.2); (case side2 => exact (Kd.N_reads' g4.1).2.1); (case side3 => exact cq (Kd.N_reads' gA.1).2.2); (case side4 => exact (Kd.N_reads' gA.1).2.1); rintro e w23 ⟨rfl, hb⟩; have n0_ := nw g2 hb; have n1_ := nw g4 hb; have n2_ := nw gA hb; have n3_ := kb g0 hb; have n4_ := bs HB hb; clear g2 g4 gA g0 HB; have g2 := n0_; have g4 := n1_; have gA := n2_; have g0 := n3_; have HB := n4_; clear n0_ n1_ n2_ n3_ n4_ hb)); try go_wp2_with (first | (go_at_call 23; (with_reducible refine (laws_mnTicks.calls k _ _ g8 _ _ i4 false _ ?side1 ?side2 ?side3 ?side4 A16.1).mono ?_); (case side1 => exact cq (Kd.N_reads' g4.1).2.2); (case side2 => exact (Kd.N_reads' g4.1).2.1); (case side3 => exact cq (Kd.N_reads' gA.1).2.2); (case side4 => exact (Kd.N_reads' gA.1).2.1); rintro e w23 ⟨rfl, hb⟩; have n0_ := nw g2 hb; have n1_ := nw g4 hb; have n2_ := nw gA hb; have n3_ := kb g0 hb; have n4_ := bs HB hb; clear g2 g4 gA g0 HB; have g2 := n0_; have g4 := n1_; have gA := n2_; have g0 := n3_; have HB := n4_; clear n0_ n1_ n2_ n3_ n4_ hb)))
    go_meet
    case rel => exact ⟨_, (true), rq, H', ⟨by first | omega | exact Nat.le_refl _⟩, nf g4, nf g2, kf g0, bw⟩
  case rest =>
   clear HC6; (try clear c1); (try clear c2); (try clear c2b0); (try clear c2b1); (try clear p2); (try clear c5); (try clear c17); (try clear gT); (try clear gU); (try clear gV); (try clear gZ); (try clear h0); (try clear h1); (try clear hQ); (try clear hR); (try clear hS); (try clear gW); (try clear gX); (try clear gY); (try clear h2); (try clear h3); (try clear h4); (try clear hT); (try clear hU); (try clear hV)
   obtain ⟨kq, iT, rfl, HA, HJ5, g7, g1, g0, HB⟩ := hcut
   cases kq with
   | zero => exact absurd HA.1 (by simp [laws_FnClockSteps.j0])
   | succ kj5 =>
    have H := HA.1
    clear HA
    simp only [laws_FnClockSteps.j0] at H
    by_cases c24 : iT = true
    ·
     subst c24
     have H1 : (some false) = some r := by rw [if_pos rfl] at H; exact H
     clear H
     have H := H1
     clear H1
     obtain rfl := Option.some.inj H
     go_wp2
     repeat (go_quiet (fail); try go_wp2)
     go_ret
     exact ⟨by first | rfl | (simp [errW_none, errW_some] <;> rfl) | (simp [*, errW_none, errW_some] <;> rfl), by repeat (first | (with_reducible first | exact HB.1 | apply below_alloc | apply pw_below_drewN | apply below_drew1 | refine below_set ?_ i5.1) | exact HB.1)⟩
    ·
     replace c24 := Bool.eq_false_iff.mpr c24
     subst c24
     have H1 : ((impl_ClockPass.f kj5 gE gF gC).bind fun iU => ((impl_ClockSteps.f kj5 iU.1 iU.2.1 iU.2.2.1).bind fun iZ => (laws_FnClockSteps.l0 kj5 g8 iU.2.2.2 iZ.1 0))) = some r := by rw [if_neg (show ¬ (false = true) by decide)] at H; exact H
     clear H
     have H := H1
     clear H1
     replace H := Option.bind_eq_some_iff.mp H
     obtain ⟨⟨h7, h8, gI, hW⟩, jY, H⟩ := H
     replace H : ((impl_ClockSteps.f kj5 h7 h8 gI).bind fun iZ => (laws_FnClockSteps.l0 kj5 g8 hW iZ.1 0)) = some r := H
     have A25 := am jY
     clear jY
     replace H := Option.bind_eq_some_iff.mp H
     obtain ⟨⟨gL, jL⟩, jZ, H⟩ := H
     replace H : (laws_FnClockSteps.l0 kj5 g8 hW gL 0) = some r := H
     have A26 := am jZ
     clear jZ
     have H' := am H
     clear H; obtain ⟨i7, i8, i9, iA, iB, iC⟩ := cs3 g0
     go_wp2_with (first | (go_at_call 24; (with_reducible refine (impl_ClockPass.calls kj5 gE gF (fun k_ => (some k_ ≠ (gJ : Value).ownBlock ∧ k_ ≠ g3)) _ _ gC h7 h8 gI hW _ ?side1 A25.1).mono ?_); (case side1 => exact Kd.N_V (nf g1).1); rintro e w28 ⟨k0, rfl, ho0, hb⟩; have n0_ := ne g7 hb; have n1_ := ne g1 hb; have n2_ := nm HB ho0 (fun k_ => some k_ ≠ (gJ : Value).ownBlock ∧ k_ ≠ g3) (fun k_ hk_ => ⟨Or.elim hk_ (fun hs_ => hs_.1) (fun hn_ => (fr g7 k_ hn_)), Or.elim hk_ (fun hs_ => hs_.2) (fun hn_ => (fb g0 k_ hn_))⟩); have n3_ := kb g0 hb; have n4_ := bs HB hb; clear g7 g1 g0 HB; have g7 := n0_; have g1 := n1_; have g9 := n2_; have g0 := n3_; have HB := n4_; clear n0_ n1_ n2_ n3_ n4_ hb ho0) | ((with_reducible refine gate_dst (N := 8) rfl ?_); refine bx (cs := #[.int .i64 0, .int .i64 0, .slice none 0 0]) (t := 25) fun gB hg w29 hbox hb => ?_; replace g7 := nb g7 hg hb; replace g1 := nb g1 hg hb; replace g9 := nb g9 hg hb; have g5 := am (hbox); have jI := bz HB hg; have iM := bz HB hg; replace HB := bs HB hb; have gM := nl g0 hg; have gN := ng g0 hg; replace g0 := kb g0 hb; clear hb hbox hg; have jJ := gN.1; have jK := gM.1; obtain ⟨hA, hB, hC, hD, hE, hF⟩ := cs3 g5; obtain ⟨gO, gP, rfl⟩ := Kd.N_slice g9.1) | ((with_reducible refine gate_store (t := 25) (p := 8) rfl ?_); (try (rw [drewN_self w29]; generalize hq_ : World.drewN w29 _ = w29; have n0_ := am (Kd.N_at hq_ g7.1); have n1_ := am (Kd.N_at hq_ g1.1); have n2_ := am (Kd.N_at hq_ g9.1); have n3_ := am (blk_at hq_ g0.1); have n4_ := am (blk_at hq_ g5.1); have n5_ := am (below_at hq_ HB.1); clear hq_ g7 g1 g9 g0 g5 HB; have g7 := n0_; have g1 := n1_; have g9 := n2_; have g0 := n3_; have g5 := n4_; have HB := n5_; clear n0_ n1_ n2_ n3_ n4_ n5_)); refine se (((w29.setCell ⟨gB, 0, none⟩ (.int .i64 h7)).setCell ⟨gB, 1, none⟩ (.int .i64 h8)).setCell ⟨gB, 2, none⟩ (.slice gO gI.length gP)) fun w33 hw => ?_; replace g7 := nh g7 hw; replace g1 := nh g1 hw; replace g9 := nh g9 hw; replace g0 := kh g0 hw; replace g5 := kp g5 hw #[.int .i64 h7, .int .i64 h8, .slice gO gI.length gP]; replace HB := bh HB hw; clear hw; obtain ⟨hG, hH, hI, hJ, hK, hL⟩ := cs3 g5) | (go_at_call 15; (with_reducible refine (impl_ClockSteps.calls kj5 h7 h8 (fun k_ => (some k_ ≠ (gJ : Value).ownBlock ∧ (k_ ≠ g3 ∧ k_ ≠ gB))) _ _ gI gL jL _ ?side1 A26.1).mono ?_); (case side1 => exact Kd.N_V (nf g9).1); rintro e w35 ⟨hM, rfl, ho0, hb⟩; have n0_ := ne g7 hb; have n1_ := ne g1 hb; have n2_ := ne g9 hb; have n3_ := nm HB ho0 (fun k_ => some k_ ≠ (gJ : Value).ownBlock ∧ k_ ≠ g3 ∧ k_ ≠ gB) (fun k_ hk_ => ⟨Or.elim hk_ (fun hs_ => hs_.1) (fun hn_ => (fr g7 k_ hn_)), Or.elim hk_ (fun hs_ => hs_.2.1) (fun hn_ => (fb g0 k_ hn_)), Or.elim hk_ (fun hs_ => hs_.2.2) (fun hn_ => (fb g5 k_ hn_))⟩); have n4_ := kb g0 hb; have n5_ := kb g5 hb; have n6_ := bs HB hb; clear g7 g1 g9 g0 g5 HB; have g7 := n0_; have g1 := n1_; have g9 := n2_; have j3 := n3_; have g0 := n4_; have g5 := n5_; have HB := n6_; clear n0_ n1_ n2_ n3_ n4_ n5_ n6_ hb ho0))
     repeat (go_quiet (first | (go_at_call 24; (with_reducible refine (impl_ClockPass.calls kj5 gE gF (fun k_ => (some k_ ≠ (gJ : Value).ownBlock ∧ k_ ≠ g3)) _ _ gC h7 h8 gI hW _ ?side1 A25.1).mono ?_); (case side1 => exact Kd.N_V (nf g1).1); rintro e w28 ⟨k0, rfl, ho0, hb⟩; have n0_ := ne g7 hb; have n1_ := ne g1 hb; have n2_ := nm HB ho0 (fun k_ => some k_ ≠ (gJ : Value).ownBlock ∧ k_ ≠ g3) (fun k_ hk_ => ⟨Or.elim hk_ (fun hs_ => hs_.1) (fun hn_ => (fr g7 k_ hn_)), Or.elim hk_ (fun hs_ => hs_.2) (fun hn_ => (fb g0 k_ hn_))⟩); have n3_ := kb g0 hb; have n4_ := bs HB hb; clear g7 g1 g0 HB; have g7 := n0_; have g1 := n1_; have g9 := n2_; have g0 := n3_; have HB := n4_; clear n0_ n1_ n2_ n3_ n4_ hb ho0) | ((with_reducible refine gate_dst (N := 8) rfl ?_); refine bx (cs := #[.int .i64 0, .int .i64 0, .slice none 0 0]) (t := 25) fun gB hg w29 hbox hb => ?_; replace g7 := nb g7 hg hb; replace g1 := nb g1 hg hb; replace g9 := nb g9 hg hb; have g5 := am (hbox); have jI := bz HB hg; have iM := bz HB hg; replace HB := bs HB hb; have gM := nl g0 hg; have gN := ng g0 hg; replace g0 := kb g0 hb; clear hb hbox hg; have jJ := gN.1; have jK := gM.1; obtain ⟨hA, hB, hC, hD, hE, hF⟩ := cs3 g5; obtain ⟨gO, gP, rfl⟩ := Kd.N_slice g9.1) | ((with_reducible refine gate_store (t := 25) (p := 8) rfl ?_); (try (rw [drewN_self w29]; generalize hq_ : World.drewN w29 _ = w29; have n0_ := am (Kd.N_at hq_ g7.1); have n1_ := am (Kd.N_at hq_ g1.1); have n2_ := am (Kd.N_at hq_ g9.1); have n3_ := am (blk_at hq_ g0.1); have n4_ := am (blk_at hq_ g5.1); have n5_ := am (below_at hq_ HB.1); clear hq_ g7 g1 g9 g0 g5 HB; have g7 := n0_; have g1 := n1_; have g9 := n2_; have g0 := n3_; have g5 := n4_; have HB := n5_; clear n0_ n1_ n2_ n3_ n4_ n5_)); refine se (((w29.setCell ⟨gB, 0, none⟩ (.int .i64 h7)).setCell ⟨gB, 1, none⟩ (.int .i64 h8)).setCell ⟨gB, 2, none⟩ (.slice gO gI.length gP)) fun w33 hw => ?_; replace g7 := nh g7 hw; replace g1 := nh g1 hw; replace g9 := nh g9 hw; replace g0 := kh g0 hw; replace g5 := kp g5 hw #[.int .i64 h7, .int .i64 h8, .slice gO gI.length gP]; replace HB := bh HB hw; clear hw; obtain ⟨hG, hH, hI, hJ, hK, hL⟩ := cs3 g5) | (go_at_call 15; (with_reducible refine (impl_ClockSteps.calls kj5 h7 h8 (fun k_ => (some k_ ≠ (gJ : Value).ownBlock ∧ (k_ ≠ g3 ∧ k_ ≠ gB))) _ _ gI gL jL _ ?side1 A26.1).mono ?_); (case side1 => exact Kd.N_V (nf g9).1); rintro e w35 ⟨hM, rfl, ho0, hb⟩; have n0_ := ne g7 hb; have n1_ := ne g1 hb; have n2_ := ne g9 hb; have n3_ := nm HB ho0 (fun k_ => some k_ ≠ (gJ : Value).ownBlock ∧ k_ ≠ g3 ∧ k_ ≠ gB) (fun k_ hk_ => ⟨Or.elim hk_ (fun hs_ => hs_.1) (fun hn_ => (fr g7 k_ hn_)), Or.elim hk_ (fun hs_ => hs_.2.1) (fun hn_ => (fb g0 k_ hn_)), Or.elim hk_ (fun hs_ => hs_.2.2) (fun hn_ => (fb g5 k_ hn_))⟩); have n4_ := kb g0 hb; have n5_ := kb g5 hb; have n6_ := bs HB hb; clear g7 g1 g9 g0 g5 HB; have g7 := n0_; have g1 := n1_; have g9 := n2_; have j3 := n3_; have g0 := n4_; have g5 := n5_; have HB := n6_; clear n0_ n1_ n2_ n3_ n4_ n5_ n6_ hb ho0)); try go_wp2_with (first | (go_at_call 24; (with_reducible refine (impl_ClockPass.calls kj5 gE gF (fun k_ => (some k_ ≠ (gJ : Value).ownBlock ∧ k_ ≠ g3)) _ _ gC h7 h8 gI hW _ ?side1 A25.1).mono ?_); (case side1 => exact Kd.N_V (nf g1).1); rintro e w28 ⟨k0, rfl, ho0, hb⟩; have n0_ := ne g7 hb; have n1_ := ne g1 hb; have n2_ := nm HB ho0 (fun k_ => some k_ ≠ (gJ : Value).ownBlock ∧ k_ ≠ g3) (fun k_ hk_ => ⟨Or.elim hk_ (fun hs_ => hs_.1) (fun hn_ => (fr g7 k_ hn_)), Or.elim hk_ (fun hs_ => hs_.2) (fun hn_ => (fb g0 k_ hn_))⟩); have n3_ := kb g0 hb; have n4_ := bs HB hb; clear g7 g1 g0 HB; have g7 := n0_; have g1 := n1_; have g9 := n2_; have g0 := n3_; have HB := n4_; clear n0_ n1_ n2_ n3_ n4_ hb ho0) | ((with_reducible refine gate_dst (N := 8) rfl ?_); refine bx (cs := #[.int .i64 0, .int .i64 0, .slice none 0 0]) (t := 25) fun gB hg w29 hbox hb => ?_; replace g7 := nb g7 hg hb; replace g1 := nb g1 hg hb; replace g9 := nb g9 hg hb; have g5 := am (hbox); have jI := bz HB hg; have iM := bz HB hg; replace HB := bs HB hb; have gM := nl g0 hg; have gN := ng g0 hg; replace g0 := kb g0 hb; clear hb hbox hg; have jJ := gN.1; have jK := gM.1; obtain ⟨hA, hB, hC, hD, hE, hF⟩ := cs3 g5; obtain ⟨gO, gP, rfl⟩ := Kd.N_slice g9.1) | ((with_reducible refine gate_store (t := 25) (p := 8) rfl ?_); (try (rw [drewN_self w29]; generalize hq_ : World.drewN w29 _ = w29; have n0_ := am (Kd.N_at hq_ g7.1); have n1_ := am (Kd.N_at hq_ g1.1); have n2_ := am (Kd.N_at hq_ g9.1); have n3_ := am (blk_at hq_ g0.1); have n4_ := am (blk_at hq_ g5.1); have n5_ := am (below_at hq_ HB.1); clear hq_ g7 g1 g9 g0 g5 HB; have g7 := n0_; have g1 := n1_; have g9 := n2_; have g0 := n3_; have g5 := n4_; have HB := n5_; clear n0_ n1_ n2_ n3_ n4_ n5_)); refine se (((w29.setCell ⟨gB, 0, none⟩ (.int .i64 h7)).setCell ⟨gB, 1, none⟩ (.int .i64 h8)).setCell ⟨gB, 2, none⟩ (.slice gO gI.length gP)) fun w33 hw => ?_; replace g7 := nh g7 hw; replace g1 := nh g1 hw; replace g9 := nh g9 hw; replace g0 := kh g0 hw; replace g5 := kp g5 hw #[.int .i64 h7, .int .i64 h8, .slice gO gI.length gP]; replace HB := bh HB hw; clear hw; obtain ⟨hG, hH, hI, hJ, hK, hL⟩ := cs3 g5) | (go_at_call 15; (with_reducible refine (impl_ClockSteps.calls kj5 h7 h8 (fun k_ => (some k_ ≠ (gJ : Value).ownBlock ∧ (k_ ≠ g3 ∧ k_ ≠ gB))) _ _ gI gL jL _ ?side1 A26.1).mono ?_); (case side1 => exact Kd.N_V (nf g9).1); rintro e w35 ⟨hM, rfl, ho0, hb⟩; have n0_ := ne g7 hb; have n1_ := ne g1 hb; have n2_ := ne g9 hb; have n3_ := nm HB ho0 (fun k_ => some k_ ≠ (gJ : Value).ownBlock ∧ k_ ≠ g3 ∧ k_ ≠ gB) (fun k_ hk_ => ⟨Or.elim hk_ (fun hs_ => hs_.1) (fun hn_ => (fr g7 k_ hn_)), Or.elim hk_ (fun hs_ => hs_.2.1) (fun hn_ => (fb g0 k_ hn_)), Or.elim hk_ (fun hs_ => hs_.2.2) (fun hn_ => (fb g5 k_ hn_))⟩); have n4_ := kb g0 hb; have n5_ := kb g5 hb; have n6_ := bs HB hb; clear g7 g1 g9 g0 g5 HB; have g7 := n0_; have g1 := n1_; have g9 := n2_; have j3 := n3_; have g0 := n4_; have g5 := n5_; have HB := n6_; clear n0_ n1_ n2_ n3_ n4_ n5_ n6_ hb ho0)))
     go_loopg [12] kj5 (fun kq v12 w' => ∃ (g6 : Int), v12 = .int .i64 g6 ∧ Aside0 (laws_FnClockSteps.l0 kq g8 hW gL g6 = some r) ∧ Aside0 (kq ≤ kj5) ∧ Aside0 (Kd.N k44 44 w' w.heap.size (fun k_ => some k_ ≠ (hM : Value).ownBlock ∧ some k_ ≠ ((.slice gO gI.length gP) : Value).ownBlock ∧ k_ ≠ g3 ∧ k_ ≠ gB) gJ g8) ∧ Aside0 (Kd.N k44 44 w' w.heap.size (fun k_ => some k_ ≠ (gJ : Value).ownBlock ∧ k_ ≠ g3 ∧ k_ ≠ gB) hM gL) ∧ Aside0 (Kd.N k25 25 w' w.heap.size (fun k_ => some k_ ≠ (gJ : Value).ownBlock ∧ some k_ ≠ (hM : Value).ownBlock ∧ some k_ ≠ ((.slice gO gI.length gP) : Value).ownBlock ∧ k_ ≠ g3 ∧ k_ ≠ gB) (.slice h5 gC.length h6) gC) ∧ Aside0 (Kd.N k25 25 w' w.heap.size (fun k_ => some k_ ≠ (gJ : Value).ownBlock ∧ some k_ ≠ (hM : Value).ownBlock ∧ k_ ≠ g3 ∧ k_ ≠ gB) (.slice gO gI.length gP) gI) ∧ Aside0 (w'.heap[g3]? = some (.cells #[.int .i64 gE, .int .i64 gF, (.slice h5 gC.length h6)] 25 (0, 0))) ∧ Aside0 (w'.heap[gB]? = some (.cells #[.int .i64 h7, .int .i64 h8, (.slice gO gI.length gP)] 25 (0, 0))) ∧ Aside0 (Below w.heap.size w w'))
     case atStart => exact ⟨(0), rq, H', ⟨Nat.le_refl _⟩, nf g7, nf j3, nf g1, nf g9, kf g0, kf g5, bw⟩
     case round =>
      clear H'; (try clear c1); (try clear c2); (try clear c2b0); (try clear c2b1); (try clear p2); (try clear c3); (try clear c5); (try clear c17); (try clear c24); (try clear c30); (try clear gT); (try clear gU); (try clear gV); (try clear gZ); (try clear h0); (try clear h1); (try clear i7); (try clear i8); (try clear i9); (try clear hA); (try clear hB); (try clear hC); (try clear hG); (try clear hH); (try clear hI); (try clear hQ); (try clear hR); (try clear hS); (try clear gW); (try clear gX); (try clear gY); (try clear h2); (try clear h3); (try clear h4); (try clear iA); (try clear iB); (try clear iC); (try clear hD); (try clear hE); (try clear hF); (try clear hJ); (try clear hK); (try clear hL); (try clear hT); (try clear hU); (try clear hV); (try clear p2); (try clear g7); (try clear gH); (try clear g1); (try clear gD); (try clear g0); (try clear g5); (try clear HB)
      obtain ⟨g6, rfl, HA, HK2, g7, gH, g1, gD, g0, g5, HB⟩ := hrel
      cases gk with
      | zero => exact absurd HA.1 (by simp [laws_FnClockSteps.l0])
      | succ k2 =>
       have H := HA.1
       clear HA
       simp only [laws_FnClockSteps.l0] at H
       by_cases c36 : g6 < (g8.length : Int)
       ·
        rw [if_pos c36] at H; have c36b0 : decide (g6 < (g8.length : Int)) = true := decide_eq_true c36; clear c36; have jM := am H; clear H
        obtain ⟨iN, iO, kP⟩ := Kd.N_slice g7.1
        subst kP
        go_upto_region 13 with (fail)
        repeat (go_quiet (fail); go_upto_region 13 with (fail))
        go_cut [63] (fun v63 wc => ∃ (kq : Nat) (iD : Bool), v63 = .bool iD ∧ Aside0 (laws_FnClockSteps.j2 kq g8 hW gL g6 iD = some r) ∧ Aside0 (kq ≤ k2) ∧ Aside0 (Kd.N k44 44 wc w.heap.size (fun k_ => some k_ ≠ (hM : Value).ownBlock ∧ some k_ ≠ ((.slice gO gI.length gP) : Value).ownBlock ∧ k_ ≠ g3 ∧ k_ ≠ gB) (.slice iN g8.length iO) g8) ∧ Aside0 (Kd.N k44 44 wc w.heap.size (fun k_ => some k_ ≠ ((.slice iN g8.length iO) : Value).ownBlock ∧ k_ ≠ g3 ∧ k_ ≠ gB) hM gL) ∧ Aside0 (Kd.N k25 25 wc w.heap.size (fun k_ => some k_ ≠ ((.slice iN g8.length iO) : Value).ownBlock ∧ some k_ ≠ (hM : Value).ownBlock ∧ some k_ ≠ ((.slice gO gI.length gP) : Value).ownBlock ∧ k_ ≠ g3 ∧ k_ ≠ gB) (.slice h5 gC.length h6) gC) ∧ Aside0 (Kd.N k25 25 wc w.heap.size (fun k_ => some k_ ≠ ((.slice iN g8.length iO) : Value).ownBlock ∧ some k_ ≠ (hM : Value).ownBlock ∧ k_ ≠ g3 ∧ k_ ≠ gB) (.slice gO gI.length gP) gI) ∧ Aside0 (wc.heap[g3]? = some (.cells #[.int .i64 gE, .int .i64 gF, (.slice h5 gC.length h6)] 25 (0, 0))) ∧ Aside0 (wc.heap[gB]? = some (.cells #[.int .i64 h7, .int .i64 h8, (.slice gO gI.length gP)] 25 (0, 0))) ∧ Aside0 (Below w.heap.size w wc))
        case first =>
         have H := jM.1
         clear jM
         by_cases c39 : 0 ≤ g6
         ·
          rw [if_pos c39] at H; have c39b0 : decide (0 ≤ g6) = true := decide_eq_true c39; clear c39
          (first | rw [c39b0] | (simp only [i64_w, i32_w]; rw [c39b0]) | skip)
          by_cases c40 : ((rd_T44 g8 g6).f0) = 0
          ·
           rw [if_pos c40] at H; have c40b0 : (((rd_T44 g8 g6).f0) == 0) = true := beq_iff_eq.mpr c40; have c40b1 : (((rd_T44 g8 g6).f0) != 0) = false := bne_eq_false_iff_eq.mpr c40; clear c40
           have H' := am H
           clear H; have i0 : 0 ≤ (g6 : Int) := od; have i1 : g6 < (g8.length : Int) := od
           obtain ⟨k1, jN, jO, jP, iE, iF, iG, hN, hO, hP⟩ := at_T44 (Kd.N_reads' g7.1).2.2 g6 i0 i1
           cases jP
           obtain ⟨k3, iR, iS, i2⟩ := Kd.N_get g7.1 z44 g6 i0 (by first | exact i1 | exact od | (have e_ := (Kd.N_reads' g7.1).1; omega))
           obtain ⟨j6, j7, rfl, gQ, gR⟩ := k44_openF iS
           have gK := i2 3 _ rfl; rw [add_field _ _ 3 (by omega)] at gK; replace gK := Option.some.inj (gK.symm.trans hN); injection gK with hva_ hvn_ hvc_; rw [hva_] at gR; rw [hvc_] at gQ; have j8 := am (show Kd.V k25 25 _ w.heap.size _ _ ((rd_T44 g8 g6).f1.f2) from Kd.V_mk gQ gR); clear hva_ hvn_ hvc_ gR gQ i2 iR; have j9 := am hP; have jA := am hO; clear hP hO; replace i0 := eq_true i0; replace i1 := eq_true i1
           go_wp2
           repeat (go_quiet (fail); try go_wp2)
           go_meet
           case rel => exact ⟨_, (hW), rq, H', ⟨by have := HJ5.1; have := HK2.1; first | omega | exact Nat.le_refl _⟩, nf g7, nf gH, nf g1, nf gD, kf g0, kf g5, bw⟩
          ·
           rw [if_neg c40] at H; have c40b0 : (((rd_T44 g8 g6).f0) == 0) = false := beq_eq_false_iff_ne.mpr c40; have c40b1 : (((rd_T44 g8 g6).f0) != 0) = true := bne_iff_ne.mpr c40
           have H' := am H
           clear H; have i0 : 0 ≤ (g6 : Int) := od; have i1 : g6 < (g8.length : Int) := od
           obtain ⟨k1, jN, jO, jP, iE, iF, iG, hN, hO, hP⟩ := at_T44 (Kd.N_reads' g7.1).2.2 g6 i0 i1
           cases jP
           obtain ⟨k3, iR, iS, i2⟩ := Kd.N_get g7.1 z44 g6 i0 (by first | exact i1 | exact od | (have e_ := (Kd.N_reads' g7.1).1; omega))
           obtain ⟨j6, j7, rfl, gQ, gR⟩ := k44_openF iS
           have gK := i2 3 _ rfl; rw [add_field _ _ 3 (by omega)] at gK; replace gK := Option.some.inj (gK.symm.trans hN); injection gK with hva_ hvn_ hvc_; rw [hva_] at gR; rw [hvc_] at gQ; have j8 := am (show Kd.V k25 25 _ w.heap.size _ _ ((rd_T44 g8 g6).f1.f2) from Kd.V_mk gQ gR); clear hva_ hvn_ hvc_ gR gQ i2 iR; have j9 := am hP; have jA := am hO; clear hP hO; replace i0 := eq_true i0; replace i1 := eq_true i1
           go_wp2
           repeat (go_quiet (fail); try go_wp2)
           go_meet
           case rel => exact ⟨_, (false), rq, H', ⟨by have := HJ5.1; have := HK2.1; first | omega | exact Nat.le_refl _⟩, nf g7, nf gH, nf g1, nf gD, kf g0, kf g5, bw⟩
         ·
          rw [if_neg c39] at H
          exact absurd H (by simp)
        case rest =>
         clear jM; (try clear c1); (try clear c2); (try clear c2b0); (try clear c2b1); (try clear p2); (try clear c3); (try clear c4); (try clear c5); (try clear p5); (try clear q5); (try clear hx5); (try clear c17); (try clear c24); (try clear c30); (try clear c36); (try clear c36b0); (try clear c39); (try clear c39b0); (try clear c40); (try clear c40b0); (try clear c40b1); (try clear gT); (try clear gU); (try clear gV); (try clear gZ); (try clear h0); (try clear h1); (try clear i7); (try clear i8); (try clear i9); (try clear hA); (try clear hB); (try clear hC); (try clear hG); (try clear hH); (try clear hI); (try clear hQ); (try clear hR); (try clear hS); (try clear gW); (try clear gX); (try clear gY); (try clear h2); (try clear h3); (try clear h4); (try clear iA); (try clear iB); (try clear iC); (try clear hD); (try clear hE); (try clear hF); (try clear hJ); (try clear hK); (try clear hL); (try clear hT); (try clear hU); (try clear hV); (try clear iE); (try clear iF); (try clear iG); (try clear hN); (try clear p2); (try clear i0); (try clear i1)
         obtain ⟨kq, iD, rfl, HA, iP, g7, gH, g1, gD, g0, g5, HB⟩ := hcut
         cases kq with
         | zero => exact absurd HA.1 (by simp [laws_FnClockSteps.j2])
         | succ jQ =>
          have H := HA.1
          clear HA
          simp only [laws_FnClockSteps.j2] at H
          by_cases c41 : iD = true
          ·
           subst c41
           have H1 : (some false) = some r := by rw [if_pos rfl] at H; exact H
           clear H
           have H := H1
           clear H1
           obtain rfl := Option.some.inj H
           go_wp2
           repeat (go_quiet (fail); try go_wp2)
           go_ret
           exact ⟨by first | rfl | (simp [errW_none, errW_some] <;> rfl) | (simp [*, errW_none, errW_some] <;> rfl), by repeat (first | (with_reducible first | exact HB.1 | apply below_alloc | apply pw_below_drewN | apply below_drew1 | refine below_set ?_ i5.1 | refine below_set ?_ iM.1) | exact HB.1)⟩
          ·
           replace c41 := Bool.eq_false_iff.mpr c41
           subst c41
           have H1 : (laws_FnClockSteps.l1 jQ g8 hW gL g6 false 0) = some r := by rw [if_neg (show ¬ (false = true) by decide)] at H; exact H
           clear H
           have H := H1
           clear H1
           have H' := am H
           clear H
           go_wp2
           repeat (go_quiet (fail); try go_wp2)
           go_loopg [13, 14] jQ (fun kq v13 v14 w' => ∃ (i6 : Bool) (gG : Int), v13 = .bool i6 ∧ v14 = .int .i64 gG ∧ Aside0 (laws_FnClockSteps.l1 kq g8 hW gL g6 i6 gG = some r) ∧ Aside0 (kq ≤ jQ) ∧ Aside0 (Kd.N k44 44 w' w.heap.size (fun k_ => some k_ ≠ (hM : Value).ownBlock ∧ some k_ ≠ ((.slice gO gI.length gP) : Value).ownBlock ∧ k_ ≠ g3 ∧ k_ ≠ gB) (.slice iN g8.length iO) g8) ∧ Aside0 (Kd.N k44 44 w' w.heap.size (fun k_ => some k_ ≠ ((.slice iN g8.length iO) : Value).ownBlock ∧ k_ ≠ g3 ∧ k_ ≠ gB) hM gL) ∧ Aside0 (Kd.N k25 25 w' w.heap.size (fun k_ => some k_ ≠ ((.slice iN g8.length iO) : Value).ownBlock ∧ some k_ ≠ (hM : Value).ownBlock ∧ some k_ ≠ ((.slice gO gI.length gP) : Value).ownBlock ∧ k_ ≠ g3 ∧ k_ ≠ gB) (.slice h5 gC.length h6) gC) ∧ Aside0 (Kd.N k25 25 w' w.heap.size (fun k_ => some k_ ≠ ((.slice iN g8.length iO) : Value).ownBlock ∧ some k_ ≠ (hM : Value).ownBlock ∧ k_ ≠ g3 ∧ k_ ≠ gB) (.slice gO gI.length gP) gI) ∧ Aside0 (w'.heap[g3]? = some (.cells #[.int .i64 gE, .int .i64 gF, (.slice h5 gC.length h6)] 25 (0, 0))) ∧ Aside0 (w'.heap[gB]? = some (.cells #[.int .i64 h7, .int .i64 h8, (.slice gO gI.length gP)] 25 (0, 0))) ∧ Aside0 (Below w.heap.size w w'))
           case atStart => exact ⟨(false), (0), rq, rq, H', ⟨Nat.le_refl _⟩, nf g7, nf gH, nf g1, nf gD, kf g0, kf g5, bw⟩
           case round =>
            clear H'; (try clear c1); (try clear c2); (try clear c2b0); (try clear c2b1); (try clear p2); (try clear c3); (try clear c4); (try clear c5); (try clear p5); (try clear q5); (try clear hx5); (try clear c17); (try clear c24); (try clear c30); (try clear c36); (try clear c36b0); (try clear c39); (try clear c39b0); (try clear c40); (try clear c40b0); (try clear c40b1); (try clear c41); (try clear gT); (try clear gU); (try clear gV); (try clear gZ); (try clear h0); (try clear h1); (try clear i7); (try clear i8); (try clear i9); (try clear hA); (try clear hB); (try clear hC); (try clear hG); (try clear hH); (try clear hI); (try clear hQ); (try clear hR); (try clear hS); (try clear gW); (try clear gX); (try clear gY); (try clear h2); (try clear h3); (try clear h4); (try clear iA); (try clear iB); (try clear iC); (try clear hD); (try clear hE); (try clear hF); (try clear hJ); (try clear hK); (try clear hL); (try clear hT); (try clear hU); (try clear hV); (try clear iE); (try clear iF); (try clear iG); (try clear hN); (try clear p2); (try clear p5); (try clear i0); (try clear q5); (try clear i1); (try clear g7); (try clear gH); (try clear g1); (try clear gD); (try clear g0); (try clear g5); (try clear HB)
            obtain ⟨i6, gG, rfl, rfl, HA, HK4, g7, gH, g1, gD, g0, g5, HB⟩ := hrel
            cases gk with
            | zero => exact absurd HA.1 (by simp [laws_FnClockSteps.l1])
            | succ k4 =>
             have H := HA.1
             clear HA
             simp only [laws_FnClockSteps.l1] at H
             by_cases c42 : gG < (gL.length : Int)
             ·
              rw [if_pos c42] at H; have c42b0 : decide (gG < (gL.length : Int)) = true := decide_eq_true c42; clear c42
              by_cases c43 : i6 = true
              ·
               subst c43
               have H1 : (laws_FnClockSteps.l1 k4 g8 hW gL g6 true (wrap64 (gG + 1))) = some r := by rw [if_pos rfl] at H; exact H
               clear H
               have H := H1
               clear H1
               have H' := am H
               clear H
               obtain ⟨lJ, lK, kQ⟩ := Kd.N_slice gH.1
               subst kQ
               go_wp2
               repeat (go_quiet (fail); try go_wp2)
               go_roundg k4
               case measure => have := HJ5.1; have := HK2.1; have := iP.1; have := HK4.1; omega
               case rel => exact ⟨(true), (wrap64 (gG + 1)), rq, rq, H', ⟨by have := HJ5.1; have := HK2.1; have := iP.1; have := HK4.1; omega⟩, nf g7, nf gH, nf g1, nf gD, kf g0, kf g5, bw⟩
              ·
               replace c43 := Bool.eq_false_iff.mpr c43
               subst c43
               have H1 : (if 0 ≤ gG then (if 0 ≤ g6 then (if g6 < (g8.length : Int) then (laws_FnClockSteps.l1 k4 g8 hW gL g6 (((rd_T44 gL gG).f0) == ((rd_T44 g8 g6).f0)) (wrap64 (gG + 1))) else (none)) else (none)) else (none)) = some r := by rw [if_neg (show ¬ (false = true) by decide)] at H; exact H
               clear H
               have H := H1
               clear H1
               by_cases c45 : 0 ≤ gG
               ·
                rw [if_pos c45] at H; have c45b0 : decide (0 ≤ gG) = true := decide_eq_true c45; clear c45
                by_cases c46 : 0 ≤ g6
                ·
                 rw [if_pos c46] at H; have c46b0 : decide (0 ≤ g6) = true := decide_eq_true c46; clear c46
                 by_cases c47 : g6 < (g8.length : Int)
                 ·
                  rw [if_pos c47] at H; have c47b0 : decide (g6 < (g8.length : Int)) = true := decide_eq_true c47; clear c47
                  have H' := am H
                  clear H
                  obtain ⟨lL, lM, kR⟩ := Kd.N_slice gH.1
                  subst kR
                  have jB : 0 ≤ (gG : Int) := od; have jC : gG < (gL.length : Int) := od
                  obtain ⟨l6, kS, kT, kU, k5, k6, k7, jD, iV, iW⟩ := at_T44 (Kd.N_reads' gH.1).2.2 gG jB jC
                  cases kU
                  obtain ⟨l7, jR, jS, j4⟩ := Kd.N_get gH.1 z44 gG jB (by first | exact jC | exact od | (have e_ := (Kd.N_reads' gH.1).1; omega))
                  obtain ⟨k8, k9, rfl, iH, iI⟩ := k44_openF jS
                  have hY := j4 3 _ rfl; rw [add_field _ _ 3 (by omega)] at hY; replace hY := Option.some.inj (hY.symm.trans jD); injection hY with hva_ hvn_ hvc_; rw [hva_] at iI; rw [hvc_] at iH; have kA := am (show Kd.V k25 25 _ w.heap.size _ _ ((rd_T44 gL gG).f1.f2) from Kd.V_mk iH iI); clear hva_ hvn_ hvc_ iI iH j4 jR; have kB := am iW; have kC := am iV; clear iW iV; replace jB := eq_true jB; replace jC := eq_true jC; have jE : 0 ≤ (g6 : Int) := od; have jF : g6 < (g8.length : Int) := od
                  obtain ⟨l8, kV, kW, kX, kD, kE, kF, jG, iX, iY⟩ := at_T44 (Kd.N_reads' g7.1).2.2 g6 jE jF
                  cases kX
                  obtain ⟨l9, jT, jU, j5⟩ := Kd.N_get g7.1 z44 g6 jE (by first | exact jF | exact od | (have e_ := (Kd.N_reads' g7.1).1; omega))
                  obtain ⟨kG, kH, rfl, iJ, iK⟩ := k44_openF jU
                  have hZ := j5 3 _ rfl; rw [add_field _ _ 3 (by omega)] at hZ; replace hZ := Option.some.inj (hZ.symm.trans jG); injection hZ with hva_ hvn_ hvc_; rw [hva_] at iK; rw [hvc_] at iJ; have kI := am (show Kd.V k25 25 _ w.heap.size _ _ ((rd_T44 g8 g6).f1.f2) from Kd.V_mk iJ iK); clear hva_ hvn_ hvc_ iK iJ j5 jT; have kJ := am iY; have kK := am iX; clear iY iX; replace jE := eq_true jE; replace jF := eq_true jF
                  go_wp2
                  repeat (go_quiet (fail); try go_wp2)
                  go_roundg k4
                  case measure => have := HJ5.1; have := HK2.1; have := iP.1; have := HK4.1; omega
                  case rel => exact ⟨((((rd_T44 gL gG).f0) == ((rd_T44 g8 g6).f0))), (wrap64 (gG + 1)), rq, rq, H', ⟨by have := HJ5.1; have := HK2.1; have := iP.1; have := HK4.1; omega⟩, nf g7, nf gH, nf g1, nf gD, kf g0, kf g5, bw⟩
                 ·
                  rw [if_neg c47] at H
                  exact absurd H (by simp)
                ·
                 rw [if_neg c46] at H
                 exact absurd H (by simp)
               ·
                rw [if_neg c45] at H
                exact absurd H (by simp)
             ·
              rw [if_neg c42] at H; have c42b0 : decide (gG < (gL.length : Int)) = false := decide_eq_false c42; clear c42
              by_cases c49 : hW = true
              ·
               subst c49
               have H1 : (if i6 = true then (laws_FnClockSteps.l0 k4 g8 true gL (wrap64 (g6 + 1))) else (some false)) = some r := by rw [if_pos rfl] at H; exact H
               clear H
               have H := H1
               clear H1
               by_cases c50 : i6 = true
               ·
                subst c50
                have H1 : (laws_FnClockSteps.l0 k4 g8 true gL (wrap64 (g6 + 1))) = some r := by rw [if_pos rfl] at H; exact H
                clear H
                have H := H1
                clear H1
                have H' := am H
                clear H
                obtain ⟨lN, lO, kY⟩ := Kd.N_slice gH.1
                subst kY
                go_wp2
                repeat (go_quiet (fail); try go_wp2)
                go_roundg k4
                case measure => have := HJ5.1; have := HK2.1; have := iP.1; have := HK4.1; omega
                case rel => exact ⟨(wrap64 (g6 + 1)), rq, H', ⟨by have := HJ5.1; have := HK2.1; have := iP.1; have := HK4.1; omega⟩, nf g7, nf gH, nf g1, nf gD, kf g0, kf g5, bw⟩
               ·
                replace c50 := Bool.eq_false_iff.mpr c50
                subst c50
                have H1 : (some false) = some r := by rw [if_neg (show ¬ (false = true) by decide)] at H; exact H
                clear H
                have H := H1
                clear H1
                obtain rfl := Option.some.inj H
                obtain ⟨lP, lQ, kZ⟩ := Kd.N_slice gH.1
                subst kZ
                go_wp2
                repeat (go_quiet (fail); try go_wp2)
                go_ret
                exact ⟨by first | rfl | (simp [errW_none, errW_some] <;> rfl) | (simp [*, errW_none, errW_some] <;> rfl), by repeat (first | (with_reducible first | exact HB.1 | apply below_alloc | apply pw_below_drewN | apply below_drew1 | refine below_set ?_ i5.1 | refine below_set ?_ iM.1) | exact HB.1)⟩
              ·
               replace c49 := Bool.eq_false_iff.mpr c49
               subst c49
               have H1 : (laws_FnClockSteps.l0 k4 g8 false gL (wrap64 (g6 + 1))) = some r := by rw [if_neg (show ¬ (false = true) by decide)] at H; exact H
               clear H
               have H := H1
               clear H1
               have H' := am H
               clear H
               obtain ⟨lR, lS, l4⟩ := Kd.N_slice gH.1
               subst l4
               go_wp2
               repeat (go_quiet (fail); try go_wp2)
               go_roundg k4
               case measure => have := HJ5.1; have := HK2.1; have := iP.1; have := HK4.1; omega
               case rel => exact ⟨(wrap64 (g6 + 1)), rq, H', ⟨by have := HJ5.1; have := HK2.1; have := iP.1; have := HK4.1; omega⟩, nf g7, nf gH, nf g1, nf gD, kf g0, kf g5, bw⟩
       ·
        rw [if_neg c36] at H; have c36b0 : decide (g6 < (g8.length : Int)) = false := decide_eq_false c36; clear c36
        obtain rfl := Option.some.inj H
        obtain ⟨lT, lU, l5⟩ := Kd.N_slice g7.1
        subst l5
        go_wp2
        repeat (go_quiet (fail); try go_wp2)
        go_ret
        exact ⟨by first | rfl | (simp [errW_none, errW_some] <;> rfl) | (simp [*, errW_none, errW_some] <;> rfl), by repeat (first | (with_reducible first | exact HB.1 | apply below_alloc | apply pw_below_drewN | apply below_drew1 | refine below_set ?_ i5.1 | refine below_set ?_ iM.1) | exact HB.1)⟩

/-- THE ONE PURE STATEMENT of laws_FnClockSteps: yours. -/
def laws_FnClockSteps.Pure : Prop := ∀ (l0 : List Int), l0.length ≤ maxLen → l0.length * 1 ≤ 140737488351232 → (∀ x ∈ l0, (Lit.int .u8 x).wf = true) → ∃ k, laws_FnClockSteps.f k l0 = some true
theorem laws_FnClockSteps.walk (P : laws_FnClockSteps.Pure) (a0 : Option Addr) (len0 cap0 : Nat) (z0 : List Int) (w : World) (w0 : (a0 = none ∧ len0 = 0 ∧ cap0 = 0 ∧ z0 = []) ∨ ∃ x, a0 = some x ∧ len0 ≤ cap0 ∧ cap0 ≤ maxLen ∧ z0.length = cap0 ∧ (∀ i, i < z0.length → w.cell? (x.add i) = some (.int .u8 (z0.getD i 0))) ∧ ∀ n ∈ z0, (Lit.int .u8 n).wf = true) (y0 : len0 * 1 ≤ 140737488351232) :
  Calls Try.prog 5 #[.slice a0 len0 cap0] w fun e w' => e = .returned (.bool true) ∧ Below w.heap.size w w' := by
 obtain ⟨l0, rfl, hr0, hm0, hw0, hc0⟩ := ReadsInt.ofRowC w0
 obtain ⟨k, h⟩ := P l0 hm0 y0 hw0
 refine (laws_FnClockSteps.calls k _ _ l0 true w (Kd.C_of_reads (d := (0 : Int)) (h1 := fun _ => rfl) hr0) hc0 h).mono ?_
 rintro e w' ⟨rfl, hd⟩
 exact ⟨rfl, hd⟩
end Go.Proofs.Ytfnmjecofgeboaa.PAll
