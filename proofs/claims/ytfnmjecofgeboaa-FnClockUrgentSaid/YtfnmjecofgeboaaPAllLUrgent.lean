-- Laid by a program of this session out of the translation's print
import Derived.Test.YtfnmjecofgeboaaPAll0
import Derived.Test.YtfnmjecofgeboaaPAllAb
import Derived.Test.YtfnmjecofgeboaaPAllClk
import Derived.Test.YtfnmjecofgeboaaPAllDraw
import Derived.Test.YtfnmjecofgeboaaPAllIOk
import Derived.Test.YtfnmjecofgeboaaPAllIPass
import Derived.Test.YtfnmjecofgeboaaPAllSPass
namespace Go.Proofs.Ytfnmjecofgeboaa.PAll
open Go.RowKit Go.Proofs.YtfnmjecofgeboaaW.PrintWords Go.Proofs.YtfnmjecofgeboaaW.PrintLast Go.Proofs.YtfnmjecofgeboaaW.PrintMore
attribute [local go_sem] max2_int min2_int max_two min_two max_three min_three max_four min_four   -- for this text's walks alone
set_option linter.unusedVariables false
set_option linter.unusedSimpArgs false

/-! ### spec_DrawClockUrgent: function 32 -/
def spec_DrawClockUrgent.f (k : Nat) (l0 : List Int) : Option (Int × Int × (List (S25))) := (spec_l6Open.f l0).bind fun bt725 => ((spec_l92Timed.f k bt725.1 bt725.2).bind fun bt728 => (some (bt728.1, bt728.2.1, bt728.2.2.1)))
theorem spec_DrawClockUrgent.mono : ∀ a0 k, LeO (spec_DrawClockUrgent.f k a0) (spec_DrawClockUrgent.f (k + 1) a0) := by
 intro a0 k
 unfold spec_DrawClockUrgent.f
 repeat' first
   | (with_reducible exact spec_l92Timed.mono _ _ _)
   | (with_reducible exact LeO.refl _)
   | (with_reducible exact LeO.none _)
   | (with_reducible refine LeO.ite ?_ ?_)
   | (with_reducible refine LeO.bind ?_ (fun _ => ?_))
   | exact spec_l92Timed.mono _ _ _
   | exact LeO.none _
   | refine LeO.ite ?_ ?_
   | refine LeO.bind ?_ (fun _ => ?_)
set_option maxHeartbeats 8000000 in
set_option maxRecDepth 100000 in
theorem spec_DrawClockUrgent.calls (k : Nat) (A0 : Option Addr) (c0 : Nat) (l0 : List Int) (r1 : Int) (r2 : Int) (r3 : List (S25)) (w : World) (hr0 : Kd.C (Kd.int .u8) w A0 l0.length l0) (hc0 : l0.length ≤ c0) (h : spec_DrawClockUrgent.f k l0 = some (r1, r2, r3)) :
  Calls Try.prog 32 #[.slice A0 l0.length c0] w fun e w' => ∃ v2_ : Value, e = .returned (.agg #[.int .i64 r1, .int .i64 r2, v2_]) ∧ Kd.N k25 25 w' w.heap.size (fun k_ => (w.heap.size ≤ k_)) v2_ r3 ∧ Below w.heap.size w w' := by
 have h5 := Try.underlying25
 have HR0 := am hr0; have HC0 := am hc0; clear hr0 hc0; have HB := am (Below.refl w.heap.size w)
 have H : ((spec_l6Open.f l0).bind fun gH => ((spec_l92Timed.f k gH.1 gH.2).bind fun g3 => (some (g3.1, g3.2.1, g3.2.2.1)))) = some (r1, r2, r3) := h
 clear h
 replace H := Option.bind_eq_some_iff.mp H
 obtain ⟨⟨gD, gI⟩, A20, H⟩ := H
 replace H : ((spec_l92Timed.f k gD gI).bind fun g3 => (some (g3.1, g3.2.1, g3.2.2.1))) = some (r1, r2, r3) := H
 have A2 := am A20
 clear A20
 replace H := Option.bind_eq_some_iff.mp H
 obtain ⟨⟨gE, gF, gG, gJ⟩, A30, H⟩ := H
 replace H : (some (gE, gF, gG)) = some (r1, r2, r3) := H
 have A3 := am A30
 clear A30
 simp only [Option.some.injEq, Prod.mk.injEq] at H
 obtain ⟨rfl, rfl, rfl⟩ := H
 go_enter Try.func32, Try.ntmps32
 go_wp2_with (first | ((with_reducible refine gate_dst (N := 2) rfl ?_); refine bx (cs := #[.int .i64 0, .int .i64 0, .slice none 0 0]) (t := 25) fun g2 hg w4 hbox hb => ?_; have g0 := am (hbox); have h1 := bz HB hg; have gM := bz HB hg; replace HB := bs HB hb; clear hb hbox hg) | ((with_reducible refine gate_callee (f := 37) rfl ?_); refine gl (some 6) Try.func37 #[.slice A0 l0.length c0] ?_; (with_reducible refine (spec_l6Open.calls _ _ l0 gD gI w _ ?side1 ?side2 ?side3 A2.1).mono ?_); (case side1 => exact bq); (case side2 => exact HR0.1); (case side3 => exact HC0.1); rintro e w5 ⟨g7, rfl, hi, hb, hb2⟩; refine ⟨_, rfl, ?_⟩; replace HB := am (hb); have g4 := am (hi); have g1 := am (IsS65.ne_blk hi (blk_below (g := g2) (o := .cells #[.int .i64 0, .int .i64 0, .slice none 0 0] 25 (0, 0)) (kf g0).1 hb2) (by decide)); have g5 := am (Ne.symm (IsS65.ne_blk hi (blk_below (g := g2) (o := .cells #[.int .i64 0, .int .i64 0, .slice none 0 0] 25 (0, 0)) (kf g0).1 hb2) (by decide))); replace g0 := kb g0 hb2; clear hb hb2 hi) | ((with_reducible refine gate_callee (f := 38) rfl ?_); refine gl (some 8) Try.func38 #[.pointer (some ⟨g7, 0, none⟩)] ?_; (with_reducible refine (spec_l92Timed.calls k g7 gD gI gE gF gG gJ w _ ?side1 ?side2 A3.1).mono ?_); (case side1 => exact ip); (case side2 => exact bq); rintro e w6 ⟨h6, rfl, ho0, hi, hb, hk⟩; refine ⟨_, rfl, ?_⟩; have g8 := nm HB ho0 (fun k_ => (w.heap.size ≤ k_) ∧ k_ ≠ g2 ∧ k_ ≠ g7) (fun k_ hk_ => ⟨(zt HB hk_), (fb g0 k_ hk_), (IsS65.fresh ip k_ hk_)⟩); replace g0 := kk g0 g5 hk; replace HB := am (hb); replace g4 := am (hi); clear hb hk hi ho0) | ((with_reducible refine gate_dst (N := 4) rfl ?_); refine bx (cs := #[.int .i64 0, .int .i64 0, .slice none 0 0]) (t := 25) fun g6 hg w7 hbox hb => ?_; replace g8 := nb g8 hg hb; have gN := am (hbox); have h2 := bz HB hg; have gO := bz HB hg; replace HB := bs HB hb; have g9 := nl g0 hg; have gA := ng g0 hg; replace g0 := kb g0 hb; have gB := am ((by rw [hg]; exact Nat.ne_of_lt (IsS65.lt (show IsS65 w _ g7 gD gJ from by repeat (first | (with_reducible first | exact g4.1 | apply IsS65.alloc | apply IsS65.drewN | apply IsS65.drew | apply IsS65.set_1 | refine IsS65.far ?_ g1.1 _) | exact g4.1))) : g7 ≠ g6)); have gC := am ((by rw [hg]; exact Nat.ne_of_gt (IsS65.lt (show IsS65 w _ g7 gD gJ from by repeat (first | (with_reducible first | exact g4.1 | apply IsS65.alloc | apply IsS65.drewN | apply IsS65.drew | apply IsS65.set_1 | refine IsS65.far ?_ g1.1 _) | exact g4.1))) : g6 ≠ g7)); replace g4 := am (IsS65.below ip hb); clear hb hbox hg; have h7 := gA.1; have h8 := g9.1; have h9 := gC.1; have hA := gB.1; obtain ⟨gP, gQ, gR, gS, gT, gU⟩ := cs3 gN; obtain ⟨gK, gL, rfl⟩ := Kd.N_slice g8.1; have h3 := g5.1; have h4 := g1.1; obtain ⟨gV, gW, gX, gY, gZ, h0⟩ := cs3 g0))
 refine bodyPost_ret (results_cell_row rfl _ _ g2 25 #[.int .i64 gE, .int .i64 gF, .slice gK gG.length gL] (0, 0) _ rfl (kf g0).1 Try.underlying25 rfl (by kernel_rfl)) rfl ?_
 exact ⟨_, by first | rfl | (simp [errW_none, errW_some] <;> rfl) | (simp [*, errW_none, errW_some] <;> rfl), by (with_reducible repeat (first | apply Kd.N_alloc | apply Kd.N_drewN | apply Kd.N_drew)); exact Kd.N_mono (Kd.N_far (p := ⟨g2, 2, none⟩) (Kd.N_far (p := ⟨g2, 1, none⟩) (Kd.N_far (p := ⟨g2, 0, none⟩) (Kd.N_far (p := ⟨g6, 2, none⟩) (Kd.N_far (p := ⟨g6, 1, none⟩) (Kd.N_far (p := ⟨g6, 0, none⟩) (Kd.N_mono (Kd.N_mono g8.1 (fun k_ hk => (⟨hk, hk.2⟩ : _ ∧ k_ ≠ g6))) (fun k_ hk => (⟨hk, hk.1.1.2.1⟩ : _ ∧ k_ ≠ g2))) mq (.int .i64 gE)) mq (.int .i64 gF)) mq (.slice gK gG.length gL)) mq (.int .i64 gE)) mq (.int .i64 gF)) mq (.slice gK gG.length gL)) mq, by repeat (first | (with_reducible first | exact HB.1 | apply below_alloc | apply pw_below_drewN | apply below_drew1 | refine below_set ?_ (IsS65.ge g4.1) | refine below_set ?_ gM.1 | refine below_set ?_ gO.1) | exact HB.1)⟩

/-! ### laws_FnClockUrgent: function 8 -/
def laws_FnClockUrgent.f (k : Nat) (l0 : List Int) : Option (Bool) := if (l0.length : Int) > 1048576 then (some true) else ((spec_DrawClockUrgent.f k l0).bind fun bt750 => ((impl_ClockUrgent.f k bt750.1 bt750.2.1 bt750.2.2).bind fun t756 => ((spec_ClockUrgent.f k bt750.1 bt750.2.1 bt750.2.2).bind fun t757 => (if t756 = t757 then (if t756 < 0 then (if t756 = (-1) then ((impl_ClockOk.f k bt750.1 bt750.2.1 bt750.2.2).bind fun t758 => (some (!t758))) else (some false)) else ((impl_ClockLater.f k bt750.1 bt750.2.1 bt750.2.2 t756).bind fun bt759 => ((impl_ClockLater.f k bt750.1 bt750.2.1 bt750.2.2 (wrap64 (t756 + 1))).bind fun bt766 => (if bt759.2.2.2 = true then (some (!bt766.2.2.2)) else (some false))))) else (some false)))))
theorem laws_FnClockUrgent.mono : ∀ a0 k, LeO (laws_FnClockUrgent.f k a0) (laws_FnClockUrgent.f (k + 1) a0) := by
 intro a0 k
 unfold laws_FnClockUrgent.f
 repeat' first
   | (with_reducible exact impl_ClockLater.mono _ _ _ _ _)
   | (with_reducible exact impl_ClockOk.mono _ _ _ _)
   | (with_reducible exact impl_ClockUrgent.mono _ _ _ _)
   | (with_reducible exact spec_ClockUrgent.mono _ _ _ _)
   | (with_reducible exact spec_DrawClockUrgent.mono _ _)
   | (with_reducible exact LeO.refl _)
   | (with_reducible exact LeO.none _)
   | (with_reducible refine LeO.ite ?_ ?_)
   | (with_reducible refine LeO.bind ?_ (fun _ => ?_))
   | exact impl_ClockLater.mono _ _ _ _ _
   | exact impl_ClockOk.mono _ _ _ _
   | exact impl_ClockUrgent.mono _ _ _ _
   | exact spec_ClockUrgent.mono _ _ _ _
   | exact spec_DrawClockUrgent.mono _ _
   | exact LeO.none _
   | refine LeO.ite ?_ ?_
   | refine LeO.bind ?_ (fun _ => ?_)
set_option maxHeartbeats 8000000 in
set_option maxRecDepth 100000 in
theorem laws_FnClockUrgent.calls (k : Nat) (A0 : Option Addr) (c0 : Nat) (l0 : List Int) (r : Bool) (w : World) (hr0 : Kd.C (Kd.int .u8) w A0 l0.length l0) (hc0 : l0.length ≤ c0) (h : laws_FnClockUrgent.f k l0 = some r) :
  Calls Try.prog 8 #[.slice A0 l0.length c0] w fun e w' => e = .returned (.bool r) ∧ Below w.heap.size w w' := by
 have m4 := Try.underlying25
 have HR0 := am hr0; have HC0 := am hc0; clear hr0 hc0; have HB := am (Below.refl w.heap.size w)
 have H : (if (l0.length : Int) > 1048576 then (some true) else ((spec_DrawClockUrgent.f k l0).bind fun g9 => ((impl_ClockUrgent.f k g9.1 g9.2.1 g9.2.2).bind fun g6 => ((spec_ClockUrgent.f k g9.1 g9.2.1 g9.2.2).bind fun gA => (if g6 = gA then (if g6 < 0 then (if g6 = (-1) then ((impl_ClockOk.f k g9.1 g9.2.1 g9.2.2).bind fun gL => (some (!gL))) else (some false)) else ((impl_ClockLater.f k g9.1 g9.2.1 g9.2.2 g6).bind fun gJ => ((impl_ClockLater.f k g9.1 g9.2.1 g9.2.2 (wrap64 (g6 + 1))).bind fun gB => (if gJ.2.2.2 = true then (some (!gB.2.2.2)) else (some false))))) else (some false)))))) = some r := h
 clear h
 by_cases c2 : (l0.length : Int) > 1048576
 ·
  rw [if_pos c2] at H; have c2b0 : decide (1048576 < (l0.length : Int)) = true := decide_eq_true c2; have c2b1 : decide (1048576 < l0.length) = true := decide_eq_true (by omega); clear c2
  obtain rfl := Option.some.inj H
  go_enter Try.func8, Try.ntmps8
  go_wp2
  go_ret
  exact ⟨by first | rfl | (simp [errW_none, errW_some] <;> rfl) | (simp [*, errW_none, errW_some] <;> rfl), by repeat (first | (with_reducible first | exact HB.1 | apply below_alloc | apply pw_below_drewN | apply below_drew1) | exact HB.1)⟩
 ·
  rw [if_neg c2] at H; have c2b0 : decide (1048576 < (l0.length : Int)) = false := decide_eq_false c2; have c2b1 : decide (1048576 < l0.length) = false := decide_eq_false (by omega); clear c2
  replace H := Option.bind_eq_some_iff.mp H
  obtain ⟨⟨g3, g4, g2⟩, A30, H⟩ := H
  replace H : ((impl_ClockUrgent.f k g3 g4 g2).bind fun g6 => ((spec_ClockUrgent.f k g3 g4 g2).bind fun gA => (if g6 = gA then (if g6 < 0 then (if g6 = (-1) then ((impl_ClockOk.f k g3 g4 g2).bind fun gL => (some (!gL))) else (some false)) else ((impl_ClockLater.f k g3 g4 g2 g6).bind fun gJ => ((impl_ClockLater.f k g3 g4 g2 (wrap64 (g6 + 1))).bind fun gB => (if gJ.2.2.2 = true then (some (!gB.2.2.2)) else (some false))))) else (some false)))) = some r := H
  have A3 := am A30
  clear A30
  replace H := Option.bind_eq_some_iff.mp H
  obtain ⟨g6, A40, H⟩ := H
  replace H : ((spec_ClockUrgent.f k g3 g4 g2).bind fun gA => (if g6 = gA then (if g6 < 0 then (if g6 = (-1) then ((impl_ClockOk.f k g3 g4 g2).bind fun gL => (some (!gL))) else (some false)) else ((impl_ClockLater.f k g3 g4 g2 g6).bind fun gJ => ((impl_ClockLater.f k g3 g4 g2 (wrap64 (g6 + 1))).bind fun gB => (if gJ.2.2.2 = true then (some (!gB.2.2.2)) else (some false))))) else (some false))) = some r := H
  have A4 := am A40
  clear A40
  replace H := Option.bind_eq_some_iff.mp H
  obtain ⟨gA, A50, H⟩ := H
  replace H : (if g6 = gA then (if g6 < 0 then (if g6 = (-1) then ((impl_ClockOk.f k g3 g4 g2).bind fun gL => (some (!gL))) else (some false)) else ((impl_ClockLater.f k g3 g4 g2 g6).bind fun gJ => ((impl_ClockLater.f k g3 g4 g2 (wrap64 (g6 + 1))).bind fun gB => (if gJ.2.2.2 = true then (some (!gB.2.2.2)) else (some false))))) else (some false)) = some r := H
  have A5 := am A50
  clear A50
  by_cases c6 : g6 = gA
  ·
   rw [if_pos c6] at H; have c6b0 : (g6 == gA) = true := beq_iff_eq.mpr c6; have c6b1 : (g6 != gA) = false := bne_eq_false_iff_eq.mpr c6; clear c6
   by_cases c7 : g6 < 0
   ·
    rw [if_pos c7] at H; have c7b0 : decide (g6 < 0) = true := decide_eq_true c7; clear c7
    by_cases c8 : g6 = (-1)
    ·
     rw [if_pos c8] at H; have c8b0 : (g6 == (-1)) = true := beq_iff_eq.mpr c8; have c8b1 : (g6 != (-1)) = false := bne_eq_false_iff_eq.mpr c8; clear c8
     replace H := Option.bind_eq_some_iff.mp H
     obtain ⟨gL, A90, H⟩ := H
     replace H : (some (!gL)) = some r := H
     have A9 := am A90
     clear A90
     obtain rfl := Option.some.inj H
     go_enter Try.func8, Try.ntmps8
     go_wp2_with (first | ((with_reducible refine gate_callee (f := 32) rfl ?_); refine gl (some 14) Try.func32 #[.slice A0 l0.length c0] ?_; (with_reducible refine (spec_DrawClockUrgent.calls k _ _ l0 g3 g4 g2 _ ?side1 ?side2 A3.1).mono ?_); (case side1 => exact cq HR0.1); (case side2 => exact HC0.1); rintro e w10 ⟨gW, rfl, ho0, hb⟩; refine ⟨_, rfl, ?_⟩; have g0 := nm HB ho0 (fun k_ => True) (fun k_ hk_ => trivial); replace HB := bs HB hb; clear hb ho0) | ((with_reducible refine gate_dst (N := 3) rfl ?_); refine bx (cs := #[.int .i64 0, .int .i64 0, .slice none 0 0]) (t := 25) fun g5 hg w11 hbox hb => ?_; replace g0 := nb g0 hg hb; have g1 := am (hbox); have gS := bz HB hg; have gC := bz HB hg; replace HB := bs HB hb; clear hb hbox hg; obtain ⟨hJ, hK, hL, hM, hN, hO⟩ := cs3 g1; obtain ⟨gX, gY, rfl⟩ := Kd.N_slice g0.1) | ((with_reducible refine gate_store (t := 25) (p := 3) rfl ?_); refine se (((w11.setCell ⟨g5, 0, none⟩ (.int .i64 g3)).setCell ⟨g5, 1, none⟩ (.int .i64 g4)).setCell ⟨g5, 2, none⟩ (.slice gX g2.length gY)) fun w14 hw => ?_; replace g0 := nh g0 hw; replace g1 := kp g1 hw #[.int .i64 g3, .int .i64 g4, .slice gX g2.length gY]; replace HB := bh HB hw; clear hw; obtain ⟨hP, hQ, hR, hS, hT, hU⟩ := cs3 g1) | ((with_reducible refine gate_callee (f := 16) rfl ?_); refine gl (some 16) Try.func16 #[.agg #[.int .i64 g3, .int .i64 g4, .slice gX g2.length gY]] ?_; (with_reducible refine (impl_ClockUrgent.calls k g3 g4 (fun k_ => k_ ≠ g5) _ _ g2 g6 _ ?side1 A4.1).mono ?_); (case side1 => exact Kd.N_V (nf g0).1); rintro e w16 ⟨rfl, hb⟩; refine ⟨_, rfl, ?_⟩; replace g0 := nw g0 hb; replace g1 := kb g1 hb; replace HB := bs HB hb; clear hb; obtain ⟨hV, hW, hX, hY, hZ, i0⟩ := cs3 g1) | ((with_reducible refine gate_callee (f := 18) rfl ?_); refine gl (some 18) Try.func18 #[.agg #[.int .i64 g3, .int .i64 g4, .slice gX g2.length gY]] ?_; (with_reducible refine (spec_ClockUrgent.calls k g3 g4 (fun k_ => k_ ≠ g5) _ _ g2 gA _ ?side1 A5.1).mono ?_); (case side1 => exact Kd.N_V (nf g0).1); rintro e w18 ⟨rfl, hb⟩; refine ⟨_, rfl, ?_⟩; replace g0 := nw g0 hb; replace g1 := kb g1 hb; replace HB := bs HB hb; clear hb; obtain ⟨i1, i2, i3, i4, i5, i6⟩ := cs3 g1) | (go_at_call 13; (with_reducible refine (impl_ClockOk.calls k g3 g4 _ _ g2 gL _ ?side1 ?side2 A9.1).mono ?_); (case side1 => exact cq (Kd.N_reads' g0.1).2.2); (case side2 => exact (Kd.N_reads' g0.1).2.1); rintro e w20 ⟨rfl, hb⟩; have n0_ := nw g0 hb; have n1_ := kb g1 hb; have n2_ := bs HB hb; clear g0 g1 HB; have g0 := n0_; have g1 := n1_; have HB := n2_; clear n0_ n1_ n2_ hb))
     go_ret
     exact ⟨by first | rfl | (simp [errW_none, errW_some] <;> rfl) | (simp [*, errW_none, errW_some] <;> rfl), by repeat (first | (with_reducible first | exact HB.1 | apply below_alloc | apply pw_below_drewN | apply below_drew1 | refine below_set ?_ gC.1) | exact HB.1)⟩
    ·
     rw [if_neg c8] at H; have c8b0 : (g6 == (-1)) = false := beq_eq_false_iff_ne.mpr c8; have c8b1 : (g6 != (-1)) = true := bne_iff_ne.mpr c8
     obtain rfl := Option.some.inj H
     go_enter Try.func8, Try.ntmps8
     go_wp2_with (first | ((with_reducible refine gate_callee (f := 32) rfl ?_); refine gl (some 14) Try.func32 #[.slice A0 l0.length c0] ?_; (with_reducible refine (spec_DrawClockUrgent.calls k _ _ l0 g3 g4 g2 _ ?side1 ?side2 A3.1).mono ?_); (case side1 => exact cq HR0.1); (case side2 => exact HC0.1); rintro e w21 ⟨gW, rfl, ho0, hb⟩; refine ⟨_, rfl, ?_⟩; have g0 := nm HB ho0 (fun k_ => True) (fun k_ hk_ => trivial); replace HB := bs HB hb; clear hb ho0) | ((with_reducible refine gate_dst (N := 3) rfl ?_); refine bx (cs := #[.int .i64 0, .int .i64 0, .slice none 0 0]) (t := 25) fun g5 hg w22 hbox hb => ?_; replace g0 := nb g0 hg hb; have g1 := am (hbox); have gS := bz HB hg; have gC := bz HB hg; replace HB := bs HB hb; clear hb hbox hg; obtain ⟨i7, i8, i9, iA, iB, iC⟩ := cs3 g1; obtain ⟨gZ, h0, rfl⟩ := Kd.N_slice g0.1) | ((with_reducible refine gate_store (t := 25) (p := 3) rfl ?_); refine se (((w22.setCell ⟨g5, 0, none⟩ (.int .i64 g3)).setCell ⟨g5, 1, none⟩ (.int .i64 g4)).setCell ⟨g5, 2, none⟩ (.slice gZ g2.length h0)) fun w25 hw => ?_; replace g0 := nh g0 hw; replace g1 := kp g1 hw #[.int .i64 g3, .int .i64 g4, .slice gZ g2.length h0]; replace HB := bh HB hw; clear hw; obtain ⟨iD, iE, iF, iG, iH, iI⟩ := cs3 g1) | ((with_reducible refine gate_callee (f := 16) rfl ?_); refine gl (some 16) Try.func16 #[.agg #[.int .i64 g3, .int .i64 g4, .slice gZ g2.length h0]] ?_; (with_reducible refine (impl_ClockUrgent.calls k g3 g4 (fun k_ => k_ ≠ g5) _ _ g2 g6 _ ?side1 A4.1).mono ?_); (case side1 => exact Kd.N_V (nf g0).1); rintro e w27 ⟨rfl, hb⟩; refine ⟨_, rfl, ?_⟩; replace g0 := nw g0 hb; replace g1 := kb g1 hb; replace HB := bs HB hb; clear hb; obtain ⟨iJ, iK, iL, iM, iN, iO⟩ := cs3 g1) | ((with_reducible refine gate_callee (f := 18) rfl ?_); refine gl (some 18) Try.func18 #[.agg #[.int .i64 g3, .int .i64 g4, .slice gZ g2.length h0]] ?_; (with_reducible refine (spec_ClockUrgent.calls k g3 g4 (fun k_ => k_ ≠ g5) _ _ g2 gA _ ?side1 A5.1).mono ?_); (case side1 => exact Kd.N_V (nf g0).1); rintro e w29 ⟨rfl, hb⟩; refine ⟨_, rfl, ?_⟩; replace g0 := nw g0 hb; replace g1 := kb g1 hb; replace HB := bs HB hb; clear hb))
     go_ret
     exact ⟨by first | rfl | (simp [errW_none, errW_some] <;> rfl) | (simp [*, errW_none, errW_some] <;> rfl), by repeat (first | (with_reducible first | exact HB.1 | apply below_alloc | apply pw_below_drewN | apply below_drew1 | refine below_set ?_ gC.1) | exact HB.1)⟩
   ·
    rw [if_neg c7] at H; have c7b0 : decide (g6 < 0) = false := decide_eq_false c7; clear c7
    replace H := Option.bind_eq_some_iff.mp H
    obtain ⟨⟨h1, h2, gO, h6⟩, hB, H⟩ := H
    replace H : ((impl_ClockLater.f k g3 g4 g2 (wrap64 (g6 + 1))).bind fun gB => (if h6 = true then (some (!gB.2.2.2)) else (some false))) = some r := H
    have A30 := am hB
    clear hB
    replace H := Option.bind_eq_some_iff.mp H
    obtain ⟨⟨hC, hD, hE, h3⟩, hF, H⟩ := H
    replace H : (if h6 = true then (some (!h3)) else (some false)) = some r := H
    have A31 := am hF
    clear hF
    by_cases c32 : h6 = true
    ·
     subst c32
     have H1 : (some (!h3)) = some r := by rw [if_pos rfl] at H; exact H
     clear H
     have H := H1
     clear H1
     obtain rfl := Option.some.inj H
     go_enter Try.func8, Try.ntmps8
     go_wp2_with (first | ((with_reducible refine gate_callee (f := 32) rfl ?_); refine gl (some 14) Try.func32 #[.slice A0 l0.length c0] ?_; (with_reducible refine (spec_DrawClockUrgent.calls k _ _ l0 g3 g4 g2 _ ?side1 ?side2 A3.1).mono ?_); (case side1 => exact cq HR0.1); (case side2 => exact HC0.1); rintro e w33 ⟨gW, rfl, ho0, hb⟩; refine ⟨_, rfl, ?_⟩; have g0 := nm HB ho0 (fun k_ => True) (fun k_ hk_ => trivial); replace HB := bs HB hb; clear hb ho0) | ((with_reducible refine gate_dst (N := 3) rfl ?_); refine bx (cs := #[.int .i64 0, .int .i64 0, .slice none 0 0]) (t := 25) fun g5 hg w34 hbox hb => ?_; replace g0 := nb g0 hg hb; have g1 := am (hbox); have gS := bz HB hg; have gC := bz HB hg; replace HB := bs HB hb; clear hb hbox hg; obtain ⟨iP, iQ, iR, iS, iT, iU⟩ := cs3 g1; obtain ⟨gP, gM, rfl⟩ := Kd.N_slice g0.1) | ((with_reducible refine gate_store (t := 25) (p := 3) rfl ?_); refine se (((w34.setCell ⟨g5, 0, none⟩ (.int .i64 g3)).setCell ⟨g5, 1, none⟩ (.int .i64 g4)).setCell ⟨g5, 2, none⟩ (.slice gP g2.length gM)) fun w37 hw => ?_; replace g0 := nh g0 hw; replace g1 := kp g1 hw #[.int .i64 g3, .int .i64 g4, .slice gP g2.length gM]; replace HB := bh HB hw; clear hw; obtain ⟨iV, iW, iX, iY, iZ, j3⟩ := cs3 g1) | ((with_reducible refine gate_callee (f := 16) rfl ?_); refine gl (some 16) Try.func16 #[.agg #[.int .i64 g3, .int .i64 g4, .slice gP g2.length gM]] ?_; (with_reducible refine (impl_ClockUrgent.calls k g3 g4 (fun k_ => k_ ≠ g5) _ _ g2 g6 _ ?side1 A4.1).mono ?_); (case side1 => exact Kd.N_V (nf g0).1); rintro e w39 ⟨rfl, hb⟩; refine ⟨_, rfl, ?_⟩; replace g0 := nw g0 hb; replace g1 := kb g1 hb; replace HB := bs HB hb; clear hb; obtain ⟨j4, j5, j6, j7, j8, j9⟩ := cs3 g1) | ((with_reducible refine gate_callee (f := 18) rfl ?_); refine gl (some 18) Try.func18 #[.agg #[.int .i64 g3, .int .i64 g4, .slice gP g2.length gM]] ?_; (with_reducible refine (spec_ClockUrgent.calls k g3 g4 (fun k_ => k_ ≠ g5) _ _ g2 gA _ ?side1 A5.1).mono ?_); (case side1 => exact Kd.N_V (nf g0).1); rintro e w41 ⟨rfl, hb⟩; refine ⟨_, rfl, ?_⟩; replace g0 := nw g0 hb; replace g1 := kb g1 hb; replace HB := bs HB hb; clear hb; obtain ⟨jA, jB, jC, jD, jE, jF⟩ := cs3 g1) | ((with_reducible refine gate_callee (f := 33) rfl ?_); refine gl (some 34) Try.func33 #[.agg #[.int .i64 g3, .int .i64 g4, .slice gP g2.length gM], .int .i64 g6] ?_; (with_reducible refine (impl_ClockLater.calls k g3 g4 _ _ g2 g6 h1 h2 gO true _ ?side1 ?side2 A30.1).mono ?_); (case side1 => exact cq (Kd.N_reads' g0.1).2.2); (case side2 => exact (Kd.N_reads' g0.1).2.1); rintro e w43 ⟨lQ, rfl, ho0, hb⟩; refine ⟨_, rfl, ?_⟩; have g7 := nm HB ho0 (fun k_ => some k_ ≠ (.slice gP g2.length gM : Value).ownBlock ∧ k_ ≠ g5) (fun k_ hk_ => ⟨(fr g0 k_ hk_), (fb g1 k_ hk_)⟩); replace g0 := ne g0 hb; replace g1 := kb g1 hb; replace HB := bs HB hb; clear hb ho0) | ((with_reducible refine gate_dst (N := 6) rfl ?_); refine bx (cs := #[.int .i64 0, .int .i64 0, .slice none 0 0]) (t := 25) fun gQ hg w44 hbox hb => ?_; replace g0 := nb g0 hg hb; replace g7 := nb g7 hg hb; have g8 := am (hbox); have hG := bz HB hg; have gT := bz HB hg; replace HB := bs HB hb; have gD := nl g1 hg; have gE := ng g1 hg; replace g1 := kb g1 hb; clear hb hbox hg; have lS := gE.1; have lT := gD.1; obtain ⟨jG, jH, jI, jJ, jK, jL⟩ := cs3 g8; obtain ⟨h7, h8, rfl⟩ := Kd.N_slice g7.1; obtain ⟨jM, jN, jO, jP, jQ, jR⟩ := cs3 g1) | ((with_reducible refine gate_callee (f := 33) rfl ?_); refine gl (some 41) Try.func33 #[.agg #[.int .i64 g3, .int .i64 g4, .slice gP g2.length gM], .int .i64 (wrap64 (g6 + 1))] ?_; (with_reducible refine (impl_ClockLater.calls k g3 g4 _ _ g2 (wrap64 (g6 + 1)) hC hD hE h3 _ ?side1 ?side2 A31.1).mono ?_); (case side1 => refine (Kd.N_reads' (e := 25) (base := w.heap.size) (ok := fun k_ => ((k_ ≠ g5 ∧ some k_ ≠ (.slice h7 gO.length h8 : Value).ownBlock) ∧ k_ ≠ gQ)) (n := g2.length) (c := gM) ?_).2.2; exact (nf g0).1); (case side2 => exact (Kd.N_reads' g0.1).2.1); rintro e w49 ⟨lR, rfl, ho0, hb⟩; refine ⟨_, rfl, ?_⟩; have gK := nm HB ho0 (fun k_ => some k_ ≠ (.slice gP g2.length gM : Value).ownBlock ∧ some k_ ≠ (.slice h7 gO.length h8 : Value).ownBlock ∧ k_ ≠ g5 ∧ k_ ≠ gQ) (fun k_ hk_ => ⟨(fr g0 k_ hk_), (fr g7 k_ hk_), (fb g1 k_ hk_), (fb g8 k_ hk_)⟩); replace g0 := ne g0 hb; replace g7 := ne g7 hb; replace g1 := kb g1 hb; replace g8 := kc g8 hb #[.int .i64 h1, .int .i64 h2, .slice h7 gO.length h8]; replace HB := bs HB hb; clear hb ho0) | ((with_reducible refine gate_dst (N := 8) rfl ?_); refine bx (cs := #[.int .i64 0, .int .i64 0, .slice none 0 0]) (t := 25) fun hH hg w50 hbox hb => ?_; replace g0 := nb g0 hg hb; replace g7 := nb g7 hg hb; replace gK := nb gK hg hb; have gU := am (hbox); have hI := bz HB hg; have gV := bz HB hg; replace HB := bs HB hb; have gF := nl g1 hg; have gG := ng g1 hg; replace g1 := kb g1 hb; have gH := nl g8 hg; have gI := ng g8 hg; replace g8 := kb g8 hb; clear hb hbox hg; have lU := gG.1; have lV := gF.1; have lW := gI.1; have lX := gH.1; obtain ⟨jS, jT, jU, jV, jW, jX⟩ := cs3 gU; obtain ⟨m5, m6, rfl⟩ := Kd.N_slice gK.1))
     go_ret
     exact ⟨by first | rfl | (simp [errW_none, errW_some] <;> rfl) | (simp [*, errW_none, errW_some] <;> rfl), by repeat (first | (with_reducible first | exact HB.1 | apply below_alloc | apply pw_below_drewN | apply below_drew1 | refine below_set ?_ gC.1 | refine below_set ?_ gT.1 | refine below_set ?_ gV.1) | exact HB.1)⟩
    ·
     replace c32 := Bool.eq_false_iff.mpr c32
     subst c32
     have H1 : (some false) = some r := by rw [if_neg (show ¬ (false = true) by decide)] at H; exact H
     clear H
     have H := H1
     clear H1
     obtain rfl := Option.some.inj H
     go_enter Try.func8, Try.ntmps8
     go_wp2_with (first | ((with_reducible refine gate_callee (f := 32) rfl ?_); refine gl (some 14) Try.func32 #[.slice A0 l0.length c0] ?_; (with_reducible refine (spec_DrawClockUrgent.calls k _ _ l0 g3 g4 g2 _ ?side1 ?side2 A3.1).mono ?_); (case side1 => exact cq HR0.1); (case side2 => exact HC0.1); rintro e w55 ⟨gW, rfl, ho0, hb⟩; refine ⟨_, rfl, ?_⟩; have g0 := nm HB ho0 (fun k_ => True) (fun k_ hk_ => trivial); replace HB := bs HB hb; clear hb ho0) | ((with_reducible refine gate_dst (N := 3) rfl ?_); refine bx (cs := #[.int .i64 0, .int .i64 0, .slice none 0 0]) (t := 25) fun g5 hg w56 hbox hb => ?_; replace g0 := nb g0 hg hb; have g1 := am (hbox); have gS := bz HB hg; have gC := bz HB hg; replace HB := bs HB hb; clear hb hbox hg; obtain ⟨jY, jZ, k0, k1, k2, k3⟩ := cs3 g1; obtain ⟨gR, gN, rfl⟩ := Kd.N_slice g0.1) | ((with_reducible refine gate_store (t := 25) (p := 3) rfl ?_); refine se (((w56.setCell ⟨g5, 0, none⟩ (.int .i64 g3)).setCell ⟨g5, 1, none⟩ (.int .i64 g4)).setCell ⟨g5, 2, none⟩ (.slice gR g2.length gN)) fun w59 hw => ?_; replace g0 := nh g0 hw; replace g1 := kp g1 hw #[.int .i64 g3, .int .i64 g4, .slice gR g2.length gN]; replace HB := bh HB hw; clear hw; obtain ⟨k4, k5, k6, k7, k8, k9⟩ := cs3 g1) | ((with_reducible refine gate_callee (f := 16) rfl ?_); refine gl (some 16) Try.func16 #[.agg #[.int .i64 g3, .int .i64 g4, .slice gR g2.length gN]] ?_; (with_reducible refine (impl_ClockUrgent.calls k g3 g4 (fun k_ => k_ ≠ g5) _ _ g2 g6 _ ?side1 A4.1).mono ?_); (case side1 => exact Kd.N_V (nf g0).1); rintro e w61 ⟨rfl, hb⟩; refine ⟨_, rfl, ?_⟩; replace g0 := nw g0 hb; replace g1 := kb g1 hb; replace HB := bs HB hb; clear hb; obtain ⟨kA, kB, kC, kD, kE, kF⟩ := cs3 g1) | ((with_reducible refine gate_callee (f := 18) rfl ?_); refine gl (some 18) Try.func18 #[.agg #[.int .i64 g3, .int .i64 g4, .slice gR g2.length gN]] ?_; (with_reducible refine (spec_ClockUrgent.calls k g3 g4 (fun k_ => k_ ≠ g5) _ _ g2 gA _ ?side1 A5.1).mono ?_); (case side1 => exact Kd.N_V (nf g0).1); rintro e w63 ⟨rfl, hb⟩; refine ⟨_, rfl, ?_⟩; replace g0 := nw g0 hb; replace g1 := kb g1 hb; replace HB := bs HB hb; clear hb; obtain ⟨kG, kH, kI, kJ, kK, kL⟩ := cs3 g1) | ((with_reducible refine gate_callee (f := 33) rfl ?_); refine gl (some 34) Try.func33 #[.agg #[.int .i64 g3, .int .i64 g4, .slice gR g2.length gN], .int .i64 g6] ?_; (with_reducible refine (impl_ClockLater.calls k g3 g4 _ _ g2 g6 h1 h2 gO false _ ?side1 ?side2 A30.1).mono ?_); (case side1 => exact cq (Kd.N_reads' g0.1).2.2); (case side2 => exact (Kd.N_reads' g0.1).2.1); rintro e w65 ⟨lQ, rfl, ho0, hb⟩; refine ⟨_, rfl, ?_⟩; have g7 := nm HB ho0 (fun k_ => some k_ ≠ (.slice gR g2.length gN : Value).ownBlock ∧ k_ ≠ g5) (fun k_ hk_ => ⟨(fr g0 k_ hk_), (fb g1 k_ hk_)⟩); replace g0 := ne g0 hb; replace g1 := kb g1 hb; replace HB := bs HB hb; clear hb ho0) | ((with_reducible refine gate_dst (N := 6) rfl ?_); refine bx (cs := #[.int .i64 0, .int .i64 0, .slice none 0 0]) (t := 25) fun gQ hg w66 hbox hb => ?_; replace g0 := nb g0 hg hb; replace g7 := nb g7 hg hb; have g8 := am (hbox); have hG := bz HB hg; have gT := bz HB hg; replace HB := bs HB hb; have gD := nl g1 hg; have gE := ng g1 hg; replace g1 := kb g1 hb; clear hb hbox hg; have lY := gE.1; have lZ := gD.1; obtain ⟨kM, kN, kO, kP, kQ, kR⟩ := cs3 g8; obtain ⟨h9, hA, rfl⟩ := Kd.N_slice g7.1; obtain ⟨kS, kT, kU, kV, kW, kX⟩ := cs3 g1) | ((with_reducible refine gate_callee (f := 33) rfl ?_); refine gl (some 41) Try.func33 #[.agg #[.int .i64 g3, .int .i64 g4, .slice gR g2.length gN], .int .i64 (wrap64 (g6 + 1))] ?_; (with_reducible refine (impl_ClockLater.calls k g3 g4 _ _ g2 (wrap64 (g6 + 1)) hC hD hE h3 _ ?side1 ?side2 A31.1).mono ?_); (case side1 => refine (Kd.N_reads' (e := 25) (base := w.heap.size) (ok := fun k_ => ((k_ ≠ g5 ∧ some k_ ≠ (.slice h9 gO.length hA : Value).ownBlock) ∧ k_ ≠ gQ)) (n := g2.length) (c := gN) ?_).2.2; exact (nf g0).1); (case side2 => exact (Kd.N_reads' g0.1).2.1); rintro e w71 ⟨lR, rfl, ho0, hb⟩; refine ⟨_, rfl, ?_⟩; have gK := nm HB ho0 (fun k_ => some k_ ≠ (.slice gR g2.length gN : Value).ownBlock ∧ some k_ ≠ (.slice h9 gO.length hA : Value).ownBlock ∧ k_ ≠ g5 ∧ k_ ≠ gQ) (fun k_ hk_ => ⟨(fr g0 k_ hk_), (fr g7 k_ hk_), (fb g1 k_ hk_), (fb g8 k_ hk_)⟩); replace g0 := ne g0 hb; replace g7 := ne g7 hb; replace g1 := kb g1 hb; replace g8 := kc g8 hb #[.int .i64 h1, .int .i64 h2, .slice h9 gO.length hA]; replace HB := bs HB hb; clear hb ho0) | ((with_reducible refine gate_dst (N := 8) rfl ?_); refine bx (cs := #[.int .i64 0, .int .i64 0, .slice none 0 0]) (t := 25) fun hH hg w72 hbox hb => ?_; replace g0 := nb g0 hg hb; replace g7 := nb g7 hg hb; replace gK := nb gK hg hb; have gU := am (hbox); have hI := bz HB hg; have gV := bz HB hg; replace HB := bs HB hb; have gF := nl g1 hg; have gG := ng g1 hg; replace g1 := kb g1 hb; have gH := nl g8 hg; have gI := ng g8 hg; replace g8 := kb g8 hb; clear hb hbox hg; have m0 := gG.1; have m1 := gF.1; have m2 := gI.1; have m3 := gH.1; obtain ⟨kY, kZ, l4, l5, l6, l7⟩ := cs3 gU; obtain ⟨m7, m8, rfl⟩ := Kd.N_slice gK.1))
     go_ret
     exact ⟨by first | rfl | (simp [errW_none, errW_some] <;> rfl) | (simp [*, errW_none, errW_some] <;> rfl), by repeat (first | (with_reducible first | exact HB.1 | apply below_alloc | apply pw_below_drewN | apply below_drew1 | refine below_set ?_ gC.1 | refine below_set ?_ gT.1 | refine below_set ?_ gV.1) | exact HB.1)⟩
  ·
   rw [if_neg c6] at H; have c6b0 : (g6 == gA) = false := beq_eq_false_iff_ne.mpr c6; have c6b1 : (g6 != gA) = true := bne_iff_ne.mpr c6
   obtain rfl := Option.some.inj H
   go_enter Try.func8, Try.ntmps8
   go_wp2_with (first | ((with_reducible refine gate_callee (f := 32) rfl ?_); refine gl (some 14) Try.func32 #[.slice A0 l0.length c0] ?_; (with_reducible refine (spec_DrawClockUrgent.calls k _ _ l0 g3 g4 g2 _ ?side1 ?side2 A3.1).mono ?_); (case side1 => exact cq HR0.1); (case side2 => exact HC0.1); rintro e w77 ⟨gW, rfl, ho0, hb⟩; refine ⟨_, rfl, ?_⟩; have g0 := nm HB ho0 (fun k_ => True) (fun k_ hk_ => trivial); replace HB := bs HB hb; clear hb ho0) | ((with_reducible refine gate_dst (N := 3) rfl ?_); refine bx (cs := #[.int .i64 0, .int .i64 0, .slice none 0 0]) (t := 25) fun g5 hg w78 hbox hb => ?_; replace g0 := nb g0 hg hb; have g1 := am (hbox); have gS := bz HB hg; have gC := bz HB hg; replace HB := bs HB hb; clear hb hbox hg; obtain ⟨l8, l9, lA, lB, lC, lD⟩ := cs3 g1; obtain ⟨h4, h5, rfl⟩ := Kd.N_slice g0.1) | ((with_reducible refine gate_store (t := 25) (p := 3) rfl ?_); refine se (((w78.setCell ⟨g5, 0, none⟩ (.int .i64 g3)).setCell ⟨g5, 1, none⟩ (.int .i64 g4)).setCell ⟨g5, 2, none⟩ (.slice h4 g2.length h5)) fun w81 hw => ?_; replace g0 := nh g0 hw; replace g1 := kp g1 hw #[.int .i64 g3, .int .i64 g4, .slice h4 g2.length h5]; replace HB := bh HB hw; clear hw; obtain ⟨lE, lF, lG, lH, lI, lJ⟩ := cs3 g1) | ((with_reducible refine gate_callee (f := 16) rfl ?_); refine gl (some 16) Try.func16 #[.agg #[.int .i64 g3, .int .i64 g4, .slice h4 g2.length h5]] ?_; (with_reducible refine (impl_ClockUrgent.calls k g3 g4 (fun k_ => k_ ≠ g5) _ _ g2 g6 _ ?side1 A4.1).mono ?_); (case side1 => exact Kd.N_V (nf g0).1); rintro e w83 ⟨rfl, hb⟩; refine ⟨_, rfl, ?_⟩; replace g0 := nw g0 hb; replace g1 := kb g1 hb; replace HB := bs HB hb; clear hb; obtain ⟨lK, lL, lM, lN, lO, lP⟩ := cs3 g1) | ((with_reducible refine gate_callee (f := 18) rfl ?_); refine gl (some 18) Try.func18 #[.agg #[.int .i64 g3, .int .i64 g4, .slice h4 g2.length h5]] ?_; (with_reducible refine (spec_ClockUrgent.calls k g3 g4 (fun k_ => k_ ≠ g5) _ _ g2 gA _ ?side1 A5.1).mono ?_); (case side1 => exact Kd.N_V (nf g0).1); rintro e w85 ⟨rfl, hb⟩; refine ⟨_, rfl, ?_⟩; replace g0 := nw g0 hb; replace g1 := kb g1 hb; replace HB := bs HB hb; clear hb))
   go_ret
   exact ⟨by first | rfl | (simp [errW_none, errW_some] <;> rfl) | (simp [*, errW_none, errW_some] <;> rfl), by repeat (first | (with_reducible first | exact HB.1 | apply below_alloc | apply pw_below_drewN | apply below_drew1 | refine below_set ?_ gC.1) | exact HB.1)⟩

/-- THE ONE PURE STATEMENT of laws_FnClockUrgent: yours. -/
def laws_FnClockUrgent.Pure : Prop := ∀ (l0 : List Int), l0.length ≤ maxLen → l0.length * 1 ≤ 140737488351232 → (∀ x ∈ l0, (Lit.int .u8 x).wf = true) → ∃ k, laws_FnClockUrgent.f k l0 = some true
theorem laws_FnClockUrgent.walk (P : laws_FnClockUrgent.Pure) (a0 : Option Addr) (len0 cap0 : Nat) (z0 : List Int) (w : World) (w0 : (a0 = none ∧ len0 = 0 ∧ cap0 = 0 ∧ z0 = []) ∨ ∃ x, a0 = some x ∧ len0 ≤ cap0 ∧ cap0 ≤ maxLen ∧ z0.length = cap0 ∧ (∀ i, i < z0.length → w.cell? (x.add i) = some (.int .u8 (z0.getD i 0))) ∧ ∀ n ∈ z0, (Lit.int .u8 n).wf = true) (y0 : len0 * 1 ≤ 140737488351232) :
  Calls Try.prog 8 #[.slice a0 len0 cap0] w fun e w' => e = .returned (.bool true) ∧ Below w.heap.size w w' := by
 obtain ⟨l0, rfl, hr0, hm0, hw0, hc0⟩ := ReadsInt.ofRowC w0
 obtain ⟨k, h⟩ := P l0 hm0 y0 hw0
 refine (laws_FnClockUrgent.calls k _ _ l0 true w (Kd.C_of_reads (d := (0 : Int)) (h1 := fun _ => rfl) hr0) hc0 h).mono ?_
 rintro e w' ⟨rfl, hd⟩
 exact ⟨rfl, hd⟩
end Go.Proofs.Ytfnmjecofgeboaa.PAll
