-- Laid by a program of this session out of the translation's print
import Derived.Test.YtfnmjecofgeboaaPAll0
import Derived.Test.YtfnmjecofgeboaaPAllAb
import Derived.Test.YtfnmjecofgeboaaPAllTo
import Derived.Test.YtfnmjecofgeboaaPAllIPass
import Derived.Test.YtfnmjecofgeboaaPAllSPass
namespace Go.Proofs.Ytfnmjecofgeboaa.PAll
open Go.RowKit Go.Proofs.YtfnmjecofgeboaaW.PrintWords Go.Proofs.YtfnmjecofgeboaaW.PrintLast Go.Proofs.YtfnmjecofgeboaaW.PrintMore
attribute [local go_sem] max2_int min2_int max_two min_two max_three min_three max_four min_four   -- for this text's walks alone
set_option linter.unusedVariables false
set_option linter.unusedSimpArgs false

/-! ### laws_FnExactClockUrgent: function 4 -/
def laws_FnExactClockUrgent.f (k : Nat) (a0_0 : Int) (a0_1 : Int) (l0_2 : List (S35)) : Option (Bool) := (laws_szClock.f k a0_0 a0_1 l0_2 1048576).bind fun t429 => (if t429 < 0 then (some true) else ((laws_toClock.f k a0_0 a0_1 l0_2).bind fun bt430 => ((spec_ClockUrgent.f k bt430.1 bt430.2.1 bt430.2.2).bind fun t435 => ((laws_toClock.f k a0_0 a0_1 l0_2).bind fun bt436 => ((impl_ClockUrgent.f k bt436.1 bt436.2.1 bt436.2.2).bind fun t442 => (if t442 = t435 then ((laws_toClock.f k a0_0 a0_1 l0_2).bind fun bt443 => ((laws_eqClock.f k bt436.1 bt436.2.1 bt436.2.2 bt443.1 bt443.2.1 bt443.2.2).bind fun t448 => (if t448 = true then (some true) else (some false)))) else (some false)))))))
theorem laws_FnExactClockUrgent.mono : ∀ a0 a1 a2 k, LeO (laws_FnExactClockUrgent.f k a0 a1 a2) (laws_FnExactClockUrgent.f (k + 1) a0 a1 a2) := by
 intro a0 a1 a2 k
 unfold laws_FnExactClockUrgent.f
 repeat' first
   | (with_reducible exact impl_ClockUrgent.mono _ _ _ _)
   | (with_reducible exact laws_eqClock.mono _ _ _ _ _ _ _)
   | (with_reducible exact laws_szClock.mono _ _ _ _ _)
   | (with_reducible exact laws_toClock.mono _ _ _ _)
   | (with_reducible exact spec_ClockUrgent.mono _ _ _ _)
   | (with_reducible exact LeO.refl _)
   | (with_reducible exact LeO.none _)
   | (with_reducible refine LeO.ite ?_ ?_)
   | (with_reducible refine LeO.bind ?_ (fun _ => ?_))
   | exact impl_ClockUrgent.mono _ _ _ _
   | exact laws_eqClock.mono _ _ _ _ _ _ _
   | exact laws_szClock.mono _ _ _ _ _
   | exact laws_toClock.mono _ _ _ _
   | exact spec_ClockUrgent.mono _ _ _ _
   | exact LeO.none _
   | refine LeO.ite ?_ ?_
   | refine LeO.bind ?_ (fun _ => ?_)
set_option maxHeartbeats 8000000 in
set_option maxRecDepth 100000 in
theorem laws_FnExactClockUrgent.calls (k : Nat) (g7 : Int) (g8 : Int) (gH : Option Addr) (gI : Nat) (g5 : List (S35)) (r : Bool) (hr1 : Aside0 (r = true)) (w : World) (h1 : Kd.C k35 w gH g5.length g5) (h2 : g5.length ≤ gI) (h : laws_FnExactClockUrgent.f k g7 g8 g5 = some r) :
  Calls Try.prog 4 #[.agg #[.int .i64 g7, .int .i64 g8, .slice gH g5.length gI]] w fun e w' => e = .returned (.bool r) ∧ Below w.heap.size w w' := by
 have iF := Try.underlying35
 have iG := Try.underlying25
 have gM := am h1; have gN := am h2; clear h1 h2; have HB := am (Below.refl w.heap.size w)
 have H : ((laws_szClock.f k g7 g8 g5 1048576).bind fun gO => (if gO < 0 then (some true) else ((laws_toClock.f k g7 g8 g5).bind fun gG => ((spec_ClockUrgent.f k gG.1 gG.2.1 gG.2.2).bind fun gD => ((laws_toClock.f k g7 g8 g5).bind fun g1 => ((impl_ClockUrgent.f k g1.1 g1.2.1 g1.2.2).bind fun gB => (if gB = gD then ((laws_toClock.f k g7 g8 g5).bind fun g2 => ((laws_eqClock.f k g1.1 g1.2.1 g1.2.2 g2.1 g2.2.1 g2.2.2).bind fun gC => (if gC = true then (some true) else (some false)))) else (some false)))))))) = some r := h
 clear h
 replace H := Option.bind_eq_some_iff.mp H
 obtain ⟨gO, A20, H⟩ := H
 replace H : (if gO < 0 then (some true) else ((laws_toClock.f k g7 g8 g5).bind fun gG => ((spec_ClockUrgent.f k gG.1 gG.2.1 gG.2.2).bind fun gD => ((laws_toClock.f k g7 g8 g5).bind fun g1 => ((impl_ClockUrgent.f k g1.1 g1.2.1 g1.2.2).bind fun gB => (if gB = gD then ((laws_toClock.f k g7 g8 g5).bind fun g2 => ((laws_eqClock.f k g1.1 g1.2.1 g1.2.2 g2.1 g2.2.1 g2.2.2).bind fun gC => (if gC = true then (some true) else (some false)))) else (some false))))))) = some r := H
 have A2 := am A20
 clear A20
 by_cases c3 : gO < 0
 ·
  rw [if_pos c3] at H; have c3b0 : decide (gO < 0) = true := decide_eq_true c3; clear c3
  obtain rfl := Option.some.inj H
  go_enter Try.func4, Try.ntmps4
  go_wp2_with (first | ((with_reducible refine gate_dst (N := 1) rfl ?_); refine bx (cs := #[.int .i64 g7, .int .i64 g8, .slice gH g5.length gI]) (t := 35) fun gL hg w4 hbox hb => ?_; have g0 := am (hbox); have h3 := bz HB hg; have gT := bz HB hg; replace HB := bs HB hb; clear hb hbox hg; obtain ⟨i4, i5, i6, i7, i8, i9⟩ := cs3 g0) | ((with_reducible refine gate_callee (f := 17) rfl ?_); refine gl (some 9) Try.func17 #[.agg #[.int .i64 g7, .int .i64 g8, .slice gH g5.length gI], .int .i64 1048576] ?_; (with_reducible refine (laws_szClock.calls k g7 g8 _ _ g5 1048576 gO _ ?side1 ?side2 A2.1).mono ?_); (case side1 => exact cq (Kd.C_below gM.1 HB.1)); (case side2 => exact gN.1); rintro e w6 ⟨rfl, hb⟩; refine ⟨_, rfl, ?_⟩; replace g0 := kb g0 hb; replace HB := bs HB hb; clear hb))
  go_ret
  exact ⟨by first | rfl | (simp [errW_none, errW_some] <;> rfl) | (simp [*, errW_none, errW_some] <;> rfl), by repeat (first | (with_reducible first | exact HB.1 | apply below_alloc | apply pw_below_drewN | apply below_drew1 | refine below_set ?_ gT.1) | exact HB.1)⟩
 ·
  rw [if_neg c3] at H; have c3b0 : decide (gO < 0) = false := decide_eq_false c3; clear c3
  replace H := Option.bind_eq_some_iff.mp H
  obtain ⟨⟨gU, gV, gP⟩, A70, H⟩ := H
  replace H : ((spec_ClockUrgent.f k gU gV gP).bind fun gD => ((laws_toClock.f k g7 g8 g5).bind fun g1 => ((impl_ClockUrgent.f k g1.1 g1.2.1 g1.2.2).bind fun gB => (if gB = gD then ((laws_toClock.f k g7 g8 g5).bind fun g2 => ((laws_eqClock.f k g1.1 g1.2.1 g1.2.2 g2.1 g2.2.1 g2.2.2).bind fun gC => (if gC = true then (some true) else (some false)))) else (some false))))) = some r := H
  have A7 := am A70
  clear A70
  replace H := Option.bind_eq_some_iff.mp H
  obtain ⟨gD, A80, H⟩ := H
  replace H : ((laws_toClock.f k g7 g8 g5).bind fun g1 => ((impl_ClockUrgent.f k g1.1 g1.2.1 g1.2.2).bind fun gB => (if gB = gD then ((laws_toClock.f k g7 g8 g5).bind fun g2 => ((laws_eqClock.f k g1.1 g1.2.1 g1.2.2 g2.1 g2.2.1 g2.2.2).bind fun gC => (if gC = true then (some true) else (some false)))) else (some false)))) = some r := H
  have A8 := am A80
  clear A80
  replace H := Option.bind_eq_some_iff.mp H
  obtain ⟨⟨gE, gF, gA⟩, A90, H⟩ := H
  replace H : ((impl_ClockUrgent.f k gE gF gA).bind fun gB => (if gB = gD then ((laws_toClock.f k g7 g8 g5).bind fun g2 => ((laws_eqClock.f k gE gF gA g2.1 g2.2.1 g2.2.2).bind fun gC => (if gC = true then (some true) else (some false)))) else (some false))) = some r := H
  have A9 := am A90
  clear A90
  replace H := Option.bind_eq_some_iff.mp H
  obtain ⟨gB, h4, H⟩ := H
  replace H : (if gB = gD then ((laws_toClock.f k g7 g8 g5).bind fun g2 => ((laws_eqClock.f k gE gF gA g2.1 g2.2.1 g2.2.2).bind fun gC => (if gC = true then (some true) else (some false)))) else (some false)) = some r := H
  have A10 := am h4
  clear h4
  by_cases c11 : gB = gD
  ·
   rw [if_pos c11] at H; have c11b0 : (gB == gD) = true := beq_iff_eq.mpr c11; have c11b1 : (gB != gD) = false := bne_eq_false_iff_eq.mpr c11; clear c11
   replace H := Option.bind_eq_some_iff.mp H
   obtain ⟨⟨gW, gX, gY⟩, h5, H⟩ := H
   replace H : ((laws_eqClock.f k gE gF gA gW gX gY).bind fun gC => (if gC = true then (some true) else (some false))) = some r := H
   have A12 := am h5
   clear h5
   replace H := Option.bind_eq_some_iff.mp H
   obtain ⟨gC, h6, H⟩ := H
   replace H : (if gC = true then (some true) else (some false)) = some r := H
   have A13 := am h6
   clear h6
   by_cases c14 : gC = true
   ·
    subst c14
    have H1 : (some true) = some r := by rw [if_pos rfl] at H; exact H
    clear H
    have H := H1
    clear H1
    obtain rfl := Option.some.inj H
    go_enter Try.func4, Try.ntmps4
    try go_wp2_with (first | ((with_reducible refine gate_dst (N := 1) rfl ?_); refine bx (cs := #[.int .i64 g7, .int .i64 g8, .slice gH g5.length gI]) (t := 35) fun gL hg w15 hbox hb => ?_; have g0 := am (hbox); have h3 := bz HB hg; have gT := bz HB hg; replace HB := bs HB hb; clear hb hbox hg; obtain ⟨h9, hA, hB, hC, hD, hE⟩ := cs3 g0) | ((with_reducible refine gate_callee (f := 17) rfl ?_); refine gl (some 9) Try.func17 #[.agg #[.int .i64 g7, .int .i64 g8, .slice gH g5.length gI], .int .i64 1048576] ?_; (with_reducible refine (laws_szClock.calls k g7 g8 _ _ g5 1048576 gO _ ?side1 ?side2 A2.1).mono ?_); (case side1 => exact cq (Kd.C_below gM.1 HB.1)); (case side2 => exact gN.1); rintro e w17 ⟨rfl, hb⟩; refine ⟨_, rfl, ?_⟩; replace g0 := kb g0 hb; replace HB := bs HB hb; clear hb; obtain ⟨hF, hG, hH, hI, hJ, hL⟩ := cs3 g0) | ((with_reducible refine gate_callee (f := 19) rfl ?_); refine gl (some 13) Try.func19 #[.agg #[.int .i64 g7, .int .i64 g8, .slice gH g5.length gI]] ?_; (with_reducible refine (laws_toClock.calls k g7 g8 _ _ g5 gU gV gP _ ?side1 ?side2 A7.1).mono ?_); (case side1 => exact cq (Kd.C_below gM.1 HB.1)); (case side2 => exact gN.1); rintro e w19 ⟨iH, rfl, ho0, hb⟩; refine ⟨_, rfl, ?_⟩; have g4 := am (Kd.R_lower ho0 (below_size bq)); replace g0 := kb g0 hb; replace HB := bs HB hb; clear hb ho0; obtain ⟨gZ, h0, rfl⟩ := Kd.R_slice g4.1) | ((with_reducible refine gate_callee (f := 18) rfl ?_); refine gl (some 14) Try.func18 #[.agg #[.int .i64 gU, .int .i64 gV, .slice gZ gP.length h0]] ?_; (with_reducible refine (spec_ClockUrgent.calls k gU gV (fun k_ => (True ∧ k_ ≠ gL)) _ _ gP gD _ ?side1 A8.1).mono ?_); (case side1 => exact Kd.R_V (Kd.R_types (g4.1) g0.1 (by decide))); rintro e w21 ⟨rfl, hb⟩; refine ⟨_, rfl, ?_⟩; replace g4 := am (Kd.R_below (by (with_reducible repeat (first | apply Kd.R_alloc | apply Kd.R_drewN | apply Kd.R_drew)); exact g4.1) hb); replace g0 := kb g0 hb; replace HB := bs HB hb; clear hb; obtain ⟨hM, hN, hO, hP, hQ, hR⟩ := cs3 g0) | ((with_reducible refine gate_callee (f := 19) rfl ?_); refine gl (some 16) Try.func19 #[.agg #[.int .i64 g7, .int .i64 g8, .slice gH g5.length gI]] ?_; (with_reducible refine (laws_toClock.calls k g7 g8 _ _ g5 gE gF gA _ ?side1 ?side2 A9.1).mono ?_); (case side1 => exact cq (Kd.C_below gM.1 HB.1)); (case side2 => exact gN.1); rintro e w23 ⟨iI, rfl, ho0, hb⟩; refine ⟨_, rfl, ?_⟩; have g9 := am (Kd.R_lower (Kd.R_new' ho0 (Kd.R_lt (by (with_reducible repeat (first | apply Kd.R_alloc | apply Kd.R_drewN | apply Kd.R_drew)); exact g4.1))) (below_size bq)); replace g4 := am (Kd.R_elder' (by (with_reducible repeat (first | apply Kd.R_alloc | apply Kd.R_drewN | apply Kd.R_drew)); exact g4.1) (Kd.R_base ho0) hb); replace g0 := kb g0 hb; replace HB := bs HB hb; clear hb ho0) | ((with_reducible refine gate_dst (N := 5) rfl ?_); refine bx (cs := #[.int .i64 0, .int .i64 0, .slice none 0 0]) (t := 25) fun g6 hg w24 hbox hb => ?_; replace g4 := am (Kd.R_below (Kd.R_elderB (by (with_reducible repeat (first | apply Kd.R_alloc | apply Kd.R_drewN | apply Kd.R_drew)); exact g4.1) g6 (Nat.le_of_eq hg.symm)) hb); replace g9 := am (Kd.R_below (Kd.R_elderB (by (with_reducible repeat (first | apply Kd.R_alloc | apply Kd.R_drewN | apply Kd.R_drew)); exact g9.1) g6 (Nat.le_of_eq hg.symm)) hb); have g3 := am (hbox); have iC := bz HB hg; have h7 := bz HB hg; replace HB := bs HB hb; have gR := nl g0 hg; have gS := ng g0 hg; replace g0 := kb g0 hb; clear hb hbox hg; have iD := gS.1; have iE := gR.1; obtain ⟨hS, hT, hU, hV, hW, hX⟩ := cs3 g3; obtain ⟨gJ, gK, rfl⟩ := Kd.R_slice g9.1) | ((with_reducible refine gate_store (t := 25) (p := 5) rfl ?_); refine se (((w24.setCell ⟨g6, 0, none⟩ (.int .i64 gE)).setCell ⟨g6, 1, none⟩ (.int .i64 gF)).setCell ⟨g6, 2, none⟩ (.slice gJ gA.length gK)) fun w28 hw => ?_; replace g4 : Aside0 (Kd.R k25 25 w28 w.heap.size (fun k_ => some k_ ≠ (.slice gJ gA.length gK : Value).ownBlock ∧ k_ ≠ g6) (.slice gZ gP.length h0) gP) := ⟨(by rw [hw]; exact (by (with_reducible repeat (first | apply Kd.R_alloc | apply Kd.R_drewN | apply Kd.R_drew)); exact Kd.R_mono (Kd.R_far (p := ⟨g6, 2, none⟩) (Kd.R_far (p := ⟨g6, 1, none⟩) (Kd.R_far (p := ⟨g6, 0, none⟩) (Kd.R_mono g4.1 (fun k_ hk => (⟨hk, hk.2⟩ : _ ∧ k_ ≠ g6))) mq (.int .i64 gE)) mq (.int .i64 gF)) mq (.slice gJ gA.length gK)) mq))⟩; replace g9 : Aside0 (Kd.R k25 25 w28 w.heap.size (fun k_ => some k_ ≠ (.slice gZ gP.length h0 : Value).ownBlock ∧ k_ ≠ g6) (.slice gJ gA.length gK) gA) := ⟨(by rw [hw]; exact (by (with_reducible repeat (first | apply Kd.R_alloc | apply Kd.R_drewN | apply Kd.R_drew)); exact Kd.R_mono (Kd.R_far (p := ⟨g6, 2, none⟩) (Kd.R_far (p := ⟨g6, 1, none⟩) (Kd.R_far (p := ⟨g6, 0, none⟩) (Kd.R_mono g9.1 (fun k_ hk => (⟨hk, hk.2⟩ : _ ∧ k_ ≠ g6))) mq (.int .i64 gE)) mq (.int .i64 gF)) mq (.slice gJ gA.length gK)) mq))⟩; replace g0 := kh g0 hw; replace g3 := kp g3 hw #[.int .i64 gE, .int .i64 gF, .slice gJ gA.length gK]; replace HB := bh HB hw; clear hw; obtain ⟨hY, hZ, i0, i1, i2, i3⟩ := cs3 g3) | ((with_reducible refine gate_callee (f := 16) rfl ?_); refine gl (some 18) Try.func16 #[.agg #[.int .i64 gE, .int .i64 gF, .slice gJ gA.length gK]] ?_; (with_reducible refine (impl_ClockUrgent.calls k gE gF (fun k_ => ((some k_ ≠ (.slice gZ gP.length h0 : Value).ownBlock ∧ k_ ≠ g6) ∧ k_ ≠ gL)) _ _ gA gB _ ?side1 A10.1).mono ?_); (case side1 => exact Kd.R_V (Kd.R_types (g9.1) g0.1 (by decide))); rintro e w30 ⟨rfl, hb⟩; refine ⟨_, rfl, ?_⟩; replace g4 := am (Kd.R_below (by (with_reducible repeat (first | apply Kd.R_alloc | apply Kd.R_drewN | apply Kd.R_drew)); exact g4.1) hb); replace g9 := am (Kd.R_below (by (with_reducible repeat (first | apply Kd.R_alloc | apply Kd.R_drewN | apply Kd.R_drew)); exact g9.1) hb); replace g0 := kb g0 hb; replace g3 := kb g3 hb; replace HB := bs HB hb; clear hb))
    replace g4 := am (Kd.R_drew g4.1); replace g9 := am (Kd.R_drew g9.1); replace g0 := am (blk_drew g0.1); replace g3 := am (blk_drew g3.1); replace HB := am (below_drew1 HB.1)
    refine start_ (n := 5) (S := fun w' => w'.cell? ⟨g6, 0, none⟩ = some (.int .i64 gE) ∧ w'.cell? ⟨g6, 1, none⟩ = some (.int .i64 gF) ∧ w'.cell? ⟨g6, 2, none⟩ = some (.slice gJ gA.length gK) ∧ w'.cell? ⟨gL, 0, none⟩ = some (.int .i64 g7) ∧ w'.cell? ⟨gL, 1, none⟩ = some (.int .i64 g8) ∧ w'.cell? ⟨gL, 2, none⟩ = some (.slice gH g5.length gI)) (ds := []) #[ff,ff,ff,ff,ff] (by kernel_rfl) rfl rfl ⟨(blk_cell g3.1 0).trans rfl, (blk_cell g3.1 1).trans rfl, (blk_cell g3.1 2).trans rfl, (blk_cell g0.1 0).trans rfl, (blk_cell g0.1 1).trans rfl, (blk_cell g0.1 2).trans rfl⟩ (fun hHeld => ?_)
    generalize w30.drew = w31 at g4 g9 g0 g3 HB hHeld ⊢
    refine take_ (i := 0) (N := some 22) (v := ?_) (a' := ?_) #[tt,ff,ff,ff,ff] rfl rfl (by kernel_rfl) (fun _ _ _ h => h) (Or.inl ⟨by rfl, ?_⟩) hHeld ?_ ?_
    rotate_left
    ·
     rintro w' ⟨s0, s1, s2, s3, s4, s5⟩
     go_simp
     with_reducible rfl
    rotate_left
    ·
     simp only [Act.put, List.setIfInBounds_toArray, List.set_cons_zero, List.set_cons_succ, i64_w, i32_w]
     rfl
    refine take_ (i := 1) (N := some 23) (v := ?_) (a' := ?_) #[tt,tt,ff,ff,ff] rfl rfl (by kernel_rfl) (fun _ _ _ h => h) (Or.inl ⟨by rfl, ?_⟩) hHeld ?_ ?_
    rotate_left
    ·
     rintro w' ⟨s0, s1, s2, s3, s4, s5⟩
     go_simp
     with_reducible rfl
    rotate_left
    ·
     simp only [Act.put, List.setIfInBounds_toArray, List.set_cons_zero, List.set_cons_succ, i64_w, i32_w]
     rfl
    refine one_ (i := 2) (N := some 24) #[tt,tt,tt,ff,ff] rfl rfl (by kernel_rfl) (by decide) (fun K hK => ?_)
    refine goes_ Try.func19 (by kernel_rfl) rfl #[.agg #[.int .i64 g7, .int .i64 g8, .slice gH g5.length gI]] (by rfl) rfl rfl (by (try simp only [List.map_toArray, List.map_cons, List.map_nil]); first | done | rfl | (simp only [List.length_drop, List.length_take]; rfl)) ?_
    with_reducible refine (laws_toClock.calls k g7 g8 _ _ g5 gW gX gY _ ?side1 ?side2 A12.1).mono ?_
    (case side1 => exact cq (Kd.C_below gM.1 HB.1))
    (case side2 => exact gN.1)
    rintro e w32 ⟨iJ, rfl, ho0, hb⟩
    refine ⟨_, rfl, ?_⟩
    have gQ := am (Kd.R_lower (Kd.R_newB (Kd.R_new' (Kd.R_new' ho0 (Kd.R_lt (by (with_reducible repeat (first | apply Kd.R_alloc | apply Kd.R_drewN | apply Kd.R_drew)); exact g4.1))) (Kd.R_lt (by (with_reducible repeat (first | apply Kd.R_alloc | apply Kd.R_drewN | apply Kd.R_drew)); exact g9.1))) (g := g6) (o := .cells #[.int .i64 gE, .int .i64 gF, .slice gJ gA.length gK] 25 (0, 0)) (kf g3).1) (below_size bq)); replace g4 := am (Kd.R_elder' (by (with_reducible repeat (first | apply Kd.R_alloc | apply Kd.R_drewN | apply Kd.R_drew)); exact g4.1) (Kd.R_base ho0) hb); replace g9 := am (Kd.R_elder' (by (with_reducible repeat (first | apply Kd.R_alloc | apply Kd.R_drewN | apply Kd.R_drew)); exact g9.1) (Kd.R_base ho0) hb); replace g0 := kb g0 hb; replace g3 := kb g3 hb; replace HB := bs HB hb; (try clear hb); (try clear hb2); (try clear hk); (try clear hi); (try clear ho0)
    obtain ⟨iA, iB, h8⟩ := Kd.R_slice gQ.1
    (first | subst h8 | (injection h8 with f1_ f2_ f3_; have f4_ := f1_.symm; have f5_ := f3_.symm; clear f1_ f2_ f3_; subst f4_; subst f5_))
    refine hK.out _ _ ⟨(blk_cell g3.1 0).trans rfl, (blk_cell g3.1 1).trans rfl, (blk_cell g3.1 2).trans rfl, (blk_cell g0.1 0).trans rfl, (blk_cell g0.1 1).trans rfl, (blk_cell g0.1 2).trans rfl⟩ (fun hHeld => ?_)
    clear hK K
    refine norm_ (a' := ?_) ?_ ?_
    rotate_left
    ·
     show Act.put _ (some 24) _ = _
     simp only [Act.put, List.setIfInBounds_toArray, List.set_cons_zero, List.set_cons_succ, i64_w, i32_w]
     rfl
    refine one_ (i := 3) (N := some 25) #[tt,tt,tt,tt,ff] rfl rfl (by kernel_rfl) (by decide) (fun K hK => ?_)
    refine goes_ Try.func20 (by kernel_rfl) rfl #[.agg #[.int .i64 gE, .int .i64 gF, .slice gJ gA.length gK], .agg #[.int .i64 gW, .int .i64 gX, .slice iA gY.length iB]] (by rfl) rfl rfl (by (try simp only [List.map_toArray, List.map_cons, List.map_nil]); first | done | rfl | (simp only [List.length_drop, List.length_take]; rfl)) ?_
    with_reducible refine (laws_eqClock.calls k gE gF _ _ gA gW gX _ _ gY true _ ?side1 ?side2 ?side3 ?side4 A13.1).mono ?_
    (case side1 => exact cq (Kd.R_reads' g9.1).2.2)
    (case side2 => exact (Kd.R_reads' g9.1).2.1)
    (case side3 => exact cq (Kd.R_reads' gQ.1).2.2)
    (case side4 => exact (Kd.R_reads' gQ.1).2.1)
    rintro e w34 ⟨rfl, hb⟩
    refine ⟨_, rfl, ?_⟩
    replace g4 := am (Kd.R_below (by (with_reducible repeat (first | apply Kd.R_alloc | apply Kd.R_drewN | apply Kd.R_drew)); exact g4.1) hb); replace g9 := am (Kd.R_below (by (with_reducible repeat (first | apply Kd.R_alloc | apply Kd.R_drewN | apply Kd.R_drew)); exact g9.1) hb); replace gQ := am (Kd.R_below (by (with_reducible repeat (first | apply Kd.R_alloc | apply Kd.R_drewN | apply Kd.R_drew)); exact gQ.1) hb); replace g0 := kb g0 hb; replace g3 := kb g3 hb; replace HB := bs HB hb; (try clear hb); (try clear hb2); (try clear hk); (try clear hi)
    refine hK.out _ _ ⟨(blk_cell g3.1 0).trans rfl, (blk_cell g3.1 1).trans rfl, (blk_cell g3.1 2).trans rfl, (blk_cell g0.1 0).trans rfl, (blk_cell g0.1 1).trans rfl, (blk_cell g0.1 2).trans rfl⟩ (fun hHeld => ?_)
    clear hK K
    refine norm_ (a' := ?_) ?_ ?_
    rotate_left
    ·
     show Act.put _ (some 25) _ = _
     simp only [Act.put, List.setIfInBounds_toArray, List.set_cons_zero, List.set_cons_succ, i64_w, i32_w]
     rfl
    refine pure_ (i := 4) (N := some 26) (v := ?_) (a' := ?_) #[tt,tt,tt,tt,tt] rfl rfl (by kernel_rfl) (fun _ _ _ h => h) (Or.inl ⟨by rfl, ?_⟩) ?_ ?_
    rotate_left
    ·
     intro w'
     go_simp
     with_reducible rfl
    rotate_left
    ·
     simp only [Act.put, List.setIfInBounds_toArray, List.set_cons_zero, List.set_cons_succ, i64_w, i32_w]
     rfl
    refine done_ (by kernel_rfl) ?_
    try go_wp2
    go_ret
    exact ⟨by first | rfl | (simp [errW_none, errW_some] <;> rfl) | (simp [*, errW_none, errW_some] <;> rfl), by repeat (first | (with_reducible first | exact HB.1 | apply below_alloc | apply pw_below_drewN | apply below_drew1 | refine below_set ?_ gT.1 | refine below_set ?_ h7.1) | exact HB.1)⟩
   ·
    replace c14 := Bool.eq_false_iff.mpr c14
    subst c14
    have H1 : (some false) = some r := by rw [if_neg (show ¬ (false = true) by decide)] at H; exact H
    exact absurd (H1.trans (congrArg some hr1.1)) (by simp)
  ·
   rw [if_neg c11] at H; have c11b0 : (gB == gD) = false := beq_eq_false_iff_ne.mpr c11; have c11b1 : (gB != gD) = true := bne_iff_ne.mpr c11
   exact absurd (H.trans (congrArg some hr1.1)) (by simp)


end Go.Proofs.Ytfnmjecofgeboaa.PAll
