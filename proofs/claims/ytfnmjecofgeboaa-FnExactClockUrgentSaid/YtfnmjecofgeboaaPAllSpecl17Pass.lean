-- Laid by a program of this session out of the translation's print
import Derived.Test.YtfnmjecofgeboaaPAllSpecl17Passd
import Derived.Test.YtfnmjecofgeboaaPAll0
import Derived.Test.YtfnmjecofgeboaaPAllAb
import Derived.Test.YtfnmjecofgeboaaPAllSOk
import Derived.Test.YtfnmjecofgeboaaPAllSSteps
import Derived.Test.YtfnmjecofgeboaaPAllSpecl17Meet
namespace Go.Proofs.Ytfnmjecofgeboaa.PAll
open Go.RowKit Go.Proofs.YtfnmjecofgeboaaW.PrintWords Go.Proofs.YtfnmjecofgeboaaW.PrintLast Go.Proofs.YtfnmjecofgeboaaW.PrintMore
attribute [local go_sem] max2_int min2_int max_two min_two max_three min_three max_four min_four   -- for this text's walks alone
set_option linter.unusedVariables false
set_option linter.unusedSimpArgs false

set_option maxHeartbeats 8000000 in
set_option maxRecDepth 100000 in
theorem spec_l17Pass.calls (k : Nat) : ∀ (gL : Int) (gZ : Int) (iL : Option Addr) (hW : Nat) (g2 : List (S25)) (r1 : Int) (r2 : Int) (r3 : List (S25)) (r4 : Bool) (w : World) (k9 : Kd.C k25 w iL g2.length g2) (kA : g2.length ≤ hW) (h : spec_l17Pass.f k gL gZ g2 = some (r1, r2, r3, r4)),
  Calls Try.prog 47 #[.agg #[.int .i64 gL, .int .i64 gZ, .slice iL g2.length hW]] w fun e w' => ∃ v2_ : Value, e = .returned (.tuple #[.agg #[.int .i64 r1, .int .i64 r2, v2_], .bool r4]) ∧ Kd.N k25 25 w' w.heap.size (fun k_ => (w.heap.size ≤ k_)) v2_ r3 ∧ Below w.heap.size w w' := by
 induction k using Nat.strongRecOn with
 | _ k ih =>
 intro gL gZ iL hW g2 r1 r2 r3 r4 w k9 kA h
 cases k with
 | zero => exact absurd h (by simp [spec_l17Pass.f])
 | succ k =>
 simp only [spec_l17Pass.f] at h
 have vA := Try.underlying25
 have hT := am k9; have lQ := am kA; clear k9 kA; have HB := am (Below.refl w.heap.size w)
 have H : (if gL = 0 then (some (0, 0, ([] : List (S25)), true)) else (if gL = 1 then ((spec_l17Copy.f k gL gZ g2).bind fun kB => (some (kB.1, kB.2.1, kB.2.2, (gZ != 0)))) else (if gL = 2 then (if gZ = 1 then (if 0 < (g2.length : Int) then ((spec_l17Copy.f k ((rd_T25 g2 0).f0) ((rd_T25 g2 0).f1) ((rd_T25 g2 0).f2)).bind fun kC => (some (kC.1, kC.2.1, kC.2.2, true))) else (none)) else (if 0 < (g2.length : Int) then ((spec_l17Copy.f k ((rd_T25 g2 0).f0) ((rd_T25 g2 0).f1) ((rd_T25 g2 0).f2)).bind fun kD => (some (gL, wrap64 (gZ - 1), (([(⟨kD.1, kD.2.1, kD.2.2⟩ : S25)] : List (S25))), true))) else (none))) else (if 0 < (g2.length : Int) then ((spec_l17Pass.f k ((rd_T25 g2 0).f0) ((rd_T25 g2 0).f1) ((rd_T25 g2 0).f2)).bind fun j9 => (if 1 < (g2.length : Int) then ((spec_l17Pass.f k ((rd_T25 g2 1).f0) ((rd_T25 g2 1).f1) ((rd_T25 g2 1).f2)).bind fun i1 => (if j9.2.2.2 = true then (if i1.2.2.2 = true then (if gL = 4 then ((spec_l17Meet.f k ((rd_T25 g2 0).f0) ((rd_T25 g2 0).f1) ((rd_T25 g2 0).f2) ((rd_T25 g2 1).f0) ((rd_T25 g2 1).f1) ((rd_T25 g2 1).f2)).bind fun j8 => (if j8 = true then (some (0, 0, ([] : List (S25)), false)) else ((spec_l17Two.f gL j9.1 j9.2.1 j9.2.2.1 i1.1 i1.2.1 i1.2.2.1).bind fun gY => (some (gY.1, gY.2.1, gY.2.2, true))))) else ((spec_l17Two.f gL j9.1 j9.2.1 j9.2.2.1 i1.1 i1.2.1 i1.2.2.1).bind fun hR => (some (hR.1, hR.2.1, hR.2.2, true)))) else (some (0, 0, ([] : List (S25)), false))) else (some (0, 0, ([] : List (S25)), false)))) else (none))) else (none))))) = some (r1, r2, r3, r4) := h
 clear h
 by_cases c2 : gL = 0
 ·
  rw [if_pos c2] at H; have c2b0 : (gL == 0) = true := beq_iff_eq.mpr c2; have c2b1 : (gL != 0) = false := bne_eq_false_iff_eq.mpr c2; clear c2
  simp only [Option.some.injEq, Prod.mk.injEq] at H
  obtain ⟨rfl, rfl, rfl, rfl⟩ := H
  go_enter Try.func47, Try.ntmps47
  go_wp2_with (first | ((with_reducible refine gate_dst (N := 1) rfl ?_); refine bx (cs := #[.int .i64 gL, .int .i64 gZ, .slice iL g2.length hW]) (t := 25) fun gF hg w3 hbox hb => ?_; have g0 := am (hbox); have j3 := bz HB hg; have hU := bz HB hg; replace HB := bs HB hb; clear hb hbox hg) | ((with_reducible refine gate_dst (N := 2) rfl ?_); refine bx (cs := #[.int .i64 0, .int .i64 0, .slice none 0 0]) (t := 25) fun g5 hg w4 hbox hb => ?_; have g1 := am (hbox); have gP := bz HB hg; have hV := bz HB hg; replace HB := bs HB hb; have g8 := nl g0 hg; have gI := ng g0 hg; replace g0 := kb g0 hb; clear hb hbox hg; have vB := g8.1; have vC := gI.1; obtain ⟨sO, sP, sQ, sR, sS, sT⟩ := cs3 g0; obtain ⟨sU, sV, sW, sX, sY, sZ⟩ := cs3 g1))
  refine bodyPost_ret (results_ct rfl _ _ g5 25 #[.int .i64 0, .int .i64 0, .slice none 0 0] (0, 0) _ rfl (kf g1).1 Try.underlying25 rfl (by kernel_rfl)) rfl ?_
  exact ⟨_, by first | rfl | (simp [errW_none, errW_some] <;> rfl) | (simp [*, errW_none, errW_some] <;> rfl), by first | exact Kd.R_nil _ _ _ _ _ | exact Kd.N_nil _ _ _ _ _ | exact Kd.V_nil _ _ _ _ _ | exact Kd.Q_nil _ _ _ _ _ | exact Kd.S_nil _ _ _ _ _, by repeat (first | (with_reducible first | exact HB.1 | apply below_alloc | apply pw_below_drewN | apply below_drew1 | refine below_set ?_ hU.1 | refine below_set ?_ hV.1) | exact HB.1)⟩
 ·
  rw [if_neg c2] at H; have c2b0 : (gL == 0) = false := beq_eq_false_iff_ne.mpr c2; have c2b1 : (gL != 0) = true := bne_iff_ne.mpr c2
  by_cases c8 : gL = 1
  ·
   rw [if_pos c8] at H; have c8b0 : (gL == 1) = true := beq_iff_eq.mpr c8; have c8b1 : (gL != 1) = false := bne_eq_false_iff_eq.mpr c8; clear c8
   replace H := Option.bind_eq_some_iff.mp H
   obtain ⟨⟨kJ, kK, kL⟩, A90, H⟩ := H
   replace H : (some (kJ, kK, kL, (gZ != 0))) = some (r1, r2, r3, r4) := H
   have A9 := am A90
   clear A90
   simp only [Option.some.injEq, Prod.mk.injEq] at H
   obtain ⟨rfl, rfl, rfl, rfl⟩ := H
   go_enter Try.func47, Try.ntmps47
   try go_wp2_with (first | ((with_reducible refine gate_dst (N := 1) rfl ?_); refine bx (cs := #[.int .i64 gL, .int .i64 gZ, .slice iL g2.length hW]) (t := 25) fun gF hg w10 hbox hb => ?_; have g0 := am (hbox); have j3 := bz HB hg; have hU := bz HB hg; replace HB := bs HB hb; clear hb hbox hg) | ((with_reducible refine gate_dst (N := 2) rfl ?_); refine bx (cs := #[.int .i64 0, .int .i64 0, .slice none 0 0]) (t := 25) fun g5 hg w11 hbox hb => ?_; have g1 := am (hbox); have gP := bz HB hg; have hV := bz HB hg; replace HB := bs HB hb; have g8 := nl g0 hg; have gI := ng g0 hg; replace g0 := kb g0 hb; clear hb hbox hg; have u6 := g8.1; have u7 := gI.1; obtain ⟨pT, pU, pV, pW, pX, pY⟩ := cs3 g0))
   replace g0 := am (blk_drew g0.1); replace g1 := am (blk_drew g1.1); replace HB := am (below_drew1 HB.1)
   refine start_ (n := 7) (S := fun w' => w'.cell? ⟨gF, 0, none⟩ = some (.int .i64 gL) ∧ w'.cell? ⟨gF, 1, none⟩ = some (.int .i64 gZ) ∧ w'.cell? ⟨gF, 2, none⟩ = some (.slice iL g2.length hW)) (ds := []) #[ff,ff,ff,ff,ff,ff,ff] (by kernel_rfl) rfl rfl ⟨(blk_cell g0.1 0).trans rfl, (blk_cell g0.1 1).trans rfl, (blk_cell g0.1 2).trans rfl⟩ (fun hHeld => ?_)
   generalize w11.drew = w14 at g0 g1 HB hHeld ⊢
   refine pure_ (i := 2) (N := some 17) (v := ?_) (a' := ?_) #[ff,ff,tt,ff,ff,ff,ff] rfl rfl (by kernel_rfl) (fun _ _ _ h => h) (Or.inl ⟨by rfl, ?_⟩) ?_ ?_
   rotate_left
   ·
    intro w'
    go_simp
    with_reducible rfl
   rotate_left
   ·
    simp only [Act.put, List.setIfInBounds_toArray, List.set_cons_zero, List.set_cons_succ, i64_w, i32_w]
    rfl
   refine take_ (i := 0) (N := some 15) (v := ?_) (a' := ?_) #[tt,ff,tt,ff,ff,ff,ff] rfl rfl (by kernel_rfl) (fun _ _ _ h => h) (Or.inl ⟨by rfl, ?_⟩) hHeld ?_ ?_
   rotate_left
   ·
    rintro w' ⟨s0, s1, s2⟩
    go_simp
    with_reducible rfl
   rotate_left
   ·
    simp only [Act.put, List.setIfInBounds_toArray, List.set_cons_zero, List.set_cons_succ, i64_w, i32_w]
    rfl
   refine take_ (i := 3) (N := some 18) (v := ?_) (a' := ?_) #[tt,ff,tt,tt,ff,ff,ff] rfl rfl (by kernel_rfl) (fun _ _ _ h => h) (Or.inl ⟨by rfl, ?_⟩) hHeld ?_ ?_
   rotate_left
   ·
    rintro w' ⟨s0, s1, s2⟩
    go_simp
    with_reducible rfl
   rotate_left
   ·
    simp only [Act.put, List.setIfInBounds_toArray, List.set_cons_zero, List.set_cons_succ, i64_w, i32_w]
    rfl
   refine pure_ (i := 4) (N := some 19) (v := ?_) (a' := ?_) #[tt,ff,tt,tt,tt,ff,ff] rfl rfl (by kernel_rfl) (fun _ _ _ h => h) (Or.inl ⟨by rfl, ?_⟩) ?_ ?_
   rotate_left
   ·
    intro w'
    go_simp
    with_reducible rfl
   rotate_left
   ·
    simp only [Act.put, List.setIfInBounds_toArray, List.set_cons_zero, List.set_cons_succ, i64_w, i32_w]
    rfl
   refine one_ (i := 1) (N := some 16) #[tt,tt,tt,tt,tt,ff,ff] rfl rfl (by kernel_rfl) (by decide) (fun K hK => ?_)
   refine goes_ Try.func51 (by kernel_rfl) rfl #[.agg #[.int .i64 gL, .int .i64 gZ, .slice iL g2.length hW]] (by rfl) rfl rfl (by (try simp only [List.map_toArray, List.map_cons, List.map_nil]); first | done | rfl | (simp only [List.length_drop, List.length_take]; rfl)) ?_
   with_reducible refine (spec_l17Copy.calls k gL gZ _ _ g2 kJ kK kL _ ?side1 ?side2 A9.1).mono ?_
   (case side1 => exact cq (Kd.C_below hT.1 HB.1))
   (case side2 => exact lQ.1)
   rintro e w15 ⟨vD, rfl, ho0, hb⟩
   refine ⟨_, rfl, ?_⟩
   have l5 := nm HB (Kd.R_N (Kd.R_bound ho0)) (fun k_ => (w.heap.size ≤ k_) ∧ k_ ≠ gF ∧ k_ ≠ g5) (fun k_ hk_ => ⟨(zt HB hk_.2.1), (fb g0 k_ hk_.2.1), (fb g1 k_ hk_.2.1)⟩); replace g0 := kb g0 hb; replace g1 := kb g1 hb; replace HB := bs HB hb; (try clear hb); (try clear hb2); (try clear hk); (try clear hi); (try clear ho0)
   obtain ⟨lR, lS, lT⟩ := Kd.N_slice l5.1
   (first | subst lT | (injection lT with f1_ f2_ f3_; have f4_ := f1_.symm; have f5_ := f3_.symm; clear f1_ f2_ f3_; subst f4_; subst f5_))
   refine hK.out _ _ ⟨(blk_cell g0.1 0).trans rfl, (blk_cell g0.1 1).trans rfl, (blk_cell g0.1 2).trans rfl⟩ (fun hHeld => ?_)
   clear hK K
   refine norm_ (a' := ?_) ?_ ?_
   rotate_left
   ·
    show Act.put _ (some 16) _ = _
    simp only [Act.put, List.setIfInBounds_toArray, List.set_cons_zero, List.set_cons_succ, i64_w, i32_w]
    rfl
   refine one_ (i := 5) (N := none) #[tt,tt,tt,tt,tt,tt,ff] rfl rfl (by kernel_rfl) (by decide) (fun K hK => ?_)
   have vE : w15.cell? ⟨g5, 0, none⟩ = some (.int .i64 0) := (blk_cell g1.1 0).trans rfl
   have u8 := blk_frozen g1.1 0
   have pZ := g8.1
   have q0 := gI.1
   have vF : w15.cell? ⟨g5, 1, none⟩ = some (.int .i64 0) := (blk_cell g1.1 1).trans rfl
   have u9 := blk_frozen g1.1 1
   have q1 := g8.1
   have q2 := gI.1
   have vG : w15.cell? ⟨g5, 2, none⟩ = some (.slice none 0 0) := (blk_cell g1.1 2).trans rfl
   have uA := blk_frozen g1.1 2
   have q3 := g8.1
   have q4 := gI.1
   refine skip_ (w1 := ?_) (by rfl) rfl ?_ ?_
   rotate_left
   ·
    go_simp
    rfl
   refine hK.out _ _ ⟨((cell_far (p := ⟨g5, _, none⟩) g8.1 _).trans (((cell_far (p := ⟨g5, _, none⟩) g8.1 _).trans (((cell_far (p := ⟨g5, _, none⟩) g8.1 _).trans (hHeld.1)))))), ((cell_far (p := ⟨g5, _, none⟩) g8.1 _).trans (((cell_far (p := ⟨g5, _, none⟩) g8.1 _).trans (((cell_far (p := ⟨g5, _, none⟩) g8.1 _).trans (hHeld.2.1)))))), ((cell_far (p := ⟨g5, _, none⟩) g8.1 _).trans (((cell_far (p := ⟨g5, _, none⟩) g8.1 _).trans (((cell_far (p := ⟨g5, _, none⟩) g8.1 _).trans (hHeld.2.2))))))⟩ (fun hHeld => ?_)
   clear hK K
   refine pure_ (i := 6) (N := some 3) (v := ?_) (a' := ?_) #[tt,tt,tt,tt,tt,tt,tt] rfl rfl (by kernel_rfl) (fun _ _ _ h => h) (Or.inl ⟨by rfl, ?_⟩) ?_ ?_
   rotate_left
   ·
    intro w'
    go_simp
    with_reducible rfl
   rotate_left
   ·
    simp only [Act.put, List.setIfInBounds_toArray, List.set_cons_zero, List.set_cons_succ, i64_w, i32_w]
    rfl
   refine done_ (by kernel_rfl) ?_
   try go_wp2
   refine bodyPost_ret (results_ct rfl _ _ g5 25 #[.int .i64 kJ, .int .i64 kK, .slice lR kL.length lS] (0, 0) _ rfl (kf g1).1 Try.underlying25 rfl (by kernel_rfl)) rfl ?_
   exact ⟨_, by first | rfl | (simp [errW_none, errW_some] <;> rfl) | (simp [*, errW_none, errW_some] <;> rfl), by (with_reducible repeat (first | apply Kd.N_alloc | apply Kd.N_drewN | apply Kd.N_drew)); exact Kd.N_mono (Kd.N_far (p := ⟨g5, 2, none⟩) (Kd.N_far (p := ⟨g5, 1, none⟩) (Kd.N_far (p := ⟨g5, 0, none⟩) (Kd.N_mono l5.1 (fun k_ hk => (⟨hk, hk.2.2⟩ : _ ∧ k_ ≠ g5))) mq (.int .i64 kJ)) mq (.int .i64 kK)) mq (.slice lR kL.length lS)) mq, by repeat (first | (with_reducible first | exact HB.1 | apply below_alloc | apply pw_below_drewN | apply below_drew1 | refine below_set ?_ hU.1 | refine below_set ?_ hV.1) | exact HB.1)⟩
  ·
   rw [if_neg c8] at H; have c8b0 : (gL == 1) = false := beq_eq_false_iff_ne.mpr c8; have c8b1 : (gL != 1) = true := bne_iff_ne.mpr c8
   by_cases c20 : gL = 2
   ·
    rw [if_pos c20] at H; have c20b0 : (gL == 2) = true := beq_iff_eq.mpr c20; have c20b1 : (gL != 2) = false := bne_eq_false_iff_eq.mpr c20; clear c20
    by_cases c21 : gZ = 1
    ·
     rw [if_pos c21] at H; have c21b0 : (gZ == 1) = true := beq_iff_eq.mpr c21; have c21b1 : (gZ != 1) = false := bne_eq_false_iff_eq.mpr c21; clear c21
     by_cases c22 : 0 < (g2.length : Int)
     ·
      rw [if_pos c22] at H; have c22b0 : decide (0 < (g2.length : Int)) = true := decide_eq_true c22; have c22b1 : decide (0 < g2.length) = true := decide_eq_true (by omega); clear c22
      replace H := Option.bind_eq_some_iff.mp H
      obtain ⟨⟨kM, kN, kO⟩, lU, H⟩ := H
      replace H : (some (kM, kN, kO, true)) = some (r1, r2, r3, r4) := H
      have A23 := am lU
      clear lU
      simp only [Option.some.injEq, Prod.mk.injEq] at H
      obtain ⟨rfl, rfl, rfl, rfl⟩ := H
      go_enter Try.func47, Try.ntmps47
      go_wp2_with (first | ((with_reducible refine gate_dst (N := 1) rfl ?_); refine bx (cs := #[.int .i64 gL, .int .i64 gZ, .slice iL g2.length hW]) (t := 25) fun gF hg w24 hbox hb => ?_; have g0 := am (hbox); have j3 := bz HB hg; have hU := bz HB hg; replace HB := bs HB hb; clear hb hbox hg) | ((with_reducible refine gate_dst (N := 2) rfl ?_); refine bx (cs := #[.int .i64 0, .int .i64 0, .slice none 0 0]) (t := 25) fun g5 hg w25 hbox hb => ?_; have g1 := am (hbox); have gP := bz HB hg; have hV := bz HB hg; replace HB := bs HB hb; have g8 := nl g0 hg; have gI := ng g0 hg; replace g0 := kb g0 hb; clear hb hbox hg; have uB := g8.1; have uC := gI.1; obtain ⟨q5, q6, q7, q8, q9, qA⟩ := cs3 g0; have lG : 0 ≤ (0 : Int) := (by omega); have lH : 0 < (g2.length : Int) := od; obtain ⟨uD, lI, lJ, t0, iM, iN, iO, k0, k1⟩ := at_T25 hT.1 0 lG lH; cases t0; have uE : (0 < g2.length) = True := eq_true (by omega); (try rw [tz] at iM); (try rw [z3] at iM); (try rw [Addr.add_zero'] at iM); (try rw [tz] at iN); (try rw [z3] at iN); (try rw [Addr.add_zero'] at iN); (try rw [tz] at iO); (try rw [z3] at iO); (try rw [Addr.add_zero'] at iO); replace iM := hc HB iM; replace iN := hc HB iN; replace iO := hc HB iO; have kP := am k1; have kQ := am k0; clear k1 k0; replace lG := eq_true lG; replace lH := eq_true lH) | ((with_reducible refine gate_callee (f := 51) rfl ?_); refine gl (some 29) Try.func51 #[.agg #[.int .i64 ((rd_T25 g2 0).f0), .int .i64 ((rd_T25 g2 0).f1), .slice lI ((rd_T25 g2 0).f2).length lJ]] ?_; (with_reducible refine (spec_l17Copy.calls k ((rd_T25 g2 0).f0) ((rd_T25 g2 0).f1) _ _ ((rd_T25 g2 0).f2) kM kN kO _ ?side1 ?side2 A23.1).mono ?_); (case side1 => exact cq (Kd.C_below kP.1 HB.1)); (case side2 => exact kQ.1); rintro e w28 ⟨vH, rfl, ho0, hb⟩; refine ⟨_, rfl, ?_⟩; have l6 := nm HB (Kd.R_N (Kd.R_bound ho0)) (fun k_ => (w.heap.size ≤ k_) ∧ k_ ≠ gF ∧ k_ ≠ g5) (fun k_ hk_ => ⟨(zt HB hk_.2.1), (fb g0 k_ hk_.2.1), (fb g1 k_ hk_.2.1)⟩); replace g0 := kb g0 hb; replace g1 := kb g1 hb; replace HB := bs HB hb; clear hb ho0; obtain ⟨qB, qC, qD, qE, qF, qG⟩ := cs3 g1; obtain ⟨lV, lW, rfl⟩ := Kd.N_slice l6.1))
      refine bodyPost_ret (results_ct rfl _ _ g5 25 #[.int .i64 kM, .int .i64 kN, .slice lV kO.length lW] (0, 0) _ rfl (kf g1).1 Try.underlying25 rfl (by kernel_rfl)) rfl ?_
      exact ⟨_, by first | rfl | (simp [errW_none, errW_some] <;> rfl) | (simp [*, errW_none, errW_some] <;> rfl), by (with_reducible repeat (first | apply Kd.N_alloc | apply Kd.N_drewN | apply Kd.N_drew)); exact Kd.N_mono (Kd.N_far (p := ⟨g5, 2, none⟩) (Kd.N_far (p := ⟨g5, 1, none⟩) (Kd.N_far (p := ⟨g5, 0, none⟩) (Kd.N_mono l6.1 (fun k_ hk => (⟨hk, hk.2.2⟩ : _ ∧ k_ ≠ g5))) mq (.int .i64 kM)) mq (.int .i64 kN)) mq (.slice lV kO.length lW)) mq, by repeat (first | (with_reducible first | exact HB.1 | apply below_alloc | apply pw_below_drewN | apply below_drew1 | refine below_set ?_ hU.1 | refine below_set ?_ hV.1) | exact HB.1)⟩
     ·
      rw [if_neg c22] at H
      exact absurd H (by simp)
    ·
     rw [if_neg c21] at H; have c21b0 : (gZ == 1) = false := beq_eq_false_iff_ne.mpr c21; have c21b1 : (gZ != 1) = true := bne_iff_ne.mpr c21
     by_cases c31 : 0 < (g2.length : Int)
     ·
      rw [if_pos c31] at H; have c31b0 : decide (0 < (g2.length : Int)) = true := decide_eq_true c31; have c31b1 : decide (0 < g2.length) = true := decide_eq_true (by omega); clear c31
      replace H := Option.bind_eq_some_iff.mp H
      obtain ⟨⟨jN, jO, jP⟩, lX, H⟩ := H
      replace H : (some (gL, wrap64 (gZ - 1), (([(⟨jN, jO, jP⟩ : S25)] : List (S25))), true)) = some (r1, r2, r3, r4) := H
      have A32 := am lX
      clear lX
      obtain ⟨lK, jQ⟩ : ∃ y_ : List (S25), y_ = (([(⟨jN, jO, jP⟩ : S25)] : List (S25))) := ⟨_, rfl⟩
      replace H : (some (gL, wrap64 (gZ - 1), lK, true)) = some (r1, r2, r3, r4) := by first | (rw [jQ]; with_reducible exact H) | (have H2_ := (Option.bind_some _ _).symm.trans H; rw [jQ]; with_reducible exact H2_) | (have H2_ := (Option.bind_some _ _).symm.trans H; with_reducible exact H2_) | with_reducible exact H | (rw [jQ]; exact H) | exact H
      have l7 := am jQ
      clear jQ
      simp only [Option.some.injEq, Prod.mk.injEq] at H
      obtain ⟨rfl, rfl, rfl, rfl⟩ := H
      go_enter Try.func47, Try.ntmps47
      try go_wp2_with (first | ((with_reducible refine gate_dst (N := 1) rfl ?_); refine bx (cs := #[.int .i64 gL, .int .i64 gZ, .slice iL g2.length hW]) (t := 25) fun gF hg w33 hbox hb => ?_; have g0 := am (hbox); have j3 := bz HB hg; have hU := bz HB hg; replace HB := bs HB hb; clear hb hbox hg) | ((with_reducible refine gate_dst (N := 2) rfl ?_); refine bx (cs := #[.int .i64 0, .int .i64 0, .slice none 0 0]) (t := 25) fun g5 hg w34 hbox hb => ?_; have g1 := am (hbox); have gP := bz HB hg; have hV := bz HB hg; replace HB := bs HB hb; have g8 := nl g0 hg; have gI := ng g0 hg; replace g0 := kb g0 hb; clear hb hbox hg; have uF := g8.1; have uG := gI.1; obtain ⟨qH, qI, qJ, qK, qL, qM⟩ := cs3 g0))
      replace g0 := am (blk_drew g0.1); replace g1 := am (blk_drew g1.1); replace HB := am (below_drew1 HB.1); have lL : 0 ≤ (0 : Int) := (by omega); have lM : 0 < (g2.length : Int) := od
      obtain ⟨jA, kE, kF, t1, i4, i5, i6, k2, k3⟩ := at_T25 hT.1 0 lL lM
      have gT := i6
      (try rw [tz] at gT)
      (try rw [z3] at gT)
      (try rw [Addr.add_zero'] at gT)
      have gU := i5
      (try rw [tz] at gU)
      (try rw [z3] at gU)
      (try rw [Addr.add_zero'] at gU)
      have gV := i4
      (try rw [tz] at gV)
      (try rw [z3] at gV)
      (try rw [Addr.add_zero'] at gV)
      cases t1
      have uH : (0 < g2.length) = True := eq_true (by omega)
      (try rw [tz] at i4)
      (try rw [z3] at i4)
      (try rw [Addr.add_zero'] at i4)
      (try rw [tz] at i5)
      (try rw [z3] at i5)
      (try rw [Addr.add_zero'] at i5)
      (try rw [tz] at i6)
      (try rw [z3] at i6)
      (try rw [Addr.add_zero'] at i6)
      replace i4 := hc HB i4; replace i5 := hc HB i5; replace i6 := hc HB i6; have k4 := am k3; have kR := am k2; clear k3 k2; replace lL := eq_true lL; replace lM := eq_true lM
      refine start_ (n := 14) (S := fun w' => w'.cell? ⟨gF, 0, none⟩ = some (.int .i64 gL) ∧ w'.cell? ⟨gF, 1, none⟩ = some (.int .i64 gZ) ∧ w'.cell? ⟨gF, 2, none⟩ = some (.slice (some jA) g2.length hW) ∧ w'.cell? jA = some (.int .i64 ((rd_T25 g2 0).f0)) ∧ w'.cell? ⟨jA.block, jA.off + 1, none⟩ = some (.int .i64 ((rd_T25 g2 0).f1)) ∧ w'.cell? ⟨jA.block, jA.off + 2, none⟩ = some (.slice kE ((rd_T25 g2 0).f2).length kF)) (ds := []) #[ff,ff,ff,ff,ff,ff,ff,ff,ff,ff,ff,ff,ff,ff] (by kernel_rfl) rfl rfl ⟨(blk_cell g0.1 0).trans rfl, (blk_cell g0.1 1).trans rfl, (blk_cell g0.1 2).trans rfl, ((HB.1.cell (World.block_lt_of_cell? w _ gV)).trans gV), ((HB.1.cell (World.block_lt_of_cell? w _ gU)).trans gU), ((HB.1.cell (World.block_lt_of_cell? w _ gT)).trans gT)⟩ (fun hHeld => ?_); refine with_tabW spec_l17Pass.tab9 spec_l17Pass.bits9 (fun HT_ HW_ => ?_)
      generalize w34.drew = w37 at g0 g1 HB k4 i4 i5 i6 hHeld ⊢
      refine pu (i := 0) (N := some 30) #[tt,ff,ff,ff,ff,ff,ff,ff,ff,ff,ff,ff,ff,ff] HT_ ?_
      refine pu (i := 2) (N := some 32) #[tt,ff,tt,ff,ff,ff,ff,ff,ff,ff,ff,ff,ff,ff] HT_ ?_
      refine pu (i := 5) (N := some 35) #[tt,ff,tt,ff,ff,tt,ff,ff,ff,ff,ff,ff,ff,ff] HT_ ?_
      refine tk (i := 1) (N := some 31) #[tt,tt,tt,ff,ff,tt,ff,ff,ff,ff,ff,ff,ff,ff] HT_ HW_ hHeld ?_
      refine tk (i := 3) (N := some 33) #[tt,tt,tt,tt,ff,tt,ff,ff,ff,ff,ff,ff,ff,ff] HT_ HW_ hHeld ?_
      refine pu (i := 4) (N := some 34) #[tt,tt,tt,tt,tt,tt,ff,ff,ff,ff,ff,ff,ff,ff] HT_ ?_
      refine tk (i := 6) (N := some 36) #[tt,tt,tt,tt,tt,tt,tt,ff,ff,ff,ff,ff,ff,ff] HT_ HW_ hHeld ?_
      refine pu (i := 7) (N := some 37) #[tt,tt,tt,tt,tt,tt,tt,tt,ff,ff,ff,ff,ff,ff] HT_ ?_
      refine tk (i := 8) (N := some 38) #[tt,tt,tt,tt,tt,tt,tt,tt,tt,ff,ff,ff,ff,ff] HT_ HW_ hHeld ?_
      refine on (i := 9) (N := some 39) #[tt,tt,tt,tt,tt,tt,tt,tt,tt,tt,ff,ff,ff,ff] HT_ (fun K hK => ?_)
      refine goes_ Try.func51 (by kernel_rfl) rfl #[.agg #[.int .i64 ((rd_T25 g2 0).f0), .int .i64 ((rd_T25 g2 0).f1), .slice kE ((rd_T25 g2 0).f2).length kF]] (by rfl) rfl rfl (by (try simp only [List.map_toArray, List.map_cons, List.map_nil]); first | done | rfl | (simp only [List.length_drop, List.length_take]; rfl)) ?_
      with_reducible refine (spec_l17Copy.calls k ((rd_T25 g2 0).f0) ((rd_T25 g2 0).f1) _ _ ((rd_T25 g2 0).f2) jN jO jP _ ?side1 ?side2 A32.1).mono ?_
      (case side1 => exact cq (Kd.C_below k4.1 HB.1))
      (case side2 => exact kR.1)
      rintro e w38 ⟨vI, rfl, ho0, hb⟩
      refine ⟨_, rfl, ?_⟩
      have k5 := nm HB (Kd.R_N (Kd.R_bound ho0)) (fun k_ => (w.heap.size ≤ k_) ∧ k_ ≠ gF ∧ k_ ≠ g5) (fun k_ hk_ => ⟨(zt HB hk_.2.1), (fb g0 k_ hk_.2.1), (fb g1 k_ hk_.2.1)⟩); replace g0 := kb g0 hb; replace g1 := kb g1 hb; replace HB := bs HB hb; (try clear hb); (try clear hb2); (try clear hk); (try clear hi); (try clear ho0)
      obtain ⟨lY, lZ, m0⟩ := Kd.N_slice k5.1
      (first | subst m0 | (injection m0 with f1_ f2_ f3_; have f4_ := f1_.symm; have f5_ := f3_.symm; clear f1_ f2_ f3_; subst f4_; subst f5_))
      refine hK.out _ _ ⟨(blk_cell g0.1 0).trans rfl, (blk_cell g0.1 1).trans rfl, (blk_cell g0.1 2).trans rfl, ((HB.1.cell (World.block_lt_of_cell? w _ gV)).trans gV), ((HB.1.cell (World.block_lt_of_cell? w _ gU)).trans gU), ((HB.1.cell (World.block_lt_of_cell? w _ gT)).trans gT)⟩ (fun hHeld => ?_)
      clear hK K
      refine norm_ (a' := ?_) ?_ ?_
      rotate_left
      ·
       show Act.put _ (some 39) _ = _
       simp only [Act.put, List.setIfInBounds_toArray, List.set_cons_zero, List.set_cons_succ, i64_w, i32_w]
       rfl
      refine on (i := 10) (N := some 40) #[tt,tt,tt,tt,tt,tt,tt,tt,tt,tt,tt,ff,ff,ff] HT_ (fun K hK => ?_)
      refine Kd.N_lit_step k25 _ 25 ?hg (N' := 40) ?hd (xs := ([(⟨jN, jO, jP⟩ : S25)] : List (S25))) (inner := [.int .i64 jN, .int .i64 jO, .slice lY jP.length lZ]) (ok := (fun k_ => (w.heap.size ≤ k_) ∧ k_ ≠ gF ∧ k_ ≠ g5)) (okp := (fun k_ => (w.heap.size ≤ k_) ∧ k_ ≠ gF ∧ k_ ≠ g5)) ?hr ?hp (fun _ hk => hk) ((show ∀ k_, w38.heap.size ≤ k_ → (fun k_ => (w.heap.size ≤ k_) ∧ k_ ≠ gF ∧ k_ ≠ g5) k_ from fun k_ hk => ⟨(zt HB hk), Kd.freshB (g := gF) (o := .cells #[.int .i64 gL, .int .i64 gZ, .slice (some jA) g2.length hW] 25 (0, 0)) (kf g0).1 k_ hk, Kd.freshB (g := g5) (o := .cells #[.int .i64 0, .int .i64 0, .slice none 0 0] 25 (0, 0)) (kf g1).1 k_ hk⟩) _ (Nat.le_refl _)) (Below.refl _ _) (Nat.le_refl _) (by simp) ?_; (case hd => rfl); (case hg => rfl); (case hr => first | (go_simp; done) | (go_simp; rfl)); (case hp => exact (Reps.c3 (show Kd.FK k25 _ _ (⟨jN, jO, jP⟩ : S25) [.int .i64 jN, .int .i64 jO, .slice lY jP.length lZ] from (k25_mkF _ _ (⟨jN, jO, jP⟩ : S25) (Kd.N_reads' (Kd.N_mono (ok' := (fun k_ => (w.heap.size ≤ k_) ∧ k_ ≠ gF ∧ k_ ≠ g5)) (k5.1) mq)).2.1 (Kd.N_F (Kd.N_mono (ok' := (fun k_ => (w.heap.size ≤ k_) ∧ k_ ≠ gF ∧ k_ ≠ g5)) (k5.1) mq)))) (Reps.none _ _)))
      intro vJ w40 kG hb hg_ hnew_
      clear hg_ hnew_
      (first | rw [← l7.1] at kG | (simp only [Int.reduceToNat] at kG; rw [← l7.1] at kG))
      have n0_ := am (Kd.N_lower kG (below_size bq)); have n1_ := kb g0 hb; have n2_ := kb g1 hb; have n3_ := bs HB hb; clear g0 g1 HB k5; have l8 := n0_; have g0 := n1_; have g1 := n2_; have HB := n3_; clear n0_ n1_ n2_ n3_ hb kG
      obtain ⟨m1, m2, m3⟩ := Kd.N_slice l8.1
      (first | subst m3 | (injection m3 with f1_ f2_ f3_; have f4_ := f1_.symm; have f5_ := f3_.symm; clear f1_ f2_ f3_; subst f4_; subst f5_))
      refine hK.out _ _ ⟨(blk_cell g0.1 0).trans rfl, (blk_cell g0.1 1).trans rfl, (blk_cell g0.1 2).trans rfl, ((HB.1.cell (World.block_lt_of_cell? w _ gV)).trans gV), ((HB.1.cell (World.block_lt_of_cell? w _ gU)).trans gU), ((HB.1.cell (World.block_lt_of_cell? w _ gT)).trans gT)⟩ (fun hHeld => ?_)
      clear hK K
      refine norm_ (a' := ?_) ?_ ?_
      rotate_left
      ·
       show Act.put _ (some 40) _ = _
       simp only [Act.put, List.setIfInBounds_toArray, List.set_cons_zero, List.set_cons_succ, i64_w, i32_w]
       rfl
      refine pu (i := 11) (N := some 41) #[tt,tt,tt,tt,tt,tt,tt,tt,tt,tt,tt,tt,ff,ff] HT_ ?_
      refine on (i := 12) (N := none) #[tt,tt,tt,tt,tt,tt,tt,tt,tt,tt,tt,tt,tt,ff] HT_ (fun K hK => ?_)
      have vK : w40.cell? ⟨g5, 0, none⟩ = some (.int .i64 0) := (blk_cell g1.1 0).trans rfl
      have uI := blk_frozen g1.1 0
      have qN := g8.1
      have qO := gI.1
      have vL : w40.cell? ⟨g5, 1, none⟩ = some (.int .i64 0) := (blk_cell g1.1 1).trans rfl
      have uJ := blk_frozen g1.1 1
      have qP := g8.1
      have qQ := gI.1
      have vM : w40.cell? ⟨g5, 2, none⟩ = some (.slice none 0 0) := (blk_cell g1.1 2).trans rfl
      have uK := blk_frozen g1.1 2
      have qR := g8.1
      have qS := gI.1
      refine skip_ (w1 := ?_) (by rfl) rfl ?_ ?_
      rotate_left
      ·
       go_simp
       rfl
      refine hK.out _ _ ⟨((cell_far (p := ⟨g5, _, none⟩) g8.1 _).trans (((cell_far (p := ⟨g5, _, none⟩) g8.1 _).trans (((cell_far (p := ⟨g5, _, none⟩) g8.1 _).trans (hHeld.1)))))), ((cell_far (p := ⟨g5, _, none⟩) g8.1 _).trans (((cell_far (p := ⟨g5, _, none⟩) g8.1 _).trans (((cell_far (p := ⟨g5, _, none⟩) g8.1 _).trans (hHeld.2.1)))))), ((cell_far (p := ⟨g5, _, none⟩) g8.1 _).trans (((cell_far (p := ⟨g5, _, none⟩) g8.1 _).trans (((cell_far (p := ⟨g5, _, none⟩) g8.1 _).trans (hHeld.2.2.1)))))), ((cell_far (p := ⟨g5, _, none⟩) (by first | exact Nat.ne_of_lt (Nat.lt_of_lt_of_le (by have := World.block_lt_of_cell? _ _ gV; first | rwa [add_block] at this | exact this) gP.1) | (rw [add_block]; exact Nat.ne_of_lt (Nat.lt_of_lt_of_le (by have := World.block_lt_of_cell? _ _ gV; first | rwa [add_block] at this | exact this) gP.1)) | (show (Addr.add _ _).block ≠ _; rw [add_block]; exact Nat.ne_of_lt (Nat.lt_of_lt_of_le (by have := World.block_lt_of_cell? _ _ gV; first | rwa [add_block] at this | exact this) gP.1)) | (dsimp only; exact Nat.ne_of_lt (Nat.lt_of_lt_of_le (by have := World.block_lt_of_cell? _ _ gV; first | rwa [add_block] at this | exact this) gP.1))) _).trans (((cell_far (p := ⟨g5, _, none⟩) (by first | exact Nat.ne_of_lt (Nat.lt_of_lt_of_le (by have := World.block_lt_of_cell? _ _ gV; first | rwa [add_block] at this | exact this) gP.1) | (rw [add_block]; exact Nat.ne_of_lt (Nat.lt_of_lt_of_le (by have := World.block_lt_of_cell? _ _ gV; first | rwa [add_block] at this | exact this) gP.1)) | (show (Addr.add _ _).block ≠ _; rw [add_block]; exact Nat.ne_of_lt (Nat.lt_of_lt_of_le (by have := World.block_lt_of_cell? _ _ gV; first | rwa [add_block] at this | exact this) gP.1)) | (dsimp only; exact Nat.ne_of_lt (Nat.lt_of_lt_of_le (by have := World.block_lt_of_cell? _ _ gV; first | rwa [add_block] at this | exact this) gP.1))) _).trans (((cell_far (p := ⟨g5, _, none⟩) (by first | exact Nat.ne_of_lt (Nat.lt_of_lt_of_le (by have := World.block_lt_of_cell? _ _ gV; first | rwa [add_block] at this | exact this) gP.1) | (rw [add_block]; exact Nat.ne_of_lt (Nat.lt_of_lt_of_le (by have := World.block_lt_of_cell? _ _ gV; first | rwa [add_block] at this | exact this) gP.1)) | (show (Addr.add _ _).block ≠ _; rw [add_block]; exact Nat.ne_of_lt (Nat.lt_of_lt_of_le (by have := World.block_lt_of_cell? _ _ gV; first | rwa [add_block] at this | exact this) gP.1)) | (dsimp only; exact Nat.ne_of_lt (Nat.lt_of_lt_of_le (by have := World.block_lt_of_cell? _ _ gV; first | rwa [add_block] at this | exact this) gP.1))) _).trans (hHeld.2.2.2.1)))))), ((cell_far (p := ⟨g5, _, none⟩) (by first | exact Nat.ne_of_lt (Nat.lt_of_lt_of_le (by have := World.block_lt_of_cell? _ _ gU; first | rwa [add_block] at this | exact this) gP.1) | (rw [add_block]; exact Nat.ne_of_lt (Nat.lt_of_lt_of_le (by have := World.block_lt_of_cell? _ _ gU; first | rwa [add_block] at this | exact this) gP.1)) | (show (Addr.add _ _).block ≠ _; rw [add_block]; exact Nat.ne_of_lt (Nat.lt_of_lt_of_le (by have := World.block_lt_of_cell? _ _ gU; first | rwa [add_block] at this | exact this) gP.1)) | (dsimp only; exact Nat.ne_of_lt (Nat.lt_of_lt_of_le (by have := World.block_lt_of_cell? _ _ gU; first | rwa [add_block] at this | exact this) gP.1))) _).trans (((cell_far (p := ⟨g5, _, none⟩) (by first | exact Nat.ne_of_lt (Nat.lt_of_lt_of_le (by have := World.block_lt_of_cell? _ _ gU; first | rwa [add_block] at this | exact this) gP.1) | (rw [add_block]; exact Nat.ne_of_lt (Nat.lt_of_lt_of_le (by have := World.block_lt_of_cell? _ _ gU; first | rwa [add_block] at this | exact this) gP.1)) | (show (Addr.add _ _).block ≠ _; rw [add_block]; exact Nat.ne_of_lt (Nat.lt_of_lt_of_le (by have := World.block_lt_of_cell? _ _ gU; first | rwa [add_block] at this | exact this) gP.1)) | (dsimp only; exact Nat.ne_of_lt (Nat.lt_of_lt_of_le (by have := World.block_lt_of_cell? _ _ gU; first | rwa [add_block] at this | exact this) gP.1))) _).trans (((cell_far (p := ⟨g5, _, none⟩) (by first | exact Nat.ne_of_lt (Nat.lt_of_lt_of_le (by have := World.block_lt_of_cell? _ _ gU; first | rwa [add_block] at this | exact this) gP.1) | (rw [add_block]; exact Nat.ne_of_lt (Nat.lt_of_lt_of_le (by have := World.block_lt_of_cell? _ _ gU; first | rwa [add_block] at this | exact this) gP.1)) | (show (Addr.add _ _).block ≠ _; rw [add_block]; exact Nat.ne_of_lt (Nat.lt_of_lt_of_le (by have := World.block_lt_of_cell? _ _ gU; first | rwa [add_block] at this | exact this) gP.1)) | (dsimp only; exact Nat.ne_of_lt (Nat.lt_of_lt_of_le (by have := World.block_lt_of_cell? _ _ gU; first | rwa [add_block] at this | exact this) gP.1))) _).trans (hHeld.2.2.2.2.1)))))), ((cell_far (p := ⟨g5, _, none⟩) (by first | exact Nat.ne_of_lt (Nat.lt_of_lt_of_le (by have := World.block_lt_of_cell? _ _ gT; first | rwa [add_block] at this | exact this) gP.1) | (rw [add_block]; exact Nat.ne_of_lt (Nat.lt_of_lt_of_le (by have := World.block_lt_of_cell? _ _ gT; first | rwa [add_block] at this | exact this) gP.1)) | (show (Addr.add _ _).block ≠ _; rw [add_block]; exact Nat.ne_of_lt (Nat.lt_of_lt_of_le (by have := World.block_lt_of_cell? _ _ gT; first | rwa [add_block] at this | exact this) gP.1)) | (dsimp only; exact Nat.ne_of_lt (Nat.lt_of_lt_of_le (by have := World.block_lt_of_cell? _ _ gT; first | rwa [add_block] at this | exact this) gP.1))) _).trans (((cell_far (p := ⟨g5, _, none⟩) (by first | exact Nat.ne_of_lt (Nat.lt_of_lt_of_le (by have := World.block_lt_of_cell? _ _ gT; first | rwa [add_block] at this | exact this) gP.1) | (rw [add_block]; exact Nat.ne_of_lt (Nat.lt_of_lt_of_le (by have := World.block_lt_of_cell? _ _ gT; first | rwa [add_block] at this | exact this) gP.1)) | (show (Addr.add _ _).block ≠ _; rw [add_block]; exact Nat.ne_of_lt (Nat.lt_of_lt_of_le (by have := World.block_lt_of_cell? _ _ gT; first | rwa [add_block] at this | exact this) gP.1)) | (dsimp only; exact Nat.ne_of_lt (Nat.lt_of_lt_of_le (by have := World.block_lt_of_cell? _ _ gT; first | rwa [add_block] at this | exact this) gP.1))) _).trans (((cell_far (p := ⟨g5, _, none⟩) (by first | exact Nat.ne_of_lt (Nat.lt_of_lt_of_le (by have := World.block_lt_of_cell? _ _ gT; first | rwa [add_block] at this | exact this) gP.1) | (rw [add_block]; exact Nat.ne_of_lt (Nat.lt_of_lt_of_le (by have := World.block_lt_of_cell? _ _ gT; first | rwa [add_block] at this | exact this) gP.1)) | (show (Addr.add _ _).block ≠ _; rw [add_block]; exact Nat.ne_of_lt (Nat.lt_of_lt_of_le (by have := World.block_lt_of_cell? _ _ gT; first | rwa [add_block] at this | exact this) gP.1)) | (dsimp only; exact Nat.ne_of_lt (Nat.lt_of_lt_of_le (by have := World.block_lt_of_cell? _ _ gT; first | rwa [add_block] at this | exact this) gP.1))) _).trans (hHeld.2.2.2.2.2))))))⟩ (fun hHeld => ?_)
      clear hK K
      refine pu (i := 13) (N := some 3) #[tt,tt,tt,tt,tt,tt,tt,tt,tt,tt,tt,tt,tt,tt] HT_ ?_
      refine done_ (done_of HT_.1 (by kernel_rfl)) ?_
      try go_wp2
      refine bodyPost_ret (results_ct rfl _ _ g5 25 #[.int .i64 gL, .int .i64 (wrap64 (gZ - 1)), .slice m1 lK.length m2] (0, 0) _ rfl (kf g1).1 Try.underlying25 rfl (by kernel_rfl)) rfl ?_
      exact ⟨_, by first | rfl | (simp [errW_none, errW_some] <;> rfl) | (simp [*, errW_none, errW_some] <;> rfl), by (with_reducible repeat (first | apply Kd.N_alloc | apply Kd.N_drewN | apply Kd.N_drew)); exact Kd.N_mono (Kd.N_far (p := ⟨g5, 2, none⟩) (Kd.N_far (p := ⟨g5, 1, none⟩) (Kd.N_far (p := ⟨g5, 0, none⟩) (Kd.N_mono l8.1 (fun k_ hk => (⟨hk, hk.2.2⟩ : _ ∧ k_ ≠ g5))) mq (.int .i64 gL)) mq (.int .i64 (wrap64 (gZ - 1)))) mq (.slice m1 lK.length m2)) mq, by repeat (first | (with_reducible first | exact HB.1 | apply below_alloc | apply pw_below_drewN | apply below_drew1 | refine below_set ?_ hU.1 | refine below_set ?_ hV.1) | exact HB.1)⟩
     ·
      rw [if_neg c31] at H
      exact absurd H (by simp)
   ·
    rw [if_neg c20] at H; have c20b0 : (gL == 2) = false := beq_eq_false_iff_ne.mpr c20; have c20b1 : (gL != 2) = true := bne_iff_ne.mpr c20
    by_cases c46 : 0 < (g2.length : Int)
    ·
     rw [if_pos c46] at H; have c46b0 : decide (0 < (g2.length : Int)) = true := decide_eq_true c46; have c46b1 : decide (0 < g2.length) = true := decide_eq_true (by omega); clear c46
     replace H := Option.bind_eq_some_iff.mp H
     obtain ⟨⟨gW, gX, gQ, lN⟩, m4, H⟩ := H
     replace H : (if 1 < (g2.length : Int) then ((spec_l17Pass.f k ((rd_T25 g2 1).f0) ((rd_T25 g2 1).f1) ((rd_T25 g2 1).f2)).bind fun i1 => (if lN = true then (if i1.2.2.2 = true then (if gL = 4 then ((spec_l17Meet.f k ((rd_T25 g2 0).f0) ((rd_T25 g2 0).f1) ((rd_T25 g2 0).f2) ((rd_T25 g2 1).f0) ((rd_T25 g2 1).f1) ((rd_T25 g2 1).f2)).bind fun j8 => (if j8 = true then (some (0, 0, ([] : List (S25)), false)) else ((spec_l17Two.f gL gW gX gQ i1.1 i1.2.1 i1.2.2.1).bind fun gY => (some (gY.1, gY.2.1, gY.2.2, true))))) else ((spec_l17Two.f gL gW gX gQ i1.1 i1.2.1 i1.2.2.1).bind fun hR => (some (hR.1, hR.2.1, hR.2.2, true)))) else (some (0, 0, ([] : List (S25)), false))) else (some (0, 0, ([] : List (S25)), false)))) else (none)) = some (r1, r2, r3, r4) := H
     have A47 := am m4
     clear m4
     by_cases c48 : 1 < (g2.length : Int)
     ·
      rw [if_pos c48] at H; have c48b0 : decide (1 < (g2.length : Int)) = true := decide_eq_true c48; have c48b1 : decide (1 < g2.length) = true := decide_eq_true (by omega); clear c48
      replace H := Option.bind_eq_some_iff.mp H
      obtain ⟨⟨gR, gS, gJ, kS⟩, m5, H⟩ := H
      replace H : (if lN = true then (if kS = true then (if gL = 4 then ((spec_l17Meet.f k ((rd_T25 g2 0).f0) ((rd_T25 g2 0).f1) ((rd_T25 g2 0).f2) ((rd_T25 g2 1).f0) ((rd_T25 g2 1).f1) ((rd_T25 g2 1).f2)).bind fun j8 => (if j8 = true then (some (0, 0, ([] : List (S25)), false)) else ((spec_l17Two.f gL gW gX gQ gR gS gJ).bind fun gY => (some (gY.1, gY.2.1, gY.2.2, true))))) else ((spec_l17Two.f gL gW gX gQ gR gS gJ).bind fun hR => (some (hR.1, hR.2.1, hR.2.2, true)))) else (some (0, 0, ([] : List (S25)), false))) else (some (0, 0, ([] : List (S25)), false))) = some (r1, r2, r3, r4) := H
      have A49 := am m5
      clear m5
      by_cases c50 : lN = true
      ·
       subst c50
       have H1 : (if kS = true then (if gL = 4 then ((spec_l17Meet.f k ((rd_T25 g2 0).f0) ((rd_T25 g2 0).f1) ((rd_T25 g2 0).f2) ((rd_T25 g2 1).f0) ((rd_T25 g2 1).f1) ((rd_T25 g2 1).f2)).bind fun j8 => (if j8 = true then (some (0, 0, ([] : List (S25)), false)) else ((spec_l17Two.f gL gW gX gQ gR gS gJ).bind fun gY => (some (gY.1, gY.2.1, gY.2.2, true))))) else ((spec_l17Two.f gL gW gX gQ gR gS gJ).bind fun hR => (some (hR.1, hR.2.1, hR.2.2, true)))) else (some (0, 0, ([] : List (S25)), false))) = some (r1, r2, r3, r4) := by rw [if_pos rfl] at H; exact H
       clear H
       have H := H1
       clear H1
       by_cases c51 : kS = true
       ·
        subst c51
        have H1 : (if gL = 4 then ((spec_l17Meet.f k ((rd_T25 g2 0).f0) ((rd_T25 g2 0).f1) ((rd_T25 g2 0).f2) ((rd_T25 g2 1).f0) ((rd_T25 g2 1).f1) ((rd_T25 g2 1).f2)).bind fun j8 => (if j8 = true then (some (0, 0, ([] : List (S25)), false)) else ((spec_l17Two.f gL gW gX gQ gR gS gJ).bind fun gY => (some (gY.1, gY.2.1, gY.2.2, true))))) else ((spec_l17Two.f gL gW gX gQ gR gS gJ).bind fun hR => (some (hR.1, hR.2.1, hR.2.2, true)))) = some (r1, r2, r3, r4) := by rw [if_pos rfl] at H; exact H
        clear H
        have H := H1
        clear H1
        by_cases c52 : gL = 4
        ·
         rw [if_pos c52] at H; have c52b0 : (gL == 4) = true := beq_iff_eq.mpr c52; have c52b1 : (gL != 4) = false := bne_eq_false_iff_eq.mpr c52; clear c52
         replace H := Option.bind_eq_some_iff.mp H
         obtain ⟨j8, m6, H⟩ := H
         replace H : (if j8 = true then (some (0, 0, ([] : List (S25)), false)) else ((spec_l17Two.f gL gW gX gQ gR gS gJ).bind fun gY => (some (gY.1, gY.2.1, gY.2.2, true)))) = some (r1, r2, r3, r4) := H
         have A53 := am m6
         clear m6
         by_cases c54 : j8 = true
         ·
          subst c54
          have H1 : (some (0, 0, ([] : List (S25)), false)) = some (r1, r2, r3, r4) := by rw [if_pos rfl] at H; exact H
          clear H
          have H := H1
          clear H1
          simp only [Option.some.injEq, Prod.mk.injEq] at H
          obtain ⟨rfl, rfl, rfl, rfl⟩ := H
          go_enter Try.func47, Try.ntmps47
          try go_wp2_with (first | ((with_reducible refine gate_dst (N := 1) rfl ?_); refine bx (cs := #[.int .i64 gL, .int .i64 gZ, .slice iL g2.length hW]) (t := 25) fun gF hg w55 hbox hb => ?_; have g0 := am (hbox); have j3 := bz HB hg; have hU := bz HB hg; replace HB := bs HB hb; clear hb hbox hg) | ((with_reducible refine gate_dst (N := 2) rfl ?_); refine bx (cs := #[.int .i64 0, .int .i64 0, .slice none 0 0]) (t := 25) fun g5 hg w56 hbox hb => ?_; have g1 := am (hbox); have gP := bz HB hg; have hV := bz HB hg; replace HB := bs HB hb; have g8 := nl g0 hg; have gI := ng g0 hg; replace g0 := kb g0 hb; clear hb hbox hg; have uL := g8.1; have uM := gI.1; obtain ⟨qT, qU, qV, qW, qX, qY⟩ := cs3 g0; have i7 : 0 ≤ (0 : Int) := (by omega); have i8 : 0 < (g2.length : Int) := od; obtain ⟨gH, i9, iA, jJ, gM, gN, gO, hC, hD⟩ := at_T25 hT.1 0 i7 i8; cases jJ; have k6 : (0 < g2.length) = True := eq_true (by omega); (try rw [tz] at gM); (try rw [z3] at gM); (try rw [Addr.add_zero'] at gM); (try rw [tz] at gN); (try rw [z3] at gN); (try rw [Addr.add_zero'] at gN); (try rw [tz] at gO); (try rw [z3] at gO); (try rw [Addr.add_zero'] at gO); replace gM := hc HB gM; replace gN := hc HB gN; replace gO := hc HB gO; have hX := am hD; have hY := am hC; clear hD hC; replace i7 := eq_true i7; replace i8 := eq_true i8) | ((with_reducible refine gate_callee (f := 47) rfl ?_); refine gl (some 47) Try.func47 #[.agg #[.int .i64 ((rd_T25 g2 0).f0), .int .i64 ((rd_T25 g2 0).f1), .slice i9 ((rd_T25 g2 0).f2).length iA]] ?_; (with_reducible refine (ih k (by omega) ((rd_T25 g2 0).f0) ((rd_T25 g2 0).f1) _ _ ((rd_T25 g2 0).f2) gW gX gQ true _ ?side1 ?side2 A47.1).mono ?_); (case side1 => exact cq (Kd.C_below hX.1 HB.1)); (case side2 => exact hY.1); rintro e w59 ⟨kT, rfl, ho0, hb⟩; refine ⟨_, rfl, ?_⟩; have gE := nm HB ho0 (fun k_ => (w.heap.size ≤ k_) ∧ k_ ≠ gF ∧ k_ ≠ g5) (fun k_ hk_ => ⟨(zt HB hk_), (fb g0 k_ hk_), (fb g1 k_ hk_)⟩); replace g0 := kb g0 hb; replace g1 := kb g1 hb; replace HB := bs HB hb; clear hb ho0) | ((with_reducible refine gate_dst (N := 4) rfl ?_); refine bx (cs := #[.int .i64 0, .int .i64 0, .slice none 0 0]) (t := 25) fun gC hg w60 hbox hb => ?_; replace gE := nb gE hg hb; have gD := am (hbox); have hS := bz HB hg; have iP := bz HB hg; replace HB := bs HB hb; have hG := nl g0 hg; have hH := ng g0 hg; replace g0 := kb g0 hb; have hI := nl g1 hg; have hJ := ng g1 hg; replace g1 := kb g1 hb; clear hb hbox hg; have uN := hH.1; have uO := hG.1; have uP := hJ.1; have uQ := hI.1; obtain ⟨qZ, r0, r5, r6, r7, r8⟩ := cs3 gD; obtain ⟨jR, jS, rfl⟩ := Kd.N_slice gE.1; obtain ⟨r9, rA, rB, rC, rD, rE⟩ := cs3 g0; have iB : 0 ≤ (1 : Int) := (by omega); have iC : 1 < (g2.length : Int) := od; obtain ⟨iQ, iD, iE, jK, g4, g6, g7, hE, hF⟩ := at_T25 hT.1 1 iB iC; obtain rfl : gH = iQ := (by injection jK); (try simp only [show (1 : Int).toNat = 1 from rfl, Nat.reduceMul, Nat.reduceEqDiff, Go.Addr.add, ↓reduceIte] at g4); (try simp only [show (1 : Int).toNat = 1 from rfl, Nat.reduceMul, Nat.reduceEqDiff, Go.Addr.add, ↓reduceIte] at g6); (try simp only [show (1 : Int).toNat = 1 from rfl, Nat.reduceMul, Nat.reduceEqDiff, Go.Addr.add, ↓reduceIte] at g7); have k7 : (1 < g2.length) = True := eq_true (by omega); (try rw [show ((1 : Int)).toNat = 1 from rfl] at g4); (try rw [show 1 * 3 = 3 from rfl] at g4); (try rw [show ((1 : Int)).toNat = 1 from rfl] at g6); (try rw [show 1 * 3 = 3 from rfl] at g6); (try rw [show ((1 : Int)).toNat = 1 from rfl] at g7); (try rw [show 1 * 3 = 3 from rfl] at g7); have g9 : gH.block ≠ gC := Nat.ne_of_lt (Nat.lt_of_lt_of_le (by have := World.block_lt_of_cell? _ _ g4; first | rwa [add_block] at this | exact this) hS.1); have gA : gH.block ≠ gC := Nat.ne_of_lt (Nat.lt_of_lt_of_le (by have := World.block_lt_of_cell? _ _ g4; first | rwa [add_block] at this | exact this) hS.1); have gB : gH.block ≠ gC := Nat.ne_of_lt (Nat.lt_of_lt_of_le (by have := World.block_lt_of_cell? _ _ g4; first | rwa [add_block] at this | exact this) hS.1); replace g4 := hc HB g4; replace g6 := hc HB g6; replace g7 := hc HB g7; have hZ := am hF; have i0 := am hE; clear hF hE; replace g4 := (cell_far (p := ⟨gC, 0, none⟩) (by first | (rw [add_block]; exact g9) | (show (Addr.add _ _).block ≠ _; rw [add_block]; exact g9) | exact g9) (.int .i64 gW)).trans g4; replace g6 := (cell_far (p := ⟨gC, 0, none⟩) (by first | (rw [add_block]; exact g9) | (show (Addr.add _ _).block ≠ _; rw [add_block]; exact g9) | exact g9) (.int .i64 gW)).trans g6; replace g7 := (cell_far (p := ⟨gC, 0, none⟩) (by first | (rw [add_block]; exact g9) | (show (Addr.add _ _).block ≠ _; rw [add_block]; exact g9) | exact g9) (.int .i64 gW)).trans g7; replace g4 := (cell_far (p := ⟨gC, 1, none⟩) (by first | (rw [add_block]; exact gA) | (show (Addr.add _ _).block ≠ _; rw [add_block]; exact gA) | exact gA) (.int .i64 gX)).trans g4; replace g6 := (cell_far (p := ⟨gC, 1, none⟩) (by first | (rw [add_block]; exact gA) | (show (Addr.add _ _).block ≠ _; rw [add_block]; exact gA) | exact gA) (.int .i64 gX)).trans g6; replace g7 := (cell_far (p := ⟨gC, 1, none⟩) (by first | (rw [add_block]; exact gA) | (show (Addr.add _ _).block ≠ _; rw [add_block]; exact gA) | exact gA) (.int .i64 gX)).trans g7; replace g4 := (cell_far (p := ⟨gC, 2, none⟩) (by first | (rw [add_block]; exact gB) | (show (Addr.add _ _).block ≠ _; rw [add_block]; exact gB) | exact gB) (.slice jR gQ.length jS)).trans g4; replace g6 := (cell_far (p := ⟨gC, 2, none⟩) (by first | (rw [add_block]; exact gB) | (show (Addr.add _ _).block ≠ _; rw [add_block]; exact gB) | exact gB) (.slice jR gQ.length jS)).trans g6; replace g7 := (cell_far (p := ⟨gC, 2, none⟩) (by first | (rw [add_block]; exact gB) | (show (Addr.add _ _).block ≠ _; rw [add_block]; exact gB) | exact gB) (.slice jR gQ.length jS)).trans g7; clear g9 gA gB; replace iB := eq_true iB; replace iC := eq_true iC) | ((with_reducible refine gate_callee (f := 47) rfl ?_); refine gl (some 55) Try.func47 #[.agg #[.int .i64 ((rd_T25 g2 1).f0), .int .i64 ((rd_T25 g2 1).f1), .slice iD ((rd_T25 g2 1).f2).length iE]] ?_; (with_reducible refine (ih k (by omega) ((rd_T25 g2 1).f0) ((rd_T25 g2 1).f1) _ _ ((rd_T25 g2 1).f2) gR gS gJ true _ ?side1 ?side2 A49.1).mono ?_); (case side1 => exact Kd.C_below hZ.1 bq); (case side2 => exact i0.1); rintro e w66 ⟨kU, rfl, ho0, hb⟩; refine ⟨_, rfl, ?_⟩; have gG := nm HB ho0 (fun k_ => (w.heap.size ≤ k_) ∧ some k_ ≠ (.slice jR gQ.length jS : Value).ownBlock ∧ k_ ≠ gF ∧ k_ ≠ g5 ∧ k_ ≠ gC) (fun k_ hk_ => ⟨(zt HB hk_), (fr gE k_ hk_), (fb g0 k_ hk_), (fb g1 k_ hk_), (fb gD k_ hk_)⟩); replace gE := ne gE hb; replace g0 := kb g0 hb; replace g1 := kb g1 hb; replace gD := kc gD hb #[.int .i64 gW, .int .i64 gX, .slice jR gQ.length jS]; replace HB := bs HB hb; clear hb ho0) | ((with_reducible refine gate_dst (N := 6) rfl ?_); refine bx (cs := #[.int .i64 0, .int .i64 0, .slice none 0 0]) (t := 25) fun g3 hg w67 hbox hb => ?_; replace gE := nb gE hg hb; replace gG := nb gG hg hb; have gK := am (hbox); have k8 := bz HB hg; have iR := bz HB hg; replace HB := bs HB hb; have hL := nl g0 hg; have hM := ng g0 hg; replace g0 := kb g0 hb; have hN := nl g1 hg; have hO := ng g1 hg; replace g1 := kb g1 hb; have hP := nl gD hg; have hQ := ng gD hg; replace gD := kb gD hb; clear hb hbox hg; have uR := hM.1; have uS := hL.1; have uT := hO.1; have uU := hN.1; have uV := hQ.1; have uW := hP.1; obtain ⟨rF, rG, rH, rI, rJ, rK⟩ := cs3 gK; obtain ⟨jB, jC, rfl⟩ := Kd.N_slice gG.1))
          have n0_ : Aside0 (Kd.N k25 25 (((w67.setCell ⟨g3, 0, none⟩ (.int .i64 gR)).setCell ⟨g3, 1, none⟩ (.int .i64 gS)).setCell ⟨g3, 2, none⟩ (.slice jB gJ.length jC)) w.heap.size (fun k_ => (w.heap.size ≤ k_) ∧ some k_ ≠ (.slice jB gJ.length jC : Value).ownBlock ∧ k_ ≠ gF ∧ k_ ≠ g5 ∧ k_ ≠ gC ∧ k_ ≠ g3) (.slice jR gQ.length jS) gQ) := nf gE; have n1_ : Aside0 (Kd.N k25 25 (((w67.setCell ⟨g3, 0, none⟩ (.int .i64 gR)).setCell ⟨g3, 1, none⟩ (.int .i64 gS)).setCell ⟨g3, 2, none⟩ (.slice jB gJ.length jC)) w.heap.size (fun k_ => (w.heap.size ≤ k_) ∧ some k_ ≠ (.slice jR gQ.length jS : Value).ownBlock ∧ k_ ≠ gF ∧ k_ ≠ g5 ∧ k_ ≠ gC ∧ k_ ≠ g3) (.slice jB gJ.length jC) gJ) := nf gG; have n2_ : Aside0 ((((w67.setCell ⟨g3, 0, none⟩ (.int .i64 gR)).setCell ⟨g3, 1, none⟩ (.int .i64 gS)).setCell ⟨g3, 2, none⟩ (.slice jB gJ.length jC)).heap[gF]? = some (.cells #[.int .i64 gL, .int .i64 gZ, .slice (some gH) g2.length hW] 25 (0, 0))) := kf g0; have n3_ : Aside0 ((((w67.setCell ⟨g3, 0, none⟩ (.int .i64 gR)).setCell ⟨g3, 1, none⟩ (.int .i64 gS)).setCell ⟨g3, 2, none⟩ (.slice jB gJ.length jC)).heap[g5]? = some (.cells #[.int .i64 0, .int .i64 0, .slice none 0 0] 25 (0, 0))) := kf g1; have n4_ : Aside0 ((((w67.setCell ⟨g3, 0, none⟩ (.int .i64 gR)).setCell ⟨g3, 1, none⟩ (.int .i64 gS)).setCell ⟨g3, 2, none⟩ (.slice jB gJ.length jC)).heap[gC]? = some (.cells #[.int .i64 gW, .int .i64 gX, .slice jR gQ.length jS] 25 (0, 0))) := kf gD; have n5_ : Aside0 ((((w67.setCell ⟨g3, 0, none⟩ (.int .i64 gR)).setCell ⟨g3, 1, none⟩ (.int .i64 gS)).setCell ⟨g3, 2, none⟩ (.slice jB gJ.length jC)).heap[g3]? = some (.cells #[.int .i64 gR, .int .i64 gS, .slice jB gJ.length jC] 25 (0, 0))) := kf gK; have n6_ : Aside0 (Below w.heap.size w (((w67.setCell ⟨g3, 0, none⟩ (.int .i64 gR)).setCell ⟨g3, 1, none⟩ (.int .i64 gS)).setCell ⟨g3, 2, none⟩ (.slice jB gJ.length jC))) := bw; (try clear gE); (try clear gG); (try clear g0); (try clear g1); (try clear gD); (try clear gK); (try clear HB)
          generalize (((w67.setCell ⟨g3, 0, none⟩ (.int .i64 gR)).setCell ⟨g3, 1, none⟩ (.int .i64 gS)).setCell ⟨g3, 2, none⟩ (.slice jB gJ.length jC)) = w73 at n0_ n1_ n2_ n3_ n4_ n5_ n6_ ⊢
          have gE := n0_; have gG := n1_; have g0 := n2_; have g1 := n3_; have gD := n4_; have gK := n5_; have HB := n6_; clear n0_ n1_ n2_ n3_ n4_ n5_ n6_; replace gE := am (Kd.N_drew gE.1); replace gG := am (Kd.N_drew gG.1); replace g0 := am (blk_drew g0.1); replace g1 := am (blk_drew g1.1); replace gD := am (blk_drew gD.1); replace gK := am (blk_drew gK.1); replace HB := am (below_drew1 HB.1); have jW : 0 ≤ (0 : Int) := (by omega); have jX : 0 < (g2.length : Int) := od
          obtain ⟨kH, jD, jE, lO, h0, h1, h2, iS, iT⟩ := at_T25 hT.1 0 jW jX
          have h3 := h2
          (try rw [tz] at h3)
          (try rw [z3] at h3)
          (try rw [Addr.add_zero'] at h3)
          have h4 := h1
          (try rw [tz] at h4)
          (try rw [z3] at h4)
          (try rw [Addr.add_zero'] at h4)
          have h5 := h0
          (try rw [tz] at h5)
          (try rw [z3] at h5)
          (try rw [Addr.add_zero'] at h5)
          obtain rfl : gH = kH := (by injection lO)
          have m7 : (0 < g2.length) = True := eq_true (by omega)
          (try rw [tz] at h0)
          (try rw [z3] at h0)
          (try rw [Addr.add_zero'] at h0)
          (try rw [tz] at h1)
          (try rw [z3] at h1)
          (try rw [Addr.add_zero'] at h1)
          (try rw [tz] at h2)
          (try rw [z3] at h2)
          (try rw [Addr.add_zero'] at h2)
          replace h0 := hc HB h0; replace h1 := hc HB h1; replace h2 := hc HB h2; have iU := am iT; have jL := am iS; clear iT iS; replace jW := eq_true jW; replace jX := eq_true jX; have jY : 0 ≤ (1 : Int) := (by omega); have jZ : 1 < (g2.length : Int) := od
          obtain ⟨kI, jF, jG, lP, h6, h7, h8, iV, iW⟩ := at_T25 hT.1 1 jY jZ
          have h9 := h8
          (try rw [show ((1 : Int)).toNat = 1 from rfl] at h9)
          (try rw [show 1 * 3 = 3 from rfl] at h9)
          (try simp only [Nat.reduceMul, Nat.reduceEqDiff, Go.Addr.add, ↓reduceIte] at h9)
          have hA := h7
          (try rw [show ((1 : Int)).toNat = 1 from rfl] at hA)
          (try rw [show 1 * 3 = 3 from rfl] at hA)
          (try simp only [Nat.reduceMul, Nat.reduceEqDiff, Go.Addr.add, ↓reduceIte] at hA)
          have hB := h6
          (try rw [show ((1 : Int)).toNat = 1 from rfl] at hB)
          (try rw [show 1 * 3 = 3 from rfl] at hB)
          (try simp only [Nat.reduceMul, Nat.reduceEqDiff, Go.Addr.add, ↓reduceIte] at hB)
          obtain rfl : gH = kI := (by injection lP)
          (try simp only [show (1 : Int).toNat = 1 from rfl, Nat.reduceMul, Nat.reduceEqDiff, Go.Addr.add, ↓reduceIte] at h6)
          (try simp only [show (1 : Int).toNat = 1 from rfl, Nat.reduceMul, Nat.reduceEqDiff, Go.Addr.add, ↓reduceIte] at h7)
          (try simp only [show (1 : Int).toNat = 1 from rfl, Nat.reduceMul, Nat.reduceEqDiff, Go.Addr.add, ↓reduceIte] at h8)
          have m8 : (1 < g2.length) = True := eq_true (by omega)
          (try rw [show ((1 : Int)).toNat = 1 from rfl] at h6)
          (try rw [show 1 * 3 = 3 from rfl] at h6)
          (try rw [show ((1 : Int)).toNat = 1 from rfl] at h7)
          (try rw [show 1 * 3 = 3 from rfl] at h7)
          (try rw [show ((1 : Int)).toNat = 1 from rfl] at h8)
          (try rw [show 1 * 3 = 3 from rfl] at h8)
          replace h6 := hc HB h6; replace h7 := hc HB h7; replace h8 := hc HB h8; have iX := am iW; have jM := am iV; clear iW iV; replace jY := eq_true jY; replace jZ := eq_true jZ
          refine start_ (n := 22) (S := fun w' => w'.cell? ⟨gF, 0, none⟩ = some (.int .i64 gL) ∧ w'.cell? ⟨gF, 1, none⟩ = some (.int .i64 gZ) ∧ w'.cell? ⟨gF, 2, none⟩ = some (.slice (some gH) g2.length hW) ∧ w'.cell? gH = some (.int .i64 ((rd_T25 g2 0).f0)) ∧ w'.cell? ⟨gH.block, gH.off + 1, none⟩ = some (.int .i64 ((rd_T25 g2 0).f1)) ∧ w'.cell? ⟨gH.block, gH.off + 2, none⟩ = some (.slice jD ((rd_T25 g2 0).f2).length jE) ∧ w'.cell? ⟨gH.block, gH.off + 3, none⟩ = some (.int .i64 ((rd_T25 g2 1).f0)) ∧ w'.cell? ⟨gH.block, gH.off + 3 + 1, none⟩ = some (.int .i64 ((rd_T25 g2 1).f1)) ∧ w'.cell? ⟨gH.block, gH.off + 3 + 2, none⟩ = some (.slice jF ((rd_T25 g2 1).f2).length jG)) (ds := []) #[ff,ff,ff,ff,ff,ff,ff,ff,ff,ff,ff,ff,ff,ff,ff,ff,ff,ff,ff,ff,ff,ff] (by kernel_rfl) rfl rfl ⟨(blk_cell g0.1 0).trans rfl, (blk_cell g0.1 1).trans rfl, (blk_cell g0.1 2).trans rfl, ((HB.1.cell (World.block_lt_of_cell? w _ h5)).trans h5), ((HB.1.cell (World.block_lt_of_cell? w _ h4)).trans h4), ((HB.1.cell (World.block_lt_of_cell? w _ h3)).trans h3), ((HB.1.cell (World.block_lt_of_cell? w _ hB)).trans hB), ((HB.1.cell (World.block_lt_of_cell? w _ hA)).trans hA), ((HB.1.cell (World.block_lt_of_cell? w _ h9)).trans h9)⟩ (fun hHeld => ?_); refine with_tabW spec_l17Pass.tab12 spec_l17Pass.bits12 (fun HT_ HW_ => ?_)
          generalize w73.drew = w74 at gE gG g0 g1 gD gK HB iU iX h0 h1 h2 h6 h7 h8 hHeld ⊢
          refine pu (i := 0) (N := some 58) #[tt,ff,ff,ff,ff,ff,ff,ff,ff,ff,ff,ff,ff,ff,ff,ff,ff,ff,ff,ff,ff,ff] HT_ ?_
          refine pu (i := 1) (N := some 59) #[tt,tt,ff,ff,ff,ff,ff,ff,ff,ff,ff,ff,ff,ff,ff,ff,ff,ff,ff,ff,ff,ff] HT_ ?_
          refine pu (i := 2) (N := some 60) #[tt,tt,tt,ff,ff,ff,ff,ff,ff,ff,ff,ff,ff,ff,ff,ff,ff,ff,ff,ff,ff,ff] HT_ ?_
          refine pu (i := 3) (N := some 61) #[tt,tt,tt,tt,ff,ff,ff,ff,ff,ff,ff,ff,ff,ff,ff,ff,ff,ff,ff,ff,ff,ff] HT_ ?_
          refine pu (i := 4) (N := some 62) #[tt,tt,tt,tt,tt,ff,ff,ff,ff,ff,ff,ff,ff,ff,ff,ff,ff,ff,ff,ff,ff,ff] HT_ ?_
          refine pu (i := 5) (N := some 63) #[tt,tt,tt,tt,tt,tt,ff,ff,ff,ff,ff,ff,ff,ff,ff,ff,ff,ff,ff,ff,ff,ff] HT_ ?_
          refine pu (i := 6) (N := some 64) #[tt,tt,tt,tt,tt,tt,tt,ff,ff,ff,ff,ff,ff,ff,ff,ff,ff,ff,ff,ff,ff,ff] HT_ ?_
          refine pu (i := 7) (N := some 65) #[tt,tt,tt,tt,tt,tt,tt,tt,ff,ff,ff,ff,ff,ff,ff,ff,ff,ff,ff,ff,ff,ff] HT_ ?_
          refine tk (i := 8) (N := some 66) #[tt,tt,tt,tt,tt,tt,tt,tt,tt,ff,ff,ff,ff,ff,ff,ff,ff,ff,ff,ff,ff,ff] HT_ HW_ hHeld ?_
          refine pu (i := 9) (N := some 67) #[tt,tt,tt,tt,tt,tt,tt,tt,tt,tt,ff,ff,ff,ff,ff,ff,ff,ff,ff,ff,ff,ff] HT_ ?_
          refine pu (i := 10) (N := some 68) #[tt,tt,tt,tt,tt,tt,tt,tt,tt,tt,tt,ff,ff,ff,ff,ff,ff,ff,ff,ff,ff,ff] HT_ ?_
          refine pu (i := 11) (N := some 69) #[tt,tt,tt,tt,tt,tt,tt,tt,tt,tt,tt,tt,ff,ff,ff,ff,ff,ff,ff,ff,ff,ff] HT_ ?_
          refine pu (i := 15) (N := some 73) #[tt,tt,tt,tt,tt,tt,tt,tt,tt,tt,tt,tt,ff,ff,ff,tt,ff,ff,ff,ff,ff,ff] HT_ ?_
          refine tk (i := 12) (N := some 70) #[tt,tt,tt,tt,tt,tt,tt,tt,tt,tt,tt,tt,tt,ff,ff,tt,ff,ff,ff,ff,ff,ff] HT_ HW_ hHeld ?_
          refine pu (i := 13) (N := some 71) #[tt,tt,tt,tt,tt,tt,tt,tt,tt,tt,tt,tt,tt,tt,ff,tt,ff,ff,ff,ff,ff,ff] HT_ ?_
          refine tk (i := 14) (N := some 72) #[tt,tt,tt,tt,tt,tt,tt,tt,tt,tt,tt,tt,tt,tt,tt,tt,ff,ff,ff,ff,ff,ff] HT_ HW_ hHeld ?_
          refine tk (i := 16) (N := some 74) #[tt,tt,tt,tt,tt,tt,tt,tt,tt,tt,tt,tt,tt,tt,tt,tt,tt,ff,ff,ff,ff,ff] HT_ HW_ hHeld ?_
          refine pu (i := 17) (N := some 75) #[tt,tt,tt,tt,tt,tt,tt,tt,tt,tt,tt,tt,tt,tt,tt,tt,tt,tt,ff,ff,ff,ff] HT_ ?_
          refine tk (i := 18) (N := some 76) #[tt,tt,tt,tt,tt,tt,tt,tt,tt,tt,tt,tt,tt,tt,tt,tt,tt,tt,tt,ff,ff,ff] HT_ HW_ hHeld ?_
          refine on (i := 19) (N := some 77) #[tt,tt,tt,tt,tt,tt,tt,tt,tt,tt,tt,tt,tt,tt,tt,tt,tt,tt,tt,tt,ff,ff] HT_ (fun K hK => ?_)
          refine goes_ Try.func64 (by kernel_rfl) rfl #[.agg #[.int .i64 ((rd_T25 g2 0).f0), .int .i64 ((rd_T25 g2 0).f1), .slice jD ((rd_T25 g2 0).f2).length jE], .agg #[.int .i64 ((rd_T25 g2 1).f0), .int .i64 ((rd_T25 g2 1).f1), .slice jF ((rd_T25 g2 1).f2).length jG]] (by rfl) rfl rfl (by (try simp only [List.map_toArray, List.map_cons, List.map_nil]); first | done | rfl | (simp only [List.length_drop, List.length_take]; rfl)) ?_
          with_reducible refine (spec_l17Meet.calls k ((rd_T25 g2 0).f0) ((rd_T25 g2 0).f1) _ _ ((rd_T25 g2 0).f2) ((rd_T25 g2 1).f0) ((rd_T25 g2 1).f1) _ _ ((rd_T25 g2 1).f2) true _ ?side1 ?side2 ?side3 ?side4 A53.1).mono ?_
          (case side1 => exact cq (Kd.C_below iU.1 HB.1))
          (case side2 => exact jL.1)
          (case side3 => exact cq (Kd.C_below iX.1 HB.1))
          (case side4 => exact jM.1)
          rintro e w75 ⟨rfl, hb⟩
          refine ⟨_, rfl, ?_⟩
          replace gE := nw gE hb; replace gG := nw gG hb; replace g0 := kb g0 hb; replace g1 := kb g1 hb; replace gD := kb gD hb; replace gK := kb gK hb; replace HB := bs HB hb; (try clear hb); (try clear hb2); (try clear hk); (try clear hi)
          refine hK.out _ _ ⟨(blk_cell g0.1 0).trans rfl, (blk_cell g0.1 1).trans rfl, (blk_cell g0.1 2).trans rfl, ((HB.1.cell (World.block_lt_of_cell? w _ h5)).trans h5), ((HB.1.cell (World.block_lt_of_cell? w _ h4)).trans h4), ((HB.1.cell (World.block_lt_of_cell? w _ h3)).trans h3), ((HB.1.cell (World.block_lt_of_cell? w _ hB)).trans hB), ((HB.1.cell (World.block_lt_of_cell? w _ hA)).trans hA), ((HB.1.cell (World.block_lt_of_cell? w _ h9)).trans h9)⟩ (fun hHeld => ?_)
          clear hK K
          refine norm_ (a' := ?_) ?_ ?_
          rotate_left
          ·
           show Act.put _ (some 77) _ = _
           simp only [Act.put, List.setIfInBounds_toArray, List.set_cons_zero, List.set_cons_succ, i64_w, i32_w]
           rfl
          refine pu (i := 20) (N := some 78) #[tt,tt,tt,tt,tt,tt,tt,tt,tt,tt,tt,tt,tt,tt,tt,tt,tt,tt,tt,tt,tt,ff] HT_ ?_
          refine pu (i := 21) (N := some 79) #[tt,tt,tt,tt,tt,tt,tt,tt,tt,tt,tt,tt,tt,tt,tt,tt,tt,tt,tt,tt,tt,tt] HT_ ?_
          refine done_ (done_of HT_.1 (by kernel_rfl)) ?_
          obtain ⟨rL, rM, rN, rO, rP, rQ⟩ := cs3 g1
          try go_wp2
          refine bodyPost_ret (results_ct rfl _ _ g5 25 #[.int .i64 0, .int .i64 0, .slice none 0 0] (0, 0) _ rfl (kf g1).1 Try.underlying25 rfl (by kernel_rfl)) rfl ?_
          exact ⟨_, by first | rfl | (simp [errW_none, errW_some] <;> rfl) | (simp [*, errW_none, errW_some] <;> rfl), by first | exact Kd.R_nil _ _ _ _ _ | exact Kd.N_nil _ _ _ _ _ | exact Kd.V_nil _ _ _ _ _ | exact Kd.Q_nil _ _ _ _ _ | exact Kd.S_nil _ _ _ _ _, by repeat (first | (with_reducible first | exact HB.1 | apply below_alloc | apply pw_below_drewN | apply below_drew1 | refine below_set ?_ hU.1 | refine below_set ?_ hV.1 | refine below_set ?_ iP.1 | refine below_set ?_ iR.1) | exact HB.1)⟩
         ·
          replace c54 := Bool.eq_false_iff.mpr c54
          subst c54
          have H1 : ((spec_l17Two.f gL gW gX gQ gR gS gJ).bind fun gY => (some (gY.1, gY.2.1, gY.2.2, true))) = some (r1, r2, r3, r4) := by rw [if_neg (show ¬ (false = true) by decide)] at H; exact H
          clear H
          have H := H1
          clear H1
          replace H := Option.bind_eq_some_iff.mp H
          obtain ⟨⟨kV, kW, kX⟩, m9, H⟩ := H
          replace H : (some (kV, kW, kX, true)) = some (r1, r2, r3, r4) := H
          have A77 := am m9
          clear m9
          simp only [Option.some.injEq, Prod.mk.injEq] at H
          obtain ⟨rfl, rfl, rfl, rfl⟩ := H
          go_enter Try.func47, Try.ntmps47
          try go_wp2_with (first | ((with_reducible refine gate_dst (N := 1) rfl ?_); refine bx (cs := #[.int .i64 gL, .int .i64 gZ, .slice iL g2.length hW]) (t := 25) fun gF hg w78 hbox hb => ?_; have g0 := am (hbox); have j3 := bz HB hg; have hU := bz HB hg; replace HB := bs HB hb; clear hb hbox hg) | ((with_reducible refine gate_dst (N := 2) rfl ?_); refine bx (cs := #[.int .i64 0, .int .i64 0, .slice none 0 0]) (t := 25) fun g5 hg w79 hbox hb => ?_; have g1 := am (hbox); have gP := bz HB hg; have hV := bz HB hg; replace HB := bs HB hb; have g8 := nl g0 hg; have gI := ng g0 hg; replace g0 := kb g0 hb; clear hb hbox hg; have uX := g8.1; have uY := gI.1; obtain ⟨rR, rS, rT, rU, rV, rW⟩ := cs3 g0; have i7 : 0 ≤ (0 : Int) := (by omega); have i8 : 0 < (g2.length : Int) := od; obtain ⟨gH, i9, iA, jJ, gM, gN, gO, hC, hD⟩ := at_T25 hT.1 0 i7 i8; cases jJ; have k6 : (0 < g2.length) = True := eq_true (by omega); (try rw [tz] at gM); (try rw [z3] at gM); (try rw [Addr.add_zero'] at gM); (try rw [tz] at gN); (try rw [z3] at gN); (try rw [Addr.add_zero'] at gN); (try rw [tz] at gO); (try rw [z3] at gO); (try rw [Addr.add_zero'] at gO); replace gM := hc HB gM; replace gN := hc HB gN; replace gO := hc HB gO; have hX := am hD; have hY := am hC; clear hD hC; replace i7 := eq_true i7; replace i8 := eq_true i8) | ((with_reducible refine gate_callee (f := 47) rfl ?_); refine gl (some 47) Try.func47 #[.agg #[.int .i64 ((rd_T25 g2 0).f0), .int .i64 ((rd_T25 g2 0).f1), .slice i9 ((rd_T25 g2 0).f2).length iA]] ?_; (with_reducible refine (ih k (by omega) ((rd_T25 g2 0).f0) ((rd_T25 g2 0).f1) _ _ ((rd_T25 g2 0).f2) gW gX gQ true _ ?side1 ?side2 A47.1).mono ?_); (case side1 => exact cq (Kd.C_below hX.1 HB.1)); (case side2 => exact hY.1); rintro e w82 ⟨kT, rfl, ho0, hb⟩; refine ⟨_, rfl, ?_⟩; have gE := nm HB ho0 (fun k_ => (w.heap.size ≤ k_) ∧ k_ ≠ gF ∧ k_ ≠ g5) (fun k_ hk_ => ⟨(zt HB hk_), (fb g0 k_ hk_), (fb g1 k_ hk_)⟩); replace g0 := kb g0 hb; replace g1 := kb g1 hb; replace HB := bs HB hb; clear hb ho0) | ((with_reducible refine gate_dst (N := 4) rfl ?_); refine bx (cs := #[.int .i64 0, .int .i64 0, .slice none 0 0]) (t := 25) fun gC hg w83 hbox hb => ?_; replace gE := nb gE hg hb; have gD := am (hbox); have hS := bz HB hg; have iP := bz HB hg; replace HB := bs HB hb; have hG := nl g0 hg; have hH := ng g0 hg; replace g0 := kb g0 hb; have hI := nl g1 hg; have hJ := ng g1 hg; replace g1 := kb g1 hb; clear hb hbox hg; have uZ := hH.1; have v0 := hG.1; have v2 := hJ.1; have v3 := hI.1; obtain ⟨rX, rY, rZ, s3, s4, s5⟩ := cs3 gD; obtain ⟨jH, jI, rfl⟩ := Kd.N_slice gE.1; obtain ⟨s6, s7, s8, s9, sA, sB⟩ := cs3 g0; have iB : 0 ≤ (1 : Int) := (by omega); have iC : 1 < (g2.length : Int) := od; obtain ⟨iQ, iD, iE, jK, g4, g6, g7, hE, hF⟩ := at_T25 hT.1 1 iB iC; obtain rfl : gH = iQ := (by injection jK); (try simp only [show (1 : Int).toNat = 1 from rfl, Nat.reduceMul, Nat.reduceEqDiff, Go.Addr.add, ↓reduceIte] at g4); (try simp only [show (1 : Int).toNat = 1 from rfl, Nat.reduceMul, Nat.reduceEqDiff, Go.Addr.add, ↓reduceIte] at g6); (try simp only [show (1 : Int).toNat = 1 from rfl, Nat.reduceMul, Nat.reduceEqDiff, Go.Addr.add, ↓reduceIte] at g7); have k7 : (1 < g2.length) = True := eq_true (by omega); (try rw [show ((1 : Int)).toNat = 1 from rfl] at g4); (try rw [show 1 * 3 = 3 from rfl] at g4); (try rw [show ((1 : Int)).toNat = 1 from rfl] at g6); (try rw [show 1 * 3 = 3 from rfl] at g6); (try rw [show ((1 : Int)).toNat = 1 from rfl] at g7); (try rw [show 1 * 3 = 3 from rfl] at g7); have g9 : gH.block ≠ gC := Nat.ne_of_lt (Nat.lt_of_lt_of_le (by have := World.block_lt_of_cell? _ _ g4; first | rwa [add_block] at this | exact this) hS.1); have gA : gH.block ≠ gC := Nat.ne_of_lt (Nat.lt_of_lt_of_le (by have := World.block_lt_of_cell? _ _ g4; first | rwa [add_block] at this | exact this) hS.1); have gB : gH.block ≠ gC := Nat.ne_of_lt (Nat.lt_of_lt_of_le (by have := World.block_lt_of_cell? _ _ g4; first | rwa [add_block] at this | exact this) hS.1); replace g4 := hc HB g4; replace g6 := hc HB g6; replace g7 := hc HB g7; have hZ := am hF; have i0 := am hE; clear hF hE; replace g4 := (cell_far (p := ⟨gC, 0, none⟩) (by first | (rw [add_block]; exact g9) | (show (Addr.add _ _).block ≠ _; rw [add_block]; exact g9) | exact g9) (.int .i64 gW)).trans g4; replace g6 := (cell_far (p := ⟨gC, 0, none⟩) (by first | (rw [add_block]; exact g9) | (show (Addr.add _ _).block ≠ _; rw [add_block]; exact g9) | exact g9) (.int .i64 gW)).trans g6; replace g7 := (cell_far (p := ⟨gC, 0, none⟩) (by first | (rw [add_block]; exact g9) | (show (Addr.add _ _).block ≠ _; rw [add_block]; exact g9) | exact g9) (.int .i64 gW)).trans g7; replace g4 := (cell_far (p := ⟨gC, 1, none⟩) (by first | (rw [add_block]; exact gA) | (show (Addr.add _ _).block ≠ _; rw [add_block]; exact gA) | exact gA) (.int .i64 gX)).trans g4; replace g6 := (cell_far (p := ⟨gC, 1, none⟩) (by first | (rw [add_block]; exact gA) | (show (Addr.add _ _).block ≠ _; rw [add_block]; exact gA) | exact gA) (.int .i64 gX)).trans g6; replace g7 := (cell_far (p := ⟨gC, 1, none⟩) (by first | (rw [add_block]; exact gA) | (show (Addr.add _ _).block ≠ _; rw [add_block]; exact gA) | exact gA) (.int .i64 gX)).trans g7; replace g4 := (cell_far (p := ⟨gC, 2, none⟩) (by first | (rw [add_block]; exact gB) | (show (Addr.add _ _).block ≠ _; rw [add_block]; exact gB) | exact gB) (.slice jH gQ.length jI)).trans g4; replace g6 := (cell_far (p := ⟨gC, 2, none⟩) (by first | (rw [add_block]; exact gB) | (show (Addr.add _ _).block ≠ _; rw [add_block]; exact gB) | exact gB) (.slice jH gQ.length jI)).trans g6; replace g7 := (cell_far (p := ⟨gC, 2, none⟩) (by first | (rw [add_block]; exact gB) | (show (Addr.add _ _).block ≠ _; rw [add_block]; exact gB) | exact gB) (.slice jH gQ.length jI)).trans g7; clear g9 gA gB; replace iB := eq_true iB; replace iC := eq_true iC) | ((with_reducible refine gate_callee (f := 47) rfl ?_); refine gl (some 55) Try.func47 #[.agg #[.int .i64 ((rd_T25 g2 1).f0), .int .i64 ((rd_T25 g2 1).f1), .slice iD ((rd_T25 g2 1).f2).length iE]] ?_; (with_reducible refine (ih k (by omega) ((rd_T25 g2 1).f0) ((rd_T25 g2 1).f1) _ _ ((rd_T25 g2 1).f2) gR gS gJ true _ ?side1 ?side2 A49.1).mono ?_); (case side1 => exact Kd.C_below hZ.1 bq); (case side2 => exact i0.1); rintro e w89 ⟨kU, rfl, ho0, hb⟩; refine ⟨_, rfl, ?_⟩; have gG := nm HB ho0 (fun k_ => (w.heap.size ≤ k_) ∧ some k_ ≠ (.slice jH gQ.length jI : Value).ownBlock ∧ k_ ≠ gF ∧ k_ ≠ g5 ∧ k_ ≠ gC) (fun k_ hk_ => ⟨(zt HB hk_), (fr gE k_ hk_), (fb g0 k_ hk_), (fb g1 k_ hk_), (fb gD k_ hk_)⟩); replace gE := ne gE hb; replace g0 := kb g0 hb; replace g1 := kb g1 hb; replace gD := kc gD hb #[.int .i64 gW, .int .i64 gX, .slice jH gQ.length jI]; replace HB := bs HB hb; clear hb ho0) | ((with_reducible refine gate_dst (N := 6) rfl ?_); refine bx (cs := #[.int .i64 0, .int .i64 0, .slice none 0 0]) (t := 25) fun g3 hg w90 hbox hb => ?_; replace gE := nb gE hg hb; replace gG := nb gG hg hb; have gK := am (hbox); have k8 := bz HB hg; have iR := bz HB hg; replace HB := bs HB hb; have hL := nl g0 hg; have hM := ng g0 hg; replace g0 := kb g0 hb; have hN := nl g1 hg; have hO := ng g1 hg; replace g1 := kb g1 hb; have hP := nl gD hg; have hQ := ng gD hg; replace gD := kb gD hb; clear hb hbox hg; have v4 := hM.1; have v5 := hL.1; have v6 := hO.1; have v7 := hN.1; have v8 := hQ.1; have v9 := hP.1; obtain ⟨sC, sD, sE, sF, sG, sH⟩ := cs3 gK; obtain ⟨iY, iZ, rfl⟩ := Kd.N_slice gG.1))
          have n0_ : Aside0 (Kd.N k25 25 (((w90.setCell ⟨g3, 0, none⟩ (.int .i64 gR)).setCell ⟨g3, 1, none⟩ (.int .i64 gS)).setCell ⟨g3, 2, none⟩ (.slice iY gJ.length iZ)) w.heap.size (fun k_ => (w.heap.size ≤ k_) ∧ some k_ ≠ (.slice iY gJ.length iZ : Value).ownBlock ∧ k_ ≠ gF ∧ k_ ≠ g5 ∧ k_ ≠ gC ∧ k_ ≠ g3) (.slice jH gQ.length jI) gQ) := nf gE; have n1_ : Aside0 (Kd.N k25 25 (((w90.setCell ⟨g3, 0, none⟩ (.int .i64 gR)).setCell ⟨g3, 1, none⟩ (.int .i64 gS)).setCell ⟨g3, 2, none⟩ (.slice iY gJ.length iZ)) w.heap.size (fun k_ => (w.heap.size ≤ k_) ∧ some k_ ≠ (.slice jH gQ.length jI : Value).ownBlock ∧ k_ ≠ gF ∧ k_ ≠ g5 ∧ k_ ≠ gC ∧ k_ ≠ g3) (.slice iY gJ.length iZ) gJ) := nf gG; have n2_ : Aside0 ((((w90.setCell ⟨g3, 0, none⟩ (.int .i64 gR)).setCell ⟨g3, 1, none⟩ (.int .i64 gS)).setCell ⟨g3, 2, none⟩ (.slice iY gJ.length iZ)).heap[gF]? = some (.cells #[.int .i64 gL, .int .i64 gZ, .slice (some gH) g2.length hW] 25 (0, 0))) := kf g0; have n3_ : Aside0 ((((w90.setCell ⟨g3, 0, none⟩ (.int .i64 gR)).setCell ⟨g3, 1, none⟩ (.int .i64 gS)).setCell ⟨g3, 2, none⟩ (.slice iY gJ.length iZ)).heap[g5]? = some (.cells #[.int .i64 0, .int .i64 0, .slice none 0 0] 25 (0, 0))) := kf g1; have n4_ : Aside0 ((((w90.setCell ⟨g3, 0, none⟩ (.int .i64 gR)).setCell ⟨g3, 1, none⟩ (.int .i64 gS)).setCell ⟨g3, 2, none⟩ (.slice iY gJ.length iZ)).heap[gC]? = some (.cells #[.int .i64 gW, .int .i64 gX, .slice jH gQ.length jI] 25 (0, 0))) := kf gD; have n5_ : Aside0 ((((w90.setCell ⟨g3, 0, none⟩ (.int .i64 gR)).setCell ⟨g3, 1, none⟩ (.int .i64 gS)).setCell ⟨g3, 2, none⟩ (.slice iY gJ.length iZ)).heap[g3]? = some (.cells #[.int .i64 gR, .int .i64 gS, .slice iY gJ.length iZ] 25 (0, 0))) := kf gK; have n6_ : Aside0 (Below w.heap.size w (((w90.setCell ⟨g3, 0, none⟩ (.int .i64 gR)).setCell ⟨g3, 1, none⟩ (.int .i64 gS)).setCell ⟨g3, 2, none⟩ (.slice iY gJ.length iZ))) := bw; (try clear gE); (try clear gG); (try clear g0); (try clear g1); (try clear gD); (try clear gK); (try clear HB)
          generalize (((w90.setCell ⟨g3, 0, none⟩ (.int .i64 gR)).setCell ⟨g3, 1, none⟩ (.int .i64 gS)).setCell ⟨g3, 2, none⟩ (.slice iY gJ.length iZ)) = w96 at n0_ n1_ n2_ n3_ n4_ n5_ n6_ ⊢
          have gE := n0_; have gG := n1_; have g0 := n2_; have g1 := n3_; have gD := n4_; have gK := n5_; have HB := n6_; clear n0_ n1_ n2_ n3_ n4_ n5_ n6_; replace gE := am (Kd.N_drew gE.1); replace gG := am (Kd.N_drew gG.1); replace g0 := am (blk_drew g0.1); replace g1 := am (blk_drew g1.1); replace gD := am (blk_drew gD.1); replace gK := am (blk_drew gK.1); replace HB := am (below_drew1 HB.1); have jW : 0 ≤ (0 : Int) := (by omega); have jX : 0 < (g2.length : Int) := od
          obtain ⟨kH, jD, jE, lO, h0, h1, h2, iS, iT⟩ := at_T25 hT.1 0 jW jX
          have h3 := h2
          (try rw [tz] at h3)
          (try rw [z3] at h3)
          (try rw [Addr.add_zero'] at h3)
          have h4 := h1
          (try rw [tz] at h4)
          (try rw [z3] at h4)
          (try rw [Addr.add_zero'] at h4)
          have h5 := h0
          (try rw [tz] at h5)
          (try rw [z3] at h5)
          (try rw [Addr.add_zero'] at h5)
          obtain rfl : gH = kH := (by injection lO)
          have m7 : (0 < g2.length) = True := eq_true (by omega)
          (try rw [tz] at h0)
          (try rw [z3] at h0)
          (try rw [Addr.add_zero'] at h0)
          (try rw [tz] at h1)
          (try rw [z3] at h1)
          (try rw [Addr.add_zero'] at h1)
          (try rw [tz] at h2)
          (try rw [z3] at h2)
          (try rw [Addr.add_zero'] at h2)
          replace h0 := hc HB h0; replace h1 := hc HB h1; replace h2 := hc HB h2; have iU := am iT; have jL := am iS; clear iT iS; replace jW := eq_true jW; replace jX := eq_true jX; have jY : 0 ≤ (1 : Int) := (by omega); have jZ : 1 < (g2.length : Int) := od
          obtain ⟨kI, jF, jG, lP, h6, h7, h8, iV, iW⟩ := at_T25 hT.1 1 jY jZ
          have h9 := h8
          (try rw [show ((1 : Int)).toNat = 1 from rfl] at h9)
          (try rw [show 1 * 3 = 3 from rfl] at h9)
          (try simp only [Nat.reduceMul, Nat.reduceEqDiff, Go.Addr.add, ↓reduceIte] at h9)
          have hA := h7
          (try rw [show ((1 : Int)).toNat = 1 from rfl] at hA)
          (try rw [show 1 * 3 = 3 from rfl] at hA)
          (try simp only [Nat.reduceMul, Nat.reduceEqDiff, Go.Addr.add, ↓reduceIte] at hA)
          have hB := h6
          (try rw [show ((1 : Int)).toNat = 1 from rfl] at hB)
          (try rw [show 1 * 3 = 3 from rfl] at hB)
          (try simp only [Nat.reduceMul, Nat.reduceEqDiff, Go.Addr.add, ↓reduceIte] at hB)
          obtain rfl : gH = kI := (by injection lP)
          (try simp only [show (1 : Int).toNat = 1 from rfl, Nat.reduceMul, Nat.reduceEqDiff, Go.Addr.add, ↓reduceIte] at h6)
          (try simp only [show (1 : Int).toNat = 1 from rfl, Nat.reduceMul, Nat.reduceEqDiff, Go.Addr.add, ↓reduceIte] at h7)
          (try simp only [show (1 : Int).toNat = 1 from rfl, Nat.reduceMul, Nat.reduceEqDiff, Go.Addr.add, ↓reduceIte] at h8)
          have m8 : (1 < g2.length) = True := eq_true (by omega)
          (try rw [show ((1 : Int)).toNat = 1 from rfl] at h6)
          (try rw [show 1 * 3 = 3 from rfl] at h6)
          (try rw [show ((1 : Int)).toNat = 1 from rfl] at h7)
          (try rw [show 1 * 3 = 3 from rfl] at h7)
          (try rw [show ((1 : Int)).toNat = 1 from rfl] at h8)
          (try rw [show 1 * 3 = 3 from rfl] at h8)
          replace h6 := hc HB h6; replace h7 := hc HB h7; replace h8 := hc HB h8; have iX := am iW; have jM := am iV; clear iW iV; replace jY := eq_true jY; replace jZ := eq_true jZ
          refine start_ (n := 22) (S := fun w' => w'.cell? ⟨gF, 0, none⟩ = some (.int .i64 gL) ∧ w'.cell? ⟨gF, 1, none⟩ = some (.int .i64 gZ) ∧ w'.cell? ⟨gF, 2, none⟩ = some (.slice (some gH) g2.length hW) ∧ w'.cell? gH = some (.int .i64 ((rd_T25 g2 0).f0)) ∧ w'.cell? ⟨gH.block, gH.off + 1, none⟩ = some (.int .i64 ((rd_T25 g2 0).f1)) ∧ w'.cell? ⟨gH.block, gH.off + 2, none⟩ = some (.slice jD ((rd_T25 g2 0).f2).length jE) ∧ w'.cell? ⟨gH.block, gH.off + 3, none⟩ = some (.int .i64 ((rd_T25 g2 1).f0)) ∧ w'.cell? ⟨gH.block, gH.off + 3 + 1, none⟩ = some (.int .i64 ((rd_T25 g2 1).f1)) ∧ w'.cell? ⟨gH.block, gH.off + 3 + 2, none⟩ = some (.slice jF ((rd_T25 g2 1).f2).length jG)) (ds := []) #[ff,ff,ff,ff,ff,ff,ff,ff,ff,ff,ff,ff,ff,ff,ff,ff,ff,ff,ff,ff,ff,ff] (by kernel_rfl) rfl rfl ⟨(blk_cell g0.1 0).trans rfl, (blk_cell g0.1 1).trans rfl, (blk_cell g0.1 2).trans rfl, ((HB.1.cell (World.block_lt_of_cell? w _ h5)).trans h5), ((HB.1.cell (World.block_lt_of_cell? w _ h4)).trans h4), ((HB.1.cell (World.block_lt_of_cell? w _ h3)).trans h3), ((HB.1.cell (World.block_lt_of_cell? w _ hB)).trans hB), ((HB.1.cell (World.block_lt_of_cell? w _ hA)).trans hA), ((HB.1.cell (World.block_lt_of_cell? w _ h9)).trans h9)⟩ (fun hHeld => ?_); refine with_tabW spec_l17Pass.tab12 spec_l17Pass.bits12 (fun HT_ HW_ => ?_)
          generalize w96.drew = w97 at gE gG g0 g1 gD gK HB iU iX h0 h1 h2 h6 h7 h8 hHeld ⊢
          refine pu (i := 0) (N := some 58) #[tt,ff,ff,ff,ff,ff,ff,ff,ff,ff,ff,ff,ff,ff,ff,ff,ff,ff,ff,ff,ff,ff] HT_ ?_
          refine pu (i := 1) (N := some 59) #[tt,tt,ff,ff,ff,ff,ff,ff,ff,ff,ff,ff,ff,ff,ff,ff,ff,ff,ff,ff,ff,ff] HT_ ?_
          refine pu (i := 2) (N := some 60) #[tt,tt,tt,ff,ff,ff,ff,ff,ff,ff,ff,ff,ff,ff,ff,ff,ff,ff,ff,ff,ff,ff] HT_ ?_
          refine pu (i := 3) (N := some 61) #[tt,tt,tt,tt,ff,ff,ff,ff,ff,ff,ff,ff,ff,ff,ff,ff,ff,ff,ff,ff,ff,ff] HT_ ?_
          refine pu (i := 4) (N := some 62) #[tt,tt,tt,tt,tt,ff,ff,ff,ff,ff,ff,ff,ff,ff,ff,ff,ff,ff,ff,ff,ff,ff] HT_ ?_
          refine pu (i := 5) (N := some 63) #[tt,tt,tt,tt,tt,tt,ff,ff,ff,ff,ff,ff,ff,ff,ff,ff,ff,ff,ff,ff,ff,ff] HT_ ?_
          refine pu (i := 6) (N := some 64) #[tt,tt,tt,tt,tt,tt,tt,ff,ff,ff,ff,ff,ff,ff,ff,ff,ff,ff,ff,ff,ff,ff] HT_ ?_
          refine pu (i := 7) (N := some 65) #[tt,tt,tt,tt,tt,tt,tt,tt,ff,ff,ff,ff,ff,ff,ff,ff,ff,ff,ff,ff,ff,ff] HT_ ?_
          refine tk (i := 8) (N := some 66) #[tt,tt,tt,tt,tt,tt,tt,tt,tt,ff,ff,ff,ff,ff,ff,ff,ff,ff,ff,ff,ff,ff] HT_ HW_ hHeld ?_
          refine pu (i := 9) (N := some 67) #[tt,tt,tt,tt,tt,tt,tt,tt,tt,tt,ff,ff,ff,ff,ff,ff,ff,ff,ff,ff,ff,ff] HT_ ?_
          refine pu (i := 10) (N := some 68) #[tt,tt,tt,tt,tt,tt,tt,tt,tt,tt,tt,ff,ff,ff,ff,ff,ff,ff,ff,ff,ff,ff] HT_ ?_
          refine pu (i := 11) (N := some 69) #[tt,tt,tt,tt,tt,tt,tt,tt,tt,tt,tt,tt,ff,ff,ff,ff,ff,ff,ff,ff,ff,ff] HT_ ?_
          refine pu (i := 15) (N := some 73) #[tt,tt,tt,tt,tt,tt,tt,tt,tt,tt,tt,tt,ff,ff,ff,tt,ff,ff,ff,ff,ff,ff] HT_ ?_
          refine tk (i := 12) (N := some 70) #[tt,tt,tt,tt,tt,tt,tt,tt,tt,tt,tt,tt,tt,ff,ff,tt,ff,ff,ff,ff,ff,ff] HT_ HW_ hHeld ?_
          refine pu (i := 13) (N := some 71) #[tt,tt,tt,tt,tt,tt,tt,tt,tt,tt,tt,tt,tt,tt,ff,tt,ff,ff,ff,ff,ff,ff] HT_ ?_
          refine tk (i := 14) (N := some 72) #[tt,tt,tt,tt,tt,tt,tt,tt,tt,tt,tt,tt,tt,tt,tt,tt,ff,ff,ff,ff,ff,ff] HT_ HW_ hHeld ?_
          refine tk (i := 16) (N := some 74) #[tt,tt,tt,tt,tt,tt,tt,tt,tt,tt,tt,tt,tt,tt,tt,tt,tt,ff,ff,ff,ff,ff] HT_ HW_ hHeld ?_
          refine pu (i := 17) (N := some 75) #[tt,tt,tt,tt,tt,tt,tt,tt,tt,tt,tt,tt,tt,tt,tt,tt,tt,tt,ff,ff,ff,ff] HT_ ?_
          refine tk (i := 18) (N := some 76) #[tt,tt,tt,tt,tt,tt,tt,tt,tt,tt,tt,tt,tt,tt,tt,tt,tt,tt,tt,ff,ff,ff] HT_ HW_ hHeld ?_
          refine on (i := 19) (N := some 77) #[tt,tt,tt,tt,tt,tt,tt,tt,tt,tt,tt,tt,tt,tt,tt,tt,tt,tt,tt,tt,ff,ff] HT_ (fun K hK => ?_)
          refine goes_ Try.func64 (by kernel_rfl) rfl #[.agg #[.int .i64 ((rd_T25 g2 0).f0), .int .i64 ((rd_T25 g2 0).f1), .slice jD ((rd_T25 g2 0).f2).length jE], .agg #[.int .i64 ((rd_T25 g2 1).f0), .int .i64 ((rd_T25 g2 1).f1), .slice jF ((rd_T25 g2 1).f2).length jG]] (by rfl) rfl rfl (by (try simp only [List.map_toArray, List.map_cons, List.map_nil]); first | done | rfl | (simp only [List.length_drop, List.length_take]; rfl)) ?_
          with_reducible refine (spec_l17Meet.calls k ((rd_T25 g2 0).f0) ((rd_T25 g2 0).f1) _ _ ((rd_T25 g2 0).f2) ((rd_T25 g2 1).f0) ((rd_T25 g2 1).f1) _ _ ((rd_T25 g2 1).f2) false _ ?side1 ?side2 ?side3 ?side4 A53.1).mono ?_
          (case side1 => exact cq (Kd.C_below iU.1 HB.1))
          (case side2 => exact jL.1)
          (case side3 => exact cq (Kd.C_below iX.1 HB.1))
          (case side4 => exact jM.1)
          rintro e w98 ⟨rfl, hb⟩
          refine ⟨_, rfl, ?_⟩
          replace gE := nw gE hb; replace gG := nw gG hb; replace g0 := kb g0 hb; replace g1 := kb g1 hb; replace gD := kb gD hb; replace gK := kb gK hb; replace HB := bs HB hb; (try clear hb); (try clear hb2); (try clear hk); (try clear hi)
          refine hK.out _ _ ⟨(blk_cell g0.1 0).trans rfl, (blk_cell g0.1 1).trans rfl, (blk_cell g0.1 2).trans rfl, ((HB.1.cell (World.block_lt_of_cell? w _ h5)).trans h5), ((HB.1.cell (World.block_lt_of_cell? w _ h4)).trans h4), ((HB.1.cell (World.block_lt_of_cell? w _ h3)).trans h3), ((HB.1.cell (World.block_lt_of_cell? w _ hB)).trans hB), ((HB.1.cell (World.block_lt_of_cell? w _ hA)).trans hA), ((HB.1.cell (World.block_lt_of_cell? w _ h9)).trans h9)⟩ (fun hHeld => ?_)
          clear hK K
          refine norm_ (a' := ?_) ?_ ?_
          rotate_left
          ·
           show Act.put _ (some 77) _ = _
           simp only [Act.put, List.setIfInBounds_toArray, List.set_cons_zero, List.set_cons_succ, i64_w, i32_w]
           rfl
          refine pu (i := 20) (N := some 78) #[tt,tt,tt,tt,tt,tt,tt,tt,tt,tt,tt,tt,tt,tt,tt,tt,tt,tt,tt,tt,tt,ff] HT_ ?_
          refine pu (i := 21) (N := some 79) #[tt,tt,tt,tt,tt,tt,tt,tt,tt,tt,tt,tt,tt,tt,tt,tt,tt,tt,tt,tt,tt,tt] HT_ ?_
          refine done_ (done_of HT_.1 (by kernel_rfl)) ?_
          obtain ⟨sI, sJ, sK, sL, sM, sN⟩ := cs3 g0; obtain ⟨mA, mB, mC, mD, mE, mF⟩ := cs3 gD; obtain ⟨mG, mH, mI, mJ, mK, mL⟩ := cs3 gK
          try go_wp2_with (first | ((with_reducible refine gate_callee (f := 65) rfl ?_); refine gl (some 85) Try.func65 #[.int .i64 gL, .agg #[.int .i64 gW, .int .i64 gX, .slice jH gQ.length jI], .agg #[.int .i64 gR, .int .i64 gS, .slice iY gJ.length iZ]] ?_; (with_reducible refine (spec_l17Two.calls gL gW gX (fun k_ => ((w.heap.size ≤ k_) ∧ (some k_ ≠ (.slice iY gJ.length iZ : Value).ownBlock ∧ (k_ ≠ gF ∧ (k_ ≠ g5 ∧ (k_ ≠ gC ∧ k_ ≠ g3)))))) _ _ gQ gR gS (fun k_ => ((w.heap.size ≤ k_) ∧ (some k_ ≠ (.slice jH gQ.length jI : Value).ownBlock ∧ (k_ ≠ gF ∧ (k_ ≠ g5 ∧ (k_ ≠ gC ∧ k_ ≠ g3)))))) _ _ gJ kV kW kX _ ?side1 ?side2 A77.1).mono ?_); (case side1 => exact Kd.N_V (nf gE).1); (case side2 => exact Kd.N_V (nf gG).1); rintro e vN ⟨vO, rfl, ho0, hb⟩; refine ⟨_, rfl, ?_⟩; replace gE := ne gE hb; replace gG := ne gG hb; have l9 := nm HB ho0 (fun k_ => (w.heap.size ≤ k_) ∧ k_ ≠ gF ∧ k_ ≠ g5 ∧ k_ ≠ gC ∧ k_ ≠ g3) (fun k_ hk_ => ⟨Or.elim hk_ (fun hs_ => Or.elim hs_ (fun hs_ => hs_.1) (fun hs_ => hs_.1)) (fun hn_ => (zt HB hn_)), Or.elim hk_ (fun hs_ => Or.elim hs_ (fun hs_ => hs_.2.2.1) (fun hs_ => hs_.2.2.1)) (fun hn_ => (fb g0 k_ hn_)), Or.elim hk_ (fun hs_ => Or.elim hs_ (fun hs_ => hs_.2.2.2.1) (fun hs_ => hs_.2.2.2.1)) (fun hn_ => (fb g1 k_ hn_)), Or.elim hk_ (fun hs_ => Or.elim hs_ (fun hs_ => hs_.2.2.2.2.1) (fun hs_ => hs_.2.2.2.2.1)) (fun hn_ => (fb gD k_ hn_)), Or.elim hk_ (fun hs_ => Or.elim hs_ (fun hs_ => hs_.2.2.2.2.2) (fun hs_ => hs_.2.2.2.2.2)) (fun hn_ => (fb gK k_ hn_))⟩); replace g0 := kb g0 hb; replace g1 := kb g1 hb; replace gD := kb gD hb; replace gK := kb gK hb; replace HB := bs HB hb; clear hb ho0; obtain ⟨mM, mN, mO, mP, mQ, mR⟩ := cs3 g1; obtain ⟨lA, lB, rfl⟩ := Kd.N_slice l9.1))
          refine bodyPost_ret (results_ct rfl _ _ g5 25 #[.int .i64 kV, .int .i64 kW, .slice lA kX.length lB] (0, 0) _ rfl (kf g1).1 Try.underlying25 rfl (by kernel_rfl)) rfl ?_
          exact ⟨_, by first | rfl | (simp [errW_none, errW_some] <;> rfl) | (simp [*, errW_none, errW_some] <;> rfl), by (with_reducible repeat (first | apply Kd.N_alloc | apply Kd.N_drewN | apply Kd.N_drew)); exact Kd.N_mono (Kd.N_far (p := ⟨g5, 2, none⟩) (Kd.N_far (p := ⟨g5, 1, none⟩) (Kd.N_far (p := ⟨g5, 0, none⟩) (Kd.N_mono l9.1 (fun k_ hk => (⟨hk, hk.2.2.1⟩ : _ ∧ k_ ≠ g5))) mq (.int .i64 kV)) mq (.int .i64 kW)) mq (.slice lA kX.length lB)) mq, by repeat (first | (with_reducible first | exact HB.1 | apply below_alloc | apply pw_below_drewN | apply below_drew1 | refine below_set ?_ hU.1 | refine below_set ?_ hV.1 | refine below_set ?_ iP.1 | refine below_set ?_ iR.1) | exact HB.1)⟩
        ·
         rw [if_neg c52] at H; have c52b0 : (gL == 4) = false := beq_eq_false_iff_ne.mpr c52; have c52b1 : (gL != 4) = true := bne_iff_ne.mpr c52
         replace H := Option.bind_eq_some_iff.mp H
         obtain ⟨⟨kY, kZ, l4⟩, lC, H⟩ := H
         replace H : (some (kY, kZ, l4, true)) = some (r1, r2, r3, r4) := H
         have t2 := am lC
         clear lC
         simp only [Option.some.injEq, Prod.mk.injEq] at H
         obtain ⟨rfl, rfl, rfl, rfl⟩ := H
         go_enter Try.func47, Try.ntmps47
         try go_wp2_with (first | ((with_reducible refine gate_dst (N := 1) rfl ?_); refine bx (cs := #[.int .i64 gL, .int .i64 gZ, .slice iL g2.length hW]) (t := 25) fun gF hg vP hbox hb => ?_; have g0 := am (hbox); have j3 := bz HB hg; have hU := bz HB hg; replace HB := bs HB hb; clear hb hbox hg) | ((with_reducible refine gate_dst (N := 2) rfl ?_); refine bx (cs := #[.int .i64 0, .int .i64 0, .slice none 0 0]) (t := 25) fun g5 hg vQ hbox hb => ?_; have g1 := am (hbox); have gP := bz HB hg; have hV := bz HB hg; replace HB := bs HB hb; have g8 := nl g0 hg; have gI := ng g0 hg; replace g0 := kb g0 hb; clear hb hbox hg; have t3 := g8.1; have t4 := gI.1; obtain ⟨mS, mT, mU, mV, mW, mX⟩ := cs3 g0; have i7 : 0 ≤ (0 : Int) := (by omega); have i8 : 0 < (g2.length : Int) := od; obtain ⟨gH, i9, iA, jJ, gM, gN, gO, hC, hD⟩ := at_T25 hT.1 0 i7 i8; cases jJ; have k6 : (0 < g2.length) = True := eq_true (by omega); (try rw [tz] at gM); (try rw [z3] at gM); (try rw [Addr.add_zero'] at gM); (try rw [tz] at gN); (try rw [z3] at gN); (try rw [Addr.add_zero'] at gN); (try rw [tz] at gO); (try rw [z3] at gO); (try rw [Addr.add_zero'] at gO); replace gM := hc HB gM; replace gN := hc HB gN; replace gO := hc HB gO; have hX := am hD; have hY := am hC; clear hD hC; replace i7 := eq_true i7; replace i8 := eq_true i8) | ((with_reducible refine gate_callee (f := 47) rfl ?_); refine gl (some 47) Try.func47 #[.agg #[.int .i64 ((rd_T25 g2 0).f0), .int .i64 ((rd_T25 g2 0).f1), .slice i9 ((rd_T25 g2 0).f2).length iA]] ?_; (with_reducible refine (ih k (by omega) ((rd_T25 g2 0).f0) ((rd_T25 g2 0).f1) _ _ ((rd_T25 g2 0).f2) gW gX gQ true _ ?side1 ?side2 A47.1).mono ?_); (case side1 => exact cq (Kd.C_below hX.1 HB.1)); (case side2 => exact hY.1); rintro e vR ⟨kT, rfl, ho0, hb⟩; refine ⟨_, rfl, ?_⟩; have gE := nm HB ho0 (fun k_ => (w.heap.size ≤ k_) ∧ k_ ≠ gF ∧ k_ ≠ g5) (fun k_ hk_ => ⟨(zt HB hk_), (fb g0 k_ hk_), (fb g1 k_ hk_)⟩); replace g0 := kb g0 hb; replace g1 := kb g1 hb; replace HB := bs HB hb; clear hb ho0) | ((with_reducible refine gate_dst (N := 4) rfl ?_); refine bx (cs := #[.int .i64 0, .int .i64 0, .slice none 0 0]) (t := 25) fun gC hg vS hbox hb => ?_; replace gE := nb gE hg hb; have gD := am (hbox); have hS := bz HB hg; have iP := bz HB hg; replace HB := bs HB hb; have hG := nl g0 hg; have hH := ng g0 hg; replace g0 := kb g0 hb; have hI := nl g1 hg; have hJ := ng g1 hg; replace g1 := kb g1 hb; clear hb hbox hg; have t5 := hH.1; have t6 := hG.1; have t7 := hJ.1; have t8 := hI.1; obtain ⟨mY, mZ, n0, n2, n3, n4⟩ := cs3 gD; obtain ⟨iJ, iK, rfl⟩ := Kd.N_slice gE.1; obtain ⟨n5, n6, n7, n8, n9, nA⟩ := cs3 g0; have iB : 0 ≤ (1 : Int) := (by omega); have iC : 1 < (g2.length : Int) := od; obtain ⟨iQ, iD, iE, jK, g4, g6, g7, hE, hF⟩ := at_T25 hT.1 1 iB iC; obtain rfl : gH = iQ := (by injection jK); (try simp only [show (1 : Int).toNat = 1 from rfl, Nat.reduceMul, Nat.reduceEqDiff, Go.Addr.add, ↓reduceIte] at g4); (try simp only [show (1 : Int).toNat = 1 from rfl, Nat.reduceMul, Nat.reduceEqDiff, Go.Addr.add, ↓reduceIte] at g6); (try simp only [show (1 : Int).toNat = 1 from rfl, Nat.reduceMul, Nat.reduceEqDiff, Go.Addr.add, ↓reduceIte] at g7); have k7 : (1 < g2.length) = True := eq_true (by omega); (try rw [show ((1 : Int)).toNat = 1 from rfl] at g4); (try rw [show 1 * 3 = 3 from rfl] at g4); (try rw [show ((1 : Int)).toNat = 1 from rfl] at g6); (try rw [show 1 * 3 = 3 from rfl] at g6); (try rw [show ((1 : Int)).toNat = 1 from rfl] at g7); (try rw [show 1 * 3 = 3 from rfl] at g7); have g9 : gH.block ≠ gC := Nat.ne_of_lt (Nat.lt_of_lt_of_le (by have := World.block_lt_of_cell? _ _ g4; first | rwa [add_block] at this | exact this) hS.1); have gA : gH.block ≠ gC := Nat.ne_of_lt (Nat.lt_of_lt_of_le (by have := World.block_lt_of_cell? _ _ g4; first | rwa [add_block] at this | exact this) hS.1); have gB : gH.block ≠ gC := Nat.ne_of_lt (Nat.lt_of_lt_of_le (by have := World.block_lt_of_cell? _ _ g4; first | rwa [add_block] at this | exact this) hS.1); replace g4 := hc HB g4; replace g6 := hc HB g6; replace g7 := hc HB g7; have hZ := am hF; have i0 := am hE; clear hF hE; replace g4 := (cell_far (p := ⟨gC, 0, none⟩) (by first | (rw [add_block]; exact g9) | (show (Addr.add _ _).block ≠ _; rw [add_block]; exact g9) | exact g9) (.int .i64 gW)).trans g4; replace g6 := (cell_far (p := ⟨gC, 0, none⟩) (by first | (rw [add_block]; exact g9) | (show (Addr.add _ _).block ≠ _; rw [add_block]; exact g9) | exact g9) (.int .i64 gW)).trans g6; replace g7 := (cell_far (p := ⟨gC, 0, none⟩) (by first | (rw [add_block]; exact g9) | (show (Addr.add _ _).block ≠ _; rw [add_block]; exact g9) | exact g9) (.int .i64 gW)).trans g7; replace g4 := (cell_far (p := ⟨gC, 1, none⟩) (by first | (rw [add_block]; exact gA) | (show (Addr.add _ _).block ≠ _; rw [add_block]; exact gA) | exact gA) (.int .i64 gX)).trans g4; replace g6 := (cell_far (p := ⟨gC, 1, none⟩) (by first | (rw [add_block]; exact gA) | (show (Addr.add _ _).block ≠ _; rw [add_block]; exact gA) | exact gA) (.int .i64 gX)).trans g6; replace g7 := (cell_far (p := ⟨gC, 1, none⟩) (by first | (rw [add_block]; exact gA) | (show (Addr.add _ _).block ≠ _; rw [add_block]; exact gA) | exact gA) (.int .i64 gX)).trans g7; replace g4 := (cell_far (p := ⟨gC, 2, none⟩) (by first | (rw [add_block]; exact gB) | (show (Addr.add _ _).block ≠ _; rw [add_block]; exact gB) | exact gB) (.slice iJ gQ.length iK)).trans g4; replace g6 := (cell_far (p := ⟨gC, 2, none⟩) (by first | (rw [add_block]; exact gB) | (show (Addr.add _ _).block ≠ _; rw [add_block]; exact gB) | exact gB) (.slice iJ gQ.length iK)).trans g6; replace g7 := (cell_far (p := ⟨gC, 2, none⟩) (by first | (rw [add_block]; exact gB) | (show (Addr.add _ _).block ≠ _; rw [add_block]; exact gB) | exact gB) (.slice iJ gQ.length iK)).trans g7; clear g9 gA gB; replace iB := eq_true iB; replace iC := eq_true iC) | ((with_reducible refine gate_callee (f := 47) rfl ?_); refine gl (some 55) Try.func47 #[.agg #[.int .i64 ((rd_T25 g2 1).f0), .int .i64 ((rd_T25 g2 1).f1), .slice iD ((rd_T25 g2 1).f2).length iE]] ?_; (with_reducible refine (ih k (by omega) ((rd_T25 g2 1).f0) ((rd_T25 g2 1).f1) _ _ ((rd_T25 g2 1).f2) gR gS gJ true _ ?side1 ?side2 A49.1).mono ?_); (case side1 => exact Kd.C_below hZ.1 bq); (case side2 => exact i0.1); rintro e vT ⟨kU, rfl, ho0, hb⟩; refine ⟨_, rfl, ?_⟩; have gG := nm HB ho0 (fun k_ => (w.heap.size ≤ k_) ∧ some k_ ≠ (.slice iJ gQ.length iK : Value).ownBlock ∧ k_ ≠ gF ∧ k_ ≠ g5 ∧ k_ ≠ gC) (fun k_ hk_ => ⟨(zt HB hk_), (fr gE k_ hk_), (fb g0 k_ hk_), (fb g1 k_ hk_), (fb gD k_ hk_)⟩); replace gE := ne gE hb; replace g0 := kb g0 hb; replace g1 := kb g1 hb; replace gD := kc gD hb #[.int .i64 gW, .int .i64 gX, .slice iJ gQ.length iK]; replace HB := bs HB hb; clear hb ho0) | ((with_reducible refine gate_dst (N := 6) rfl ?_); refine bx (cs := #[.int .i64 0, .int .i64 0, .slice none 0 0]) (t := 25) fun g3 hg jT hbox hb => ?_; replace gE := nb gE hg hb; replace gG := nb gG hg hb; have gK := am (hbox); have k8 := bz HB hg; have iR := bz HB hg; replace HB := bs HB hb; have hL := nl g0 hg; have hM := ng g0 hg; replace g0 := kb g0 hb; have hN := nl g1 hg; have hO := ng g1 hg; replace g1 := kb g1 hb; have hP := nl gD hg; have hQ := ng gD hg; replace gD := kb gD hb; clear hb hbox hg; have t9 := hM.1; have tA := hL.1; have tB := hO.1; have tC := hN.1; have tD := hQ.1; have tE := hP.1; obtain ⟨nB, nC, nD, nE, nF, nG⟩ := cs3 gK; obtain ⟨i2, i3, rfl⟩ := Kd.N_slice gG.1))
         have n0_ : Aside0 (Kd.N k25 25 (((jT.setCell ⟨g3, 0, none⟩ (.int .i64 gR)).setCell ⟨g3, 1, none⟩ (.int .i64 gS)).setCell ⟨g3, 2, none⟩ (.slice i2 gJ.length i3)) w.heap.size (fun k_ => (w.heap.size ≤ k_) ∧ some k_ ≠ (.slice i2 gJ.length i3 : Value).ownBlock ∧ k_ ≠ gF ∧ k_ ≠ g5 ∧ k_ ≠ gC ∧ k_ ≠ g3) (.slice iJ gQ.length iK) gQ) := nf gE; have n1_ : Aside0 (Kd.N k25 25 (((jT.setCell ⟨g3, 0, none⟩ (.int .i64 gR)).setCell ⟨g3, 1, none⟩ (.int .i64 gS)).setCell ⟨g3, 2, none⟩ (.slice i2 gJ.length i3)) w.heap.size (fun k_ => (w.heap.size ≤ k_) ∧ some k_ ≠ (.slice iJ gQ.length iK : Value).ownBlock ∧ k_ ≠ gF ∧ k_ ≠ g5 ∧ k_ ≠ gC ∧ k_ ≠ g3) (.slice i2 gJ.length i3) gJ) := nf gG; have n2_ : Aside0 ((((jT.setCell ⟨g3, 0, none⟩ (.int .i64 gR)).setCell ⟨g3, 1, none⟩ (.int .i64 gS)).setCell ⟨g3, 2, none⟩ (.slice i2 gJ.length i3)).heap[gF]? = some (.cells #[.int .i64 gL, .int .i64 gZ, .slice (some gH) g2.length hW] 25 (0, 0))) := kf g0; have n3_ : Aside0 ((((jT.setCell ⟨g3, 0, none⟩ (.int .i64 gR)).setCell ⟨g3, 1, none⟩ (.int .i64 gS)).setCell ⟨g3, 2, none⟩ (.slice i2 gJ.length i3)).heap[g5]? = some (.cells #[.int .i64 0, .int .i64 0, .slice none 0 0] 25 (0, 0))) := kf g1; have n4_ : Aside0 ((((jT.setCell ⟨g3, 0, none⟩ (.int .i64 gR)).setCell ⟨g3, 1, none⟩ (.int .i64 gS)).setCell ⟨g3, 2, none⟩ (.slice i2 gJ.length i3)).heap[gC]? = some (.cells #[.int .i64 gW, .int .i64 gX, .slice iJ gQ.length iK] 25 (0, 0))) := kf gD; have n5_ : Aside0 ((((jT.setCell ⟨g3, 0, none⟩ (.int .i64 gR)).setCell ⟨g3, 1, none⟩ (.int .i64 gS)).setCell ⟨g3, 2, none⟩ (.slice i2 gJ.length i3)).heap[g3]? = some (.cells #[.int .i64 gR, .int .i64 gS, .slice i2 gJ.length i3] 25 (0, 0))) := kf gK; have n6_ : Aside0 (Below w.heap.size w (((jT.setCell ⟨g3, 0, none⟩ (.int .i64 gR)).setCell ⟨g3, 1, none⟩ (.int .i64 gS)).setCell ⟨g3, 2, none⟩ (.slice i2 gJ.length i3))) := bw; (try clear gE); (try clear gG); (try clear g0); (try clear g1); (try clear gD); (try clear gK); (try clear HB)
         generalize (((jT.setCell ⟨g3, 0, none⟩ (.int .i64 gR)).setCell ⟨g3, 1, none⟩ (.int .i64 gS)).setCell ⟨g3, 2, none⟩ (.slice i2 gJ.length i3)) = tF at n0_ n1_ n2_ n3_ n4_ n5_ n6_ ⊢
         have gE := n0_; have gG := n1_; have g0 := n2_; have g1 := n3_; have gD := n4_; have gK := n5_; have HB := n6_; clear n0_ n1_ n2_ n3_ n4_ n5_ n6_; replace gE := am (Kd.N_drew gE.1); replace gG := am (Kd.N_drew gG.1); replace g0 := am (blk_drew g0.1); replace g1 := am (blk_drew g1.1); replace gD := am (blk_drew gD.1); replace gK := am (blk_drew gK.1); replace HB := am (below_drew1 HB.1)
         refine start_ (n := 22) (S := fun w' => w'.cell? ⟨gF, 0, none⟩ = some (.int .i64 gL) ∧ w'.cell? ⟨gF, 1, none⟩ = some (.int .i64 gZ) ∧ w'.cell? ⟨gF, 2, none⟩ = some (.slice (some gH) g2.length hW)) (ds := []) #[ff,ff,ff,ff,ff,ff,ff,ff,ff,ff,ff,ff,ff,ff,ff,ff,ff,ff,ff,ff,ff,ff] (by kernel_rfl) rfl rfl ⟨(blk_cell g0.1 0).trans rfl, (blk_cell g0.1 1).trans rfl, (blk_cell g0.1 2).trans rfl⟩ (fun hHeld => ?_); refine with_tabW spec_l17Pass.tab12 spec_l17Pass.bits12 (fun HT_ HW_ => ?_)
         generalize tF.drew = vU at gE gG g0 g1 gD gK HB hHeld ⊢
         refine pu (i := 0) (N := some 58) #[tt,ff,ff,ff,ff,ff,ff,ff,ff,ff,ff,ff,ff,ff,ff,ff,ff,ff,ff,ff,ff,ff] HT_ ?_
         refine pu (i := 1) (N := some 59) #[tt,tt,ff,ff,ff,ff,ff,ff,ff,ff,ff,ff,ff,ff,ff,ff,ff,ff,ff,ff,ff,ff] HT_ ?_
         refine pu (i := 2) (N := some 60) #[tt,tt,tt,ff,ff,ff,ff,ff,ff,ff,ff,ff,ff,ff,ff,ff,ff,ff,ff,ff,ff,ff] HT_ ?_
         refine pu (i := 3) (N := some 61) #[tt,tt,tt,tt,ff,ff,ff,ff,ff,ff,ff,ff,ff,ff,ff,ff,ff,ff,ff,ff,ff,ff] HT_ ?_
         refine pu (i := 4) (N := some 62) #[tt,tt,tt,tt,tt,ff,ff,ff,ff,ff,ff,ff,ff,ff,ff,ff,ff,ff,ff,ff,ff,ff] HT_ ?_
         refine pu (i := 5) (N := some 63) #[tt,tt,tt,tt,tt,tt,ff,ff,ff,ff,ff,ff,ff,ff,ff,ff,ff,ff,ff,ff,ff,ff] HT_ ?_
         refine pu (i := 6) (N := some 64) #[tt,tt,tt,tt,tt,tt,tt,ff,ff,ff,ff,ff,ff,ff,ff,ff,ff,ff,ff,ff,ff,ff] HT_ ?_
         refine pu (i := 7) (N := some 65) #[tt,tt,tt,tt,tt,tt,tt,tt,ff,ff,ff,ff,ff,ff,ff,ff,ff,ff,ff,ff,ff,ff] HT_ ?_
         refine tk (i := 8) (N := some 66) #[tt,tt,tt,tt,tt,tt,tt,tt,tt,ff,ff,ff,ff,ff,ff,ff,ff,ff,ff,ff,ff,ff] HT_ HW_ hHeld ?_
         refine pu (i := 9) (N := some 67) #[tt,tt,tt,tt,tt,tt,tt,tt,tt,tt,ff,ff,ff,ff,ff,ff,ff,ff,ff,ff,ff,ff] HT_ ?_
         refine pu (i := 10) (N := some 68) #[tt,tt,tt,tt,tt,tt,tt,tt,tt,tt,tt,ff,ff,ff,ff,ff,ff,ff,ff,ff,ff,ff] HT_ ?_
         refine pr (i := 11) (N := some 69) #[tt,tt,tt,tt,tt,tt,tt,tt,tt,tt,tt,tt,ff,ff,ff,ff,ff,ff,ff,ff,ff,ff] HT_ ?_
         refine pr (i := 12) (N := some 70) #[tt,tt,tt,tt,tt,tt,tt,tt,tt,tt,tt,tt,tt,ff,ff,ff,ff,ff,ff,ff,ff,ff] HT_ ?_
         refine pr (i := 13) (N := some 71) #[tt,tt,tt,tt,tt,tt,tt,tt,tt,tt,tt,tt,tt,tt,ff,ff,ff,ff,ff,ff,ff,ff] HT_ ?_
         refine pr (i := 14) (N := some 72) #[tt,tt,tt,tt,tt,tt,tt,tt,tt,tt,tt,tt,tt,tt,tt,ff,ff,ff,ff,ff,ff,ff] HT_ ?_
         refine pr (i := 15) (N := some 73) #[tt,tt,tt,tt,tt,tt,tt,tt,tt,tt,tt,tt,tt,tt,tt,tt,ff,ff,ff,ff,ff,ff] HT_ ?_
         refine pr (i := 16) (N := some 74) #[tt,tt,tt,tt,tt,tt,tt,tt,tt,tt,tt,tt,tt,tt,tt,tt,tt,ff,ff,ff,ff,ff] HT_ ?_
         refine pr (i := 17) (N := some 75) #[tt,tt,tt,tt,tt,tt,tt,tt,tt,tt,tt,tt,tt,tt,tt,tt,tt,tt,ff,ff,ff,ff] HT_ ?_
         refine pr (i := 18) (N := some 76) #[tt,tt,tt,tt,tt,tt,tt,tt,tt,tt,tt,tt,tt,tt,tt,tt,tt,tt,tt,ff,ff,ff] HT_ ?_
         refine pr (i := 19) (N := some 77) #[tt,tt,tt,tt,tt,tt,tt,tt,tt,tt,tt,tt,tt,tt,tt,tt,tt,tt,tt,tt,ff,ff] HT_ ?_
         refine pu (i := 20) (N := some 78) #[tt,tt,tt,tt,tt,tt,tt,tt,tt,tt,tt,tt,tt,tt,tt,tt,tt,tt,tt,tt,tt,ff] HT_ ?_
         refine pu (i := 21) (N := some 79) #[tt,tt,tt,tt,tt,tt,tt,tt,tt,tt,tt,tt,tt,tt,tt,tt,tt,tt,tt,tt,tt,tt] HT_ ?_
         refine done_ (done_of HT_.1 (by kernel_rfl)) ?_
         obtain ⟨nH, nI, nJ, nK, nL, nM⟩ := cs3 g0; obtain ⟨nN, nO, nP, nQ, nR, nS⟩ := cs3 gD; obtain ⟨nT, nU, nV, nW, nX, nY⟩ := cs3 gK
         try go_wp2_with (first | ((with_reducible refine gate_callee (f := 65) rfl ?_); refine gl (some 85) Try.func65 #[.int .i64 gL, .agg #[.int .i64 gW, .int .i64 gX, .slice iJ gQ.length iK], .agg #[.int .i64 gR, .int .i64 gS, .slice i2 gJ.length i3]] ?_; (with_reducible refine (spec_l17Two.calls gL gW gX (fun k_ => ((w.heap.size ≤ k_) ∧ (some k_ ≠ (.slice i2 gJ.length i3 : Value).ownBlock ∧ (k_ ≠ gF ∧ (k_ ≠ g5 ∧ (k_ ≠ gC ∧ k_ ≠ g3)))))) _ _ gQ gR gS (fun k_ => ((w.heap.size ≤ k_) ∧ (some k_ ≠ (.slice iJ gQ.length iK : Value).ownBlock ∧ (k_ ≠ gF ∧ (k_ ≠ g5 ∧ (k_ ≠ gC ∧ k_ ≠ g3)))))) _ _ gJ kY kZ l4 _ ?side1 ?side2 t2.1).mono ?_); (case side1 => exact Kd.N_V (nf gE).1); (case side2 => exact Kd.N_V (nf gG).1); rintro e vV ⟨vW, rfl, ho0, hb⟩; refine ⟨_, rfl, ?_⟩; replace gE := ne gE hb; replace gG := ne gG hb; have lD := nm HB ho0 (fun k_ => (w.heap.size ≤ k_) ∧ k_ ≠ gF ∧ k_ ≠ g5 ∧ k_ ≠ gC ∧ k_ ≠ g3) (fun k_ hk_ => ⟨Or.elim hk_ (fun hs_ => Or.elim hs_ (fun hs_ => hs_.1) (fun hs_ => hs_.1)) (fun hn_ => (zt HB hn_)), Or.elim hk_ (fun hs_ => Or.elim hs_ (fun hs_ => hs_.2.2.1) (fun hs_ => hs_.2.2.1)) (fun hn_ => (fb g0 k_ hn_)), Or.elim hk_ (fun hs_ => Or.elim hs_ (fun hs_ => hs_.2.2.2.1) (fun hs_ => hs_.2.2.2.1)) (fun hn_ => (fb g1 k_ hn_)), Or.elim hk_ (fun hs_ => Or.elim hs_ (fun hs_ => hs_.2.2.2.2.1) (fun hs_ => hs_.2.2.2.2.1)) (fun hn_ => (fb gD k_ hn_)), Or.elim hk_ (fun hs_ => Or.elim hs_ (fun hs_ => hs_.2.2.2.2.2) (fun hs_ => hs_.2.2.2.2.2)) (fun hn_ => (fb gK k_ hn_))⟩); replace g0 := kb g0 hb; replace g1 := kb g1 hb; replace gD := kb gD hb; replace gK := kb gK hb; replace HB := bs HB hb; clear hb ho0; obtain ⟨nZ, o0, o1, o2, o3, o4⟩ := cs3 g1; obtain ⟨lE, lF, rfl⟩ := Kd.N_slice lD.1))
         refine bodyPost_ret (results_ct rfl _ _ g5 25 #[.int .i64 kY, .int .i64 kZ, .slice lE l4.length lF] (0, 0) _ rfl (kf g1).1 Try.underlying25 rfl (by kernel_rfl)) rfl ?_
         exact ⟨_, by first | rfl | (simp [errW_none, errW_some] <;> rfl) | (simp [*, errW_none, errW_some] <;> rfl), by (with_reducible repeat (first | apply Kd.N_alloc | apply Kd.N_drewN | apply Kd.N_drew)); exact Kd.N_mono (Kd.N_far (p := ⟨g5, 2, none⟩) (Kd.N_far (p := ⟨g5, 1, none⟩) (Kd.N_far (p := ⟨g5, 0, none⟩) (Kd.N_mono lD.1 (fun k_ hk => (⟨hk, hk.2.2.1⟩ : _ ∧ k_ ≠ g5))) mq (.int .i64 kY)) mq (.int .i64 kZ)) mq (.slice lE l4.length lF)) mq, by repeat (first | (with_reducible first | exact HB.1 | apply below_alloc | apply pw_below_drewN | apply below_drew1 | refine below_set ?_ hU.1 | refine below_set ?_ hV.1 | refine below_set ?_ iP.1 | refine below_set ?_ iR.1) | exact HB.1)⟩
       ·
        replace c51 := Bool.eq_false_iff.mpr c51
        subst c51
        have H1 : (some (0, 0, ([] : List (S25)), false)) = some (r1, r2, r3, r4) := by rw [if_neg (show ¬ (false = true) by decide)] at H; exact H
        clear H
        have H := H1
        clear H1
        simp only [Option.some.injEq, Prod.mk.injEq] at H
        obtain ⟨rfl, rfl, rfl, rfl⟩ := H
        go_enter Try.func47, Try.ntmps47
        try go_wp2_with (first | ((with_reducible refine gate_dst (N := 1) rfl ?_); refine bx (cs := #[.int .i64 gL, .int .i64 gZ, .slice iL g2.length hW]) (t := 25) fun gF hg vX hbox hb => ?_; have g0 := am (hbox); have j3 := bz HB hg; have hU := bz HB hg; replace HB := bs HB hb; clear hb hbox hg) | ((with_reducible refine gate_dst (N := 2) rfl ?_); refine bx (cs := #[.int .i64 0, .int .i64 0, .slice none 0 0]) (t := 25) fun g5 hg vY hbox hb => ?_; have g1 := am (hbox); have gP := bz HB hg; have hV := bz HB hg; replace HB := bs HB hb; have g8 := nl g0 hg; have gI := ng g0 hg; replace g0 := kb g0 hb; clear hb hbox hg; have tG := g8.1; have tH := gI.1; obtain ⟨o5, o6, o7, o8, o9, oA⟩ := cs3 g0; have i7 : 0 ≤ (0 : Int) := (by omega); have i8 : 0 < (g2.length : Int) := od; obtain ⟨gH, i9, iA, jJ, gM, gN, gO, hC, hD⟩ := at_T25 hT.1 0 i7 i8; cases jJ; have k6 : (0 < g2.length) = True := eq_true (by omega); (try rw [tz] at gM); (try rw [z3] at gM); (try rw [Addr.add_zero'] at gM); (try rw [tz] at gN); (try rw [z3] at gN); (try rw [Addr.add_zero'] at gN); (try rw [tz] at gO); (try rw [z3] at gO); (try rw [Addr.add_zero'] at gO); replace gM := hc HB gM; replace gN := hc HB gN; replace gO := hc HB gO; have hX := am hD; have hY := am hC; clear hD hC; replace i7 := eq_true i7; replace i8 := eq_true i8) | ((with_reducible refine gate_callee (f := 47) rfl ?_); refine gl (some 47) Try.func47 #[.agg #[.int .i64 ((rd_T25 g2 0).f0), .int .i64 ((rd_T25 g2 0).f1), .slice i9 ((rd_T25 g2 0).f2).length iA]] ?_; (with_reducible refine (ih k (by omega) ((rd_T25 g2 0).f0) ((rd_T25 g2 0).f1) _ _ ((rd_T25 g2 0).f2) gW gX gQ true _ ?side1 ?side2 A47.1).mono ?_); (case side1 => exact cq (Kd.C_below hX.1 HB.1)); (case side2 => exact hY.1); rintro e vZ ⟨kT, rfl, ho0, hb⟩; refine ⟨_, rfl, ?_⟩; have gE := nm HB ho0 (fun k_ => (w.heap.size ≤ k_) ∧ k_ ≠ gF ∧ k_ ≠ g5) (fun k_ hk_ => ⟨(zt HB hk_), (fb g0 k_ hk_), (fb g1 k_ hk_)⟩); replace g0 := kb g0 hb; replace g1 := kb g1 hb; replace HB := bs HB hb; clear hb ho0) | ((with_reducible refine gate_dst (N := 4) rfl ?_); refine bx (cs := #[.int .i64 0, .int .i64 0, .slice none 0 0]) (t := 25) fun gC hg w0 hbox hb => ?_; replace gE := nb gE hg hb; have gD := am (hbox); have hS := bz HB hg; have iP := bz HB hg; replace HB := bs HB hb; have hG := nl g0 hg; have hH := ng g0 hg; replace g0 := kb g0 hb; have hI := nl g1 hg; have hJ := ng g1 hg; replace g1 := kb g1 hb; clear hb hbox hg; have tI := hH.1; have tJ := hG.1; have tK := hJ.1; have tL := hI.1; obtain ⟨oB, oC, oD, oE, oF, oG⟩ := cs3 gD; obtain ⟨j4, j5, rfl⟩ := Kd.N_slice gE.1; obtain ⟨oH, oI, oJ, oK, oL, oM⟩ := cs3 g0; have iB : 0 ≤ (1 : Int) := (by omega); have iC : 1 < (g2.length : Int) := od; obtain ⟨iQ, iD, iE, jK, g4, g6, g7, hE, hF⟩ := at_T25 hT.1 1 iB iC; obtain rfl : gH = iQ := (by injection jK); (try simp only [show (1 : Int).toNat = 1 from rfl, Nat.reduceMul, Nat.reduceEqDiff, Go.Addr.add, ↓reduceIte] at g4); (try simp only [show (1 : Int).toNat = 1 from rfl, Nat.reduceMul, Nat.reduceEqDiff, Go.Addr.add, ↓reduceIte] at g6); (try simp only [show (1 : Int).toNat = 1 from rfl, Nat.reduceMul, Nat.reduceEqDiff, Go.Addr.add, ↓reduceIte] at g7); have k7 : (1 < g2.length) = True := eq_true (by omega); (try rw [show ((1 : Int)).toNat = 1 from rfl] at g4); (try rw [show 1 * 3 = 3 from rfl] at g4); (try rw [show ((1 : Int)).toNat = 1 from rfl] at g6); (try rw [show 1 * 3 = 3 from rfl] at g6); (try rw [show ((1 : Int)).toNat = 1 from rfl] at g7); (try rw [show 1 * 3 = 3 from rfl] at g7); have g9 : gH.block ≠ gC := Nat.ne_of_lt (Nat.lt_of_lt_of_le (by have := World.block_lt_of_cell? _ _ g4; first | rwa [add_block] at this | exact this) hS.1); have gA : gH.block ≠ gC := Nat.ne_of_lt (Nat.lt_of_lt_of_le (by have := World.block_lt_of_cell? _ _ g4; first | rwa [add_block] at this | exact this) hS.1); have gB : gH.block ≠ gC := Nat.ne_of_lt (Nat.lt_of_lt_of_le (by have := World.block_lt_of_cell? _ _ g4; first | rwa [add_block] at this | exact this) hS.1); replace g4 := hc HB g4; replace g6 := hc HB g6; replace g7 := hc HB g7; have hZ := am hF; have i0 := am hE; clear hF hE; replace g4 := (cell_far (p := ⟨gC, 0, none⟩) (by first | (rw [add_block]; exact g9) | (show (Addr.add _ _).block ≠ _; rw [add_block]; exact g9) | exact g9) (.int .i64 gW)).trans g4; replace g6 := (cell_far (p := ⟨gC, 0, none⟩) (by first | (rw [add_block]; exact g9) | (show (Addr.add _ _).block ≠ _; rw [add_block]; exact g9) | exact g9) (.int .i64 gW)).trans g6; replace g7 := (cell_far (p := ⟨gC, 0, none⟩) (by first | (rw [add_block]; exact g9) | (show (Addr.add _ _).block ≠ _; rw [add_block]; exact g9) | exact g9) (.int .i64 gW)).trans g7; replace g4 := (cell_far (p := ⟨gC, 1, none⟩) (by first | (rw [add_block]; exact gA) | (show (Addr.add _ _).block ≠ _; rw [add_block]; exact gA) | exact gA) (.int .i64 gX)).trans g4; replace g6 := (cell_far (p := ⟨gC, 1, none⟩) (by first | (rw [add_block]; exact gA) | (show (Addr.add _ _).block ≠ _; rw [add_block]; exact gA) | exact gA) (.int .i64 gX)).trans g6; replace g7 := (cell_far (p := ⟨gC, 1, none⟩) (by first | (rw [add_block]; exact gA) | (show (Addr.add _ _).block ≠ _; rw [add_block]; exact gA) | exact gA) (.int .i64 gX)).trans g7; replace g4 := (cell_far (p := ⟨gC, 2, none⟩) (by first | (rw [add_block]; exact gB) | (show (Addr.add _ _).block ≠ _; rw [add_block]; exact gB) | exact gB) (.slice j4 gQ.length j5)).trans g4; replace g6 := (cell_far (p := ⟨gC, 2, none⟩) (by first | (rw [add_block]; exact gB) | (show (Addr.add _ _).block ≠ _; rw [add_block]; exact gB) | exact gB) (.slice j4 gQ.length j5)).trans g6; replace g7 := (cell_far (p := ⟨gC, 2, none⟩) (by first | (rw [add_block]; exact gB) | (show (Addr.add _ _).block ≠ _; rw [add_block]; exact gB) | exact gB) (.slice j4 gQ.length j5)).trans g7; clear g9 gA gB; replace iB := eq_true iB; replace iC := eq_true iC) | ((with_reducible refine gate_callee (f := 47) rfl ?_); refine gl (some 55) Try.func47 #[.agg #[.int .i64 ((rd_T25 g2 1).f0), .int .i64 ((rd_T25 g2 1).f1), .slice iD ((rd_T25 g2 1).f2).length iE]] ?_; (with_reducible refine (ih k (by omega) ((rd_T25 g2 1).f0) ((rd_T25 g2 1).f1) _ _ ((rd_T25 g2 1).f2) gR gS gJ false _ ?side1 ?side2 A49.1).mono ?_); (case side1 => exact Kd.C_below hZ.1 bq); (case side2 => exact i0.1); rintro e w2 ⟨kU, rfl, ho0, hb⟩; refine ⟨_, rfl, ?_⟩; have gG := nm HB ho0 (fun k_ => (w.heap.size ≤ k_) ∧ some k_ ≠ (.slice j4 gQ.length j5 : Value).ownBlock ∧ k_ ≠ gF ∧ k_ ≠ g5 ∧ k_ ≠ gC) (fun k_ hk_ => ⟨(zt HB hk_), (fr gE k_ hk_), (fb g0 k_ hk_), (fb g1 k_ hk_), (fb gD k_ hk_)⟩); replace gE := ne gE hb; replace g0 := kb g0 hb; replace g1 := kb g1 hb; replace gD := kc gD hb #[.int .i64 gW, .int .i64 gX, .slice j4 gQ.length j5]; replace HB := bs HB hb; clear hb ho0) | ((with_reducible refine gate_dst (N := 6) rfl ?_); refine bx (cs := #[.int .i64 0, .int .i64 0, .slice none 0 0]) (t := 25) fun g3 hg jU hbox hb => ?_; replace gE := nb gE hg hb; replace gG := nb gG hg hb; have gK := am (hbox); have k8 := bz HB hg; have iR := bz HB hg; replace HB := bs HB hb; have hL := nl g0 hg; have hM := ng g0 hg; replace g0 := kb g0 hb; have hN := nl g1 hg; have hO := ng g1 hg; replace g1 := kb g1 hb; have hP := nl gD hg; have hQ := ng gD hg; replace gD := kb gD hb; clear hb hbox hg; have tM := hM.1; have tN := hL.1; have tO := hO.1; have tP := hN.1; have tQ := hQ.1; have tR := hP.1; obtain ⟨oN, oO, oP, oQ, oR, oS⟩ := cs3 gK; obtain ⟨iF, iG, rfl⟩ := Kd.N_slice gG.1))
        have n0_ : Aside0 (Kd.N k25 25 (((jU.setCell ⟨g3, 0, none⟩ (.int .i64 gR)).setCell ⟨g3, 1, none⟩ (.int .i64 gS)).setCell ⟨g3, 2, none⟩ (.slice iF gJ.length iG)) w.heap.size (fun k_ => (w.heap.size ≤ k_) ∧ some k_ ≠ (.slice iF gJ.length iG : Value).ownBlock ∧ k_ ≠ gF ∧ k_ ≠ g5 ∧ k_ ≠ gC ∧ k_ ≠ g3) (.slice j4 gQ.length j5) gQ) := nf gE; have n1_ : Aside0 (Kd.N k25 25 (((jU.setCell ⟨g3, 0, none⟩ (.int .i64 gR)).setCell ⟨g3, 1, none⟩ (.int .i64 gS)).setCell ⟨g3, 2, none⟩ (.slice iF gJ.length iG)) w.heap.size (fun k_ => (w.heap.size ≤ k_) ∧ some k_ ≠ (.slice j4 gQ.length j5 : Value).ownBlock ∧ k_ ≠ gF ∧ k_ ≠ g5 ∧ k_ ≠ gC ∧ k_ ≠ g3) (.slice iF gJ.length iG) gJ) := nf gG; have n2_ : Aside0 ((((jU.setCell ⟨g3, 0, none⟩ (.int .i64 gR)).setCell ⟨g3, 1, none⟩ (.int .i64 gS)).setCell ⟨g3, 2, none⟩ (.slice iF gJ.length iG)).heap[gF]? = some (.cells #[.int .i64 gL, .int .i64 gZ, .slice (some gH) g2.length hW] 25 (0, 0))) := kf g0; have n3_ : Aside0 ((((jU.setCell ⟨g3, 0, none⟩ (.int .i64 gR)).setCell ⟨g3, 1, none⟩ (.int .i64 gS)).setCell ⟨g3, 2, none⟩ (.slice iF gJ.length iG)).heap[g5]? = some (.cells #[.int .i64 0, .int .i64 0, .slice none 0 0] 25 (0, 0))) := kf g1; have n4_ : Aside0 ((((jU.setCell ⟨g3, 0, none⟩ (.int .i64 gR)).setCell ⟨g3, 1, none⟩ (.int .i64 gS)).setCell ⟨g3, 2, none⟩ (.slice iF gJ.length iG)).heap[gC]? = some (.cells #[.int .i64 gW, .int .i64 gX, .slice j4 gQ.length j5] 25 (0, 0))) := kf gD; have n5_ : Aside0 ((((jU.setCell ⟨g3, 0, none⟩ (.int .i64 gR)).setCell ⟨g3, 1, none⟩ (.int .i64 gS)).setCell ⟨g3, 2, none⟩ (.slice iF gJ.length iG)).heap[g3]? = some (.cells #[.int .i64 gR, .int .i64 gS, .slice iF gJ.length iG] 25 (0, 0))) := kf gK; have n6_ : Aside0 (Below w.heap.size w (((jU.setCell ⟨g3, 0, none⟩ (.int .i64 gR)).setCell ⟨g3, 1, none⟩ (.int .i64 gS)).setCell ⟨g3, 2, none⟩ (.slice iF gJ.length iG))) := bw; (try clear gE); (try clear gG); (try clear g0); (try clear g1); (try clear gD); (try clear gK); (try clear HB)
        generalize (((jU.setCell ⟨g3, 0, none⟩ (.int .i64 gR)).setCell ⟨g3, 1, none⟩ (.int .i64 gS)).setCell ⟨g3, 2, none⟩ (.slice iF gJ.length iG)) = tS at n0_ n1_ n2_ n3_ n4_ n5_ n6_ ⊢
        have gE := n0_; have gG := n1_; have g0 := n2_; have g1 := n3_; have gD := n4_; have gK := n5_; have HB := n6_; clear n0_ n1_ n2_ n3_ n4_ n5_ n6_; replace gE := am (Kd.N_drew gE.1); replace gG := am (Kd.N_drew gG.1); replace g0 := am (blk_drew g0.1); replace g1 := am (blk_drew g1.1); replace gD := am (blk_drew gD.1); replace gK := am (blk_drew gK.1); replace HB := am (below_drew1 HB.1)
        refine start_ (n := 22) (S := fun w' => True) (ds := []) #[ff,ff,ff,ff,ff,ff,ff,ff,ff,ff,ff,ff,ff,ff,ff,ff,ff,ff,ff,ff,ff,ff] (by kernel_rfl) rfl rfl trivial (fun hHeld => ?_); refine with_tabW spec_l17Pass.tab12 spec_l17Pass.bits12 (fun HT_ HW_ => ?_)
        generalize tS.drew = w5 at gE gG g0 g1 gD gK HB hHeld ⊢
        refine pu (i := 0) (N := some 58) #[tt,ff,ff,ff,ff,ff,ff,ff,ff,ff,ff,ff,ff,ff,ff,ff,ff,ff,ff,ff,ff,ff] HT_ ?_
        refine pu (i := 1) (N := some 59) #[tt,tt,ff,ff,ff,ff,ff,ff,ff,ff,ff,ff,ff,ff,ff,ff,ff,ff,ff,ff,ff,ff] HT_ ?_
        refine pu (i := 2) (N := some 60) #[tt,tt,tt,ff,ff,ff,ff,ff,ff,ff,ff,ff,ff,ff,ff,ff,ff,ff,ff,ff,ff,ff] HT_ ?_
        refine pu (i := 3) (N := some 61) #[tt,tt,tt,tt,ff,ff,ff,ff,ff,ff,ff,ff,ff,ff,ff,ff,ff,ff,ff,ff,ff,ff] HT_ ?_
        refine pu (i := 4) (N := some 62) #[tt,tt,tt,tt,tt,ff,ff,ff,ff,ff,ff,ff,ff,ff,ff,ff,ff,ff,ff,ff,ff,ff] HT_ ?_
        refine pu (i := 5) (N := some 63) #[tt,tt,tt,tt,tt,tt,ff,ff,ff,ff,ff,ff,ff,ff,ff,ff,ff,ff,ff,ff,ff,ff] HT_ ?_
        refine pu (i := 6) (N := some 64) #[tt,tt,tt,tt,tt,tt,tt,ff,ff,ff,ff,ff,ff,ff,ff,ff,ff,ff,ff,ff,ff,ff] HT_ ?_
        refine pr (i := 7) (N := some 65) #[tt,tt,tt,tt,tt,tt,tt,tt,ff,ff,ff,ff,ff,ff,ff,ff,ff,ff,ff,ff,ff,ff] HT_ ?_
        refine pr (i := 8) (N := some 66) #[tt,tt,tt,tt,tt,tt,tt,tt,tt,ff,ff,ff,ff,ff,ff,ff,ff,ff,ff,ff,ff,ff] HT_ ?_
        refine pr (i := 9) (N := some 67) #[tt,tt,tt,tt,tt,tt,tt,tt,tt,tt,ff,ff,ff,ff,ff,ff,ff,ff,ff,ff,ff,ff] HT_ ?_
        refine pr (i := 10) (N := some 68) #[tt,tt,tt,tt,tt,tt,tt,tt,tt,tt,tt,ff,ff,ff,ff,ff,ff,ff,ff,ff,ff,ff] HT_ ?_
        refine pr (i := 11) (N := some 69) #[tt,tt,tt,tt,tt,tt,tt,tt,tt,tt,tt,tt,ff,ff,ff,ff,ff,ff,ff,ff,ff,ff] HT_ ?_
        refine pr (i := 12) (N := some 70) #[tt,tt,tt,tt,tt,tt,tt,tt,tt,tt,tt,tt,tt,ff,ff,ff,ff,ff,ff,ff,ff,ff] HT_ ?_
        refine pr (i := 13) (N := some 71) #[tt,tt,tt,tt,tt,tt,tt,tt,tt,tt,tt,tt,tt,tt,ff,ff,ff,ff,ff,ff,ff,ff] HT_ ?_
        refine pr (i := 14) (N := some 72) #[tt,tt,tt,tt,tt,tt,tt,tt,tt,tt,tt,tt,tt,tt,tt,ff,ff,ff,ff,ff,ff,ff] HT_ ?_
        refine pr (i := 15) (N := some 73) #[tt,tt,tt,tt,tt,tt,tt,tt,tt,tt,tt,tt,tt,tt,tt,tt,ff,ff,ff,ff,ff,ff] HT_ ?_
        refine pr (i := 16) (N := some 74) #[tt,tt,tt,tt,tt,tt,tt,tt,tt,tt,tt,tt,tt,tt,tt,tt,tt,ff,ff,ff,ff,ff] HT_ ?_
        refine pr (i := 17) (N := some 75) #[tt,tt,tt,tt,tt,tt,tt,tt,tt,tt,tt,tt,tt,tt,tt,tt,tt,tt,ff,ff,ff,ff] HT_ ?_
        refine pr (i := 18) (N := some 76) #[tt,tt,tt,tt,tt,tt,tt,tt,tt,tt,tt,tt,tt,tt,tt,tt,tt,tt,tt,ff,ff,ff] HT_ ?_
        refine pr (i := 19) (N := some 77) #[tt,tt,tt,tt,tt,tt,tt,tt,tt,tt,tt,tt,tt,tt,tt,tt,tt,tt,tt,tt,ff,ff] HT_ ?_
        refine pr (i := 20) (N := some 78) #[tt,tt,tt,tt,tt,tt,tt,tt,tt,tt,tt,tt,tt,tt,tt,tt,tt,tt,tt,tt,tt,ff] HT_ ?_
        refine pu (i := 21) (N := some 79) #[tt,tt,tt,tt,tt,tt,tt,tt,tt,tt,tt,tt,tt,tt,tt,tt,tt,tt,tt,tt,tt,tt] HT_ ?_
        refine done_ (done_of HT_.1 (by kernel_rfl)) ?_
        obtain ⟨oT, oU, oV, oW, oX, oY⟩ := cs3 g1
        try go_wp2
        refine bodyPost_ret (results_ct rfl _ _ g5 25 #[.int .i64 0, .int .i64 0, .slice none 0 0] (0, 0) _ rfl (kf g1).1 Try.underlying25 rfl (by kernel_rfl)) rfl ?_
        exact ⟨_, by first | rfl | (simp [errW_none, errW_some] <;> rfl) | (simp [*, errW_none, errW_some] <;> rfl), by first | exact Kd.R_nil _ _ _ _ _ | exact Kd.N_nil _ _ _ _ _ | exact Kd.V_nil _ _ _ _ _ | exact Kd.Q_nil _ _ _ _ _ | exact Kd.S_nil _ _ _ _ _, by repeat (first | (with_reducible first | exact HB.1 | apply below_alloc | apply pw_below_drewN | apply below_drew1 | refine below_set ?_ hU.1 | refine below_set ?_ hV.1 | refine below_set ?_ iP.1 | refine below_set ?_ iR.1) | exact HB.1)⟩
      ·
       replace c50 := Bool.eq_false_iff.mpr c50
       subst c50
       have H1 : (some (0, 0, ([] : List (S25)), false)) = some (r1, r2, r3, r4) := by rw [if_neg (show ¬ (false = true) by decide)] at H; exact H
       clear H
       have H := H1
       clear H1
       simp only [Option.some.injEq, Prod.mk.injEq] at H
       obtain ⟨rfl, rfl, rfl, rfl⟩ := H
       go_enter Try.func47, Try.ntmps47
       try go_wp2_with (first | ((with_reducible refine gate_dst (N := 1) rfl ?_); refine bx (cs := #[.int .i64 gL, .int .i64 gZ, .slice iL g2.length hW]) (t := 25) fun gF hg w6 hbox hb => ?_; have g0 := am (hbox); have j3 := bz HB hg; have hU := bz HB hg; replace HB := bs HB hb; clear hb hbox hg) | ((with_reducible refine gate_dst (N := 2) rfl ?_); refine bx (cs := #[.int .i64 0, .int .i64 0, .slice none 0 0]) (t := 25) fun g5 hg w7 hbox hb => ?_; have g1 := am (hbox); have gP := bz HB hg; have hV := bz HB hg; replace HB := bs HB hb; have g8 := nl g0 hg; have gI := ng g0 hg; replace g0 := kb g0 hb; clear hb hbox hg; have tT := g8.1; have tU := gI.1; obtain ⟨oZ, p0, p1, p2, p3, p4⟩ := cs3 g0; have i7 : 0 ≤ (0 : Int) := (by omega); have i8 : 0 < (g2.length : Int) := od; obtain ⟨gH, i9, iA, jJ, gM, gN, gO, hC, hD⟩ := at_T25 hT.1 0 i7 i8; cases jJ; have k6 : (0 < g2.length) = True := eq_true (by omega); (try rw [tz] at gM); (try rw [z3] at gM); (try rw [Addr.add_zero'] at gM); (try rw [tz] at gN); (try rw [z3] at gN); (try rw [Addr.add_zero'] at gN); (try rw [tz] at gO); (try rw [z3] at gO); (try rw [Addr.add_zero'] at gO); replace gM := hc HB gM; replace gN := hc HB gN; replace gO := hc HB gO; have hX := am hD; have hY := am hC; clear hD hC; replace i7 := eq_true i7; replace i8 := eq_true i8) | ((with_reducible refine gate_callee (f := 47) rfl ?_); refine gl (some 47) Try.func47 #[.agg #[.int .i64 ((rd_T25 g2 0).f0), .int .i64 ((rd_T25 g2 0).f1), .slice i9 ((rd_T25 g2 0).f2).length iA]] ?_; (with_reducible refine (ih k (by omega) ((rd_T25 g2 0).f0) ((rd_T25 g2 0).f1) _ _ ((rd_T25 g2 0).f2) gW gX gQ false _ ?side1 ?side2 A47.1).mono ?_); (case side1 => exact cq (Kd.C_below hX.1 HB.1)); (case side2 => exact hY.1); rintro e w8 ⟨kT, rfl, ho0, hb⟩; refine ⟨_, rfl, ?_⟩; have gE := nm HB ho0 (fun k_ => (w.heap.size ≤ k_) ∧ k_ ≠ gF ∧ k_ ≠ g5) (fun k_ hk_ => ⟨(zt HB hk_), (fb g0 k_ hk_), (fb g1 k_ hk_)⟩); replace g0 := kb g0 hb; replace g1 := kb g1 hb; replace HB := bs HB hb; clear hb ho0) | ((with_reducible refine gate_dst (N := 4) rfl ?_); refine bx (cs := #[.int .i64 0, .int .i64 0, .slice none 0 0]) (t := 25) fun gC hg w9 hbox hb => ?_; replace gE := nb gE hg hb; have gD := am (hbox); have hS := bz HB hg; have iP := bz HB hg; replace HB := bs HB hb; have hG := nl g0 hg; have hH := ng g0 hg; replace g0 := kb g0 hb; have hI := nl g1 hg; have hJ := ng g1 hg; replace g1 := kb g1 hb; clear hb hbox hg; have tV := hH.1; have tW := hG.1; have tX := hJ.1; have tY := hI.1; obtain ⟨p5, p6, p7, p8, p9, pA⟩ := cs3 gD; obtain ⟨j6, j7, rfl⟩ := Kd.N_slice gE.1; obtain ⟨pB, pC, pD, pE, pF, pG⟩ := cs3 g0; have iB : 0 ≤ (1 : Int) := (by omega); have iC : 1 < (g2.length : Int) := od; obtain ⟨iQ, iD, iE, jK, g4, g6, g7, hE, hF⟩ := at_T25 hT.1 1 iB iC; obtain rfl : gH = iQ := (by injection jK); (try simp only [show (1 : Int).toNat = 1 from rfl, Nat.reduceMul, Nat.reduceEqDiff, Go.Addr.add, ↓reduceIte] at g4); (try simp only [show (1 : Int).toNat = 1 from rfl, Nat.reduceMul, Nat.reduceEqDiff, Go.Addr.add, ↓reduceIte] at g6); (try simp only [show (1 : Int).toNat = 1 from rfl, Nat.reduceMul, Nat.reduceEqDiff, Go.Addr.add, ↓reduceIte] at g7); have k7 : (1 < g2.length) = True := eq_true (by omega); (try rw [show ((1 : Int)).toNat = 1 from rfl] at g4); (try rw [show 1 * 3 = 3 from rfl] at g4); (try rw [show ((1 : Int)).toNat = 1 from rfl] at g6); (try rw [show 1 * 3 = 3 from rfl] at g6); (try rw [show ((1 : Int)).toNat = 1 from rfl] at g7); (try rw [show 1 * 3 = 3 from rfl] at g7); have g9 : gH.block ≠ gC := Nat.ne_of_lt (Nat.lt_of_lt_of_le (by have := World.block_lt_of_cell? _ _ g4; first | rwa [add_block] at this | exact this) hS.1); have gA : gH.block ≠ gC := Nat.ne_of_lt (Nat.lt_of_lt_of_le (by have := World.block_lt_of_cell? _ _ g4; first | rwa [add_block] at this | exact this) hS.1); have gB : gH.block ≠ gC := Nat.ne_of_lt (Nat.lt_of_lt_of_le (by have := World.block_lt_of_cell? _ _ g4; first | rwa [add_block] at this | exact this) hS.1); replace g4 := hc HB g4; replace g6 := hc HB g6; replace g7 := hc HB g7; have hZ := am hF; have i0 := am hE; clear hF hE; replace g4 := (cell_far (p := ⟨gC, 0, none⟩) (by first | (rw [add_block]; exact g9) | (show (Addr.add _ _).block ≠ _; rw [add_block]; exact g9) | exact g9) (.int .i64 gW)).trans g4; replace g6 := (cell_far (p := ⟨gC, 0, none⟩) (by first | (rw [add_block]; exact g9) | (show (Addr.add _ _).block ≠ _; rw [add_block]; exact g9) | exact g9) (.int .i64 gW)).trans g6; replace g7 := (cell_far (p := ⟨gC, 0, none⟩) (by first | (rw [add_block]; exact g9) | (show (Addr.add _ _).block ≠ _; rw [add_block]; exact g9) | exact g9) (.int .i64 gW)).trans g7; replace g4 := (cell_far (p := ⟨gC, 1, none⟩) (by first | (rw [add_block]; exact gA) | (show (Addr.add _ _).block ≠ _; rw [add_block]; exact gA) | exact gA) (.int .i64 gX)).trans g4; replace g6 := (cell_far (p := ⟨gC, 1, none⟩) (by first | (rw [add_block]; exact gA) | (show (Addr.add _ _).block ≠ _; rw [add_block]; exact gA) | exact gA) (.int .i64 gX)).trans g6; replace g7 := (cell_far (p := ⟨gC, 1, none⟩) (by first | (rw [add_block]; exact gA) | (show (Addr.add _ _).block ≠ _; rw [add_block]; exact gA) | exact gA) (.int .i64 gX)).trans g7; replace g4 := (cell_far (p := ⟨gC, 2, none⟩) (by first | (rw [add_block]; exact gB) | (show (Addr.add _ _).block ≠ _; rw [add_block]; exact gB) | exact gB) (.slice j6 gQ.length j7)).trans g4; replace g6 := (cell_far (p := ⟨gC, 2, none⟩) (by first | (rw [add_block]; exact gB) | (show (Addr.add _ _).block ≠ _; rw [add_block]; exact gB) | exact gB) (.slice j6 gQ.length j7)).trans g6; replace g7 := (cell_far (p := ⟨gC, 2, none⟩) (by first | (rw [add_block]; exact gB) | (show (Addr.add _ _).block ≠ _; rw [add_block]; exact gB) | exact gB) (.slice j6 gQ.length j7)).trans g7; clear g9 gA gB; replace iB := eq_true iB; replace iC := eq_true iC) | ((with_reducible refine gate_callee (f := 47) rfl ?_); refine gl (some 55) Try.func47 #[.agg #[.int .i64 ((rd_T25 g2 1).f0), .int .i64 ((rd_T25 g2 1).f1), .slice iD ((rd_T25 g2 1).f2).length iE]] ?_; (with_reducible refine (ih k (by omega) ((rd_T25 g2 1).f0) ((rd_T25 g2 1).f1) _ _ ((rd_T25 g2 1).f2) gR gS gJ kS _ ?side1 ?side2 A49.1).mono ?_); (case side1 => exact Kd.C_below hZ.1 bq); (case side2 => exact i0.1); rintro e wA ⟨kU, rfl, ho0, hb⟩; refine ⟨_, rfl, ?_⟩; have gG := nm HB ho0 (fun k_ => (w.heap.size ≤ k_) ∧ some k_ ≠ (.slice j6 gQ.length j7 : Value).ownBlock ∧ k_ ≠ gF ∧ k_ ≠ g5 ∧ k_ ≠ gC) (fun k_ hk_ => ⟨(zt HB hk_), (fr gE k_ hk_), (fb g0 k_ hk_), (fb g1 k_ hk_), (fb gD k_ hk_)⟩); replace gE := ne gE hb; replace g0 := kb g0 hb; replace g1 := kb g1 hb; replace gD := kc gD hb #[.int .i64 gW, .int .i64 gX, .slice j6 gQ.length j7]; replace HB := bs HB hb; clear hb ho0) | ((with_reducible refine gate_dst (N := 6) rfl ?_); refine bx (cs := #[.int .i64 0, .int .i64 0, .slice none 0 0]) (t := 25) fun g3 hg jV hbox hb => ?_; replace gE := nb gE hg hb; replace gG := nb gG hg hb; have gK := am (hbox); have k8 := bz HB hg; have iR := bz HB hg; replace HB := bs HB hb; have hL := nl g0 hg; have hM := ng g0 hg; replace g0 := kb g0 hb; have hN := nl g1 hg; have hO := ng g1 hg; replace g1 := kb g1 hb; have hP := nl gD hg; have hQ := ng gD hg; replace gD := kb gD hb; clear hb hbox hg; have tZ := hM.1; have u0 := hL.1; have u1 := hO.1; have u2 := hN.1; have u3 := hQ.1; have u4 := hP.1; obtain ⟨pH, pI, pJ, pK, pL, pM⟩ := cs3 gK; obtain ⟨iH, iI, rfl⟩ := Kd.N_slice gG.1))
       have n0_ : Aside0 (Kd.N k25 25 (((jV.setCell ⟨g3, 0, none⟩ (.int .i64 gR)).setCell ⟨g3, 1, none⟩ (.int .i64 gS)).setCell ⟨g3, 2, none⟩ (.slice iH gJ.length iI)) w.heap.size (fun k_ => (w.heap.size ≤ k_) ∧ some k_ ≠ (.slice iH gJ.length iI : Value).ownBlock ∧ k_ ≠ gF ∧ k_ ≠ g5 ∧ k_ ≠ gC ∧ k_ ≠ g3) (.slice j6 gQ.length j7) gQ) := nf gE; have n1_ : Aside0 (Kd.N k25 25 (((jV.setCell ⟨g3, 0, none⟩ (.int .i64 gR)).setCell ⟨g3, 1, none⟩ (.int .i64 gS)).setCell ⟨g3, 2, none⟩ (.slice iH gJ.length iI)) w.heap.size (fun k_ => (w.heap.size ≤ k_) ∧ some k_ ≠ (.slice j6 gQ.length j7 : Value).ownBlock ∧ k_ ≠ gF ∧ k_ ≠ g5 ∧ k_ ≠ gC ∧ k_ ≠ g3) (.slice iH gJ.length iI) gJ) := nf gG; have n2_ : Aside0 ((((jV.setCell ⟨g3, 0, none⟩ (.int .i64 gR)).setCell ⟨g3, 1, none⟩ (.int .i64 gS)).setCell ⟨g3, 2, none⟩ (.slice iH gJ.length iI)).heap[gF]? = some (.cells #[.int .i64 gL, .int .i64 gZ, .slice (some gH) g2.length hW] 25 (0, 0))) := kf g0; have n3_ : Aside0 ((((jV.setCell ⟨g3, 0, none⟩ (.int .i64 gR)).setCell ⟨g3, 1, none⟩ (.int .i64 gS)).setCell ⟨g3, 2, none⟩ (.slice iH gJ.length iI)).heap[g5]? = some (.cells #[.int .i64 0, .int .i64 0, .slice none 0 0] 25 (0, 0))) := kf g1; have n4_ : Aside0 ((((jV.setCell ⟨g3, 0, none⟩ (.int .i64 gR)).setCell ⟨g3, 1, none⟩ (.int .i64 gS)).setCell ⟨g3, 2, none⟩ (.slice iH gJ.length iI)).heap[gC]? = some (.cells #[.int .i64 gW, .int .i64 gX, .slice j6 gQ.length j7] 25 (0, 0))) := kf gD; have n5_ : Aside0 ((((jV.setCell ⟨g3, 0, none⟩ (.int .i64 gR)).setCell ⟨g3, 1, none⟩ (.int .i64 gS)).setCell ⟨g3, 2, none⟩ (.slice iH gJ.length iI)).heap[g3]? = some (.cells #[.int .i64 gR, .int .i64 gS, .slice iH gJ.length iI] 25 (0, 0))) := kf gK; have n6_ : Aside0 (Below w.heap.size w (((jV.setCell ⟨g3, 0, none⟩ (.int .i64 gR)).setCell ⟨g3, 1, none⟩ (.int .i64 gS)).setCell ⟨g3, 2, none⟩ (.slice iH gJ.length iI))) := bw; (try clear gE); (try clear gG); (try clear g0); (try clear g1); (try clear gD); (try clear gK); (try clear HB)
       generalize (((jV.setCell ⟨g3, 0, none⟩ (.int .i64 gR)).setCell ⟨g3, 1, none⟩ (.int .i64 gS)).setCell ⟨g3, 2, none⟩ (.slice iH gJ.length iI)) = u5 at n0_ n1_ n2_ n3_ n4_ n5_ n6_ ⊢
       have gE := n0_; have gG := n1_; have g0 := n2_; have g1 := n3_; have gD := n4_; have gK := n5_; have HB := n6_; clear n0_ n1_ n2_ n3_ n4_ n5_ n6_; replace gE := am (Kd.N_drew gE.1); replace gG := am (Kd.N_drew gG.1); replace g0 := am (blk_drew g0.1); replace g1 := am (blk_drew g1.1); replace gD := am (blk_drew gD.1); replace gK := am (blk_drew gK.1); replace HB := am (below_drew1 HB.1)
       refine start_ (n := 22) (S := fun w' => True) (ds := []) #[ff,ff,ff,ff,ff,ff,ff,ff,ff,ff,ff,ff,ff,ff,ff,ff,ff,ff,ff,ff,ff,ff] (by kernel_rfl) rfl rfl trivial (fun hHeld => ?_); refine with_tabW spec_l17Pass.tab12 spec_l17Pass.bits12 (fun HT_ HW_ => ?_)
       generalize u5.drew = wB at gE gG g0 g1 gD gK HB hHeld ⊢
       refine pu (i := 0) (N := some 58) #[tt,ff,ff,ff,ff,ff,ff,ff,ff,ff,ff,ff,ff,ff,ff,ff,ff,ff,ff,ff,ff,ff] HT_ ?_
       refine pu (i := 1) (N := some 59) #[tt,tt,ff,ff,ff,ff,ff,ff,ff,ff,ff,ff,ff,ff,ff,ff,ff,ff,ff,ff,ff,ff] HT_ ?_
       refine pu (i := 2) (N := some 60) #[tt,tt,tt,ff,ff,ff,ff,ff,ff,ff,ff,ff,ff,ff,ff,ff,ff,ff,ff,ff,ff,ff] HT_ ?_
       refine pr (i := 3) (N := some 61) #[tt,tt,tt,tt,ff,ff,ff,ff,ff,ff,ff,ff,ff,ff,ff,ff,ff,ff,ff,ff,ff,ff] HT_ ?_
       refine pr (i := 4) (N := some 62) #[tt,tt,tt,tt,tt,ff,ff,ff,ff,ff,ff,ff,ff,ff,ff,ff,ff,ff,ff,ff,ff,ff] HT_ ?_
       refine pu (i := 5) (N := some 63) #[tt,tt,tt,tt,tt,tt,ff,ff,ff,ff,ff,ff,ff,ff,ff,ff,ff,ff,ff,ff,ff,ff] HT_ ?_
       refine pu (i := 6) (N := some 64) #[tt,tt,tt,tt,tt,tt,tt,ff,ff,ff,ff,ff,ff,ff,ff,ff,ff,ff,ff,ff,ff,ff] HT_ ?_
       refine pr (i := 7) (N := some 65) #[tt,tt,tt,tt,tt,tt,tt,tt,ff,ff,ff,ff,ff,ff,ff,ff,ff,ff,ff,ff,ff,ff] HT_ ?_
       refine pr (i := 8) (N := some 66) #[tt,tt,tt,tt,tt,tt,tt,tt,tt,ff,ff,ff,ff,ff,ff,ff,ff,ff,ff,ff,ff,ff] HT_ ?_
       refine pr (i := 9) (N := some 67) #[tt,tt,tt,tt,tt,tt,tt,tt,tt,tt,ff,ff,ff,ff,ff,ff,ff,ff,ff,ff,ff,ff] HT_ ?_
       refine pr (i := 10) (N := some 68) #[tt,tt,tt,tt,tt,tt,tt,tt,tt,tt,tt,ff,ff,ff,ff,ff,ff,ff,ff,ff,ff,ff] HT_ ?_
       refine pr (i := 11) (N := some 69) #[tt,tt,tt,tt,tt,tt,tt,tt,tt,tt,tt,tt,ff,ff,ff,ff,ff,ff,ff,ff,ff,ff] HT_ ?_
       refine pr (i := 12) (N := some 70) #[tt,tt,tt,tt,tt,tt,tt,tt,tt,tt,tt,tt,tt,ff,ff,ff,ff,ff,ff,ff,ff,ff] HT_ ?_
       refine pr (i := 13) (N := some 71) #[tt,tt,tt,tt,tt,tt,tt,tt,tt,tt,tt,tt,tt,tt,ff,ff,ff,ff,ff,ff,ff,ff] HT_ ?_
       refine pr (i := 14) (N := some 72) #[tt,tt,tt,tt,tt,tt,tt,tt,tt,tt,tt,tt,tt,tt,tt,ff,ff,ff,ff,ff,ff,ff] HT_ ?_
       refine pr (i := 15) (N := some 73) #[tt,tt,tt,tt,tt,tt,tt,tt,tt,tt,tt,tt,tt,tt,tt,tt,ff,ff,ff,ff,ff,ff] HT_ ?_
       refine pr (i := 16) (N := some 74) #[tt,tt,tt,tt,tt,tt,tt,tt,tt,tt,tt,tt,tt,tt,tt,tt,tt,ff,ff,ff,ff,ff] HT_ ?_
       refine pr (i := 17) (N := some 75) #[tt,tt,tt,tt,tt,tt,tt,tt,tt,tt,tt,tt,tt,tt,tt,tt,tt,tt,ff,ff,ff,ff] HT_ ?_
       refine pr (i := 18) (N := some 76) #[tt,tt,tt,tt,tt,tt,tt,tt,tt,tt,tt,tt,tt,tt,tt,tt,tt,tt,tt,ff,ff,ff] HT_ ?_
       refine pr (i := 19) (N := some 77) #[tt,tt,tt,tt,tt,tt,tt,tt,tt,tt,tt,tt,tt,tt,tt,tt,tt,tt,tt,tt,ff,ff] HT_ ?_
       refine pr (i := 20) (N := some 78) #[tt,tt,tt,tt,tt,tt,tt,tt,tt,tt,tt,tt,tt,tt,tt,tt,tt,tt,tt,tt,tt,ff] HT_ ?_
       refine pu (i := 21) (N := some 79) #[tt,tt,tt,tt,tt,tt,tt,tt,tt,tt,tt,tt,tt,tt,tt,tt,tt,tt,tt,tt,tt,tt] HT_ ?_
       refine done_ (done_of HT_.1 (by kernel_rfl)) ?_
       obtain ⟨pN, pO, pP, pQ, pR, pS⟩ := cs3 g1
       try go_wp2
       refine bodyPost_ret (results_ct rfl _ _ g5 25 #[.int .i64 0, .int .i64 0, .slice none 0 0] (0, 0) _ rfl (kf g1).1 Try.underlying25 rfl (by kernel_rfl)) rfl ?_
       exact ⟨_, by first | rfl | (simp [errW_none, errW_some] <;> rfl) | (simp [*, errW_none, errW_some] <;> rfl), by first | exact Kd.R_nil _ _ _ _ _ | exact Kd.N_nil _ _ _ _ _ | exact Kd.V_nil _ _ _ _ _ | exact Kd.Q_nil _ _ _ _ _ | exact Kd.S_nil _ _ _ _ _, by repeat (first | (with_reducible first | exact HB.1 | apply below_alloc | apply pw_below_drewN | apply below_drew1 | refine below_set ?_ hU.1 | refine below_set ?_ hV.1 | refine below_set ?_ iP.1 | refine below_set ?_ iR.1) | exact HB.1)⟩
     ·
      rw [if_neg c48] at H
      exact absurd H (by simp)
    ·
     rw [if_neg c46] at H
     exact absurd H (by simp)
end Go.Proofs.Ytfnmjecofgeboaa.PAll
