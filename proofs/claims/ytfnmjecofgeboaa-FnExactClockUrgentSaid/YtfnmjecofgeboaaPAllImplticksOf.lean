-- Laid by a program of this session out of the translation's print
import Derived.Test.YtfnmjecofgeboaaPAllImplticksOfd
import Derived.Test.YtfnmjecofgeboaaPAll0
import Derived.Test.YtfnmjecofgeboaaPAllAb
import Derived.Test.YtfnmjecofgeboaaPAllSmall
namespace Go.Proofs.Ytfnmjecofgeboaa.PAll
open Go.RowKit Go.Proofs.YtfnmjecofgeboaaW.PrintWords Go.Proofs.YtfnmjecofgeboaaW.PrintLast Go.Proofs.YtfnmjecofgeboaaW.PrintMore
attribute [local go_sem] max2_int min2_int max_two min_two max_three min_three max_four min_four   -- for this text's walks alone
set_option linter.unusedVariables false
set_option linter.unusedSimpArgs false

set_option maxHeartbeats 8000000 in
set_option maxRecDepth 100000 in
theorem impl_ticksOf.calls (k : Nat) : ∀ (gJ : Int) (gN : Int) (g6 : Nat → Prop) (lC : Option Addr) (gY : Nat) (g3 : List (S25)) (r : List (S44)) (w : World) (oZ : Kd.V k25 25 w w.heap.size (fun k_ => g6 k_) (.slice lC g3.length gY) g3) (h : impl_ticksOf.f k gJ gN g3 = some r),
  Calls Try.prog 43 #[.agg #[.int .i64 gJ, .int .i64 gN, .slice lC g3.length gY]] w fun e w' => ∃ v0_ : Value, e = .returned (v0_) ∧ Kd.N k44 44 w' w.heap.size (fun k_ => (g6 k_ ∨ w.heap.size ≤ k_)) v0_ r ∧ Below w.heap.size w w' := by
 induction k using Nat.strongRecOn with
 | _ k ih =>
 intro gJ gN g6 lC gY g3 r w oZ h
 cases k with
 | zero => exact absurd h (by simp [impl_ticksOf.f])
 | succ k =>
 simp only [impl_ticksOf.f] at h
 have vJ := Try.underlying25
 have vK := Try.underlying44
 have gD := am (show Kd.V k25 25 w w.heap.size (fun k_ => (g6 k_ ∨ w.heap.size ≤ k_)) (.slice lC g3.length gY) g3 from Kd.V_mono oZ (fun k_ hk => .inl hk)); have HB := am (Below.refl w.heap.size w)
 have H : (if gJ = 1 then (if 0 < (g3.length : Int) then (some (([(⟨gN, (⟨(rd_T25 g3 0).f0, (rd_T25 g3 0).f1, (rd_T25 g3 0).f2⟩ : S25)⟩ : S44)] : List (S44)))) else (none)) else (if gJ = 3 then (if 0 < (g3.length : Int) then ((impl_ticksOf.f k ((rd_T25 g3 0).f0) ((rd_T25 g3 0).f1) ((rd_T25 g3 0).f2)).bind fun jP => (if 1 < (g3.length : Int) then ((impl_ticksOf.f k ((rd_T25 g3 1).f0) ((rd_T25 g3 1).f1) ((rd_T25 g3 1).f2)).bind fun iJ => (if jP.length + iJ.length < 2932031007402 then (some (jP ++ iJ)) else (none))) else (none))) else (none)) else (if gJ = 4 then (if 0 < (g3.length : Int) then ((impl_ticksOf.f k ((rd_T25 g3 0).f0) ((rd_T25 g3 0).f1) ((rd_T25 g3 0).f2)).bind fun g1 => (if 1 < (g3.length : Int) then ((impl_ticksOf.f k ((rd_T25 g3 1).f0) ((rd_T25 g3 1).f1) ((rd_T25 g3 1).f2)).bind fun g4 => (impl_ticksOf.l0 k g1 g4 (([] : List (S44))) g1 (g1.length : Int) 0 gJ gN g3)) else (none))) else (none)) else (some ([] : List (S44)))))) = some r := h
 clear h
 by_cases c2 : gJ = 1
 ·
  rw [if_pos c2] at H; have c2b0 : (gJ == 1) = true := beq_iff_eq.mpr c2; have c2b1 : (gJ != 1) = false := bne_eq_false_iff_eq.mpr c2; clear c2
  by_cases c3 : 0 < (g3.length : Int)
  ·
   rw [if_pos c3] at H; have c3b0 : decide (0 < (g3.length : Int)) = true := decide_eq_true c3; have c3b1 : decide (0 < g3.length) = true := decide_eq_true (by omega); clear c3
   obtain ⟨tJ, lD⟩ : ∃ y_ : List (S44), y_ = (([(⟨gN, (⟨(rd_T25 g3 0).f0, (rd_T25 g3 0).f1, (rd_T25 g3 0).f2⟩ : S25)⟩ : S44)] : List (S44))) := ⟨_, rfl⟩
   replace H : (some tJ) = some r := by first | (rw [lD]; with_reducible exact H) | (have H2_ := (Option.bind_some _ _).symm.trans H; rw [lD]; with_reducible exact H2_) | (have H2_ := (Option.bind_some _ _).symm.trans H; with_reducible exact H2_) | with_reducible exact H | (rw [lD]; exact H) | exact H
   have p0 := am lD
   clear lD
   obtain rfl := Option.some.inj H
   go_enter Try.func43, Try.ntmps43
   try go_wp2_with (first | ((with_reducible refine gate_dst (N := 1) rfl ?_); refine bx (cs := #[.int .i64 gJ, .int .i64 gN, .slice lC g3.length gY]) (t := 25) fun g5 hg w4 hbox hb => ?_; replace gD := vb gD hg hb; have g0 := am (hbox); have nT := bz HB hg; have jQ := bz HB hg; replace HB := bs HB hb; clear hb hbox hg; obtain ⟨tK, tL, tM, tN, tO, tP⟩ := cs3 g0))
   replace gD := am (Kd.V_drew gD.1); replace g0 := am (blk_drew g0.1); replace HB := am (below_drew1 HB.1); have oL : 0 ≤ (0 : Int) := (by omega); have oM : 0 < (g3.length : Int) := od
   obtain ⟨jR, lS, lT, tQ, iL, iM, iF, m5, m6⟩ := at_T25 (Kd.V_reads' gD.1).2.2 0 oL oM
   cases tQ
   obtain ⟨u6, p7, p8, nU⟩ := Kd.V_get gD.1 z25 0 oL (by first | exact oM | exact od | (have e_ := (Kd.V_reads' gD.1).1; omega))
   obtain ⟨r5, r6, rfl, k0, k5⟩ := k25_openF p8
   have iY := nU 2 _ rfl; rw [add_field _ _ 2 (by omega)] at iY; replace iY := Option.some.inj (iY.symm.trans iF); injection iY with hva_ hvn_ hvc_; rw [hva_] at k5; rw [hvc_] at k0; have iG := am (show Kd.V k25 25 _ w.heap.size _ _ ((rd_T25 g3 0).f2) from Kd.V_mk k0 k5); clear hva_ hvn_ hvc_ k5 k0 nU p7
   have u7 : (0 < g3.length) = True := eq_true (by omega)
   (try rw [tz] at iL)
   (try rw [z3] at iL)
   (try rw [Addr.add_zero'] at iL)
   (try rw [tz] at iM)
   (try rw [z3] at iM)
   (try rw [Addr.add_zero'] at iM)
   (try rw [tz] at iF)
   (try rw [z3] at iF)
   (try rw [Addr.add_zero'] at iF)
   have iZ := am m6; have r7 := am m5; clear m6 m5; replace oL := eq_true oL; replace oM := eq_true oM
   refine start_ (n := 9) (S := fun w' => w'.cell? ⟨g5, 0, none⟩ = some (.int .i64 gJ) ∧ w'.cell? ⟨g5, 1, none⟩ = some (.int .i64 gN) ∧ w'.cell? ⟨g5, 2, none⟩ = some (.slice (some jR) g3.length gY) ∧ w'.cell? jR = some (.int .i64 ((rd_T25 g3 0).f0)) ∧ w'.cell? ⟨jR.block, jR.off + 1, none⟩ = some (.int .i64 ((rd_T25 g3 0).f1)) ∧ w'.cell? ⟨jR.block, jR.off + 2, none⟩ = some (.slice lS ((rd_T25 g3 0).f2).length lT)) (ds := []) #[ff,ff,ff,ff,ff,ff,ff,ff,ff] (by kernel_rfl) rfl rfl ⟨(blk_cell g0.1 0).trans rfl, (blk_cell g0.1 1).trans rfl, (blk_cell g0.1 2).trans rfl, iL, iM, iF⟩ (fun hHeld => ?_); refine with_tabW impl_ticksOf.tab3 impl_ticksOf.bits3 (fun HT_ HW_ => ?_)
   generalize w4.drew = w6 at gD g0 HB iG iZ iL iM iF hHeld ⊢
   refine pu (i := 0) (N := some 18) #[tt,ff,ff,ff,ff,ff,ff,ff,ff] HT_ ?_
   refine pu (i := 2) (N := some 20) #[tt,ff,tt,ff,ff,ff,ff,ff,ff] HT_ ?_
   refine tk (i := 1) (N := some 19) #[tt,tt,tt,ff,ff,ff,ff,ff,ff] HT_ HW_ hHeld ?_
   refine tk (i := 3) (N := some 21) #[tt,tt,tt,tt,ff,ff,ff,ff,ff] HT_ HW_ hHeld ?_
   refine pu (i := 4) (N := some 22) #[tt,tt,tt,tt,tt,ff,ff,ff,ff] HT_ ?_
   refine tk (i := 5) (N := some 23) #[tt,tt,tt,tt,tt,tt,ff,ff,ff] HT_ HW_ hHeld ?_
   refine pu (i := 6) (N := some 24) #[tt,tt,tt,tt,tt,tt,tt,ff,ff] HT_ ?_
   refine on (i := 7) (N := some 25) #[tt,tt,tt,tt,tt,tt,tt,tt,ff] HT_ (fun K hK => ?_)
   refine Kd.N_lit_step k44 _ 44 ?hg (N' := 25) ?hd (xs := ([(⟨gN, (⟨(rd_T25 g3 0).f0, (rd_T25 g3 0).f1, (rd_T25 g3 0).f2⟩ : S25)⟩ : S44)] : List (S44))) (inner := [.int .i64 gN, .int .i64 ((rd_T25 g3 0).f0), .int .i64 ((rd_T25 g3 0).f1), .slice lS ((rd_T25 g3 0).f2).length lT]) (ok := (fun k_ => (g6 k_ ∨ w.heap.size ≤ k_) ∧ k_ ≠ g5)) (okp := (fun k_ => (g6 k_ ∨ w.heap.size ≤ k_) ∧ k_ ≠ g5)) ?hr ?hp (fun _ hk => hk) ((show ∀ k_, w6.heap.size ≤ k_ → (fun k_ => (g6 k_ ∨ w.heap.size ≤ k_) ∧ k_ ≠ g5) k_ from fun k_ hk => ⟨(.inr (zt HB hk)), Kd.freshB (g := g5) (o := .cells #[.int .i64 gJ, .int .i64 gN, .slice (some jR) g3.length gY] 25 (0, 0)) (kf g0).1 k_ hk⟩) _ (Nat.le_refl _)) (Below.refl _ _) (Nat.le_refl _) (by simp) ?_; (case hd => rfl); (case hg => rfl); (case hr => first | (go_simp; done) | (go_simp; rfl)); (case hp => exact (Reps.c4 (show Kd.FK k44 _ _ (⟨gN, (⟨(rd_T25 g3 0).f0, (rd_T25 g3 0).f1, (rd_T25 g3 0).f2⟩ : S25)⟩ : S44) [.int .i64 gN, .int .i64 ((rd_T25 g3 0).f0), .int .i64 ((rd_T25 g3 0).f1), .slice lS ((rd_T25 g3 0).f2).length lT] from (k44_mkF _ _ (⟨gN, (⟨(rd_T25 g3 0).f0, (rd_T25 g3 0).f1, (rd_T25 g3 0).f2⟩ : S25)⟩ : S44) (Kd.V_reads' (Kd.V_mono (ok' := (fun k_ => (g6 k_ ∨ w.heap.size ≤ k_) ∧ k_ ≠ g5)) (iG.1) mq)).2.1 (Kd.V_F (Kd.V_mono (ok' := (fun k_ => (g6 k_ ∨ w.heap.size ≤ k_) ∧ k_ ≠ g5)) (iG.1) mq)))) (Reps.none _ _)))
   intro vL w7 ho8 hb hg_ hnew_
   have k6 := (hb.cell (World.block_lt_of_cell? _ _ (hHeld.2.2.2.1))).trans (hHeld.2.2.2.1)
   have k7 := (hb.cell (World.block_lt_of_cell? _ _ (hHeld.2.2.2.2.1))).trans (hHeld.2.2.2.2.1)
   have k8 := (hb.cell (World.block_lt_of_cell? _ _ (hHeld.2.2.2.2.2))).trans (hHeld.2.2.2.2.2)
   clear hg_ hnew_
   (first | rw [← p0.1] at ho8 | (simp only [Int.reduceToNat] at ho8; rw [← p0.1] at ho8))
   have n0_ := ve gD hb (by first | exact Kd.N_base ho8 | exact Kd.R_base ho8); have n1_ := ve iG hb (by first | exact Kd.N_base ho8 | exact Kd.R_base ho8); have n2_ := am (Kd.N_lower ho8 (below_size bq)); have n3_ := kb g0 hb; have n4_ := cb iZ hb; have n5_ := bs HB hb; clear gD iG g0 iZ HB; have gD := n0_; have iG := n1_; have q0 := n2_; have g0 := n3_; have iZ := n4_; have HB := n5_; clear n0_ n1_ n2_ n3_ n4_ n5_ hb ho8
   refine hK.out _ _ ⟨(blk_cell g0.1 0).trans rfl, (blk_cell g0.1 1).trans rfl, (blk_cell g0.1 2).trans rfl, k6, k7, k8⟩ (fun hHeld => ?_)
   clear hK K
   refine norm_ (a' := ?_) ?_ ?_
   rotate_left
   ·
    show Act.put _ (some 25) _ = _
    simp only [Act.put, List.setIfInBounds_toArray, List.set_cons_zero, List.set_cons_succ, i64_w, i32_w]
    rfl
   refine pu (i := 8) (N := some 2) #[tt,tt,tt,tt,tt,tt,tt,tt,tt] HT_ ?_
   refine done_ (done_of HT_.1 (by kernel_rfl)) ?_
   try go_wp2
   go_ret
   exact ⟨_, by first | rfl | (simp [errW_none, errW_some] <;> rfl) | (simp [*, errW_none, errW_some] <;> rfl), by (with_reducible repeat (first | apply Kd.N_alloc | apply Kd.N_drewN | apply Kd.N_drew)); exact Kd.N_mono q0.1 mq, by repeat (first | (with_reducible first | exact HB.1 | apply below_alloc | apply pw_below_drewN | apply below_drew1 | refine below_set ?_ jQ.1) | exact HB.1)⟩
  ·
   rw [if_neg c3] at H
   exact absurd H (by simp)
 ·
  rw [if_neg c2] at H; have c2b0 : (gJ == 1) = false := beq_eq_false_iff_ne.mpr c2; have c2b1 : (gJ != 1) = true := bne_iff_ne.mpr c2
  by_cases c9 : gJ = 3
  ·
   rw [if_pos c9] at H; have c9b0 : (gJ == 3) = true := beq_iff_eq.mpr c9; have c9b1 : (gJ != 3) = false := bne_eq_false_iff_eq.mpr c9; clear c9
   by_cases c10 : 0 < (g3.length : Int)
   ·
    rw [if_pos c10] at H; have c10b0 : decide (0 < (g3.length : Int)) = true := decide_eq_true c10; have c10b1 : decide (0 < g3.length) = true := decide_eq_true (by omega); clear c10
    replace H := Option.bind_eq_some_iff.mp H
    obtain ⟨jP, q1, H⟩ := H
    replace H : (if 1 < (g3.length : Int) then ((impl_ticksOf.f k ((rd_T25 g3 1).f0) ((rd_T25 g3 1).f1) ((rd_T25 g3 1).f2)).bind fun iJ => (if jP.length + iJ.length < 2932031007402 then (some (jP ++ iJ)) else (none))) else (none)) = some r := H
    have A11 := am q1
    clear q1
    by_cases c12 : 1 < (g3.length : Int)
    ·
     rw [if_pos c12] at H; have c12b0 : decide (1 < (g3.length : Int)) = true := decide_eq_true c12; have c12b1 : decide (1 < g3.length) = true := decide_eq_true (by omega); clear c12
     replace H := Option.bind_eq_some_iff.mp H
     obtain ⟨iJ, q3, H⟩ := H
     replace H : (if jP.length + iJ.length < 2932031007402 then (some (jP ++ iJ)) else (none)) = some r := H
     have A13 := am q3
     clear q3
     by_cases c14 : jP.length + iJ.length < 2932031007402
     ·
      rw [if_pos c14] at H
      have q4 := am c14
      clear c14
      obtain ⟨tR, lE⟩ : ∃ y_ : List (S44), y_ = (jP ++ iJ) := ⟨_, rfl⟩
      replace H : (some tR) = some r := by first | (rw [lE]; with_reducible exact H) | (have H2_ := (Option.bind_some _ _).symm.trans H; rw [lE]; with_reducible exact H2_) | (have H2_ := (Option.bind_some _ _).symm.trans H; with_reducible exact H2_) | with_reducible exact H | (rw [lE]; exact H) | exact H
      have q5 := am lE
      clear lE
      obtain rfl := Option.some.inj H
      go_enter Try.func43, Try.ntmps43
      try go_wp2_with (first | ((with_reducible refine gate_dst (N := 1) rfl ?_); refine bx (cs := #[.int .i64 gJ, .int .i64 gN, .slice lC g3.length gY]) (t := 25) fun g5 hg w15 hbox hb => ?_; replace gD := vb gD hg hb; have g0 := am (hbox); have nT := bz HB hg; have jQ := bz HB hg; replace HB := bs HB hb; clear hb hbox hg; obtain ⟨j3, j4, j5, j6, j7, j8⟩ := cs3 g0))
      replace gD := am (Kd.V_drew gD.1); replace g0 := am (blk_drew g0.1); replace HB := am (below_drew1 HB.1); have lF : 0 ≤ (0 : Int) := (by omega); have lG : 0 < (g3.length : Int) := od
      obtain ⟨hQ, nV, nW, tS, hE, hF, hA, m7, m8⟩ := at_T25 (Kd.V_reads' gD.1).2.2 0 lF lG
      cases tS
      obtain ⟨u8, p9, pA, nX⟩ := Kd.V_get gD.1 z25 0 lF (by first | exact lG | exact od | (have e_ := (Kd.V_reads' gD.1).1; omega))
      obtain ⟨r8, r9, rfl, k9, kA⟩ := k25_openF pA
      have j9 := nX 2 _ rfl; rw [add_field _ _ 2 (by omega)] at j9; replace j9 := Option.some.inj (j9.symm.trans hA); injection j9 with hva_ hvn_ hvc_; rw [hva_] at kA; rw [hvc_] at k9; have hG := am (show Kd.V k25 25 _ w.heap.size _ _ ((rd_T25 g3 0).f2) from Kd.V_mk k9 kA); clear hva_ hvn_ hvc_ kA k9 nX p9
      have u9 : (0 < g3.length) = True := eq_true (by omega)
      (try rw [tz] at hE)
      (try rw [z3] at hE)
      (try rw [Addr.add_zero'] at hE)
      (try rw [tz] at hF)
      (try rw [z3] at hF)
      (try rw [Addr.add_zero'] at hF)
      (try rw [tz] at hA)
      (try rw [z3] at hA)
      (try rw [Addr.add_zero'] at hA)
      have iN := am m8; have rA := am m7; clear m8 m7; replace lF := eq_true lF; replace lG := eq_true lG; have lH : 0 ≤ (1 : Int) := (by omega); have lI : 1 < (g3.length : Int) := od
      obtain ⟨q6, nY, nZ, tT, hH, hI, hB, m9, mA⟩ := at_T25 (Kd.V_reads' gD.1).2.2 1 lH lI
      obtain rfl : hQ = q6 := (by injection tT)
      obtain ⟨uA, pB, pC, o0⟩ := Kd.V_get gD.1 z25 1 lH (by first | exact lI | exact od | (have e_ := (Kd.V_reads' gD.1).1; omega))
      obtain ⟨rB, rC, rfl, kB, kC⟩ := k25_openF pC
      have jA := o0 2 _ rfl; rw [add_field _ _ 2 (by omega)] at jA; replace jA := Option.some.inj (jA.symm.trans hB); injection jA with hva_ hvn_ hvc_; rw [hva_] at kC; rw [hvc_] at kB; have hJ := am (show Kd.V k25 25 _ w.heap.size _ _ ((rd_T25 g3 1).f2) from Kd.V_mk kB kC); clear hva_ hvn_ hvc_ kC kB o0 pB
      (try simp only [show (1 : Int).toNat = 1 from rfl, Nat.reduceMul, Nat.reduceEqDiff, Go.Addr.add, ↓reduceIte] at hH)
      (try simp only [show (1 : Int).toNat = 1 from rfl, Nat.reduceMul, Nat.reduceEqDiff, Go.Addr.add, ↓reduceIte] at hI)
      (try simp only [show (1 : Int).toNat = 1 from rfl, Nat.reduceMul, Nat.reduceEqDiff, Go.Addr.add, ↓reduceIte] at hB)
      have uB : (1 < g3.length) = True := eq_true (by omega)
      (try rw [show ((1 : Int)).toNat = 1 from rfl] at hH)
      (try rw [show 1 * 3 = 3 from rfl] at hH)
      (try rw [show ((1 : Int)).toNat = 1 from rfl] at hI)
      (try rw [show 1 * 3 = 3 from rfl] at hI)
      (try rw [show ((1 : Int)).toNat = 1 from rfl] at hB)
      (try rw [show 1 * 3 = 3 from rfl] at hB)
      have iO := am mA; have rD := am m9; clear mA m9; replace lH := eq_true lH; replace lI := eq_true lI
      refine start_ (n := 12) (S := fun w' => w'.cell? ⟨g5, 0, none⟩ = some (.int .i64 gJ) ∧ w'.cell? ⟨g5, 1, none⟩ = some (.int .i64 gN) ∧ w'.cell? ⟨g5, 2, none⟩ = some (.slice (some hQ) g3.length gY) ∧ w'.cell? hQ = some (.int .i64 ((rd_T25 g3 0).f0)) ∧ w'.cell? ⟨hQ.block, hQ.off + 1, none⟩ = some (.int .i64 ((rd_T25 g3 0).f1)) ∧ w'.cell? ⟨hQ.block, hQ.off + 2, none⟩ = some (.slice nV ((rd_T25 g3 0).f2).length nW) ∧ w'.cell? ⟨hQ.block, hQ.off + 3, none⟩ = some (.int .i64 ((rd_T25 g3 1).f0)) ∧ w'.cell? ⟨hQ.block, hQ.off + 3 + 1, none⟩ = some (.int .i64 ((rd_T25 g3 1).f1)) ∧ w'.cell? ⟨hQ.block, hQ.off + 3 + 2, none⟩ = some (.slice nY ((rd_T25 g3 1).f2).length nZ)) (ds := [10]) #[ff,ff,ff,ff,ff,ff,ff,ff,ff,ff,ff,ff] (by kernel_rfl) rfl rfl ⟨(blk_cell g0.1 0).trans rfl, (blk_cell g0.1 1).trans rfl, (blk_cell g0.1 2).trans rfl, hE, hF, hA, hH, hI, hB⟩ (fun hHeld => ?_); refine with_tabW impl_ticksOf.tab5 impl_ticksOf.bits5 (fun HT_ HW_ => ?_)
      generalize w15.drew = w17 at gD g0 HB hG hJ iN iO hE hF hA hH hI hB hHeld ⊢
      refine pu (i := 0) (N := some 28) #[tt,ff,ff,ff,ff,ff,ff,ff,ff,ff,ff,ff] HT_ ?_
      refine pu (i := 5) (N := some 33) #[tt,ff,ff,ff,ff,tt,ff,ff,ff,ff,ff,ff] HT_ ?_
      refine tk (i := 1) (N := some 29) #[tt,tt,ff,ff,ff,tt,ff,ff,ff,ff,ff,ff] HT_ HW_ hHeld ?_
      refine pu (i := 2) (N := some 30) #[tt,tt,tt,ff,ff,tt,ff,ff,ff,ff,ff,ff] HT_ ?_
      refine tk (i := 3) (N := some 31) #[tt,tt,tt,tt,ff,tt,ff,ff,ff,ff,ff,ff] HT_ HW_ hHeld ?_
      refine tk (i := 6) (N := some 34) #[tt,tt,tt,tt,ff,tt,tt,ff,ff,ff,ff,ff] HT_ HW_ hHeld ?_
      refine pu (i := 7) (N := some 35) #[tt,tt,tt,tt,ff,tt,tt,tt,ff,ff,ff,ff] HT_ ?_
      refine tk (i := 8) (N := some 36) #[tt,tt,tt,tt,ff,tt,tt,tt,tt,ff,ff,ff] HT_ HW_ hHeld ?_
      refine on (i := 4) (N := some 32) #[tt,tt,tt,tt,tt,tt,tt,tt,tt,ff,ff,ff] HT_ (fun K hK => ?_)
      refine goes_ Try.func43 (by kernel_rfl) rfl #[.agg #[.int .i64 ((rd_T25 g3 0).f0), .int .i64 ((rd_T25 g3 0).f1), .slice nV ((rd_T25 g3 0).f2).length nW]] (by rfl) rfl rfl (by (try simp only [List.map_toArray, List.map_cons, List.map_nil]); first | done | rfl | (simp only [List.length_drop, List.length_take]; rfl)) ?_
      with_reducible refine (ih k (by omega) ((rd_T25 g3 0).f0) ((rd_T25 g3 0).f1) (fun k_ => ((g6 k_ ∨ w.heap.size ≤ k_) ∧ k_ ≠ g5)) _ _ ((rd_T25 g3 0).f2) jP _ ?side1 A11.1).mono ?_
      (case side1 => exact hG.1)
      rintro e w18 ⟨o1, rfl, ho0, hb⟩
      have k6 := (hb.cell (World.block_lt_of_cell? _ _ (hHeld.2.2.2.1))).trans (hHeld.2.2.2.1)
      have k7 := (hb.cell (World.block_lt_of_cell? _ _ (hHeld.2.2.2.2.1))).trans (hHeld.2.2.2.2.1)
      have k8 := (hb.cell (World.block_lt_of_cell? _ _ (hHeld.2.2.2.2.2.1))).trans (hHeld.2.2.2.2.2.1)
      have lU := (hb.cell (World.block_lt_of_cell? _ _ (hHeld.2.2.2.2.2.2.1))).trans (hHeld.2.2.2.2.2.2.1)
      have jS := (hb.cell (World.block_lt_of_cell? _ _ (hHeld.2.2.2.2.2.2.2.1))).trans (hHeld.2.2.2.2.2.2.2.1)
      have jT := (hb.cell (World.block_lt_of_cell? _ _ (hHeld.2.2.2.2.2.2.2.2))).trans (hHeld.2.2.2.2.2.2.2.2)
      refine ⟨_, rfl, ?_⟩
      replace gD := ve gD hb; replace hG := ve hG hb; replace hJ := ve hJ hb; have jZ := nm HB ho0 (fun k_ => (g6 k_ ∨ w.heap.size ≤ k_) ∧ k_ ≠ g5) (fun k_ hk_ => ⟨Or.elim hk_ (fun hs_ => hs_.1) (fun hn_ => (.inr (zt HB hn_))), Or.elim hk_ (fun hs_ => hs_.2) (fun hn_ => (fb g0 k_ hn_))⟩); replace g0 := kb g0 hb; replace iN := cb iN hb; replace iO := cb iO hb; replace HB := bs HB hb; (try clear hb); (try clear hb2); (try clear hk); (try clear hi); (try clear ho0)
      refine hK.out _ _ ⟨(blk_cell g0.1 0).trans rfl, (blk_cell g0.1 1).trans rfl, (blk_cell g0.1 2).trans rfl, k6, k7, k8, lU, jS, jT⟩ (fun hHeld => ?_)
      clear hK K
      refine norm_ (a' := ?_) ?_ ?_
      rotate_left
      ·
       show Act.put _ (some 32) _ = _
       simp only [Act.put, List.setIfInBounds_toArray, List.set_cons_zero, List.set_cons_succ, i64_w, i32_w]
       rfl
      refine on (i := 9) (N := some 37) #[tt,tt,tt,tt,tt,tt,tt,tt,tt,tt,ff,ff] HT_ (fun K hK => ?_)
      refine goes_ Try.func43 (by kernel_rfl) rfl #[.agg #[.int .i64 ((rd_T25 g3 1).f0), .int .i64 ((rd_T25 g3 1).f1), .slice nY ((rd_T25 g3 1).f2).length nZ]] (by rfl) rfl rfl (by (try simp only [List.map_toArray, List.map_cons, List.map_nil]); first | done | rfl | (simp only [List.length_drop, List.length_take]; rfl)) ?_
      with_reducible refine (ih k (by omega) ((rd_T25 g3 1).f0) ((rd_T25 g3 1).f1) (fun k_ => (((g6 k_ ∨ w.heap.size ≤ k_) ∧ k_ ≠ g5) ∧ some k_ ≠ (o1 : Value).ownBlock)) _ _ ((rd_T25 g3 1).f2) iJ _ ?side1 A13.1).mono ?_
      (case side1 => exact hJ.1)
      rintro e w19 ⟨vM, rfl, ho0, hb⟩
      have k6 := (hb.cell (World.block_lt_of_cell? _ _ (hHeld.2.2.2.1))).trans (hHeld.2.2.2.1)
      have k7 := (hb.cell (World.block_lt_of_cell? _ _ (hHeld.2.2.2.2.1))).trans (hHeld.2.2.2.2.1)
      have k8 := (hb.cell (World.block_lt_of_cell? _ _ (hHeld.2.2.2.2.2.1))).trans (hHeld.2.2.2.2.2.1)
      have lU := (hb.cell (World.block_lt_of_cell? _ _ (hHeld.2.2.2.2.2.2.1))).trans (hHeld.2.2.2.2.2.2.1)
      have jS := (hb.cell (World.block_lt_of_cell? _ _ (hHeld.2.2.2.2.2.2.2.1))).trans (hHeld.2.2.2.2.2.2.2.1)
      have jT := (hb.cell (World.block_lt_of_cell? _ _ (hHeld.2.2.2.2.2.2.2.2))).trans (hHeld.2.2.2.2.2.2.2.2)
      refine ⟨_, rfl, ?_⟩
      replace gD := ve gD hb; replace hG := ve hG hb; replace hJ := ve hJ hb; have lJ := nm HB ho0 (fun k_ => (g6 k_ ∨ w.heap.size ≤ k_) ∧ some k_ ≠ (o1 : Value).ownBlock ∧ k_ ≠ g5) (fun k_ hk_ => ⟨Or.elim hk_ (fun hs_ => hs_.1.1) (fun hn_ => (.inr (zt HB hn_))), Or.elim hk_ (fun hs_ => hs_.2) (fun hn_ => (fr jZ k_ hn_)), Or.elim hk_ (fun hs_ => hs_.1.2) (fun hn_ => (fb g0 k_ hn_))⟩); replace jZ := ne jZ hb; replace g0 := kb g0 hb; replace iN := cb iN hb; replace iO := cb iO hb; replace HB := bs HB hb; (try clear hb); (try clear hb2); (try clear hk); (try clear hi); (try clear ho0)
      obtain ⟨pD, pE, q7⟩ := Kd.N_slice lJ.1
      (first | subst q7 | (injection q7 with f1_ f2_ f3_; have f4_ := f1_.symm; have f5_ := f3_.symm; clear f1_ f2_ f3_; subst f4_; subst f5_))
      refine hK.out _ _ ⟨(blk_cell g0.1 0).trans rfl, (blk_cell g0.1 1).trans rfl, (blk_cell g0.1 2).trans rfl, k6, k7, k8, lU, jS, jT⟩ (fun hHeld => ?_)
      clear hK K
      refine norm_ (a' := ?_) ?_ ?_
      rotate_left
      ·
       show Act.put _ (some 37) _ = _
       simp only [Act.put, List.setIfInBounds_toArray, List.set_cons_zero, List.set_cons_succ, i64_w, i32_w]
       rfl
      refine la (i := 10) (N := some 38) #[tt,tt,tt,tt,tt,tt,tt,tt,tt,tt,tt,ff] HT_ (fun K hK => ?_)
      refine Kd.N_append_rows_step k44 (w0 := w) w.heap.size (by rfl) (.tmp 32) (.tmp 37) 28 44 (.agg #[(.int .i64 0), (.int .i64 0), (.int .i64 0), (.slice none 0 0)]) 48 rfl Try.underlying28 info44 rfl (by decide) (by omega) o1 jP iJ _ _ _ (fun k_ => (g6 k_ ∨ w.heap.size ≤ k_) ∧ k_ ≠ g5) (fun k_ => ((fun k_ => (g6 k_ ∨ w.heap.size ≤ k_) ∧ k_ ≠ g5)) k_ ∧ some k_ ≠ (o1 : Value).ownBlock) rfl rfl ?aO ?aR (fun _ hk => hk) ?aF ?aB ?aS ?aL ?_
      (case aR => exact (by skip; exact Kd.N_F (Kd.N_mono (ok' := (fun k_ => ((fun k_ => (g6 k_ ∨ w.heap.size ≤ k_) ∧ k_ ≠ g5)) k_ ∧ some k_ ≠ (o1 : Value).ownBlock)) (lJ.1) mq)))
      (case aB => exact bq)
      (case aF => exact (fun k_ hk => ⟨(.inr (zt HB hk)), Kd.freshB (g := g5) (o := .cells #[.int .i64 gJ, .int .i64 gN, .slice (some hQ) g3.length gY] 25 (0, 0)) (kf g0).1 k_ hk⟩))
      (case aO => exact (nf jZ).1)
      (case aS => exact (below_size bq))
      (case aL => have := q4.1; omega)
      intro vN w20 ho hb hg hat
      rw [← q5.1] at ho; have n0_ := va gD hg hat (fun k_ => (g6 k_ ∨ w.heap.size ≤ k_) ∧ some k_ ≠ (.slice pD iJ.length pE : Value).ownBlock ∧ k_ ≠ g5); have n1_ := kg g0 hg (Kd.N_ne jZ.1 g0.1 (by decide)); have n2_ := va hG hg hat (fun k_ => (g6 k_ ∨ w.heap.size ≤ k_) ∧ some k_ ≠ (.slice pD iJ.length pE : Value).ownBlock ∧ k_ ≠ g5); have n3_ := va hJ hg hat (fun k_ => (g6 k_ ∨ w.heap.size ≤ k_) ∧ some k_ ≠ (.slice pD iJ.length pE : Value).ownBlock ∧ k_ ≠ g5); have n4_ := na lJ hg hat (fun k_ => (g6 k_ ∨ w.heap.size ≤ k_) ∧ k_ ≠ g5); have n5_ := am (hb); have n6_ := am (ho); clear gD g0 hG hJ lJ HB jZ; have gD := n0_; have g0 := n1_; have hG := n2_; have hJ := n3_; have lJ := n4_; have HB := n5_; have q8 := n6_; clear n0_ n1_ n2_ n3_ n4_ n5_ n6_ ho hb hg hat
      refine hK.out _ _ ?_
      clear hK K
      refine norm_ (a' := ?_) ?_ ?_
      rotate_left
      ·
       show Act.put _ (some 38) _ = _
       simp only [Act.put, List.setIfInBounds_toArray, List.set_cons_zero, List.set_cons_succ, i64_w, i32_w]
       rfl
      refine pu (i := 11) (N := some 2) #[tt,tt,tt,tt,tt,tt,tt,tt,tt,tt,tt,tt] HT_ ?_
      refine done_ (done_of HT_.1 (by kernel_rfl)) ?_
      try go_wp2
      go_ret
      exact ⟨_, by first | rfl | (simp [errW_none, errW_some] <;> rfl) | (simp [*, errW_none, errW_some] <;> rfl), by (with_reducible repeat (first | apply Kd.N_alloc | apply Kd.N_drewN | apply Kd.N_drew)); exact Kd.N_mono q8.1 mq, by repeat (first | (with_reducible first | exact HB.1 | apply below_alloc | apply pw_below_drewN | apply below_drew1 | refine below_set ?_ jQ.1) | exact HB.1)⟩
     ·
      rw [if_neg c14] at H
      exact absurd H (by simp)
    ·
     rw [if_neg c12] at H
     exact absurd H (by simp)
   ·
    rw [if_neg c10] at H
    exact absurd H (by simp)
  ·
   rw [if_neg c9] at H; have c9b0 : (gJ == 3) = false := beq_eq_false_iff_ne.mpr c9; have c9b1 : (gJ != 3) = true := bne_iff_ne.mpr c9
   by_cases c22 : gJ = 4
   ·
    rw [if_pos c22] at H; have c22b0 : (gJ == 4) = true := beq_iff_eq.mpr c22; have c22b1 : (gJ != 4) = false := bne_eq_false_iff_eq.mpr c22; clear c22
    by_cases c23 : 0 < (g3.length : Int)
    ·
     rw [if_pos c23] at H; have c23b0 : decide (0 < (g3.length : Int)) = true := decide_eq_true c23; have c23b1 : decide (0 < g3.length) = true := decide_eq_true (by omega); clear c23
     replace H := Option.bind_eq_some_iff.mp H
     obtain ⟨g1, q9, H⟩ := H
     replace H : (if 1 < (g3.length : Int) then ((impl_ticksOf.f k ((rd_T25 g3 1).f0) ((rd_T25 g3 1).f1) ((rd_T25 g3 1).f2)).bind fun g4 => (impl_ticksOf.l0 k g1 g4 (([] : List (S44))) g1 (g1.length : Int) 0 gJ gN g3)) else (none)) = some r := H
     have A24 := am q9
     clear q9
     by_cases c25 : 1 < (g3.length : Int)
     ·
      rw [if_pos c25] at H; have c25b0 : decide (1 < (g3.length : Int)) = true := decide_eq_true c25; have c25b1 : decide (1 < g3.length) = true := decide_eq_true (by omega); clear c25
      replace H := Option.bind_eq_some_iff.mp H
      obtain ⟨g4, qA, H⟩ := H
      replace H : (impl_ticksOf.l0 k g1 g4 (([] : List (S44))) g1 (g1.length : Int) 0 gJ gN g3) = some r := H
      have A26 := am qA
      clear qA
      obtain ⟨qB, lK⟩ : ∃ y_ : List (S44), y_ = (([] : List (S44))) := ⟨_, rfl⟩
      replace H : (impl_ticksOf.l0 k g1 g4 qB g1 (g1.length : Int) 0 gJ gN g3) = some r := by first | (rw [lK]; with_reducible exact H) | (have H2_ := (Option.bind_some _ _).symm.trans H; rw [lK]; with_reducible exact H2_) | (have H2_ := (Option.bind_some _ _).symm.trans H; with_reducible exact H2_) | with_reducible exact H | (rw [lK]; exact H) | exact H
      have p1 := am lK
      clear lK
      have H' := am H
      clear H
      go_enter Try.func43, Try.ntmps43
      try go_wp2_with (first | ((with_reducible refine gate_dst (N := 1) rfl ?_); refine bx (cs := #[.int .i64 gJ, .int .i64 gN, .slice lC g3.length gY]) (t := 25) fun g5 hg w27 hbox hb => ?_; replace gD := vb gD hg hb; have g0 := am (hbox); have nT := bz HB hg; have jQ := bz HB hg; replace HB := bs HB hb; clear hb hbox hg; obtain ⟨jB, jC, jD, jE, jF, jG⟩ := cs3 g0))
      replace gD := am (Kd.V_drew gD.1); replace g0 := am (blk_drew g0.1); replace HB := am (below_drew1 HB.1); have lL : 0 ≤ (0 : Int) := (by omega); have lM : 0 < (g3.length : Int) := od
      obtain ⟨gF, o2, o3, tU, hL, hM, hC, mB, mC⟩ := at_T25 (Kd.V_reads' gD.1).2.2 0 lL lM
      cases tU
      obtain ⟨uC, pF, pG, o4⟩ := Kd.V_get gD.1 z25 0 lL (by first | exact lM | exact od | (have e_ := (Kd.V_reads' gD.1).1; omega))
      obtain ⟨rE, rF, rfl, kD, kE⟩ := k25_openF pG
      have jH := o4 2 _ rfl; rw [add_field _ _ 2 (by omega)] at jH; replace jH := Option.some.inj (jH.symm.trans hC); injection jH with hva_ hvn_ hvc_; rw [hva_] at kE; rw [hvc_] at kD; have hR := am (show Kd.V k25 25 _ w.heap.size _ _ ((rd_T25 g3 0).f2) from Kd.V_mk kD kE); clear hva_ hvn_ hvc_ kE kD o4 pF
      have uD : (0 < g3.length) = True := eq_true (by omega)
      (try rw [tz] at hL)
      (try rw [z3] at hL)
      (try rw [Addr.add_zero'] at hL)
      (try rw [tz] at hM)
      (try rw [z3] at hM)
      (try rw [Addr.add_zero'] at hM)
      (try rw [tz] at hC)
      (try rw [z3] at hC)
      (try rw [Addr.add_zero'] at hC)
      have i7 := am mC; have rG := am mB; clear mC mB; replace lL := eq_true lL; replace lM := eq_true lM; have lN : 0 ≤ (1 : Int) := (by omega); have lO : 1 < (g3.length : Int) := od
      obtain ⟨qC, o5, o6, tV, hN, hO, hD, mD, mE⟩ := at_T25 (Kd.V_reads' gD.1).2.2 1 lN lO
      obtain rfl : gF = qC := (by injection tV)
      obtain ⟨uE, pH, pI, o7⟩ := Kd.V_get gD.1 z25 1 lN (by first | exact lO | exact od | (have e_ := (Kd.V_reads' gD.1).1; omega))
      obtain ⟨rH, rI, rfl, kF, kG⟩ := k25_openF pI
      have jI := o7 2 _ rfl; rw [add_field _ _ 2 (by omega)] at jI; replace jI := Option.some.inj (jI.symm.trans hD); injection jI with hva_ hvn_ hvc_; rw [hva_] at kG; rw [hvc_] at kF; have hS := am (show Kd.V k25 25 _ w.heap.size _ _ ((rd_T25 g3 1).f2) from Kd.V_mk kF kG); clear hva_ hvn_ hvc_ kG kF o7 pH
      (try simp only [show (1 : Int).toNat = 1 from rfl, Nat.reduceMul, Nat.reduceEqDiff, Go.Addr.add, ↓reduceIte] at hN)
      (try simp only [show (1 : Int).toNat = 1 from rfl, Nat.reduceMul, Nat.reduceEqDiff, Go.Addr.add, ↓reduceIte] at hO)
      (try simp only [show (1 : Int).toNat = 1 from rfl, Nat.reduceMul, Nat.reduceEqDiff, Go.Addr.add, ↓reduceIte] at hD)
      have uF : (1 < g3.length) = True := eq_true (by omega)
      (try rw [show ((1 : Int)).toNat = 1 from rfl] at hN)
      (try rw [show 1 * 3 = 3 from rfl] at hN)
      (try rw [show ((1 : Int)).toNat = 1 from rfl] at hO)
      (try rw [show 1 * 3 = 3 from rfl] at hO)
      (try rw [show ((1 : Int)).toNat = 1 from rfl] at hD)
      (try rw [show 1 * 3 = 3 from rfl] at hD)
      have i8 := am mE; have rJ := am mD; clear mE mD; replace lN := eq_true lN; replace lO := eq_true lO
      refine start_ (n := 12) (S := fun w' => w'.cell? ⟨g5, 0, none⟩ = some (.int .i64 gJ) ∧ w'.cell? ⟨g5, 1, none⟩ = some (.int .i64 gN) ∧ w'.cell? ⟨g5, 2, none⟩ = some (.slice (some gF) g3.length gY) ∧ w'.cell? gF = some (.int .i64 ((rd_T25 g3 0).f0)) ∧ w'.cell? ⟨gF.block, gF.off + 1, none⟩ = some (.int .i64 ((rd_T25 g3 0).f1)) ∧ w'.cell? ⟨gF.block, gF.off + 2, none⟩ = some (.slice o2 ((rd_T25 g3 0).f2).length o3) ∧ w'.cell? ⟨gF.block, gF.off + 3, none⟩ = some (.int .i64 ((rd_T25 g3 1).f0)) ∧ w'.cell? ⟨gF.block, gF.off + 3 + 1, none⟩ = some (.int .i64 ((rd_T25 g3 1).f1)) ∧ w'.cell? ⟨gF.block, gF.off + 3 + 2, none⟩ = some (.slice o5 ((rd_T25 g3 1).f2).length o6)) (ds := []) #[ff,ff,ff,ff,ff,ff,ff,ff,ff,ff,ff,ff] (by kernel_rfl) rfl rfl ⟨(blk_cell g0.1 0).trans rfl, (blk_cell g0.1 1).trans rfl, (blk_cell g0.1 2).trans rfl, hL, hM, hC, hN, hO, hD⟩ (fun hHeld => ?_); refine with_tabW impl_ticksOf.tab7 impl_ticksOf.bits7 (fun HT_ HW_ => ?_)
      generalize w27.drew = w29 at gD g0 HB hR hS i7 i8 hL hM hC hN hO hD hHeld ⊢
      refine pu (i := 0) (N := some 41) #[tt,ff,ff,ff,ff,ff,ff,ff,ff,ff,ff,ff] HT_ ?_
      refine pu (i := 5) (N := some 46) #[tt,ff,ff,ff,ff,tt,ff,ff,ff,ff,ff,ff] HT_ ?_
      refine tk (i := 1) (N := some 42) #[tt,tt,ff,ff,ff,tt,ff,ff,ff,ff,ff,ff] HT_ HW_ hHeld ?_
      refine pu (i := 2) (N := some 43) #[tt,tt,tt,ff,ff,tt,ff,ff,ff,ff,ff,ff] HT_ ?_
      refine tk (i := 3) (N := some 44) #[tt,tt,tt,tt,ff,tt,ff,ff,ff,ff,ff,ff] HT_ HW_ hHeld ?_
      refine tk (i := 6) (N := some 47) #[tt,tt,tt,tt,ff,tt,tt,ff,ff,ff,ff,ff] HT_ HW_ hHeld ?_
      refine pu (i := 7) (N := some 48) #[tt,tt,tt,tt,ff,tt,tt,tt,ff,ff,ff,ff] HT_ ?_
      refine tk (i := 8) (N := some 49) #[tt,tt,tt,tt,ff,tt,tt,tt,tt,ff,ff,ff] HT_ HW_ hHeld ?_
      refine on (i := 4) (N := some 45) #[tt,tt,tt,tt,tt,tt,tt,tt,tt,ff,ff,ff] HT_ (fun K hK => ?_)
      refine goes_ Try.func43 (by kernel_rfl) rfl #[.agg #[.int .i64 ((rd_T25 g3 0).f0), .int .i64 ((rd_T25 g3 0).f1), .slice o2 ((rd_T25 g3 0).f2).length o3]] (by rfl) rfl rfl (by (try simp only [List.map_toArray, List.map_cons, List.map_nil]); first | done | rfl | (simp only [List.length_drop, List.length_take]; rfl)) ?_
      with_reducible refine (ih k (by omega) ((rd_T25 g3 0).f0) ((rd_T25 g3 0).f1) (fun k_ => ((g6 k_ ∨ w.heap.size ≤ k_) ∧ k_ ≠ g5)) _ _ ((rd_T25 g3 0).f2) g1 _ ?side1 A24.1).mono ?_
      (case side1 => exact hR.1)
      rintro e w30 ⟨o8, rfl, ho0, hb⟩
      have k6 := (hb.cell (World.block_lt_of_cell? _ _ (hHeld.2.2.2.1))).trans (hHeld.2.2.2.1)
      have k7 := (hb.cell (World.block_lt_of_cell? _ _ (hHeld.2.2.2.2.1))).trans (hHeld.2.2.2.2.1)
      have k8 := (hb.cell (World.block_lt_of_cell? _ _ (hHeld.2.2.2.2.2.1))).trans (hHeld.2.2.2.2.2.1)
      have lU := (hb.cell (World.block_lt_of_cell? _ _ (hHeld.2.2.2.2.2.2.1))).trans (hHeld.2.2.2.2.2.2.1)
      have jS := (hb.cell (World.block_lt_of_cell? _ _ (hHeld.2.2.2.2.2.2.2.1))).trans (hHeld.2.2.2.2.2.2.2.1)
      have jT := (hb.cell (World.block_lt_of_cell? _ _ (hHeld.2.2.2.2.2.2.2.2))).trans (hHeld.2.2.2.2.2.2.2.2)
      refine ⟨_, rfl, ?_⟩
      replace gD := ve gD hb; replace hR := ve hR hb; replace hS := ve hS hb; have iP := nm HB ho0 (fun k_ => (g6 k_ ∨ w.heap.size ≤ k_) ∧ k_ ≠ g5) (fun k_ hk_ => ⟨Or.elim hk_ (fun hs_ => hs_.1) (fun hn_ => (.inr (zt HB hn_))), Or.elim hk_ (fun hs_ => hs_.2) (fun hn_ => (fb g0 k_ hn_))⟩); replace g0 := kb g0 hb; replace i7 := cb i7 hb; replace i8 := cb i8 hb; replace HB := bs HB hb; (try clear hb); (try clear hb2); (try clear hk); (try clear hi); (try clear ho0)
      refine hK.out _ _ ⟨(blk_cell g0.1 0).trans rfl, (blk_cell g0.1 1).trans rfl, (blk_cell g0.1 2).trans rfl, k6, k7, k8, lU, jS, jT⟩ (fun hHeld => ?_)
      clear hK K
      refine norm_ (a' := ?_) ?_ ?_
      rotate_left
      ·
       show Act.put _ (some 45) _ = _
       simp only [Act.put, List.setIfInBounds_toArray, List.set_cons_zero, List.set_cons_succ, i64_w, i32_w]
       rfl
      refine on (i := 9) (N := some 50) #[tt,tt,tt,tt,tt,tt,tt,tt,tt,tt,ff,ff] HT_ (fun K hK => ?_)
      refine goes_ Try.func43 (by kernel_rfl) rfl #[.agg #[.int .i64 ((rd_T25 g3 1).f0), .int .i64 ((rd_T25 g3 1).f1), .slice o5 ((rd_T25 g3 1).f2).length o6]] (by rfl) rfl rfl (by (try simp only [List.map_toArray, List.map_cons, List.map_nil]); first | done | rfl | (simp only [List.length_drop, List.length_take]; rfl)) ?_
      with_reducible refine (ih k (by omega) ((rd_T25 g3 1).f0) ((rd_T25 g3 1).f1) (fun k_ => (((g6 k_ ∨ w.heap.size ≤ k_) ∧ k_ ≠ g5) ∧ some k_ ≠ (o8 : Value).ownBlock)) _ _ ((rd_T25 g3 1).f2) g4 _ ?side1 A26.1).mono ?_
      (case side1 => exact hS.1)
      rintro e w31 ⟨i0, rfl, ho0, hb⟩
      have k6 := (hb.cell (World.block_lt_of_cell? _ _ (hHeld.2.2.2.1))).trans (hHeld.2.2.2.1)
      have k7 := (hb.cell (World.block_lt_of_cell? _ _ (hHeld.2.2.2.2.1))).trans (hHeld.2.2.2.2.1)
      have k8 := (hb.cell (World.block_lt_of_cell? _ _ (hHeld.2.2.2.2.2.1))).trans (hHeld.2.2.2.2.2.1)
      have lU := (hb.cell (World.block_lt_of_cell? _ _ (hHeld.2.2.2.2.2.2.1))).trans (hHeld.2.2.2.2.2.2.1)
      have jS := (hb.cell (World.block_lt_of_cell? _ _ (hHeld.2.2.2.2.2.2.2.1))).trans (hHeld.2.2.2.2.2.2.2.1)
      have jT := (hb.cell (World.block_lt_of_cell? _ _ (hHeld.2.2.2.2.2.2.2.2))).trans (hHeld.2.2.2.2.2.2.2.2)
      refine ⟨_, rfl, ?_⟩
      replace gD := ve gD hb; replace hR := ve hR hb; replace hS := ve hS hb; have mF := nm HB ho0 (fun k_ => (g6 k_ ∨ w.heap.size ≤ k_) ∧ some k_ ≠ (o8 : Value).ownBlock ∧ k_ ≠ g5) (fun k_ hk_ => ⟨Or.elim hk_ (fun hs_ => hs_.1.1) (fun hn_ => (.inr (zt HB hn_))), Or.elim hk_ (fun hs_ => hs_.2) (fun hn_ => (fr iP k_ hn_)), Or.elim hk_ (fun hs_ => hs_.1.2) (fun hn_ => (fb g0 k_ hn_))⟩); replace iP := ne iP hb; replace g0 := kb g0 hb; replace i7 := cb i7 hb; replace i8 := cb i8 hb; replace HB := bs HB hb; (try clear hb); (try clear hb2); (try clear hk); (try clear hi); (try clear ho0)
      refine hK.out _ _ ⟨(blk_cell g0.1 0).trans rfl, (blk_cell g0.1 1).trans rfl, (blk_cell g0.1 2).trans rfl, k6, k7, k8, lU, jS, jT⟩ (fun hHeld => ?_)
      clear hK K
      refine norm_ (a' := ?_) ?_ ?_
      rotate_left
      ·
       show Act.put _ (some 50) _ = _
       simp only [Act.put, List.setIfInBounds_toArray, List.set_cons_zero, List.set_cons_succ, i64_w, i32_w]
       rfl
      refine pu (i := 10) (N := some 3) #[tt,tt,tt,tt,tt,tt,tt,tt,tt,tt,tt,ff] HT_ ?_
      refine pu (i := 11) (N := some 4) #[tt,tt,tt,tt,tt,tt,tt,tt,tt,tt,tt,tt] HT_ ?_
      refine done_ (done_of HT_.1 (by kernel_rfl)) ?_
      try go_wp2_with (first | ((with_reducible refine gate_dst (N := 51) rfl ?_); refine Kd.N_lit k44 _ 44 ?hg (N' := 51) ?hd (xs := ([] : List (S44))) (inner := []) (ok := (fun k_ => (g6 k_ ∨ w.heap.size ≤ k_) ∧ some k_ ≠ (o8 : Value).ownBlock ∧ some k_ ≠ (i0 : Value).ownBlock ∧ k_ ≠ g5)) (okp := (fun k_ => (g6 k_ ∨ w.heap.size ≤ k_) ∧ some k_ ≠ (o8 : Value).ownBlock ∧ some k_ ≠ (i0 : Value).ownBlock ∧ k_ ≠ g5)) ?hr ?hp (fun _ hk => hk) ((show ∀ k_, w31.heap.size ≤ k_ → (fun k_ => (g6 k_ ∨ w.heap.size ≤ k_) ∧ some k_ ≠ (o8 : Value).ownBlock ∧ some k_ ≠ (i0 : Value).ownBlock ∧ k_ ≠ g5) k_ from fun k_ hk => ⟨(.inr (zt HB hk)), Kd.fresh' (Kd.N_lt (n1 iP).1) k_ hk, Kd.fresh' (Kd.N_lt (n1 mF).1) k_ hk, Kd.freshB (g := g5) (o := .cells #[.int .i64 gJ, .int .i64 gN, .slice (some gF) g3.length gY] 25 (0, 0)) (kf g0).1 k_ hk⟩) _ (Nat.le_refl _)) (Below.refl _ _) (Nat.le_refl _) (by simp) ?_; (case hd => rfl); (case hg => rfl); (case hr => first | (go_simp; done) | (go_simp; rfl)); (case hp => exact (Reps.none _ _)); intro vO w32 iK hb hg_ hnew_; clear hg_ hnew_; (first | rw [← p1.1] at iK | (simp only [Int.reduceToNat] at iK; rw [← p1.1] at iK)); replace gD := ve gD hb (by first | exact Kd.N_base iK | exact Kd.R_base iK); replace hR := ve hR hb (by first | exact Kd.N_base iK | exact Kd.R_base iK); replace hS := ve hS hb (by first | exact Kd.N_base iK | exact Kd.R_base iK); replace iP := ne iP hb (by first | exact Kd.N_base iK | exact Kd.R_base iK); replace mF := ne mF hb (by first | exact Kd.N_base iK | exact Kd.R_base iK); have qD := am (Kd.N_lower iK (below_size bq)); replace g0 := kb g0 hb; replace i7 := cb i7 hb; replace i8 := cb i8 hb; replace HB := bs HB hb; clear hb iK; obtain ⟨h9, gG, rfl⟩ := Kd.N_slice iP.1))
      go_loopg [5, 54] k (fun kq v5 v54 w' => ∃ (jX : List (S44)) (g7 : Int), v54 = .int .i64 g7 ∧ Aside0 (impl_ticksOf.l0 kq g1 g4 jX g1 (g1.length : Int) g7 gJ gN g3 = some r) ∧ Aside0 (kq ≤ k) ∧ Aside0 (Kd.N k44 44 w' w.heap.size (fun k_ => (g6 k_ ∨ w.heap.size ≤ k_) ∧ some k_ ≠ (i0 : Value).ownBlock ∧ some k_ ≠ (v5 : Value).ownBlock ∧ k_ ≠ g5) (.slice h9 g1.length gG) g1) ∧ Aside0 (Kd.N k44 44 w' w.heap.size (fun k_ => (g6 k_ ∨ w.heap.size ≤ k_) ∧ some k_ ≠ ((.slice h9 g1.length gG) : Value).ownBlock ∧ some k_ ≠ (v5 : Value).ownBlock ∧ some k_ ≠ ((.slice h9 g1.length gG) : Value).ownBlock ∧ k_ ≠ g5) i0 g4) ∧ Aside0 (Kd.N k44 44 w' w.heap.size (fun k_ => (g6 k_ ∨ w.heap.size ≤ k_) ∧ some k_ ≠ ((.slice h9 g1.length gG) : Value).ownBlock ∧ k_ ≠ g5) v5 jX) ∧ Aside0 (Kd.N k44 44 w' w.heap.size (fun k_ => (g6 k_ ∨ w.heap.size ≤ k_) ∧ some k_ ≠ (i0 : Value).ownBlock ∧ some k_ ≠ (v5 : Value).ownBlock ∧ k_ ≠ g5) (.slice h9 g1.length gG) g1) ∧ Aside0 (Kd.V k25 25 w' w.heap.size (fun k_ => (g6 k_ ∨ w.heap.size ≤ k_) ∧ some k_ ≠ ((.slice h9 g1.length gG) : Value).ownBlock ∧ some k_ ≠ (i0 : Value).ownBlock ∧ some k_ ≠ (v5 : Value).ownBlock ∧ some k_ ≠ ((.slice h9 g1.length gG) : Value).ownBlock ∧ k_ ≠ g5) (.slice (some gF) g3.length gY) g3) ∧ Aside0 (w'.heap[g5]? = some (.cells #[.int .i64 gJ, .int .i64 gN, (.slice (some gF) g3.length gY)] 25 (0, 0))) ∧ Aside0 (Below w.heap.size w w'))
      case atStart => exact ⟨(qB), (0), rq, H', ⟨Nat.le_refl _⟩, nf iP, nf mF, nf qD, nf iP, vf gD, kf g0, bw⟩
      case round =>
       clear H'; (try clear c1); (try clear c2); (try clear p2); (try clear q2); (try clear hx2); (try clear qi2); (try clear c4); (try clear c9); (try clear c9b0); (try clear c9b1); (try clear c10); (try clear c12); (try clear c14); (try clear c22); (try clear c22b0); (try clear c22b1); (try clear c23); (try clear c23b0); (try clear c23b1); (try clear c24); (try clear p24); (try clear q24); (try clear pJ); (try clear pK); (try clear c25); (try clear c25b0); (try clear c25b1); (try clear p25); (try clear q25); (try clear pL); (try clear pM); (try clear c26); (try clear p26); (try clear q26); (try clear pN); (try clear pO); (try clear j3); (try clear j4); (try clear j5); (try clear jB); (try clear jC); (try clear jD); (try clear j6); (try clear j7); (try clear j8); (try clear jE); (try clear jF); (try clear jG); (try clear hE); (try clear hF); (try clear hA); (try clear hH); (try clear hI); (try clear hB); (try clear hL); (try clear hM); (try clear hC); (try clear hN); (try clear hO); (try clear hD); (try clear lF); (try clear lH); (try clear lL); (try clear lN); (try clear lG); (try clear lI); (try clear lM); (try clear lO); (try clear gU); (try clear gI); (try clear gH); (try clear h3); (try clear g2); (try clear g0); (try clear HB)
       obtain ⟨jX, g7, rfl, HA, HK1, gU, gI, gH, h3, g2, g0, HB⟩ := hrel
       cases gk with
       | zero => exact absurd HA.1 (by simp [impl_ticksOf.l0])
       | succ k1 =>
        have H := HA.1
        clear HA
        simp only [impl_ticksOf.l0] at H
        by_cases c35 : g7 < (g1.length : Int)
        ·
         rw [if_pos c35] at H; have c35b0 : decide (g7 < (g1.length : Int)) = true := decide_eq_true c35; clear c35
         by_cases c36 : 0 ≤ g7
         ·
          rw [if_pos c36] at H; have c36b0 : decide (0 ≤ g7) = true := decide_eq_true c36; clear c36
          by_cases c37 : g7 < (g1.length : Int)
          ·
           rw [if_pos c37] at H; have c37b0 : decide (g7 < (g1.length : Int)) = true := decide_eq_true c37; clear c37
           by_cases c38 : 1 < (g3.length : Int)
           ·
            rw [if_pos c38] at H; have c38b0 : decide (1 < (g3.length : Int)) = true := decide_eq_true c38; have c38b1 : decide (1 < g3.length) = true := decide_eq_true (by omega); clear c38
            replace H := Option.bind_eq_some_iff.mp H
            obtain ⟨⟨nF, nG, iV⟩, qE, H⟩ := H
            replace H : (if jX.length < 2932031007402 then (impl_ticksOf.l0 k1 g1 g4 (jX ++ [(⟨(rd_T44 g1 g7).f0, (⟨nF, nG, iV⟩ : S25)⟩ : S44)]) g1 (g1.length : Int) (wrap64 (g7 + 1)) gJ gN g3) else (none)) = some r := H
            have A39 := am qE
            clear qE
            by_cases c40 : jX.length < 2932031007402
            ·
             rw [if_pos c40] at H
             have qF := am c40
             clear c40
             obtain ⟨qG, lP⟩ : ∃ y_ : List (S44), y_ = (jX ++ [(⟨(rd_T44 g1 g7).f0, (⟨nF, nG, iV⟩ : S25)⟩ : S44)]) := ⟨_, rfl⟩
             replace H : (impl_ticksOf.l0 k1 g1 g4 qG g1 (g1.length : Int) (wrap64 (g7 + 1)) gJ gN g3) = some r := by first | (rw [lP]; with_reducible exact H) | (have H2_ := (Option.bind_some _ _).symm.trans H; rw [lP]; with_reducible exact H2_) | (have H2_ := (Option.bind_some _ _).symm.trans H; with_reducible exact H2_) | with_reducible exact H | (rw [lP]; exact H) | exact H
             have qH := am lP
             clear lP
             have H' := am H
             clear H; have lV : 0 ≤ (g7 : Int) := od; have lW : g7 < (g1.length : Int) := od
             obtain ⟨gT, gZ, h0, tW, kH, kI, kJ, jJ, mG, mH⟩ := at_T44 (Kd.N_reads' h3.1).2.2 g7 lV lW
             cases tW
             obtain ⟨uG, pP, pQ, o9⟩ := Kd.N_get h3.1 z44 g7 lV (by first | exact lW | exact od | (have e_ := (Kd.N_reads' h3.1).1; omega))
             obtain ⟨rK, rL, rfl, kK, kL⟩ := k44_openF pQ
             have jK := o9 3 _ rfl; rw [add_field _ _ 3 (by omega)] at jK; replace jK := Option.some.inj (jK.symm.trans jJ); injection jK with hva_ hvn_ hvc_; rw [hva_] at kL; rw [hvc_] at kK; have gQ := am (show Kd.V k25 25 _ w.heap.size _ _ ((rd_T44 g1 g7).f1.f2) from Kd.V_mk kK kL); clear hva_ hvn_ hvc_ kL kK o9 pP; have mI := am mH; have rM := am mG; clear mH mG; replace lV := eq_true lV; replace lW := eq_true lW
             try go_wp2_with (first | ((with_reducible refine gate_dst (N := 7) rfl ?_); refine bx (cs := #[.int .i64 0, .int .i64 0, .int .i64 0, .slice none 0 0]) (t := 44) fun gA hg w41 hbox hb => ?_; replace gU := nb gU hg hb; replace gI := nb gI hg hb; replace gH := nb gH hg hb; replace h3 := nb h3 hg hb; replace g2 := vb g2 hg hb; replace gQ := vb gQ hg hb; replace mI := cb mI hb; have gV := am (hbox); have uH := bz HB hg; have uI := bz HB hg; replace HB := bs HB hb; have nH := nl g0 hg; have nI := ng g0 hg; replace g0 := kb g0 hb; clear hb hbox hg; have uJ := nI.1; have uK := nH.1; obtain ⟨kM, kN, kO, kP, kQ, kR, kS, kT⟩ := cs4 gV))
             have n0_ : Aside0 (Kd.N k44 44 ((((w41.setCell ⟨gA, 0, none⟩ (.int .i64 ((rd_T44 g1 g7).f0))).setCell ⟨gA, 1, none⟩ (.int .i64 ((rd_T44 g1 g7).f1.f0))).setCell ⟨gA, 2, none⟩ (.int .i64 ((rd_T44 g1 g7).f1.f1))).setCell ⟨gA, 3, none⟩ (.slice gZ ((rd_T44 g1 g7).f1.f2).length h0)) w.heap.size (fun k_ => (g6 k_ ∨ w.heap.size ≤ k_) ∧ some k_ ≠ (i0 : Value).ownBlock ∧ some k_ ≠ (u5 : Value).ownBlock ∧ k_ ≠ g5 ∧ k_ ≠ gA) (.slice (some gT) g1.length gG) g1) := nf gU; have n1_ : Aside0 (Kd.N k44 44 ((((w41.setCell ⟨gA, 0, none⟩ (.int .i64 ((rd_T44 g1 g7).f0))).setCell ⟨gA, 1, none⟩ (.int .i64 ((rd_T44 g1 g7).f1.f0))).setCell ⟨gA, 2, none⟩ (.int .i64 ((rd_T44 g1 g7).f1.f1))).setCell ⟨gA, 3, none⟩ (.slice gZ ((rd_T44 g1 g7).f1.f2).length h0)) w.heap.size (fun k_ => (g6 k_ ∨ w.heap.size ≤ k_) ∧ some k_ ≠ (.slice (some gT) g1.length gG : Value).ownBlock ∧ some k_ ≠ (u5 : Value).ownBlock ∧ some k_ ≠ (.slice (some gT) g1.length gG : Value).ownBlock ∧ k_ ≠ g5 ∧ k_ ≠ gA) i0 g4) := nf gI; have n2_ : Aside0 (Kd.N k44 44 ((((w41.setCell ⟨gA, 0, none⟩ (.int .i64 ((rd_T44 g1 g7).f0))).setCell ⟨gA, 1, none⟩ (.int .i64 ((rd_T44 g1 g7).f1.f0))).setCell ⟨gA, 2, none⟩ (.int .i64 ((rd_T44 g1 g7).f1.f1))).setCell ⟨gA, 3, none⟩ (.slice gZ ((rd_T44 g1 g7).f1.f2).length h0)) w.heap.size (fun k_ => (g6 k_ ∨ w.heap.size ≤ k_) ∧ some k_ ≠ (.slice (some gT) g1.length gG : Value).ownBlock ∧ k_ ≠ g5 ∧ k_ ≠ gA) u5 jX) := nf gH; have n3_ : Aside0 (Kd.N k44 44 ((((w41.setCell ⟨gA, 0, none⟩ (.int .i64 ((rd_T44 g1 g7).f0))).setCell ⟨gA, 1, none⟩ (.int .i64 ((rd_T44 g1 g7).f1.f0))).setCell ⟨gA, 2, none⟩ (.int .i64 ((rd_T44 g1 g7).f1.f1))).setCell ⟨gA, 3, none⟩ (.slice gZ ((rd_T44 g1 g7).f1.f2).length h0)) w.heap.size (fun k_ => (g6 k_ ∨ w.heap.size ≤ k_) ∧ some k_ ≠ (i0 : Value).ownBlock ∧ some k_ ≠ (u5 : Value).ownBlock ∧ k_ ≠ g5 ∧ k_ ≠ gA) (.slice (some gT) g1.length gG) g1) := nf h3; have n4_ : Aside0 (Kd.V k25 25 ((((w41.setCell ⟨gA, 0, none⟩ (.int .i64 ((rd_T44 g1 g7).f0))).setCell ⟨gA, 1, none⟩ (.int .i64 ((rd_T44 g1 g7).f1.f0))).setCell ⟨gA, 2, none⟩ (.int .i64 ((rd_T44 g1 g7).f1.f1))).setCell ⟨gA, 3, none⟩ (.slice gZ ((rd_T44 g1 g7).f1.f2).length h0)) w.heap.size (fun k_ => (g6 k_ ∨ w.heap.size ≤ k_) ∧ some k_ ≠ (.slice (some gT) g1.length gG : Value).ownBlock ∧ some k_ ≠ (i0 : Value).ownBlock ∧ some k_ ≠ (u5 : Value).ownBlock ∧ some k_ ≠ (.slice (some gT) g1.length gG : Value).ownBlock ∧ k_ ≠ g5 ∧ k_ ≠ gA) (.slice (some gF) g3.length gY) g3) := vf g2; have n5_ : Aside0 (Kd.V k25 25 ((((w41.setCell ⟨gA, 0, none⟩ (.int .i64 ((rd_T44 g1 g7).f0))).setCell ⟨gA, 1, none⟩ (.int .i64 ((rd_T44 g1 g7).f1.f0))).setCell ⟨gA, 2, none⟩ (.int .i64 ((rd_T44 g1 g7).f1.f1))).setCell ⟨gA, 3, none⟩ (.slice gZ ((rd_T44 g1 g7).f1.f2).length h0)) w.heap.size (fun k_ => (g6 k_ ∨ w.heap.size ≤ k_) ∧ some k_ ≠ (i0 : Value).ownBlock ∧ some k_ ≠ (u5 : Value).ownBlock ∧ some k_ ≠ (.slice (some gT) g1.length gG : Value).ownBlock ∧ k_ ≠ g5 ∧ k_ ≠ gA) (.slice gZ ((rd_T44 g1 g7).f1.f2).length h0) ((rd_T44 g1 g7).f1.f2)) := vf gQ; have n6_ : Aside0 (((((w41.setCell ⟨gA, 0, none⟩ (.int .i64 ((rd_T44 g1 g7).f0))).setCell ⟨gA, 1, none⟩ (.int .i64 ((rd_T44 g1 g7).f1.f0))).setCell ⟨gA, 2, none⟩ (.int .i64 ((rd_T44 g1 g7).f1.f1))).setCell ⟨gA, 3, none⟩ (.slice gZ ((rd_T44 g1 g7).f1.f2).length h0)).heap[g5]? = some (.cells #[.int .i64 gJ, .int .i64 gN, .slice (some gF) g3.length gY] 25 (0, 0))) := kf g0; have n7_ : Aside0 (((((w41.setCell ⟨gA, 0, none⟩ (.int .i64 ((rd_T44 g1 g7).f0))).setCell ⟨gA, 1, none⟩ (.int .i64 ((rd_T44 g1 g7).f1.f0))).setCell ⟨gA, 2, none⟩ (.int .i64 ((rd_T44 g1 g7).f1.f1))).setCell ⟨gA, 3, none⟩ (.slice gZ ((rd_T44 g1 g7).f1.f2).length h0)).heap[gA]? = some (.cells #[.int .i64 ((rd_T44 g1 g7).f0), .int .i64 ((rd_T44 g1 g7).f1.f0), .int .i64 ((rd_T44 g1 g7).f1.f1), .slice gZ ((rd_T44 g1 g7).f1.f2).length h0] 44 (0, 0))) := kf gV; have n8_ : Aside0 (Below w.heap.size w ((((w41.setCell ⟨gA, 0, none⟩ (.int .i64 ((rd_T44 g1 g7).f0))).setCell ⟨gA, 1, none⟩ (.int .i64 ((rd_T44 g1 g7).f1.f0))).setCell ⟨gA, 2, none⟩ (.int .i64 ((rd_T44 g1 g7).f1.f1))).setCell ⟨gA, 3, none⟩ (.slice gZ ((rd_T44 g1 g7).f1.f2).length h0))) := bw; (try clear gU); (try clear gI); (try clear gH); (try clear h3); (try clear g2); (try clear gQ); (try clear g0); (try clear gV); (try clear HB)
             generalize ((((w41.setCell ⟨gA, 0, none⟩ (.int .i64 ((rd_T44 g1 g7).f0))).setCell ⟨gA, 1, none⟩ (.int .i64 ((rd_T44 g1 g7).f1.f0))).setCell ⟨gA, 2, none⟩ (.int .i64 ((rd_T44 g1 g7).f1.f1))).setCell ⟨gA, 3, none⟩ (.slice gZ ((rd_T44 g1 g7).f1.f2).length h0)) = w44 at n0_ n1_ n2_ n3_ n4_ n5_ n6_ n7_ n8_ ⊢
             have gU := n0_; have gI := n1_; have gH := n2_; have h3 := n3_; have g2 := n4_; have gQ := n5_; have g0 := n6_; have gV := n7_; have HB := n8_; clear n0_ n1_ n2_ n3_ n4_ n5_ n6_ n7_ n8_; replace gU := am (Kd.N_drew gU.1); replace gI := am (Kd.N_drew gI.1); replace gH := am (Kd.N_drew gH.1); replace h3 := am (Kd.N_drew h3.1); replace g2 := am (Kd.V_drew g2.1); replace gQ := am (Kd.V_drew gQ.1); replace g0 := am (blk_drew g0.1); replace gV := am (blk_drew gV.1); replace HB := am (below_drew1 HB.1); have lX : 0 ≤ (1 : Int) := (by omega); have lY : 1 < (g3.length : Int) := od
             obtain ⟨qI, oA, oB, tX, hT, hU, hP, mJ, mK⟩ := at_T25 (Kd.V_reads' g2.1).2.2 1 lX lY
             obtain rfl : gF = qI := (by injection tX)
             obtain ⟨uL, pR, pS, oC⟩ := Kd.V_get g2.1 z25 1 lX (by first | exact lY | exact od | (have e_ := (Kd.V_reads' g2.1).1; omega))
             obtain ⟨rN, rO, rfl, kU, kV⟩ := k25_openF pS
             have jL := oC 2 _ rfl; rw [add_field _ _ 2 (by omega)] at jL; replace jL := Option.some.inj (jL.symm.trans hP); injection jL with hva_ hvn_ hvc_; rw [hva_] at kV; rw [hvc_] at kU; have i9 := am (show Kd.V k25 25 _ w.heap.size _ _ ((rd_T25 g3 1).f2) from Kd.V_mk kU kV); clear hva_ hvn_ hvc_ kV kU oC pR
             (try simp only [show (1 : Int).toNat = 1 from rfl, Nat.reduceMul, Nat.reduceEqDiff, Go.Addr.add, ↓reduceIte] at hT)
             (try simp only [show (1 : Int).toNat = 1 from rfl, Nat.reduceMul, Nat.reduceEqDiff, Go.Addr.add, ↓reduceIte] at hU)
             (try simp only [show (1 : Int).toNat = 1 from rfl, Nat.reduceMul, Nat.reduceEqDiff, Go.Addr.add, ↓reduceIte] at hP)
             have uM : (1 < g3.length) = True := eq_true (by omega)
             (try rw [show ((1 : Int)).toNat = 1 from rfl] at hT)
             (try rw [show 1 * 3 = 3 from rfl] at hT)
             (try rw [show ((1 : Int)).toNat = 1 from rfl] at hU)
             (try rw [show 1 * 3 = 3 from rfl] at hU)
             (try rw [show ((1 : Int)).toNat = 1 from rfl] at hP)
             (try rw [show 1 * 3 = 3 from rfl] at hP)
             have kW := am mK; have rP := am mJ; clear mK mJ; replace lX := eq_true lX; replace lY := eq_true lY
             refine start_ (n := 14) (S := fun w' => w'.cell? ⟨gA, 0, none⟩ = some (.int .i64 ((rd_T44 g1 g7).f0)) ∧ w'.cell? ⟨gA, 1, none⟩ = some (.int .i64 ((rd_T44 g1 g7).f1.f0)) ∧ w'.cell? ⟨gA, 2, none⟩ = some (.int .i64 ((rd_T44 g1 g7).f1.f1)) ∧ w'.cell? ⟨gA, 3, none⟩ = some (.slice gZ ((rd_T44 g1 g7).f1.f2).length h0) ∧ w'.cell? ⟨g5, 0, none⟩ = some (.int .i64 gJ) ∧ w'.cell? ⟨g5, 1, none⟩ = some (.int .i64 gN) ∧ w'.cell? ⟨g5, 2, none⟩ = some (.slice (some gF) g3.length gY) ∧ w'.cell? ⟨gF.block, gF.off + 3, none⟩ = some (.int .i64 ((rd_T25 g3 1).f0)) ∧ w'.cell? ⟨gF.block, gF.off + 3 + 1, none⟩ = some (.int .i64 ((rd_T25 g3 1).f1)) ∧ w'.cell? ⟨gF.block, gF.off + 3 + 2, none⟩ = some (.slice oA ((rd_T25 g3 1).f2).length oB)) (ds := [11, 12]) #[ff,ff,ff,ff,ff,ff,ff,ff,ff,ff,ff,ff,ff,ff] (by kernel_rfl) rfl rfl ⟨(blk_cell gV.1 0).trans rfl, (blk_cell gV.1 1).trans rfl, (blk_cell gV.1 2).trans rfl, (blk_cell gV.1 3).trans rfl, (blk_cell g0.1 0).trans rfl, (blk_cell g0.1 1).trans rfl, (blk_cell g0.1 2).trans rfl, hT, hU, hP⟩ (fun hHeld => ?_); refine with_tabW impl_ticksOf.tab12 impl_ticksOf.bits12 (fun HT_ HW_ => ?_)
             generalize w44.drew = w45 at gU gI gH h3 g2 gQ g0 gV HB i9 kW hT hU hP hHeld ⊢
             refine pu (i := 0) (N := some 58) #[tt,ff,ff,ff,ff,ff,ff,ff,ff,ff,ff,ff,ff,ff] HT_ ?_
             refine pu (i := 1) (N := some 59) #[tt,tt,ff,ff,ff,ff,ff,ff,ff,ff,ff,ff,ff,ff] HT_ ?_
             refine pu (i := 3) (N := some 61) #[tt,tt,ff,tt,ff,ff,ff,ff,ff,ff,ff,ff,ff,ff] HT_ ?_
             refine pu (i := 5) (N := some 63) #[tt,tt,ff,tt,ff,tt,ff,ff,ff,ff,ff,ff,ff,ff] HT_ ?_
             refine tk (i := 2) (N := some 60) #[tt,tt,tt,tt,ff,tt,ff,ff,ff,ff,ff,ff,ff,ff] HT_ HW_ hHeld ?_
             refine tk (i := 4) (N := some 62) #[tt,tt,tt,tt,tt,tt,ff,ff,ff,ff,ff,ff,ff,ff] HT_ HW_ hHeld ?_
             refine tk (i := 6) (N := some 64) #[tt,tt,tt,tt,tt,tt,tt,ff,ff,ff,ff,ff,ff,ff] HT_ HW_ hHeld ?_
             refine pu (i := 7) (N := some 65) #[tt,tt,tt,tt,tt,tt,tt,tt,ff,ff,ff,ff,ff,ff] HT_ ?_
             refine tk (i := 8) (N := some 66) #[tt,tt,tt,tt,tt,tt,tt,tt,tt,ff,ff,ff,ff,ff] HT_ HW_ hHeld ?_
             refine on (i := 9) (N := some 67) #[tt,tt,tt,tt,tt,tt,tt,tt,tt,tt,ff,ff,ff,ff] HT_ (fun K hK => ?_)
             refine goes_ Try.func61 (by kernel_rfl) rfl #[.agg #[.int .i64 ((rd_T44 g1 g7).f1.f0), .int .i64 ((rd_T44 g1 g7).f1.f1), .slice gZ ((rd_T44 g1 g7).f1.f2).length h0], .agg #[.int .i64 ((rd_T25 g3 1).f0), .int .i64 ((rd_T25 g3 1).f1), .slice oA ((rd_T25 g3 1).f2).length oB]] (by rfl) rfl rfl (by (try simp only [List.map_toArray, List.map_cons, List.map_nil]); first | done | rfl | (simp only [List.length_drop, List.length_take]; rfl)) ?_
             with_reducible refine (impl_beside.calls ((rd_T44 g1 g7).f1.f0) ((rd_T44 g1 g7).f1.f1) (fun k_ => ((g6 k_ ∨ w.heap.size ≤ k_) ∧ (some k_ ≠ (i0 : Value).ownBlock ∧ (some k_ ≠ (u5 : Value).ownBlock ∧ (some k_ ≠ (.slice (some gT) g1.length gG : Value).ownBlock ∧ (k_ ≠ g5 ∧ k_ ≠ gA)))))) _ _ ((rd_T44 g1 g7).f1.f2) ((rd_T25 g3 1).f0) ((rd_T25 g3 1).f1) (fun k_ => ((g6 k_ ∨ w.heap.size ≤ k_) ∧ (some k_ ≠ (.slice (some gT) g1.length gG : Value).ownBlock ∧ (some k_ ≠ (i0 : Value).ownBlock ∧ (some k_ ≠ (u5 : Value).ownBlock ∧ (some k_ ≠ (.slice (some gT) g1.length gG : Value).ownBlock ∧ (k_ ≠ g5 ∧ k_ ≠ gA))))))) _ _ ((rd_T25 g3 1).f2) nF nG iV _ ?side1 ?side2 A39.1).mono ?_
             (case side1 => exact gQ.1)
             (case side2 => exact i9.1)
             rintro e w46 ⟨vP, rfl, ho0, hb⟩
             have jS := (hb.cell (World.block_lt_of_cell? _ _ (hHeld.2.2.2.2.2.2.2.1))).trans (hHeld.2.2.2.2.2.2.2.1)
             have jT := (hb.cell (World.block_lt_of_cell? _ _ (hHeld.2.2.2.2.2.2.2.2.1))).trans (hHeld.2.2.2.2.2.2.2.2.1)
             have pT := (hb.cell (World.block_lt_of_cell? _ _ (hHeld.2.2.2.2.2.2.2.2.2))).trans (hHeld.2.2.2.2.2.2.2.2.2)
             refine ⟨_, rfl, ?_⟩
             replace gU := ne gU hb; replace g2 := ve g2 hb; replace gQ := ve gQ hb; replace i9 := ve i9 hb; have mL := nm HB ho0 (fun k_ => (g6 k_ ∨ w.heap.size ≤ k_) ∧ some k_ ≠ (i0 : Value).ownBlock ∧ some k_ ≠ (u5 : Value).ownBlock ∧ some k_ ≠ (.slice (some gT) g1.length gG : Value).ownBlock ∧ k_ ≠ g5 ∧ k_ ≠ gA) (fun k_ hk_ => ⟨Or.elim hk_ (fun hs_ => Or.elim hs_ (fun hs_ => hs_.1) (fun hs_ => hs_.1)) (fun hn_ => (.inr (zt HB hn_))), Or.elim hk_ (fun hs_ => Or.elim hs_ (fun hs_ => hs_.2.1) (fun hs_ => hs_.2.2.1)) (fun hn_ => (fr gI k_ hn_)), Or.elim hk_ (fun hs_ => Or.elim hs_ (fun hs_ => hs_.2.2.1) (fun hs_ => hs_.2.2.2.1)) (fun hn_ => (fr gH k_ hn_)), Or.elim hk_ (fun hs_ => Or.elim hs_ (fun hs_ => hs_.2.2.2.1) (fun hs_ => hs_.2.2.2.2.1)) (fun hn_ => (fr h3 k_ hn_)), Or.elim hk_ (fun hs_ => Or.elim hs_ (fun hs_ => hs_.2.2.2.2.1) (fun hs_ => hs_.2.2.2.2.2.1)) (fun hn_ => (fb g0 k_ hn_)), Or.elim hk_ (fun hs_ => Or.elim hs_ (fun hs_ => hs_.2.2.2.2.2) (fun hs_ => hs_.2.2.2.2.2.2)) (fun hn_ => (fb gV k_ hn_))⟩); replace gI := ne gI hb; replace gH := ne gH hb; replace h3 := ne h3 hb; replace g0 := kb g0 hb; replace gV := kb gV hb; replace kW := cb kW hb; replace HB := bs HB hb; (try clear hb); (try clear hb2); (try clear hk); (try clear hi); (try clear ho0)
             obtain ⟨lZ, m0, qJ⟩ := Kd.N_slice mL.1
             (first | subst qJ | (injection qJ with f1_ f2_ f3_; have f4_ := f1_.symm; have f5_ := f3_.symm; clear f1_ f2_ f3_; subst f4_; subst f5_))
             refine hK.out _ _ ⟨(blk_cell gV.1 0).trans rfl, (blk_cell gV.1 1).trans rfl, (blk_cell gV.1 2).trans rfl, (blk_cell gV.1 3).trans rfl, (blk_cell g0.1 0).trans rfl, (blk_cell g0.1 1).trans rfl, (blk_cell g0.1 2).trans rfl, jS, jT, pT⟩ (fun hHeld => ?_)
             clear hK K
             refine norm_ (a' := ?_) ?_ ?_
             rotate_left
             ·
              show Act.put _ (some 67) _ = _
              simp only [Act.put, List.setIfInBounds_toArray, List.set_cons_zero, List.set_cons_succ, i64_w, i32_w]
              rfl
             refine pu (i := 10) (N := some 68) #[tt,tt,tt,tt,tt,tt,tt,tt,tt,tt,tt,ff,ff,ff] HT_ ?_
             refine la (i := 11) (N := some 69) #[tt,tt,tt,tt,tt,tt,tt,tt,tt,tt,tt,tt,ff,ff] HT_ (fun K hK => ?_)
             refine value_ (w1 := ?_) (v := ?_) (by rfl) rfl ?_ ?_
             rotate_left 2
             ·
              go_simp
              constructor
              ·
               rfl
              ·
               rfl
             refine hK.out _ _ ?_
             clear hK K
             refine norm_ (a' := ?_) ?_ ?_
             rotate_left
             ·
              show Act.put _ (some 69) _ = _
              simp only [Act.put, List.setIfInBounds_toArray, List.set_cons_zero, List.set_cons_succ, i64_w, i32_w]
              rfl
             refine la (i := 12) (N := some 70) #[tt,tt,tt,tt,tt,tt,tt,tt,tt,tt,tt,tt,tt,ff] HT_ (fun K hK => ?_)
             refine Kd.N_append_step k44 (w0 := w) w.heap.size (by rfl) (.tmp 58) (.tmp 69) 28 44 (.agg #[(.int .i64 0), (.int .i64 0), (.int .i64 0), (.slice none 0 0)]) 48 rfl Try.underlying28 info44 rfl (by decide) (by omega) u5 jX (⟨(rd_T44 g1 g7).f0, (⟨nF, nG, iV⟩ : S25)⟩ : S44) [.int .i64 ((rd_T44 g1 g7).f0), .int .i64 nF, .int .i64 nG, .slice lZ iV.length m0] (fun k_ => (g6 k_ ∨ w.heap.size ≤ k_) ∧ some k_ ≠ (.slice (some gT) g1.length gG : Value).ownBlock ∧ k_ ≠ g5 ∧ k_ ≠ gA) (fun k_ => ((fun k_ => (g6 k_ ∨ w.heap.size ≤ k_) ∧ some k_ ≠ (.slice (some gT) g1.length gG : Value).ownBlock ∧ k_ ≠ g5 ∧ k_ ≠ gA)) k_ ∧ some k_ ≠ (u5 : Value).ownBlock) rfl rfl ?aP (fun _ hk => hk) ?aF ?aO ?aB ?aS ?aL ?_
             (case aP => exact (k44_mkF _ _ (⟨(rd_T44 g1 g7).f0, (⟨nF, nG, iV⟩ : S25)⟩ : S44) (Kd.N_reads' (Kd.N_mono (ok' := (fun k_ => ((fun k_ => (g6 k_ ∨ w.heap.size ≤ k_) ∧ some k_ ≠ (.slice (some gT) g1.length gG : Value).ownBlock ∧ k_ ≠ g5 ∧ k_ ≠ gA)) k_ ∧ some k_ ≠ (u5 : Value).ownBlock)) (mL.1) mq)).2.1 (Kd.N_F (Kd.N_mono (ok' := (fun k_ => ((fun k_ => (g6 k_ ∨ w.heap.size ≤ k_) ∧ some k_ ≠ (.slice (some gT) g1.length gG : Value).ownBlock ∧ k_ ≠ g5 ∧ k_ ≠ gA)) k_ ∧ some k_ ≠ (u5 : Value).ownBlock)) (mL.1) mq))))
             (case aB => exact bq)
             (case aF => exact (fun k_ hk => ⟨(.inr (zt HB hk)), Kd.fresh' (Kd.N_lt (n1 h3).1) k_ hk, Kd.freshB (g := g5) (o := .cells #[.int .i64 gJ, .int .i64 gN, .slice (some gF) g3.length gY] 25 (0, 0)) (kf g0).1 k_ hk, Kd.freshB (g := gA) (o := .cells #[.int .i64 ((rd_T44 g1 g7).f0), .int .i64 ((rd_T44 g1 g7).f1.f0), .int .i64 ((rd_T44 g1 g7).f1.f1), .slice gZ ((rd_T44 g1 g7).f1.f2).length h0] 44 (0, 0)) (kf gV).1 k_ hk⟩))
             (case aO => exact (nf gH).1)
             (case aS => exact (below_size bq))
             (case aL => have := qF.1; omega)
             intro vQ w48 ho hb hg hat
             rw [← qH.1] at ho; have n0_ := na gU hg hat (fun k_ => (g6 k_ ∨ w.heap.size ≤ k_) ∧ some k_ ≠ (i0 : Value).ownBlock ∧ some k_ ≠ (.slice lZ iV.length m0 : Value).ownBlock ∧ k_ ≠ g5 ∧ k_ ≠ gA); have n1_ := na gI hg hat (fun k_ => (g6 k_ ∨ w.heap.size ≤ k_) ∧ some k_ ≠ (.slice (some gT) g1.length gG : Value).ownBlock ∧ some k_ ≠ (.slice (some gT) g1.length gG : Value).ownBlock ∧ some k_ ≠ (.slice lZ iV.length m0 : Value).ownBlock ∧ k_ ≠ g5 ∧ k_ ≠ gA); have n2_ := na h3 hg hat (fun k_ => (g6 k_ ∨ w.heap.size ≤ k_) ∧ some k_ ≠ (i0 : Value).ownBlock ∧ some k_ ≠ (.slice lZ iV.length m0 : Value).ownBlock ∧ k_ ≠ g5 ∧ k_ ≠ gA); have n3_ := va g2 hg hat (fun k_ => (g6 k_ ∨ w.heap.size ≤ k_) ∧ some k_ ≠ (.slice (some gT) g1.length gG : Value).ownBlock ∧ some k_ ≠ (i0 : Value).ownBlock ∧ some k_ ≠ (.slice (some gT) g1.length gG : Value).ownBlock ∧ some k_ ≠ (.slice lZ iV.length m0 : Value).ownBlock ∧ k_ ≠ g5 ∧ k_ ≠ gA); have n4_ := kg g0 hg (Kd.N_ne gH.1 g0.1 (by decide)); have n5_ := va gQ hg hat (fun k_ => (g6 k_ ∨ w.heap.size ≤ k_) ∧ some k_ ≠ (i0 : Value).ownBlock ∧ some k_ ≠ (.slice (some gT) g1.length gG : Value).ownBlock ∧ some k_ ≠ (.slice lZ iV.length m0 : Value).ownBlock ∧ k_ ≠ g5 ∧ k_ ≠ gA); have n6_ := kg gV hg (Kd.N_away gH.1 mq); have n7_ := va i9 hg hat (fun k_ => (g6 k_ ∨ w.heap.size ≤ k_) ∧ some k_ ≠ (.slice (some gT) g1.length gG : Value).ownBlock ∧ some k_ ≠ (i0 : Value).ownBlock ∧ some k_ ≠ (.slice (some gT) g1.length gG : Value).ownBlock ∧ some k_ ≠ (.slice lZ iV.length m0 : Value).ownBlock ∧ k_ ≠ g5 ∧ k_ ≠ gA); have n8_ := am (hb); have n9_ := am (ho); clear gU gI h3 g2 g0 gQ gV i9 HB gH mL; have gU := n0_; have gI := n1_; have h3 := n2_; have g2 := n3_; have g0 := n4_; have gQ := n5_; have gV := n6_; have i9 := n7_; have HB := n8_; have qK := n9_; clear n0_ n1_ n2_ n3_ n4_ n5_ n6_ n7_ n8_ n9_ ho hb hg hat
             refine hK.out _ _ ?_
             clear hK K
             refine norm_ (a' := ?_) ?_ ?_
             rotate_left
             ·
              show Act.put _ (some 70) _ = _
              simp only [Act.put, List.setIfInBounds_toArray, List.set_cons_zero, List.set_cons_succ, i64_w, i32_w]
              rfl
             refine pu (i := 13) (N := some 5) #[tt,tt,tt,tt,tt,tt,tt,tt,tt,tt,tt,tt,tt,tt] HT_ ?_
             refine done_ (done_of HT_.1 (by kernel_rfl)) ?_
             try go_wp2
             go_roundg k1
             case measure => have := HK1.1; omega
             case rel => exact ⟨(qG), (wrap64 (g7 + 1)), rq, H', km, nf gU, nf gI, nf qK, nf h3, vf g2, kf g0, bw⟩
            ·
             rw [if_neg c40] at H
             exact absurd H (by simp)
           ·
            rw [if_neg c38] at H
            exact absurd H (by simp)
          ·
           rw [if_neg c37] at H
           exact absurd H (by simp)
         ·
          rw [if_neg c36] at H
          exact absurd H (by simp)
        ·
         rw [if_neg c35] at H; have c35b0 : decide (g7 < (g1.length : Int)) = false := decide_eq_false c35; clear c35
         have H' := am H
         clear H
         obtain ⟨iD, gK, tY⟩ := Kd.N_slice gI.1
         subst tY
         go_wp2
         go_loopg [5, 74] k1 (fun kq v5 v74 w' => ∃ (jY : List (S44)) (g8 : Int), v74 = .int .i64 g8 ∧ Aside0 (impl_ticksOf.l1 kq g1 g4 jY g4 (g4.length : Int) g8 gJ gN g3 = some r) ∧ Aside0 (kq ≤ k1) ∧ Aside0 (Kd.N k44 44 w' w.heap.size (fun k_ => (g6 k_ ∨ w.heap.size ≤ k_) ∧ some k_ ≠ ((.slice iD g4.length gK) : Value).ownBlock ∧ some k_ ≠ (v5 : Value).ownBlock ∧ some k_ ≠ ((.slice iD g4.length gK) : Value).ownBlock ∧ k_ ≠ g5) (.slice h9 g1.length gG) g1) ∧ Aside0 (Kd.N k44 44 w' w.heap.size (fun k_ => (g6 k_ ∨ w.heap.size ≤ k_) ∧ some k_ ≠ ((.slice h9 g1.length gG) : Value).ownBlock ∧ some k_ ≠ (v5 : Value).ownBlock ∧ k_ ≠ g5) (.slice iD g4.length gK) g4) ∧ Aside0 (Kd.N k44 44 w' w.heap.size (fun k_ => (g6 k_ ∨ w.heap.size ≤ k_) ∧ k_ ≠ g5) v5 jY) ∧ Aside0 (Kd.N k44 44 w' w.heap.size (fun k_ => (g6 k_ ∨ w.heap.size ≤ k_) ∧ some k_ ≠ ((.slice h9 g1.length gG) : Value).ownBlock ∧ some k_ ≠ (v5 : Value).ownBlock ∧ k_ ≠ g5) (.slice iD g4.length gK) g4) ∧ Aside0 (Kd.V k25 25 w' w.heap.size (fun k_ => (g6 k_ ∨ w.heap.size ≤ k_) ∧ some k_ ≠ ((.slice h9 g1.length gG) : Value).ownBlock ∧ some k_ ≠ ((.slice iD g4.length gK) : Value).ownBlock ∧ some k_ ≠ (v5 : Value).ownBlock ∧ some k_ ≠ ((.slice iD g4.length gK) : Value).ownBlock ∧ k_ ≠ g5) (.slice (some gF) g3.length gY) g3) ∧ Aside0 (w'.heap[g5]? = some (.cells #[.int .i64 gJ, .int .i64 gN, (.slice (some gF) g3.length gY)] 25 (0, 0))) ∧ Aside0 (Below w.heap.size w w'))
         case atStart => exact ⟨(jX), (0), rq, H', ⟨Nat.le_refl _⟩, nf gU, nf gI, nf gH, nf gI, vf g2, kf g0, bw⟩
         case round =>
          clear H'; (try clear c1); (try clear c2); (try clear p2); (try clear q2); (try clear hx2); (try clear qi2); (try clear c3); (try clear c4); (try clear c6); (try clear p6); (try clear c9); (try clear c9b0); (try clear c9b1); (try clear c10); (try clear c12); (try clear c14); (try clear c22); (try clear c22b0); (try clear c22b1); (try clear c23); (try clear c23b0); (try clear c23b1); (try clear c24); (try clear p24); (try clear q24); (try clear pJ); (try clear pK); (try clear c25); (try clear c25b0); (try clear c25b1); (try clear p25); (try clear q25); (try clear pL); (try clear pM); (try clear c26); (try clear p26); (try clear q26); (try clear pN); (try clear pO); (try clear c27); (try clear p27); (try clear q27); (try clear qL); (try clear qM); (try clear c35); (try clear c35b0); (try clear c36); (try clear c36b0); (try clear c37); (try clear c37b0); (try clear c38); (try clear c38b0); (try clear c38b1); (try clear c40); (try clear c42); (try clear c43); (try clear j3); (try clear j4); (try clear j5); (try clear jB); (try clear jC); (try clear jD); (try clear kM); (try clear kN); (try clear kO); (try clear kP); (try clear j6); (try clear j7); (try clear j8); (try clear jE); (try clear jF); (try clear jG); (try clear kQ); (try clear kR); (try clear kS); (try clear kT); (try clear hE); (try clear hF); (try clear hA); (try clear hH); (try clear hI); (try clear hB); (try clear hL); (try clear hM); (try clear hC); (try clear hN); (try clear hO); (try clear hD); (try clear kH); (try clear kI); (try clear kJ); (try clear jJ); (try clear hT); (try clear hU); (try clear hP); (try clear p2); (try clear p24); (try clear lF); (try clear p25); (try clear lH); (try clear p26); (try clear lL); (try clear lN); (try clear lV); (try clear lX); (try clear q2); (try clear q24); (try clear lG); (try clear q25); (try clear lI); (try clear q26); (try clear lM); (try clear lO); (try clear lW); (try clear lY); (try clear gU); (try clear gI); (try clear gH); (try clear h5); (try clear g2); (try clear g0); (try clear HB)
          obtain ⟨jY, g8, rfl, HA, HK2, gU, gI, gH, h5, g2, g0, HB⟩ := hrel
          cases gk with
          | zero => exact absurd HA.1 (by simp [impl_ticksOf.l1])
          | succ k2 =>
           have H := HA.1
           clear HA
           simp only [impl_ticksOf.l1] at H
           by_cases c50 : g8 < (g4.length : Int)
           ·
            rw [if_pos c50] at H; have c50b0 : decide (g8 < (g4.length : Int)) = true := decide_eq_true c50; clear c50
            by_cases c51 : 0 ≤ g8
            ·
             rw [if_pos c51] at H; have c51b0 : decide (0 ≤ g8) = true := decide_eq_true c51; clear c51
             by_cases c52 : g8 < (g4.length : Int)
             ·
              rw [if_pos c52] at H; have c52b0 : decide (g8 < (g4.length : Int)) = true := decide_eq_true c52; clear c52
              by_cases c53 : 0 < (g3.length : Int)
              ·
               rw [if_pos c53] at H; have c53b0 : decide (0 < (g3.length : Int)) = true := decide_eq_true c53; have c53b1 : decide (0 < g3.length) = true := decide_eq_true (by omega); clear c53
               replace H := Option.bind_eq_some_iff.mp H
               obtain ⟨⟨nJ, nK, iW⟩, qN, H⟩ := H
               replace H : (if jY.length < 2932031007402 then (impl_ticksOf.l1 k2 g1 g4 (jY ++ [(⟨(rd_T44 g4 g8).f0, (⟨nJ, nK, iW⟩ : S25)⟩ : S44)]) g4 (g4.length : Int) (wrap64 (g8 + 1)) gJ gN g3) else (none)) = some r := H
               have A54 := am qN
               clear qN
               by_cases c55 : jY.length < 2932031007402
               ·
                rw [if_pos c55] at H
                have qO := am c55
                clear c55
                obtain ⟨qP, lQ⟩ : ∃ y_ : List (S44), y_ = (jY ++ [(⟨(rd_T44 g4 g8).f0, (⟨nJ, nK, iW⟩ : S25)⟩ : S44)]) := ⟨_, rfl⟩
                replace H : (impl_ticksOf.l1 k2 g1 g4 qP g4 (g4.length : Int) (wrap64 (g8 + 1)) gJ gN g3) = some r := by first | (rw [lQ]; with_reducible exact H) | (have H2_ := (Option.bind_some _ _).symm.trans H; rw [lQ]; with_reducible exact H2_) | (have H2_ := (Option.bind_some _ _).symm.trans H; with_reducible exact H2_) | with_reducible exact H | (rw [lQ]; exact H) | exact H
                have qQ := am lQ
                clear lQ
                have H' := am H
                clear H; have nL : 0 ≤ (g8 : Int) := od; have nM : g8 < (g4.length : Int) := od
                obtain ⟨h8, h1, h2, tZ, mM, mN, mO, kX, mP, mQ⟩ := at_T44 (Kd.N_reads' h5.1).2.2 g8 nL nM
                cases tZ
                obtain ⟨uN, pU, pV, oD⟩ := Kd.N_get h5.1 z44 g8 nL (by first | exact nM | exact od | (have e_ := (Kd.N_reads' h5.1).1; omega))
                obtain ⟨rQ, rR, rfl, kY, kZ⟩ := k44_openF pV
                have jM := oD 3 _ rfl; rw [add_field _ _ 3 (by omega)] at jM; replace jM := Option.some.inj (jM.symm.trans kX); injection jM with hva_ hvn_ hvc_; rw [hva_] at kZ; rw [hvc_] at kY; have gR := am (show Kd.V k25 25 _ w.heap.size _ _ ((rd_T44 g4 g8).f1.f2) from Kd.V_mk kY kZ); clear hva_ hvn_ hvc_ kZ kY oD pU; have mR := am mQ; have rS := am mP; clear mQ mP; replace nL := eq_true nL; replace nM := eq_true nM
                try go_wp2_with (first | ((with_reducible refine gate_dst (N := 9) rfl ?_); refine bx (cs := #[.int .i64 0, .int .i64 0, .int .i64 0, .slice none 0 0]) (t := 44) fun gB hg w56 hbox hb => ?_; replace gU := nb gU hg hb; replace gI := nb gI hg hb; replace gH := nb gH hg hb; replace h5 := nb h5 hg hb; replace g2 := vb g2 hg hb; replace gR := vb gR hg hb; replace mR := cb mR hb; have gW := am (hbox); have uO := bz HB hg; have uP := bz HB hg; replace HB := bs HB hb; have nN := nl g0 hg; have nO := ng g0 hg; replace g0 := kb g0 hb; clear hb hbox hg; have uQ := nO.1; have uR := nN.1; obtain ⟨mS, mT, mU, mV, mW, mX, mY, mZ⟩ := cs4 gW))
                have n0_ : Aside0 (Kd.N k44 44 ((((w56.setCell ⟨gB, 0, none⟩ (.int .i64 ((rd_T44 g4 g8).f0))).setCell ⟨gB, 1, none⟩ (.int .i64 ((rd_T44 g4 g8).f1.f0))).setCell ⟨gB, 2, none⟩ (.int .i64 ((rd_T44 g4 g8).f1.f1))).setCell ⟨gB, 3, none⟩ (.slice h1 ((rd_T44 g4 g8).f1.f2).length h2)) w.heap.size (fun k_ => (g6 k_ ∨ w.heap.size ≤ k_) ∧ some k_ ≠ (.slice (some h8) g4.length gK : Value).ownBlock ∧ some k_ ≠ (u5 : Value).ownBlock ∧ some k_ ≠ (.slice (some h8) g4.length gK : Value).ownBlock ∧ k_ ≠ g5 ∧ k_ ≠ gB) (.slice h9 g1.length gG) g1) := nf gU; have n1_ : Aside0 (Kd.N k44 44 ((((w56.setCell ⟨gB, 0, none⟩ (.int .i64 ((rd_T44 g4 g8).f0))).setCell ⟨gB, 1, none⟩ (.int .i64 ((rd_T44 g4 g8).f1.f0))).setCell ⟨gB, 2, none⟩ (.int .i64 ((rd_T44 g4 g8).f1.f1))).setCell ⟨gB, 3, none⟩ (.slice h1 ((rd_T44 g4 g8).f1.f2).length h2)) w.heap.size (fun k_ => (g6 k_ ∨ w.heap.size ≤ k_) ∧ some k_ ≠ (.slice h9 g1.length gG : Value).ownBlock ∧ some k_ ≠ (u5 : Value).ownBlock ∧ k_ ≠ g5 ∧ k_ ≠ gB) (.slice (some h8) g4.length gK) g4) := nf gI; have n2_ : Aside0 (Kd.N k44 44 ((((w56.setCell ⟨gB, 0, none⟩ (.int .i64 ((rd_T44 g4 g8).f0))).setCell ⟨gB, 1, none⟩ (.int .i64 ((rd_T44 g4 g8).f1.f0))).setCell ⟨gB, 2, none⟩ (.int .i64 ((rd_T44 g4 g8).f1.f1))).setCell ⟨gB, 3, none⟩ (.slice h1 ((rd_T44 g4 g8).f1.f2).length h2)) w.heap.size (fun k_ => (g6 k_ ∨ w.heap.size ≤ k_) ∧ k_ ≠ g5 ∧ k_ ≠ gB) u5 jY) := nf gH; have n3_ : Aside0 (Kd.N k44 44 ((((w56.setCell ⟨gB, 0, none⟩ (.int .i64 ((rd_T44 g4 g8).f0))).setCell ⟨gB, 1, none⟩ (.int .i64 ((rd_T44 g4 g8).f1.f0))).setCell ⟨gB, 2, none⟩ (.int .i64 ((rd_T44 g4 g8).f1.f1))).setCell ⟨gB, 3, none⟩ (.slice h1 ((rd_T44 g4 g8).f1.f2).length h2)) w.heap.size (fun k_ => (g6 k_ ∨ w.heap.size ≤ k_) ∧ some k_ ≠ (.slice h9 g1.length gG : Value).ownBlock ∧ some k_ ≠ (u5 : Value).ownBlock ∧ k_ ≠ g5 ∧ k_ ≠ gB) (.slice (some h8) g4.length gK) g4) := nf h5; have n4_ : Aside0 (Kd.V k25 25 ((((w56.setCell ⟨gB, 0, none⟩ (.int .i64 ((rd_T44 g4 g8).f0))).setCell ⟨gB, 1, none⟩ (.int .i64 ((rd_T44 g4 g8).f1.f0))).setCell ⟨gB, 2, none⟩ (.int .i64 ((rd_T44 g4 g8).f1.f1))).setCell ⟨gB, 3, none⟩ (.slice h1 ((rd_T44 g4 g8).f1.f2).length h2)) w.heap.size (fun k_ => (g6 k_ ∨ w.heap.size ≤ k_) ∧ some k_ ≠ (.slice h9 g1.length gG : Value).ownBlock ∧ some k_ ≠ (.slice (some h8) g4.length gK : Value).ownBlock ∧ some k_ ≠ (u5 : Value).ownBlock ∧ some k_ ≠ (.slice (some h8) g4.length gK : Value).ownBlock ∧ k_ ≠ g5 ∧ k_ ≠ gB) (.slice (some gF) g3.length gY) g3) := vf g2; have n5_ : Aside0 (Kd.V k25 25 ((((w56.setCell ⟨gB, 0, none⟩ (.int .i64 ((rd_T44 g4 g8).f0))).setCell ⟨gB, 1, none⟩ (.int .i64 ((rd_T44 g4 g8).f1.f0))).setCell ⟨gB, 2, none⟩ (.int .i64 ((rd_T44 g4 g8).f1.f1))).setCell ⟨gB, 3, none⟩ (.slice h1 ((rd_T44 g4 g8).f1.f2).length h2)) w.heap.size (fun k_ => (g6 k_ ∨ w.heap.size ≤ k_) ∧ some k_ ≠ (.slice h9 g1.length gG : Value).ownBlock ∧ some k_ ≠ (u5 : Value).ownBlock ∧ some k_ ≠ (.slice (some h8) g4.length gK : Value).ownBlock ∧ k_ ≠ g5 ∧ k_ ≠ gB) (.slice h1 ((rd_T44 g4 g8).f1.f2).length h2) ((rd_T44 g4 g8).f1.f2)) := vf gR; have n6_ : Aside0 (((((w56.setCell ⟨gB, 0, none⟩ (.int .i64 ((rd_T44 g4 g8).f0))).setCell ⟨gB, 1, none⟩ (.int .i64 ((rd_T44 g4 g8).f1.f0))).setCell ⟨gB, 2, none⟩ (.int .i64 ((rd_T44 g4 g8).f1.f1))).setCell ⟨gB, 3, none⟩ (.slice h1 ((rd_T44 g4 g8).f1.f2).length h2)).heap[g5]? = some (.cells #[.int .i64 gJ, .int .i64 gN, .slice (some gF) g3.length gY] 25 (0, 0))) := kf g0; have n7_ : Aside0 (((((w56.setCell ⟨gB, 0, none⟩ (.int .i64 ((rd_T44 g4 g8).f0))).setCell ⟨gB, 1, none⟩ (.int .i64 ((rd_T44 g4 g8).f1.f0))).setCell ⟨gB, 2, none⟩ (.int .i64 ((rd_T44 g4 g8).f1.f1))).setCell ⟨gB, 3, none⟩ (.slice h1 ((rd_T44 g4 g8).f1.f2).length h2)).heap[gB]? = some (.cells #[.int .i64 ((rd_T44 g4 g8).f0), .int .i64 ((rd_T44 g4 g8).f1.f0), .int .i64 ((rd_T44 g4 g8).f1.f1), .slice h1 ((rd_T44 g4 g8).f1.f2).length h2] 44 (0, 0))) := kf gW; have n8_ : Aside0 (Below w.heap.size w ((((w56.setCell ⟨gB, 0, none⟩ (.int .i64 ((rd_T44 g4 g8).f0))).setCell ⟨gB, 1, none⟩ (.int .i64 ((rd_T44 g4 g8).f1.f0))).setCell ⟨gB, 2, none⟩ (.int .i64 ((rd_T44 g4 g8).f1.f1))).setCell ⟨gB, 3, none⟩ (.slice h1 ((rd_T44 g4 g8).f1.f2).length h2))) := bw; (try clear gU); (try clear gI); (try clear gH); (try clear h5); (try clear g2); (try clear gR); (try clear g0); (try clear gW); (try clear HB)
                generalize ((((w56.setCell ⟨gB, 0, none⟩ (.int .i64 ((rd_T44 g4 g8).f0))).setCell ⟨gB, 1, none⟩ (.int .i64 ((rd_T44 g4 g8).f1.f0))).setCell ⟨gB, 2, none⟩ (.int .i64 ((rd_T44 g4 g8).f1.f1))).setCell ⟨gB, 3, none⟩ (.slice h1 ((rd_T44 g4 g8).f1.f2).length h2)) = w59 at n0_ n1_ n2_ n3_ n4_ n5_ n6_ n7_ n8_ ⊢
                have gU := n0_; have gI := n1_; have gH := n2_; have h5 := n3_; have g2 := n4_; have gR := n5_; have g0 := n6_; have gW := n7_; have HB := n8_; clear n0_ n1_ n2_ n3_ n4_ n5_ n6_ n7_ n8_; replace gU := am (Kd.N_drew gU.1); replace gI := am (Kd.N_drew gI.1); replace gH := am (Kd.N_drew gH.1); replace h5 := am (Kd.N_drew h5.1); replace g2 := am (Kd.V_drew g2.1); replace gR := am (Kd.V_drew gR.1); replace g0 := am (blk_drew g0.1); replace gW := am (blk_drew gW.1); replace HB := am (below_drew1 HB.1); have nP : 0 ≤ (0 : Int) := (by omega); have nQ : 0 < (g3.length : Int) := od
                obtain ⟨qR, oE, oF, u0, iA, iB, hV, n0, n2⟩ := at_T25 (Kd.V_reads' g2.1).2.2 0 nP nQ
                obtain rfl : gF = qR := (by injection u0)
                obtain ⟨uS, pW, pX, oG⟩ := Kd.V_get g2.1 z25 0 nP (by first | exact nQ | exact od | (have e_ := (Kd.V_reads' g2.1).1; omega))
                obtain ⟨rT, rU, rfl, l4, l5⟩ := k25_openF pX
                have jN := oG 2 _ rfl; rw [add_field _ _ 2 (by omega)] at jN; replace jN := Option.some.inj (jN.symm.trans hV); injection jN with hva_ hvn_ hvc_; rw [hva_] at l5; rw [hvc_] at l4; have iC := am (show Kd.V k25 25 _ w.heap.size _ _ ((rd_T25 g3 0).f2) from Kd.V_mk l4 l5); clear hva_ hvn_ hvc_ l5 l4 oG pW
                have uT : (0 < g3.length) = True := eq_true (by omega)
                (try rw [tz] at iA)
                (try rw [z3] at iA)
                (try rw [Addr.add_zero'] at iA)
                (try rw [tz] at iB)
                (try rw [z3] at iB)
                (try rw [Addr.add_zero'] at iB)
                (try rw [tz] at hV)
                (try rw [z3] at hV)
                (try rw [Addr.add_zero'] at hV)
                have l6 := am n2; have rV := am n0; clear n2 n0; replace nP := eq_true nP; replace nQ := eq_true nQ
                refine start_ (n := 14) (S := fun w' => w'.cell? ⟨gB, 0, none⟩ = some (.int .i64 ((rd_T44 g4 g8).f0)) ∧ w'.cell? ⟨gB, 1, none⟩ = some (.int .i64 ((rd_T44 g4 g8).f1.f0)) ∧ w'.cell? ⟨gB, 2, none⟩ = some (.int .i64 ((rd_T44 g4 g8).f1.f1)) ∧ w'.cell? ⟨gB, 3, none⟩ = some (.slice h1 ((rd_T44 g4 g8).f1.f2).length h2) ∧ w'.cell? ⟨g5, 0, none⟩ = some (.int .i64 gJ) ∧ w'.cell? ⟨g5, 1, none⟩ = some (.int .i64 gN) ∧ w'.cell? ⟨g5, 2, none⟩ = some (.slice (some gF) g3.length gY) ∧ w'.cell? gF = some (.int .i64 ((rd_T25 g3 0).f0)) ∧ w'.cell? ⟨gF.block, gF.off + 1, none⟩ = some (.int .i64 ((rd_T25 g3 0).f1)) ∧ w'.cell? ⟨gF.block, gF.off + 2, none⟩ = some (.slice oE ((rd_T25 g3 0).f2).length oF)) (ds := [11, 12]) #[ff,ff,ff,ff,ff,ff,ff,ff,ff,ff,ff,ff,ff,ff] (by kernel_rfl) rfl rfl ⟨(blk_cell gW.1 0).trans rfl, (blk_cell gW.1 1).trans rfl, (blk_cell gW.1 2).trans rfl, (blk_cell gW.1 3).trans rfl, (blk_cell g0.1 0).trans rfl, (blk_cell g0.1 1).trans rfl, (blk_cell g0.1 2).trans rfl, iA, iB, hV⟩ (fun hHeld => ?_); refine with_tabW impl_ticksOf.tab17 impl_ticksOf.bits17 (fun HT_ HW_ => ?_)
                generalize w59.drew = w60 at gU gI gH h5 g2 gR g0 gW HB iC l6 iA iB hV hHeld ⊢
                refine pu (i := 0) (N := some 78) #[tt,ff,ff,ff,ff,ff,ff,ff,ff,ff,ff,ff,ff,ff] HT_ ?_
                refine pu (i := 1) (N := some 79) #[tt,tt,ff,ff,ff,ff,ff,ff,ff,ff,ff,ff,ff,ff] HT_ ?_
                refine pu (i := 3) (N := some 81) #[tt,tt,ff,tt,ff,ff,ff,ff,ff,ff,ff,ff,ff,ff] HT_ ?_
                refine pu (i := 7) (N := some 85) #[tt,tt,ff,tt,ff,ff,ff,tt,ff,ff,ff,ff,ff,ff] HT_ ?_
                refine tk (i := 2) (N := some 80) #[tt,tt,tt,tt,ff,ff,ff,tt,ff,ff,ff,ff,ff,ff] HT_ HW_ hHeld ?_
                refine tk (i := 4) (N := some 82) #[tt,tt,tt,tt,tt,ff,ff,tt,ff,ff,ff,ff,ff,ff] HT_ HW_ hHeld ?_
                refine pu (i := 5) (N := some 83) #[tt,tt,tt,tt,tt,tt,ff,tt,ff,ff,ff,ff,ff,ff] HT_ ?_
                refine tk (i := 6) (N := some 84) #[tt,tt,tt,tt,tt,tt,tt,tt,ff,ff,ff,ff,ff,ff] HT_ HW_ hHeld ?_
                refine tk (i := 8) (N := some 86) #[tt,tt,tt,tt,tt,tt,tt,tt,tt,ff,ff,ff,ff,ff] HT_ HW_ hHeld ?_
                refine on (i := 9) (N := some 87) #[tt,tt,tt,tt,tt,tt,tt,tt,tt,tt,ff,ff,ff,ff] HT_ (fun K hK => ?_)
                refine goes_ Try.func61 (by kernel_rfl) rfl #[.agg #[.int .i64 ((rd_T25 g3 0).f0), .int .i64 ((rd_T25 g3 0).f1), .slice oE ((rd_T25 g3 0).f2).length oF], .agg #[.int .i64 ((rd_T44 g4 g8).f1.f0), .int .i64 ((rd_T44 g4 g8).f1.f1), .slice h1 ((rd_T44 g4 g8).f1.f2).length h2]] (by rfl) rfl rfl (by (try simp only [List.map_toArray, List.map_cons, List.map_nil]); first | done | rfl | (simp only [List.length_drop, List.length_take]; rfl)) ?_
                with_reducible refine (impl_beside.calls ((rd_T25 g3 0).f0) ((rd_T25 g3 0).f1) (fun k_ => ((g6 k_ ∨ w.heap.size ≤ k_) ∧ (some k_ ≠ (.slice h9 g1.length gG : Value).ownBlock ∧ (some k_ ≠ (.slice (some h8) g4.length gK : Value).ownBlock ∧ (some k_ ≠ (u5 : Value).ownBlock ∧ (some k_ ≠ (.slice (some h8) g4.length gK : Value).ownBlock ∧ (k_ ≠ g5 ∧ k_ ≠ gB))))))) _ _ ((rd_T25 g3 0).f2) ((rd_T44 g4 g8).f1.f0) ((rd_T44 g4 g8).f1.f1) (fun k_ => ((g6 k_ ∨ w.heap.size ≤ k_) ∧ (some k_ ≠ (.slice h9 g1.length gG : Value).ownBlock ∧ (some k_ ≠ (u5 : Value).ownBlock ∧ (some k_ ≠ (.slice (some h8) g4.length gK : Value).ownBlock ∧ (k_ ≠ g5 ∧ k_ ≠ gB)))))) _ _ ((rd_T44 g4 g8).f1.f2) nJ nK iW _ ?side1 ?side2 A54.1).mono ?_
                (case side1 => exact iC.1)
                (case side2 => exact gR.1)
                rintro e w61 ⟨vR, rfl, ho0, hb⟩
                have jS := (hb.cell (World.block_lt_of_cell? _ _ (hHeld.2.2.2.2.2.2.2.1))).trans (hHeld.2.2.2.2.2.2.2.1)
                have jT := (hb.cell (World.block_lt_of_cell? _ _ (hHeld.2.2.2.2.2.2.2.2.1))).trans (hHeld.2.2.2.2.2.2.2.2.1)
                have pT := (hb.cell (World.block_lt_of_cell? _ _ (hHeld.2.2.2.2.2.2.2.2.2))).trans (hHeld.2.2.2.2.2.2.2.2.2)
                refine ⟨_, rfl, ?_⟩
                replace gI := ne gI hb; replace g2 := ve g2 hb; replace gR := ve gR hb; replace iC := ve iC hb; have n3 := nm HB ho0 (fun k_ => (g6 k_ ∨ w.heap.size ≤ k_) ∧ some k_ ≠ (.slice h9 g1.length gG : Value).ownBlock ∧ some k_ ≠ (u5 : Value).ownBlock ∧ some k_ ≠ (.slice (some h8) g4.length gK : Value).ownBlock ∧ k_ ≠ g5 ∧ k_ ≠ gB) (fun k_ hk_ => ⟨Or.elim hk_ (fun hs_ => Or.elim hs_ (fun hs_ => hs_.1) (fun hs_ => hs_.1)) (fun hn_ => (.inr (zt HB hn_))), Or.elim hk_ (fun hs_ => Or.elim hs_ (fun hs_ => hs_.2.1) (fun hs_ => hs_.2.1)) (fun hn_ => (fr gU k_ hn_)), Or.elim hk_ (fun hs_ => Or.elim hs_ (fun hs_ => hs_.2.2.2.1) (fun hs_ => hs_.2.2.1)) (fun hn_ => (fr gH k_ hn_)), Or.elim hk_ (fun hs_ => Or.elim hs_ (fun hs_ => hs_.2.2.2.2.1) (fun hs_ => hs_.2.2.2.1)) (fun hn_ => (fr h5 k_ hn_)), Or.elim hk_ (fun hs_ => Or.elim hs_ (fun hs_ => hs_.2.2.2.2.2.1) (fun hs_ => hs_.2.2.2.2.1)) (fun hn_ => (fb g0 k_ hn_)), Or.elim hk_ (fun hs_ => Or.elim hs_ (fun hs_ => hs_.2.2.2.2.2.2) (fun hs_ => hs_.2.2.2.2.2)) (fun hn_ => (fb gW k_ hn_))⟩); replace gU := ne gU hb; replace gH := ne gH hb; replace h5 := ne h5 hb; replace g0 := kb g0 hb; replace gW := kb gW hb; replace l6 := cb l6 hb; replace HB := bs HB hb; (try clear hb); (try clear hb2); (try clear hk); (try clear hi); (try clear ho0)
                obtain ⟨m1, m2, qS⟩ := Kd.N_slice n3.1
                (first | subst qS | (injection qS with f1_ f2_ f3_; have f4_ := f1_.symm; have f5_ := f3_.symm; clear f1_ f2_ f3_; subst f4_; subst f5_))
                refine hK.out _ _ ⟨(blk_cell gW.1 0).trans rfl, (blk_cell gW.1 1).trans rfl, (blk_cell gW.1 2).trans rfl, (blk_cell gW.1 3).trans rfl, (blk_cell g0.1 0).trans rfl, (blk_cell g0.1 1).trans rfl, (blk_cell g0.1 2).trans rfl, jS, jT, pT⟩ (fun hHeld => ?_)
                clear hK K
                refine norm_ (a' := ?_) ?_ ?_
                rotate_left
                ·
                 show Act.put _ (some 87) _ = _
                 simp only [Act.put, List.setIfInBounds_toArray, List.set_cons_zero, List.set_cons_succ, i64_w, i32_w]
                 rfl
                refine pu (i := 10) (N := some 88) #[tt,tt,tt,tt,tt,tt,tt,tt,tt,tt,tt,ff,ff,ff] HT_ ?_
                refine la (i := 11) (N := some 89) #[tt,tt,tt,tt,tt,tt,tt,tt,tt,tt,tt,tt,ff,ff] HT_ (fun K hK => ?_)
                refine value_ (w1 := ?_) (v := ?_) (by rfl) rfl ?_ ?_
                rotate_left 2
                ·
                 go_simp
                 constructor
                 ·
                  rfl
                 ·
                  rfl
                refine hK.out _ _ ?_
                clear hK K
                refine norm_ (a' := ?_) ?_ ?_
                rotate_left
                ·
                 show Act.put _ (some 89) _ = _
                 simp only [Act.put, List.setIfInBounds_toArray, List.set_cons_zero, List.set_cons_succ, i64_w, i32_w]
                 rfl
                refine la (i := 12) (N := some 90) #[tt,tt,tt,tt,tt,tt,tt,tt,tt,tt,tt,tt,tt,ff] HT_ (fun K hK => ?_)
                refine Kd.N_append_step k44 (w0 := w) w.heap.size (by rfl) (.tmp 78) (.tmp 89) 28 44 (.agg #[(.int .i64 0), (.int .i64 0), (.int .i64 0), (.slice none 0 0)]) 48 rfl Try.underlying28 info44 rfl (by decide) (by omega) u5 jY (⟨(rd_T44 g4 g8).f0, (⟨nJ, nK, iW⟩ : S25)⟩ : S44) [.int .i64 ((rd_T44 g4 g8).f0), .int .i64 nJ, .int .i64 nK, .slice m1 iW.length m2] (fun k_ => (g6 k_ ∨ w.heap.size ≤ k_) ∧ k_ ≠ g5 ∧ k_ ≠ gB) (fun k_ => ((fun k_ => (g6 k_ ∨ w.heap.size ≤ k_) ∧ k_ ≠ g5 ∧ k_ ≠ gB)) k_ ∧ some k_ ≠ (u5 : Value).ownBlock) rfl rfl ?aP (fun _ hk => hk) ?aF ?aO ?aB ?aS ?aL ?_
                (case aP => exact (k44_mkF _ _ (⟨(rd_T44 g4 g8).f0, (⟨nJ, nK, iW⟩ : S25)⟩ : S44) (Kd.N_reads' (Kd.N_mono (ok' := (fun k_ => ((fun k_ => (g6 k_ ∨ w.heap.size ≤ k_) ∧ k_ ≠ g5 ∧ k_ ≠ gB)) k_ ∧ some k_ ≠ (u5 : Value).ownBlock)) (n3.1) mq)).2.1 (Kd.N_F (Kd.N_mono (ok' := (fun k_ => ((fun k_ => (g6 k_ ∨ w.heap.size ≤ k_) ∧ k_ ≠ g5 ∧ k_ ≠ gB)) k_ ∧ some k_ ≠ (u5 : Value).ownBlock)) (n3.1) mq))))
                (case aB => exact bq)
                (case aF => exact (fun k_ hk => ⟨(.inr (zt HB hk)), Kd.freshB (g := g5) (o := .cells #[.int .i64 gJ, .int .i64 gN, .slice (some gF) g3.length gY] 25 (0, 0)) (kf g0).1 k_ hk, Kd.freshB (g := gB) (o := .cells #[.int .i64 ((rd_T44 g4 g8).f0), .int .i64 ((rd_T44 g4 g8).f1.f0), .int .i64 ((rd_T44 g4 g8).f1.f1), .slice h1 ((rd_T44 g4 g8).f1.f2).length h2] 44 (0, 0)) (kf gW).1 k_ hk⟩))
                (case aO => exact (nf gH).1)
                (case aS => exact (below_size bq))
                (case aL => have := qO.1; omega)
                intro vS w63 ho hb hg hat
                rw [← qQ.1] at ho; have n0_ := na gU hg hat (fun k_ => (g6 k_ ∨ w.heap.size ≤ k_) ∧ some k_ ≠ (.slice (some h8) g4.length gK : Value).ownBlock ∧ some k_ ≠ (.slice (some h8) g4.length gK : Value).ownBlock ∧ some k_ ≠ (.slice m1 iW.length m2 : Value).ownBlock ∧ k_ ≠ g5 ∧ k_ ≠ gB); have n1_ := na gI hg hat (fun k_ => (g6 k_ ∨ w.heap.size ≤ k_) ∧ some k_ ≠ (.slice h9 g1.length gG : Value).ownBlock ∧ some k_ ≠ (.slice m1 iW.length m2 : Value).ownBlock ∧ k_ ≠ g5 ∧ k_ ≠ gB); have n2_ := na h5 hg hat (fun k_ => (g6 k_ ∨ w.heap.size ≤ k_) ∧ some k_ ≠ (.slice h9 g1.length gG : Value).ownBlock ∧ some k_ ≠ (.slice m1 iW.length m2 : Value).ownBlock ∧ k_ ≠ g5 ∧ k_ ≠ gB); have n3_ := va g2 hg hat (fun k_ => (g6 k_ ∨ w.heap.size ≤ k_) ∧ some k_ ≠ (.slice h9 g1.length gG : Value).ownBlock ∧ some k_ ≠ (.slice (some h8) g4.length gK : Value).ownBlock ∧ some k_ ≠ (.slice (some h8) g4.length gK : Value).ownBlock ∧ some k_ ≠ (.slice m1 iW.length m2 : Value).ownBlock ∧ k_ ≠ g5 ∧ k_ ≠ gB); have n4_ := kg g0 hg (Kd.N_ne gH.1 g0.1 (by decide)); have n5_ := va gR hg hat (fun k_ => (g6 k_ ∨ w.heap.size ≤ k_) ∧ some k_ ≠ (.slice h9 g1.length gG : Value).ownBlock ∧ some k_ ≠ (.slice (some h8) g4.length gK : Value).ownBlock ∧ some k_ ≠ (.slice m1 iW.length m2 : Value).ownBlock ∧ k_ ≠ g5 ∧ k_ ≠ gB); have n6_ := kg gW hg (Kd.N_away gH.1 mq); have n7_ := va iC hg hat (fun k_ => (g6 k_ ∨ w.heap.size ≤ k_) ∧ some k_ ≠ (.slice h9 g1.length gG : Value).ownBlock ∧ some k_ ≠ (.slice (some h8) g4.length gK : Value).ownBlock ∧ some k_ ≠ (.slice (some h8) g4.length gK : Value).ownBlock ∧ some k_ ≠ (.slice m1 iW.length m2 : Value).ownBlock ∧ k_ ≠ g5 ∧ k_ ≠ gB); have n8_ := am (hb); have n9_ := am (ho); clear gU gI h5 g2 g0 gR gW iC HB gH n3; have gU := n0_; have gI := n1_; have h5 := n2_; have g2 := n3_; have g0 := n4_; have gR := n5_; have gW := n6_; have iC := n7_; have HB := n8_; have qT := n9_; clear n0_ n1_ n2_ n3_ n4_ n5_ n6_ n7_ n8_ n9_ ho hb hg hat
                refine hK.out _ _ ?_
                clear hK K
                refine norm_ (a' := ?_) ?_ ?_
                rotate_left
                ·
                 show Act.put _ (some 90) _ = _
                 simp only [Act.put, List.setIfInBounds_toArray, List.set_cons_zero, List.set_cons_succ, i64_w, i32_w]
                 rfl
                refine pu (i := 13) (N := some 5) #[tt,tt,tt,tt,tt,tt,tt,tt,tt,tt,tt,tt,tt,tt] HT_ ?_
                refine done_ (done_of HT_.1 (by kernel_rfl)) ?_
                try go_wp2
                go_roundg k2
                case measure => have := HK1.1; have := HK2.1; omega
                case rel => exact ⟨(qP), (wrap64 (g8 + 1)), rq, H', km, nf gU, nf gI, nf qT, nf h5, vf g2, kf g0, bw⟩
               ·
                rw [if_neg c55] at H
                exact absurd H (by simp)
              ·
               rw [if_neg c53] at H
               exact absurd H (by simp)
             ·
              rw [if_neg c52] at H
              exact absurd H (by simp)
            ·
             rw [if_neg c51] at H
             exact absurd H (by simp)
           ·
            rw [if_neg c50] at H; have c50b0 : decide (g8 < (g4.length : Int)) = false := decide_eq_false c50; clear c50
            have H' := am H
            clear H
            go_wp2
            go_loopg [5, 94] k2 (fun kq v5 v94 w' => ∃ (oN : List (S44)) (gC : Int), v94 = .int .i64 gC ∧ Aside0 (impl_ticksOf.l2 kq g4 oN g1 (g1.length : Int) gC = some r) ∧ Aside0 (kq ≤ k2) ∧ Aside0 (Kd.N k44 44 w' w.heap.size (fun k_ => (g6 k_ ∨ w.heap.size ≤ k_) ∧ some k_ ≠ (v5 : Value).ownBlock ∧ some k_ ≠ ((.slice h9 g1.length gG) : Value).ownBlock ∧ k_ ≠ g5) (.slice iD g4.length gK) g4) ∧ Aside0 (Kd.N k44 44 w' w.heap.size (fun k_ => (g6 k_ ∨ w.heap.size ≤ k_) ∧ k_ ≠ g5) v5 oN) ∧ Aside0 (Kd.N k44 44 w' w.heap.size (fun k_ => (g6 k_ ∨ w.heap.size ≤ k_) ∧ some k_ ≠ ((.slice iD g4.length gK) : Value).ownBlock ∧ some k_ ≠ (v5 : Value).ownBlock ∧ k_ ≠ g5) (.slice h9 g1.length gG) g1) ∧ Aside0 (Kd.V k25 25 w' w.heap.size (fun k_ => (g6 k_ ∨ w.heap.size ≤ k_) ∧ some k_ ≠ ((.slice iD g4.length gK) : Value).ownBlock ∧ some k_ ≠ (v5 : Value).ownBlock ∧ some k_ ≠ ((.slice h9 g1.length gG) : Value).ownBlock ∧ k_ ≠ g5) (.slice (some gF) g3.length gY) g3) ∧ Aside0 (w'.heap[g5]? = some (.cells #[.int .i64 gJ, .int .i64 gN, (.slice (some gF) g3.length gY)] 25 (0, 0))) ∧ Aside0 (Below w.heap.size w w'))
            case atStart => exact ⟨(jY), (0), rq, H', ⟨Nat.le_refl _⟩, nf gI, nf gH, nf gU, vf g2, kf g0, bw⟩
            case round =>
             clear H'; (try clear c1); (try clear c2); (try clear p2); (try clear q2); (try clear hx2); (try clear qi2); (try clear c3); (try clear c4); (try clear c5); (try clear c6); (try clear p6); (try clear c9); (try clear c9b0); (try clear c9b1); (try clear c10); (try clear c12); (try clear c14); (try clear c22); (try clear c22b0); (try clear c22b1); (try clear c23); (try clear c23b0); (try clear c23b1); (try clear c24); (try clear p24); (try clear q24); (try clear pJ); (try clear pK); (try clear c25); (try clear c25b0); (try clear c25b1); (try clear p25); (try clear q25); (try clear pL); (try clear pM); (try clear c26); (try clear p26); (try clear q26); (try clear pN); (try clear pO); (try clear c27); (try clear p27); (try clear q27); (try clear qL); (try clear qM); (try clear c28); (try clear p28); (try clear q28); (try clear u1); (try clear u2); (try clear c35); (try clear c35b0); (try clear c36); (try clear c36b0); (try clear c37); (try clear c37b0); (try clear c38); (try clear c38b0); (try clear c38b1); (try clear c40); (try clear c42); (try clear c43); (try clear c50); (try clear c50b0); (try clear c51); (try clear c51b0); (try clear c52); (try clear c52b0); (try clear c53); (try clear c53b0); (try clear c53b1); (try clear c55); (try clear c57); (try clear c61); (try clear j3); (try clear j4); (try clear j5); (try clear jB); (try clear jC); (try clear jD); (try clear kM); (try clear kN); (try clear kO); (try clear kP); (try clear mS); (try clear mT); (try clear mU); (try clear mV); (try clear j6); (try clear j7); (try clear j8); (try clear jE); (try clear jF); (try clear jG); (try clear kQ); (try clear kR); (try clear kS); (try clear kT); (try clear mW); (try clear mX); (try clear mY); (try clear mZ); (try clear hE); (try clear hF); (try clear hA); (try clear hH); (try clear hI); (try clear hB); (try clear hL); (try clear hM); (try clear hC); (try clear hN); (try clear hO); (try clear hD); (try clear kH); (try clear kI); (try clear kJ); (try clear jJ); (try clear hT); (try clear hU); (try clear hP); (try clear mM); (try clear mN); (try clear mO); (try clear kX); (try clear iA); (try clear iB); (try clear hV); (try clear p2); (try clear p24); (try clear lF); (try clear p25); (try clear lH); (try clear p26); (try clear lL); (try clear lN); (try clear p27); (try clear lV); (try clear lX); (try clear nL); (try clear nP); (try clear p6); (try clear q2); (try clear q24); (try clear lG); (try clear q25); (try clear lI); (try clear q26); (try clear lM); (try clear lO); (try clear q27); (try clear lW); (try clear lY); (try clear nM); (try clear nQ); (try clear gI); (try clear gH); (try clear gO); (try clear g2); (try clear g0); (try clear HB)
             obtain ⟨oN, gC, rfl, HA, HK3, gI, gH, gO, g2, g0, HB⟩ := hrel
             cases gk with
             | zero => exact absurd HA.1 (by simp [impl_ticksOf.l2])
             | succ k3 =>
              have H := HA.1
              clear HA
              simp only [impl_ticksOf.l2] at H
              by_cases c64 : gC < (g1.length : Int)
              ·
               rw [if_pos c64] at H; have c64b0 : decide (gC < (g1.length : Int)) = true := decide_eq_true c64; clear c64
               by_cases c65 : 0 ≤ gC
               ·
                rw [if_pos c65] at H; have c65b0 : decide (0 ≤ gC) = true := decide_eq_true c65; clear c65
                by_cases c66 : gC < (g1.length : Int)
                ·
                 rw [if_pos c66] at H; have c66b0 : decide (gC < (g1.length : Int)) = true := decide_eq_true c66; clear c66
                 have H' := am H
                 clear H; have oH : 0 ≤ (gC : Int) := od; have oI : gC < (g1.length : Int) := od
                 obtain ⟨i1, l7, l8, u3, oO, oP, oQ, n4, n5, n6⟩ := at_T44 (Kd.N_reads' gO.1).2.2 gC oH oI
                 cases u3
                 obtain ⟨uU, pY, pZ, oJ⟩ := Kd.N_get gO.1 z44 gC oH (by first | exact oI | exact od | (have e_ := (Kd.N_reads' gO.1).1; omega))
                 obtain ⟨rW, rX, rfl, l9, lA⟩ := k44_openF pZ
                 have jO := oJ 3 _ rfl; rw [add_field _ _ 3 (by omega)] at jO; replace jO := Option.some.inj (jO.symm.trans n4); injection jO with hva_ hvn_ hvc_; rw [hva_] at lA; rw [hvc_] at l9; have lB := am (show Kd.V k25 25 _ w.heap.size _ _ ((rd_T44 g1 gC).f1.f2) from Kd.V_mk l9 lA); clear hva_ hvn_ hvc_ lA l9 oJ pY; have n7 := am n6; have rY := am n5; clear n6 n5; replace oH := eq_true oH; replace oI := eq_true oI
                 go_wp2_with (first | ((with_reducible refine gate_dst (N := 11) rfl ?_); refine bx (cs := #[.int .i64 0, .int .i64 0, .int .i64 0, .slice none 0 0]) (t := 44) fun gX hg w67 hbox hb => ?_; replace gI := nb gI hg hb; replace gH := nb gH hg hb; replace gO := nb gO hg hb; replace g2 := vb g2 hg hb; replace lB := vb lB hg hb; replace n7 := cb n7 hb; have gL := am (hbox); have uV := bz HB hg; have uW := bz HB hg; replace HB := bs HB hb; have iH := nl g0 hg; have iI := ng g0 hg; replace g0 := kb g0 hb; clear hb hbox hg; have uX := iI.1; have uY := iH.1; obtain ⟨oR, oS, oT, oU, oV, oW, oX, oY⟩ := cs4 gL))
                 go_loopg [5, 100] k3 (fun kq v5 u4 w' => ∃ (jU : List (S44)) (g9 : Int), u4 = .int .i64 g9 ∧ Aside0 (impl_ticksOf.l3 kq g4 jU g1 (g1.length : Int) gC g4 (g4.length : Int) g9 ((rd_T44 g1 gC).f0) ((rd_T44 g1 gC).f1.f0) ((rd_T44 g1 gC).f1.f1) ((rd_T44 g1 gC).f1.f2) = some r) ∧ Aside0 (kq ≤ k3) ∧ Aside0 (Kd.N k44 44 w' w.heap.size (fun k_ => (g6 k_ ∨ w.heap.size ≤ k_) ∧ some k_ ≠ (v5 : Value).ownBlock ∧ some k_ ≠ ((.slice (some i1) g1.length gG) : Value).ownBlock ∧ k_ ≠ g5 ∧ k_ ≠ gX) (.slice iD g4.length gK) g4) ∧ Aside0 (Kd.N k44 44 w' w.heap.size (fun k_ => (g6 k_ ∨ w.heap.size ≤ k_) ∧ k_ ≠ g5 ∧ k_ ≠ gX) v5 jU) ∧ Aside0 (Kd.N k44 44 w' w.heap.size (fun k_ => (g6 k_ ∨ w.heap.size ≤ k_) ∧ some k_ ≠ ((.slice iD g4.length gK) : Value).ownBlock ∧ some k_ ≠ (v5 : Value).ownBlock ∧ some k_ ≠ ((.slice iD g4.length gK) : Value).ownBlock ∧ k_ ≠ g5 ∧ k_ ≠ gX) (.slice (some i1) g1.length gG) g1) ∧ Aside0 (Kd.N k44 44 w' w.heap.size (fun k_ => (g6 k_ ∨ w.heap.size ≤ k_) ∧ some k_ ≠ (v5 : Value).ownBlock ∧ some k_ ≠ ((.slice (some i1) g1.length gG) : Value).ownBlock ∧ k_ ≠ g5 ∧ k_ ≠ gX) (.slice iD g4.length gK) g4) ∧ Aside0 (Kd.V k25 25 w' w.heap.size (fun k_ => (g6 k_ ∨ w.heap.size ≤ k_) ∧ some k_ ≠ ((.slice iD g4.length gK) : Value).ownBlock ∧ some k_ ≠ (v5 : Value).ownBlock ∧ some k_ ≠ ((.slice (some i1) g1.length gG) : Value).ownBlock ∧ some k_ ≠ ((.slice iD g4.length gK) : Value).ownBlock ∧ k_ ≠ g5 ∧ k_ ≠ gX) (.slice (some gF) g3.length gY) g3) ∧ Aside0 (Kd.V k25 25 w' w.heap.size (fun k_ => (g6 k_ ∨ w.heap.size ≤ k_) ∧ some k_ ≠ ((.slice iD g4.length gK) : Value).ownBlock ∧ some k_ ≠ (v5 : Value).ownBlock ∧ some k_ ≠ ((.slice (some i1) g1.length gG) : Value).ownBlock ∧ some k_ ≠ ((.slice iD g4.length gK) : Value).ownBlock ∧ k_ ≠ g5 ∧ k_ ≠ gX) (.slice l7 ((rd_T44 g1 gC).f1.f2).length l8) ((rd_T44 g1 gC).f1.f2)) ∧ Aside0 (w'.heap[g5]? = some (.cells #[.int .i64 gJ, .int .i64 gN, (.slice (some gF) g3.length gY)] 25 (0, 0))) ∧ Aside0 (w'.heap[gX]? = some (.cells #[.int .i64 ((rd_T44 g1 gC).f0), .int .i64 ((rd_T44 g1 gC).f1.f0), .int .i64 ((rd_T44 g1 gC).f1.f1), (.slice l7 ((rd_T44 g1 gC).f1.f2).length l8)] 44 (0, 0))) ∧ Aside0 (Below w.heap.size w w'))
                 case atStart => exact ⟨(oN), (0), rq, H', ⟨Nat.le_refl _⟩, nf gI, nf gH, nf gO, nf gI, vf g2, vf lB, kf g0, kf gL, bw⟩
                 case round =>
                  clear H'; (try clear c1); (try clear c2); (try clear p2); (try clear q2); (try clear hx2); (try clear qi2); (try clear c3); (try clear c4); (try clear c5); (try clear c6); (try clear p6); (try clear c9); (try clear c9b0); (try clear c9b1); (try clear c10); (try clear c12); (try clear c14); (try clear c22); (try clear c22b0); (try clear c22b1); (try clear c23); (try clear c23b0); (try clear c23b1); (try clear c24); (try clear p24); (try clear q24); (try clear pJ); (try clear pK); (try clear c25); (try clear c25b0); (try clear c25b1); (try clear p25); (try clear q25); (try clear pL); (try clear pM); (try clear c26); (try clear p26); (try clear q26); (try clear pN); (try clear pO); (try clear c27); (try clear p27); (try clear q27); (try clear qL); (try clear qM); (try clear c28); (try clear p28); (try clear q28); (try clear u1); (try clear u2); (try clear c29); (try clear p29); (try clear q29); (try clear vT); (try clear c35); (try clear c35b0); (try clear c36); (try clear c36b0); (try clear c37); (try clear c37b0); (try clear c38); (try clear c38b0); (try clear c38b1); (try clear c40); (try clear c42); (try clear c43); (try clear c50); (try clear c50b0); (try clear c51); (try clear c51b0); (try clear c52); (try clear c52b0); (try clear c53); (try clear c53b0); (try clear c53b1); (try clear c55); (try clear c57); (try clear c61); (try clear c64); (try clear c64b0); (try clear p64); (try clear c65); (try clear c65b0); (try clear c66); (try clear c66b0); (try clear c68); (try clear j3); (try clear j4); (try clear j5); (try clear jB); (try clear jC); (try clear jD); (try clear kM); (try clear kN); (try clear kO); (try clear kP); (try clear mS); (try clear mT); (try clear mU); (try clear mV); (try clear oR); (try clear oS); (try clear oT); (try clear oU); (try clear j6); (try clear j7); (try clear j8); (try clear jE); (try clear jF); (try clear jG); (try clear kQ); (try clear kR); (try clear kS); (try clear kT); (try clear mW); (try clear mX); (try clear mY); (try clear mZ); (try clear oV); (try clear oW); (try clear oX); (try clear oY); (try clear hE); (try clear hF); (try clear hA); (try clear hH); (try clear hI); (try clear hB); (try clear hL); (try clear hM); (try clear hC); (try clear hN); (try clear hO); (try clear hD); (try clear kH); (try clear kI); (try clear kJ); (try clear jJ); (try clear hT); (try clear hU); (try clear hP); (try clear mM); (try clear mN); (try clear mO); (try clear kX); (try clear iA); (try clear iB); (try clear hV); (try clear oO); (try clear oP); (try clear oQ); (try clear n4); (try clear p2); (try clear p24); (try clear lF); (try clear p25); (try clear lH); (try clear p26); (try clear lL); (try clear lN); (try clear p27); (try clear lV); (try clear lX); (try clear p28); (try clear nL); (try clear nP); (try clear oH); (try clear p6); (try clear q2); (try clear q24); (try clear lG); (try clear q25); (try clear lI); (try clear q26); (try clear lM); (try clear lO); (try clear q27); (try clear lW); (try clear lY); (try clear q28); (try clear nM); (try clear nQ); (try clear oI); (try clear gI); (try clear gH); (try clear gO); (try clear gP); (try clear g2); (try clear gE); (try clear g0); (try clear gL); (try clear HB)
                  obtain ⟨jU, g9, rfl, HA, HK4, gI, gH, gO, gP, g2, gE, g0, gL, HB⟩ := hrel
                  cases gk with
                  | zero => exact absurd HA.1 (by simp [impl_ticksOf.l3])
                  | succ k4 =>
                   have H := HA.1
                   clear HA
                   simp only [impl_ticksOf.l3] at H
                   by_cases c70 : g9 < (g4.length : Int)
                   ·
                    rw [if_pos c70] at H; have c70b0 : decide (g9 < (g4.length : Int)) = true := decide_eq_true c70; clear c70
                    by_cases c71 : 0 ≤ g9
                    ·
                     rw [if_pos c71] at H; have c71b0 : decide (0 ≤ g9) = true := decide_eq_true c71; clear c71
                     by_cases c72 : g9 < (g4.length : Int)
                     ·
                      rw [if_pos c72] at H; have c72b0 : decide (g9 < (g4.length : Int)) = true := decide_eq_true c72; clear c72
                      by_cases c73 : ((rd_T44 g1 gC).f0) = 0
                      ·
                       rw [if_pos c73] at H; have c73b0 : (((rd_T44 g1 gC).f0) == 0) = true := beq_iff_eq.mpr c73; have c73b1 : (((rd_T44 g1 gC).f0) != 0) = false := bne_eq_false_iff_eq.mpr c73; clear c73
                       have H' := am H
                       clear H; have iQ : 0 ≤ (g9 : Int) := od; have iR : g9 < (g4.length : Int) := od
                       obtain ⟨i2, iT, iU, oK, n8, n9, nA, iS, hW, hX⟩ := at_T44 (Kd.N_reads' gP.1).2.2 g9 iQ iR
                       cases oK
                       obtain ⟨p3, jV, jW, iE⟩ := Kd.N_get gP.1 z44 g9 iQ (by first | exact iR | exact od | (have e_ := (Kd.N_reads' gP.1).1; omega))
                       obtain ⟨nB, nC, rfl, h6, h7⟩ := k44_openF jW
                       have gS := iE 3 _ rfl; rw [add_field _ _ 3 (by omega)] at gS; replace gS := Option.some.inj (gS.symm.trans iS); injection gS with hva_ hvn_ hvc_; rw [hva_] at h7; rw [hvc_] at h6; have gM := am (show Kd.V k25 25 _ w.heap.size _ _ ((rd_T44 g4 g9).f1.f2) from Kd.V_mk h6 h7); clear hva_ hvn_ hvc_ h7 h6 iE jV; have hY := am hX; have nD := am hW; clear hX hW; replace iQ := eq_true iQ; replace iR := eq_true iR
                       go_wp2_with (first | ((with_reducible refine gate_dst (N := 13) rfl ?_); refine bx (cs := #[.int .i64 0, .int .i64 0, .int .i64 0, .slice none 0 0]) (t := 44) fun h4 hg w74 hbox hb => ?_; replace gI := nb gI hg hb; replace gH := nb gH hg hb; replace gO := nb gO hg hb; replace gP := nb gP hg hb; replace g2 := vb g2 hg hb; replace gE := vb gE hg hb; replace gM := vb gM hg hb; replace hY := cb hY hb; have hZ := am (hbox); have p4 := bz HB hg; have p5 := bz HB hg; replace HB := bs HB hb; have i3 := nl g0 hg; have i4 := ng g0 hg; replace g0 := kb g0 hb; have i5 := nl gL hg; have i6 := ng gL hg; replace gL := kb gL hb; clear hb hbox hg; have uZ := i4.1; have v0 := i3.1; have v2 := i6.1; have v3 := i5.1; obtain ⟨rZ, s0, s1, s2, s3, s4, s5, s6⟩ := cs4 hZ; have v4 := iI.1; have v6 := iH.1; obtain ⟨s7, s8, s9, sA, sB, sC, sD, sE⟩ := cs4 gL))
                       go_roundg k4
                       case measure => have := HK1.1; have := HK2.1; have := HK3.1; have := HK4.1; omega
                       case rel => exact ⟨(jU), (wrap64 (g9 + 1)), rq, H', km, nf gI, nf gH, nf gO, nf gP, vf g2, vf gE, kf g0, kf gL, bw⟩
                      ·
                       rw [if_neg c73] at H; have c73b0 : (((rd_T44 g1 gC).f0) == 0) = false := beq_eq_false_iff_ne.mpr c73; have c73b1 : (((rd_T44 g1 gC).f0) != 0) = true := bne_iff_ne.mpr c73
                       by_cases c80 : ((rd_T44 g1 gC).f0) = (wrap64 (-((rd_T44 g4 g9).f0)))
                       ·
                        rw [if_pos c80] at H; have c80b0 : (((rd_T44 g1 gC).f0) == (wrap64 (-((rd_T44 g4 g9).f0)))) = true := beq_iff_eq.mpr c80; have c80b1 : (((rd_T44 g1 gC).f0) != (wrap64 (-((rd_T44 g4 g9).f0)))) = false := bne_eq_false_iff_eq.mpr c80; clear c80
                        replace H := Option.bind_eq_some_iff.mp H
                        obtain ⟨⟨nR, nS, iX⟩, qU, H⟩ := H
                        replace H : (if jU.length < 2932031007402 then (impl_ticksOf.l3 k4 g4 (jU ++ [(⟨0, (⟨nR, nS, iX⟩ : S25)⟩ : S44)]) g1 (g1.length : Int) gC g4 (g4.length : Int) (wrap64 (g9 + 1)) ((rd_T44 g1 gC).f0) ((rd_T44 g1 gC).f1.f0) ((rd_T44 g1 gC).f1.f1) ((rd_T44 g1 gC).f1.f2)) else (none)) = some r := H
                        have A81 := am qU
                        clear qU
                        by_cases c82 : jU.length < 2932031007402
                        ·
                         rw [if_pos c82] at H
                         have qV := am c82
                         clear c82
                         obtain ⟨qW, lR⟩ : ∃ y_ : List (S44), y_ = (jU ++ [(⟨0, (⟨nR, nS, iX⟩ : S25)⟩ : S44)]) := ⟨_, rfl⟩
                         replace H : (impl_ticksOf.l3 k4 g4 qW g1 (g1.length : Int) gC g4 (g4.length : Int) (wrap64 (g9 + 1)) ((rd_T44 g1 gC).f0) ((rd_T44 g1 gC).f1.f0) ((rd_T44 g1 gC).f1.f1) ((rd_T44 g1 gC).f1.f2)) = some r := by first | (rw [lR]; with_reducible exact H) | (have H2_ := (Option.bind_some _ _).symm.trans H; rw [lR]; with_reducible exact H2_) | (have H2_ := (Option.bind_some _ _).symm.trans H; with_reducible exact H2_) | with_reducible exact H | (rw [lR]; exact H) | exact H
                         have qX := am lR
                         clear lR
                         have H' := am H
                         clear H; have iQ : 0 ≤ (g9 : Int) := od; have iR : g9 < (g4.length : Int) := od
                         obtain ⟨i2, iT, iU, oK, n8, n9, nA, iS, hW, hX⟩ := at_T44 (Kd.N_reads' gP.1).2.2 g9 iQ iR
                         cases oK
                         obtain ⟨p3, jV, jW, iE⟩ := Kd.N_get gP.1 z44 g9 iQ (by first | exact iR | exact od | (have e_ := (Kd.N_reads' gP.1).1; omega))
                         obtain ⟨nB, nC, rfl, h6, h7⟩ := k44_openF jW
                         have gS := iE 3 _ rfl; rw [add_field _ _ 3 (by omega)] at gS; replace gS := Option.some.inj (gS.symm.trans iS); injection gS with hva_ hvn_ hvc_; rw [hva_] at h7; rw [hvc_] at h6; have gM := am (show Kd.V k25 25 _ w.heap.size _ _ ((rd_T44 g4 g9).f1.f2) from Kd.V_mk h6 h7); clear hva_ hvn_ hvc_ h7 h6 iE jV; have hY := am hX; have nD := am hW; clear hX hW; replace iQ := eq_true iQ; replace iR := eq_true iR
                         go_wp2_with (first | ((with_reducible refine gate_dst (N := 13) rfl ?_); refine bx (cs := #[.int .i64 0, .int .i64 0, .int .i64 0, .slice none 0 0]) (t := 44) fun h4 hg w83 hbox hb => ?_; replace gI := nb gI hg hb; replace gH := nb gH hg hb; replace gO := nb gO hg hb; replace gP := nb gP hg hb; replace g2 := vb g2 hg hb; replace gE := vb gE hg hb; replace gM := vb gM hg hb; replace hY := cb hY hb; have hZ := am (hbox); have p4 := bz HB hg; have p5 := bz HB hg; replace HB := bs HB hb; have i3 := nl g0 hg; have i4 := ng g0 hg; replace g0 := kb g0 hb; have i5 := nl gL hg; have i6 := ng gL hg; replace gL := kb gL hb; clear hb hbox hg; have v7 := i4.1; have v8 := i3.1; have v9 := i6.1; have vA := i5.1; obtain ⟨sF, sG, sH, sI, sJ, sK, sL, sM⟩ := cs4 hZ) | ((with_reducible refine gate_store (t := 44) (p := 13) rfl ?_); refine se ((((w83.setCell ⟨h4, 0, none⟩ (.int .i64 ((rd_T44 g4 g9).f0))).setCell ⟨h4, 1, none⟩ (.int .i64 ((rd_T44 g4 g9).f1.f0))).setCell ⟨h4, 2, none⟩ (.int .i64 ((rd_T44 g4 g9).f1.f1))).setCell ⟨h4, 3, none⟩ (.slice iT ((rd_T44 g4 g9).f1.f2).length iU)) fun w87 hw => ?_; replace gI := nh gI hw; replace gH := nh gH hw; replace gO := nh gO hw; replace gP := nh gP hw; replace g2 := vh g2 hw; replace gE := vh gE hw; replace gM := vh gM hw; replace g0 := kh g0 hw; replace gL := kh gL hw; replace hZ := kp hZ hw #[.int .i64 ((rd_T44 g4 g9).f0), .int .i64 ((rd_T44 g4 g9).f1.f0), .int .i64 ((rd_T44 g4 g9).f1.f1), .slice iT ((rd_T44 g4 g9).f1.f2).length iU]; replace HB := bh HB hw; clear hw; have vB := iI.1; have vC := iH.1; obtain ⟨sN, sO, sP, sQ, sR, sS, sT, sU⟩ := cs4 gL; obtain ⟨sV, sW, sX, sY, sZ, t0, t1, t2⟩ := cs4 hZ) | ((with_reducible refine gate_callee (f := 61) rfl ?_); refine gl (some 120) Try.func61 #[.agg #[.int .i64 ((rd_T44 g1 gC).f1.f0), .int .i64 ((rd_T44 g1 gC).f1.f1), .slice l7 ((rd_T44 g1 gC).f1.f2).length l8], .agg #[.int .i64 ((rd_T44 g4 g9).f1.f0), .int .i64 ((rd_T44 g4 g9).f1.f1), .slice iT ((rd_T44 g4 g9).f1.f2).length iU]] ?_; (with_reducible refine (impl_beside.calls ((rd_T44 g1 gC).f1.f0) ((rd_T44 g1 gC).f1.f1) (fun k_ => ((g6 k_ ∨ w.heap.size ≤ k_) ∧ (some k_ ≠ (.slice (some i2) g4.length gK : Value).ownBlock ∧ (some k_ ≠ (u5 : Value).ownBlock ∧ (some k_ ≠ (.slice (some i1) g1.length gG : Value).ownBlock ∧ (some k_ ≠ (.slice (some i2) g4.length gK : Value).ownBlock ∧ (k_ ≠ g5 ∧ (k_ ≠ gX ∧ k_ ≠ h4)))))))) _ _ ((rd_T44 g1 gC).f1.f2) ((rd_T44 g4 g9).f1.f0) ((rd_T44 g4 g9).f1.f1) (fun k_ => ((g6 k_ ∨ w.heap.size ≤ k_) ∧ (some k_ ≠ (u5 : Value).ownBlock ∧ (some k_ ≠ (.slice (some i1) g1.length gG : Value).ownBlock ∧ (some k_ ≠ (.slice (some i2) g4.length gK : Value).ownBlock ∧ (k_ ≠ g5 ∧ (k_ ≠ gX ∧ k_ ≠ h4))))))) _ _ ((rd_T44 g4 g9).f1.f2) nR nS iX _ ?side1 ?side2 A81.1).mono ?_); (case side1 => first | exact gE.1 | exact (vg gE).1 | exact (nf gE).1); (case side2 => first | exact gM.1 | exact (vg gM).1 | exact (nf gM).1); rintro e w91 ⟨vU, rfl, ho0, hb⟩; refine ⟨_, rfl, ?_⟩; replace gI := ne gI hb; replace g2 := ve g2 hb; replace gE := ve gE hb; replace gM := ve gM hb; have nE := nm HB ho0 (fun k_ => (g6 k_ ∨ w.heap.size ≤ k_) ∧ some k_ ≠ (u5 : Value).ownBlock ∧ some k_ ≠ (.slice (some i1) g1.length gG : Value).ownBlock ∧ some k_ ≠ (.slice (some i2) g4.length gK : Value).ownBlock ∧ k_ ≠ g5 ∧ k_ ≠ gX ∧ k_ ≠ h4) (fun k_ hk_ => ⟨Or.elim hk_ (fun hs_ => Or.elim hs_ (fun hs_ => hs_.1) (fun hs_ => hs_.1)) (fun hn_ => (.inr (zt HB hn_))), Or.elim hk_ (fun hs_ => Or.elim hs_ (fun hs_ => hs_.2.2.1) (fun hs_ => hs_.2.1)) (fun hn_ => (fr gH k_ hn_)), Or.elim hk_ (fun hs_ => Or.elim hs_ (fun hs_ => hs_.2.2.2.1) (fun hs_ => hs_.2.2.1)) (fun hn_ => (fr gO k_ hn_)), Or.elim hk_ (fun hs_ => Or.elim hs_ (fun hs_ => hs_.2.2.2.2.1) (fun hs_ => hs_.2.2.2.1)) (fun hn_ => (fr gP k_ hn_)), Or.elim hk_ (fun hs_ => Or.elim hs_ (fun hs_ => hs_.2.2.2.2.2.1) (fun hs_ => hs_.2.2.2.2.1)) (fun hn_ => (fb g0 k_ hn_)), Or.elim hk_ (fun hs_ => Or.elim hs_ (fun hs_ => hs_.2.2.2.2.2.2.1) (fun hs_ => hs_.2.2.2.2.2.1)) (fun hn_ => (fb gL k_ hn_)), Or.elim hk_ (fun hs_ => Or.elim hs_ (fun hs_ => hs_.2.2.2.2.2.2.2) (fun hs_ => hs_.2.2.2.2.2.2)) (fun hn_ => (fb hZ k_ hn_))⟩); replace gH := ne gH hb; replace gO := ne gO hb; replace gP := ne gP hb; replace g0 := kb g0 hb; replace gL := kb gL hb; replace hZ := kb hZ hb; replace HB := bs HB hb; clear hb ho0; obtain ⟨m3, m4, rfl⟩ := Kd.N_slice nE.1) | ((with_reducible refine gate_builtin (b := .append) (xs := #[.tmp 115, .tmp 122]) rfl ?_); at_builtin; refine Kd.N_append k44 (w0 := w) w.heap.size rfl (.tmp 115) (.tmp 122) 28 44 (.agg #[(.int .i64 0), (.int .i64 0), (.int .i64 0), (.slice none 0 0)]) 48 rfl Try.underlying28 info44 rfl (by decide) (by omega) u5 jU (⟨0, (⟨nR, nS, iX⟩ : S25)⟩ : S44) [.int .i64 0, .int .i64 nR, .int .i64 nS, .slice m3 iX.length m4] (fun k_ => (g6 k_ ∨ w.heap.size ≤ k_) ∧ k_ ≠ g5 ∧ k_ ≠ gX ∧ k_ ≠ h4) (fun k_ => ((fun k_ => (g6 k_ ∨ w.heap.size ≤ k_) ∧ k_ ≠ g5 ∧ k_ ≠ gX ∧ k_ ≠ h4)) k_ ∧ some k_ ≠ (u5 : Value).ownBlock) rfl rfl ?aP (fun _ hk => hk) ?aF ?aO ?aB ?aS ?aL ?_; (case aP => exact (k44_mkF _ _ (⟨0, (⟨nR, nS, iX⟩ : S25)⟩ : S44) (Kd.N_reads' (Kd.N_mono (ok' := (fun k_ => ((fun k_ => (g6 k_ ∨ w.heap.size ≤ k_) ∧ k_ ≠ g5 ∧ k_ ≠ gX ∧ k_ ≠ h4)) k_ ∧ some k_ ≠ (u5 : Value).ownBlock)) (nE.1) mq)).2.1 (Kd.N_F (Kd.N_mono (ok' := (fun k_ => ((fun k_ => (g6 k_ ∨ w.heap.size ≤ k_) ∧ k_ ≠ g5 ∧ k_ ≠ gX ∧ k_ ≠ h4)) k_ ∧ some k_ ≠ (u5 : Value).ownBlock)) (nE.1) mq)))); (case aB => exact bq); (case aF => exact (fun k_ hk => ⟨(.inr (zt HB hk)), Kd.freshB (g := g5) (o := .cells #[.int .i64 gJ, .int .i64 gN, .slice (some gF) g3.length gY] 25 (0, 0)) (kf g0).1 k_ hk, Kd.freshB (g := gX) (o := .cells #[.int .i64 ((rd_T44 g1 gC).f0), .int .i64 ((rd_T44 g1 gC).f1.f0), .int .i64 ((rd_T44 g1 gC).f1.f1), .slice l7 ((rd_T44 g1 gC).f1.f2).length l8] 44 (0, 0)) (kf gL).1 k_ hk, Kd.freshB (g := h4) (o := .cells #[.int .i64 ((rd_T44 g4 g9).f0), .int .i64 ((rd_T44 g4 g9).f1.f0), .int .i64 ((rd_T44 g4 g9).f1.f1), .slice iT ((rd_T44 g4 g9).f1.f2).length iU] 44 (0, 0)) (kf hZ).1 k_ hk⟩)); (case aO => exact (nf gH).1); (case aS => exact (below_size bq)); (case aL => have := qV.1; omega); intro vV w93 ho hb hg hat; rw [← qX.1] at ho; replace gI := na gI hg hat (fun k_ => (g6 k_ ∨ w.heap.size ≤ k_) ∧ some k_ ≠ (.slice (some i1) g1.length gG : Value).ownBlock ∧ some k_ ≠ (.slice m3 iX.length m4 : Value).ownBlock ∧ k_ ≠ g5 ∧ k_ ≠ gX ∧ k_ ≠ h4); replace gO := na gO hg hat (fun k_ => (g6 k_ ∨ w.heap.size ≤ k_) ∧ some k_ ≠ (.slice (some i2) g4.length gK : Value).ownBlock ∧ some k_ ≠ (.slice (some i2) g4.length gK : Value).ownBlock ∧ some k_ ≠ (.slice m3 iX.length m4 : Value).ownBlock ∧ k_ ≠ g5 ∧ k_ ≠ gX ∧ k_ ≠ h4); replace gP := na gP hg hat (fun k_ => (g6 k_ ∨ w.heap.size ≤ k_) ∧ some k_ ≠ (.slice (some i1) g1.length gG : Value).ownBlock ∧ some k_ ≠ (.slice m3 iX.length m4 : Value).ownBlock ∧ k_ ≠ g5 ∧ k_ ≠ gX ∧ k_ ≠ h4); replace g2 := va g2 hg hat (fun k_ => (g6 k_ ∨ w.heap.size ≤ k_) ∧ some k_ ≠ (.slice (some i2) g4.length gK : Value).ownBlock ∧ some k_ ≠ (.slice (some i1) g1.length gG : Value).ownBlock ∧ some k_ ≠ (.slice (some i2) g4.length gK : Value).ownBlock ∧ some k_ ≠ (.slice m3 iX.length m4 : Value).ownBlock ∧ k_ ≠ g5 ∧ k_ ≠ gX ∧ k_ ≠ h4); replace gE := va gE hg hat (fun k_ => (g6 k_ ∨ w.heap.size ≤ k_) ∧ some k_ ≠ (.slice (some i2) g4.length gK : Value).ownBlock ∧ some k_ ≠ (.slice (some i1) g1.length gG : Value).ownBlock ∧ some k_ ≠ (.slice (some i2) g4.length gK : Value).ownBlock ∧ some k_ ≠ (.slice m3 iX.length m4 : Value).ownBlock ∧ k_ ≠ g5 ∧ k_ ≠ gX ∧ k_ ≠ h4); replace g0 := kg g0 hg (Kd.N_ne gH.1 g0.1 (by decide)); replace gL := kg gL hg (Kd.N_away gH.1 mq); replace gM := va gM hg hat (fun k_ => (g6 k_ ∨ w.heap.size ≤ k_) ∧ some k_ ≠ (.slice (some i1) g1.length gG : Value).ownBlock ∧ some k_ ≠ (.slice (some i2) g4.length gK : Value).ownBlock ∧ some k_ ≠ (.slice m3 iX.length m4 : Value).ownBlock ∧ k_ ≠ g5 ∧ k_ ≠ gX ∧ k_ ≠ h4); replace hZ := kg hZ hg (Kd.N_away gH.1 mq); replace HB := am (hb); have qY := am (ho); clear gH nE ho hb hg hat))
                         go_roundg k4
                         case measure => have := HK1.1; have := HK2.1; have := HK3.1; have := HK4.1; omega
                         case rel => exact ⟨(qW), (wrap64 (g9 + 1)), rq, H', km, nf gI, nf qY, nf gO, nf gP, vf g2, vf gE, kf g0, kf gL, bw⟩
                        ·
                         rw [if_neg c82] at H
                         exact absurd H (by simp)
                       ·
                        rw [if_neg c80] at H; have c80b0 : (((rd_T44 g1 gC).f0) == (wrap64 (-((rd_T44 g4 g9).f0)))) = false := beq_eq_false_iff_ne.mpr c80; have c80b1 : (((rd_T44 g1 gC).f0) != (wrap64 (-((rd_T44 g4 g9).f0)))) = true := bne_iff_ne.mpr c80
                        have H' := am H
                        clear H; have iQ : 0 ≤ (g9 : Int) := od; have iR : g9 < (g4.length : Int) := od
                        obtain ⟨i2, iT, iU, oK, n8, n9, nA, iS, hW, hX⟩ := at_T44 (Kd.N_reads' gP.1).2.2 g9 iQ iR
                        cases oK
                        obtain ⟨p3, jV, jW, iE⟩ := Kd.N_get gP.1 z44 g9 iQ (by first | exact iR | exact od | (have e_ := (Kd.N_reads' gP.1).1; omega))
                        obtain ⟨nB, nC, rfl, h6, h7⟩ := k44_openF jW
                        have gS := iE 3 _ rfl; rw [add_field _ _ 3 (by omega)] at gS; replace gS := Option.some.inj (gS.symm.trans iS); injection gS with hva_ hvn_ hvc_; rw [hva_] at h7; rw [hvc_] at h6; have gM := am (show Kd.V k25 25 _ w.heap.size _ _ ((rd_T44 g4 g9).f1.f2) from Kd.V_mk h6 h7); clear hva_ hvn_ hvc_ h7 h6 iE jV; have hY := am hX; have nD := am hW; clear hX hW; replace iQ := eq_true iQ; replace iR := eq_true iR
                        go_wp2_with (first | ((with_reducible refine gate_dst (N := 13) rfl ?_); refine bx (cs := #[.int .i64 0, .int .i64 0, .int .i64 0, .slice none 0 0]) (t := 44) fun h4 hg w94 hbox hb => ?_; replace gI := nb gI hg hb; replace gH := nb gH hg hb; replace gO := nb gO hg hb; replace gP := nb gP hg hb; replace g2 := vb g2 hg hb; replace gE := vb gE hg hb; replace gM := vb gM hg hb; replace hY := cb hY hb; have hZ := am (hbox); have p4 := bz HB hg; have p5 := bz HB hg; replace HB := bs HB hb; have i3 := nl g0 hg; have i4 := ng g0 hg; replace g0 := kb g0 hb; have i5 := nl gL hg; have i6 := ng gL hg; replace gL := kb gL hb; clear hb hbox hg; have vD := i4.1; have vE := i3.1; have vF := i6.1; have vG := i5.1; obtain ⟨t3, t4, t5, t6, t7, t8, t9, tA⟩ := cs4 hZ; have vH := iI.1; have vI := iH.1; obtain ⟨tB, tC, tD, tE, tF, tG, tH, tI⟩ := cs4 gL))
                        go_roundg k4
                        case measure => have := HK1.1; have := HK2.1; have := HK3.1; have := HK4.1; omega
                        case rel => exact ⟨(jU), (wrap64 (g9 + 1)), rq, H', km, nf gI, nf gH, nf gO, nf gP, vf g2, vf gE, kf g0, kf gL, bw⟩
                     ·
                      rw [if_neg c72] at H
                      exact absurd H (by simp)
                    ·
                     rw [if_neg c71] at H
                     exact absurd H (by simp)
                   ·
                    rw [if_neg c70] at H; have c70b0 : decide (g9 < (g4.length : Int)) = false := decide_eq_false c70; clear c70
                    have H' := am H
                    clear H
                    go_wp2
                    go_roundg k4
                    case measure => have := HK1.1; have := HK2.1; have := HK3.1; have := HK4.1; omega
                    case rel => exact ⟨(jU), (wrap64 (gC + 1)), rq, H', km, nf gI, nf gH, nf gO, vf g2, kf g0, bw⟩
                ·
                 rw [if_neg c66] at H
                 exact absurd H (by simp)
               ·
                rw [if_neg c65] at H
                exact absurd H (by simp)
              ·
               rw [if_neg c64] at H; have c64b0 : decide (gC < (g1.length : Int)) = false := decide_eq_false c64; clear c64
               obtain rfl := Option.some.inj H
               go_wp2
               go_ret
               exact ⟨_, by first | rfl | (simp [errW_none, errW_some] <;> rfl) | (simp [*, errW_none, errW_some] <;> rfl), by (with_reducible repeat (first | apply Kd.N_alloc | apply Kd.N_drewN | apply Kd.N_drew)); exact Kd.N_mono gH.1 mq, by repeat (first | (with_reducible first | exact HB.1 | apply below_alloc | apply pw_below_drewN | apply below_drew1 | refine below_set ?_ jQ.1) | exact HB.1)⟩
     ·
      rw [if_neg c25] at H
      exact absurd H (by simp)
    ·
     rw [if_neg c23] at H
     exact absurd H (by simp)
   ·
    rw [if_neg c22] at H; have c22b0 : (gJ == 4) = false := beq_eq_false_iff_ne.mpr c22; have c22b1 : (gJ != 4) = true := bne_iff_ne.mpr c22
    obtain rfl := Option.some.inj H
    go_enter Try.func43, Try.ntmps43
    go_wp2_with (first | ((with_reducible refine gate_dst (N := 1) rfl ?_); refine bx (cs := #[.int .i64 gJ, .int .i64 gN, .slice lC g3.length gY]) (t := 25) fun g5 hg vW hbox hb => ?_; replace gD := vb gD hg hb; have g0 := am (hbox); have nT := bz HB hg; have jQ := bz HB hg; replace HB := bs HB hb; clear hb hbox hg; obtain ⟨qZ, r0, r1, r2, r3, r4⟩ := cs3 g0))
    go_ret
    exact ⟨_, by first | rfl | (simp [errW_none, errW_some] <;> rfl) | (simp [*, errW_none, errW_some] <;> rfl), by first | exact Kd.R_nil _ _ _ _ _ | exact Kd.N_nil _ _ _ _ _ | exact Kd.V_nil _ _ _ _ _ | exact Kd.Q_nil _ _ _ _ _ | exact Kd.S_nil _ _ _ _ _, by repeat (first | (with_reducible first | exact HB.1 | apply below_alloc | apply pw_below_drewN | apply below_drew1 | refine below_set ?_ jQ.1) | exact HB.1)⟩
end Go.Proofs.Ytfnmjecofgeboaa.PAll
