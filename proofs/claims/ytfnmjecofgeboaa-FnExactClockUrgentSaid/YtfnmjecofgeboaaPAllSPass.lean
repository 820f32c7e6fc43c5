-- Laid by a program of this session out of the translation's print
import Derived.Test.YtfnmjecofgeboaaPAll0
import Derived.Test.YtfnmjecofgeboaaPAllAb
import Derived.Test.YtfnmjecofgeboaaPAllSOk
import Derived.Test.YtfnmjecofgeboaaPAllSSteps
import Derived.Test.YtfnmjecofgeboaaPAllSpecl17Pass
namespace Go.Proofs.Ytfnmjecofgeboaa.PAll
open Go.RowKit Go.Proofs.YtfnmjecofgeboaaW.PrintWords Go.Proofs.YtfnmjecofgeboaaW.PrintLast Go.Proofs.YtfnmjecofgeboaaW.PrintMore
attribute [local go_sem] max2_int min2_int max_two min_two max_three min_three max_four min_four   -- for this text's walks alone
set_option linter.unusedVariables false
set_option linter.unusedSimpArgs false

/-! ### spec_ClockLater: function 35 -/
mutual
def spec_ClockLater.j0 : Nat → Int → Bool → Int → Int → List (S25) → Option (Int × Int × (List (S25)) × Bool)
 | 0, _, _, _, _, _ => none
 | k + 1, x1, x17, x638000, x638001, x638002 => if x17 = true then (some (0, 0, ([] : List (S25)), false)) else ((spec_l17Copy.f k x638000 x638001 x638002).bind fun bt641 => (spec_ClockLater.l0 k x1 0 bt641.1 bt641.2.1 bt641.2.2))
def spec_ClockLater.l0 : Nat → Int → Int → Int → Int → List (S25) → Option (Int × Int × (List (S25)) × Bool)
 | 0, _, _, _, _, _ => none
 | k + 1, x1, x7, x647000, x647001, x647002 => if x7 < x1 then ((spec_l17Pass.f k x647000 x647001 x647002).bind fun bt647 => (if bt647.2.2.2 = true then (spec_ClockLater.l0 k x1 (wrap64 (x7 + 1)) bt647.1 bt647.2.1 bt647.2.2.1) else (some (0, 0, ([] : List (S25)), false)))) else (some (x647000, x647001, x647002, true))
end
def spec_ClockLater.f (k : Nat) (a0_0 : Int) (a0_1 : Int) (l0_2 : List (S25)) (a1 : Int) : Option (Int × Int × (List (S25)) × Bool) := (spec_ClockOk.f k a0_0 a0_1 l0_2).bind fun t639 => (if t639 = true then ((spec_l6In.f a1 0 100).bind fun t640 => (spec_ClockLater.j0 k a1 (!t640) a0_0 a0_1 l0_2)) else (spec_ClockLater.j0 k a1 true a0_0 a0_1 l0_2))
theorem spec_ClockLater.mono_l : ∀ k, (∀ y0 y1 y2 y3 y4, LeO (spec_ClockLater.j0 k y0 y1 y2 y3 y4) (spec_ClockLater.j0 (k + 1) y0 y1 y2 y3 y4)) ∧ (∀ y0 y1 y2 y3 y4, LeO (spec_ClockLater.l0 k y0 y1 y2 y3 y4) (spec_ClockLater.l0 (k + 1) y0 y1 y2 y3 y4))
 | 0 => ⟨fun _ _ _ _ _ r h => by simp [spec_ClockLater.j0] at h, fun _ _ _ _ _ r h => by simp [spec_ClockLater.l0] at h⟩
 | k + 1 => by
  obtain ⟨ih0, ih1⟩ := spec_ClockLater.mono_l k
  refine ⟨?_, ?_⟩
  ·
   intro y0 y1 y2 y3 y4
   unfold spec_ClockLater.j0
   repeat' first
   | (with_reducible exact ih0 _ _ _ _ _)
   | (with_reducible exact ih1 _ _ _ _ _)
   | (with_reducible exact spec_ClockOk.mono _ _ _ _)
   | (with_reducible exact spec_l17Copy.mono _ _ _ _)
   | (with_reducible exact spec_l17Pass.mono _ _ _ _)
   | (with_reducible exact LeO.refl _)
   | (with_reducible exact LeO.none _)
   | (with_reducible refine LeO.ite ?_ ?_)
   | (with_reducible refine LeO.bind ?_ (fun _ => ?_))
   | exact ih0 _ _ _ _ _
   | exact ih1 _ _ _ _ _
   | exact spec_ClockOk.mono _ _ _ _
   | exact spec_l17Copy.mono _ _ _ _
   | exact spec_l17Pass.mono _ _ _ _
   | exact LeO.none _
   | refine LeO.ite ?_ ?_
   | refine LeO.bind ?_ (fun _ => ?_)
  ·
   intro y0 y1 y2 y3 y4
   unfold spec_ClockLater.l0
   repeat' first
   | (with_reducible exact ih0 _ _ _ _ _)
   | (with_reducible exact ih1 _ _ _ _ _)
   | (with_reducible exact spec_ClockOk.mono _ _ _ _)
   | (with_reducible exact spec_l17Copy.mono _ _ _ _)
   | (with_reducible exact spec_l17Pass.mono _ _ _ _)
   | (with_reducible exact LeO.refl _)
   | (with_reducible exact LeO.none _)
   | (with_reducible refine LeO.ite ?_ ?_)
   | (with_reducible refine LeO.bind ?_ (fun _ => ?_))
   | exact ih0 _ _ _ _ _
   | exact ih1 _ _ _ _ _
   | exact spec_ClockOk.mono _ _ _ _
   | exact spec_l17Copy.mono _ _ _ _
   | exact spec_l17Pass.mono _ _ _ _
   | exact LeO.none _
   | refine LeO.ite ?_ ?_
   | refine LeO.bind ?_ (fun _ => ?_)
theorem spec_ClockLater.mono : ∀ a0 a1 a2 a3 k, LeO (spec_ClockLater.f k a0 a1 a2 a3) (spec_ClockLater.f (k + 1) a0 a1 a2 a3) := by
 intro a0 a1 a2 a3 k
 obtain ⟨ih0, ih1⟩ := spec_ClockLater.mono_l k
 unfold spec_ClockLater.f
 repeat' first
   | (with_reducible exact ih0 _ _ _ _ _)
   | (with_reducible exact ih1 _ _ _ _ _)
   | (with_reducible exact spec_ClockOk.mono _ _ _ _)
   | (with_reducible exact spec_l17Copy.mono _ _ _ _)
   | (with_reducible exact spec_l17Pass.mono _ _ _ _)
   | (with_reducible exact LeO.refl _)
   | (with_reducible exact LeO.none _)
   | (with_reducible refine LeO.ite ?_ ?_)
   | (with_reducible refine LeO.bind ?_ (fun _ => ?_))
   | exact ih0 _ _ _ _ _
   | exact ih1 _ _ _ _ _
   | exact spec_ClockOk.mono _ _ _ _
   | exact spec_l17Copy.mono _ _ _ _
   | exact spec_l17Pass.mono _ _ _ _
   | exact LeO.none _
   | refine LeO.ite ?_ ?_
   | refine LeO.bind ?_ (fun _ => ?_)
set_option maxHeartbeats 8000000 in
set_option maxRecDepth 100000 in
theorem spec_ClockLater.calls (k : Nat) (gA : Int) (gB : Int) (gU : Option Addr) (gV : Nat) (g7 : List (S25)) (a1 : Int) (r1 : Int) (r2 : Int) (r3 : List (S25)) (r4 : Bool) (w : World) (i4 : Kd.C k25 w gU g7.length g7) (i5 : g7.length ≤ gV) (h : spec_ClockLater.f k gA gB g7 a1 = some (r1, r2, r3, r4)) :
  Calls Try.prog 35 #[.agg #[.int .i64 gA, .int .i64 gB, .slice gU g7.length gV], .int .i64 a1] w fun e w' => ∃ v2_ : Value, e = .returned (.tuple #[.agg #[.int .i64 r1, .int .i64 r2, v2_], .bool r4]) ∧ Kd.N k25 25 w' w.heap.size (fun k_ => (w.heap.size ≤ k_)) v2_ r3 ∧ Below w.heap.size w w' := by
 have lI := Try.underlying25
 have hC := am i4; have hD := am i5; clear i4 i5; have HB := am (Below.refl w.heap.size w)
 have H : ((spec_ClockOk.f k gA gB g7).bind fun hK => (if hK = true then ((spec_l6In.f a1 0 100).bind fun gR => (spec_ClockLater.j0 k a1 (!gR) gA gB g7)) else (spec_ClockLater.j0 k a1 true gA gB g7))) = some (r1, r2, r3, r4) := h
 clear h; have HC3 := am H; clear H
 go_enter Try.func35, Try.ntmps35
 go_upto_region 1 with (first | ((with_reducible refine gate_dst (N := 2) rfl ?_); refine bx (cs := #[.int .i64 gA, .int .i64 gB, .slice gU g7.length gV]) (t := 25) fun gQ hg w4 hbox hb => ?_; have g1 := am (hbox); have k9 := bz HB hg; have hE := bz HB hg; replace HB := bs HB hb; clear hb hbox hg) | ((with_reducible refine gate_dst (N := 4) rfl ?_); refine bx (cs := #[.int .i64 0, .int .i64 0, .slice none 0 0]) (t := 25) fun gC hg w5 hbox hb => ?_; have g2 := am (hbox); have kA := bz HB hg; have hF := bz HB hg; replace HB := bs HB hb; have g8 := nl g1 hg; have g9 := ng g1 hg; replace g1 := kb g1 hb; clear hb hbox hg))
 (try simp only [Act.put, List.setIfInBounds_toArray, List.set_cons_zero, List.set_cons_succ])
 go_cut [17] (fun v17 wc => ∃ (kq : Nat) (gW : Bool), v17 = .bool gW ∧ Aside0 (spec_ClockLater.j0 kq a1 gW gA gB g7 = some (r1, r2, r3, r4)) ∧ Aside0 (kq ≤ k) ∧ Aside0 (wc.heap[gQ]? = some (.cells #[.int .i64 gA, .int .i64 gB, (.slice gU g7.length gV)] 25 (0, 0))) ∧ Aside0 (wc.heap[gC]? = some (.cells #[.int .i64 0, .int .i64 0, (.slice none 0 0)] 25 (0, 0))) ∧ Aside0 (Below w.heap.size w wc))
 case first =>
  have H := HC3.1
  clear HC3
  replace H := Option.bind_eq_some_iff.mp H
  obtain ⟨hK, A60, H⟩ := H
  replace H : (if hK = true then ((spec_l6In.f a1 0 100).bind fun gR => (spec_ClockLater.j0 k a1 (!gR) gA gB g7)) else (spec_ClockLater.j0 k a1 true gA gB g7)) = some (r1, r2, r3, r4) := H
  have A6 := am A60
  clear A60
  by_cases c7 : hK = true
  ·
   subst c7
   have H1 : ((spec_l6In.f a1 0 100).bind fun gR => (spec_ClockLater.j0 k a1 (!gR) gA gB g7)) = some (r1, r2, r3, r4) := by rw [if_pos rfl] at H; exact H
   clear H
   have H := H1
   clear H1
   replace H := Option.bind_eq_some_iff.mp H
   obtain ⟨gR, A80, H⟩ := H
   replace H : (spec_ClockLater.j0 k a1 (!gR) gA gB g7) = some (r1, r2, r3, r4) := H
   have A8 := am A80
   clear A80
   have H' := am H
   clear H; have lJ := g8.1; have lK := g9.1; obtain ⟨gX, gY, gZ, h0, h1, h2⟩ := cs3 g1
   go_wp2_with (first | ((with_reducible refine gate_callee (f := 14) rfl ?_); refine gl (some 11) Try.func14 #[.agg #[.int .i64 gA, .int .i64 gB, .slice gU g7.length gV]] ?_; (with_reducible refine (spec_ClockOk.calls k gA gB _ _ g7 true _ ?side1 ?side2 A6.1).mono ?_); (case side1 => exact cq (Kd.C_below hC.1 HB.1)); (case side2 => exact hD.1); rintro e w11 ⟨rfl, hb⟩; refine ⟨_, rfl, ?_⟩; replace g1 := kb g1 hb; replace g2 := kb g2 hb; replace HB := bs HB hb; clear hb) | (go_at_call 41; (with_reducible refine (spec_l6In.calls a1 0 100 gR _ A8.1).mono ?_); rintro e w' ⟨rfl, ⟨nd, rfl⟩⟩))
   go_meet
   case rel => exact ⟨_, (!gR), rq, H', ⟨by first | omega | exact Nat.le_refl _⟩, kf g1, kf g2, bw⟩
  ·
   replace c7 := Bool.eq_false_iff.mpr c7
   subst c7
   have H1 : (spec_ClockLater.j0 k a1 true gA gB g7) = some (r1, r2, r3, r4) := by rw [if_neg (show ¬ (false = true) by decide)] at H; exact H
   clear H
   have H := H1
   clear H1
   have H' := am H
   clear H; have kB := g8.1; have kC := g9.1; obtain ⟨h3, h4, h5, h6, h7, h8⟩ := cs3 g1
   go_wp2_with (first | ((with_reducible refine gate_callee (f := 14) rfl ?_); refine gl (some 11) Try.func14 #[.agg #[.int .i64 gA, .int .i64 gB, .slice gU g7.length gV]] ?_; (with_reducible refine (spec_ClockOk.calls k gA gB _ _ g7 false _ ?side1 ?side2 A6.1).mono ?_); (case side1 => exact cq (Kd.C_below hC.1 HB.1)); (case side2 => exact hD.1); rintro e w14 ⟨rfl, hb⟩; refine ⟨_, rfl, ?_⟩; replace g1 := kb g1 hb; replace g2 := kb g2 hb; replace HB := bs HB hb; clear hb))
   go_meet
   case rel => exact ⟨_, (true), rq, H', ⟨by first | omega | exact Nat.le_refl _⟩, kf g1, kf g2, bw⟩
 case rest =>
  clear HC3; (try clear c1); (try clear p2); (try clear c3); (try clear c7); (try clear c9); (try clear c12); (try clear c14); (try clear gX); (try clear gY); (try clear gZ); (try clear h3); (try clear h4); (try clear h5); (try clear h0); (try clear h1); (try clear h2); (try clear h6); (try clear h7); (try clear h8)
  obtain ⟨kq, gW, rfl, HA, HJ2, g1, g2, HB⟩ := hcut
  cases kq with
  | zero => exact absurd HA.1 (by simp [spec_ClockLater.j0])
  | succ kj2 =>
   have H := HA.1
   clear HA
   simp only [spec_ClockLater.j0] at H
   by_cases c15 : gW = true
   ·
    subst c15
    have H1 : (some (0, 0, ([] : List (S25)), false)) = some (r1, r2, r3, r4) := by rw [if_pos rfl] at H; exact H
    clear H
    have H := H1
    clear H1
    simp only [Option.some.injEq, Prod.mk.injEq] at H
    obtain ⟨rfl, rfl, rfl, rfl⟩ := H
    have kD := g9.1; have kE := g8.1; obtain ⟨hL, hM, hN, hO, hP, hQ⟩ := cs3 g2
    go_wp2
    refine bodyPost_ret (results_ct rfl _ _ gC 25 #[.int .i64 0, .int .i64 0, .slice none 0 0] (0, 0) _ rfl (kf g2).1 Try.underlying25 rfl (by kernel_rfl)) rfl ?_
    exact ⟨_, by first | rfl | (simp [errW_none, errW_some] <;> rfl) | (simp [*, errW_none, errW_some] <;> rfl), by first | exact Kd.R_nil _ _ _ _ _ | exact Kd.N_nil _ _ _ _ _ | exact Kd.V_nil _ _ _ _ _ | exact Kd.Q_nil _ _ _ _ _ | exact Kd.S_nil _ _ _ _ _, by repeat (first | (with_reducible first | exact HB.1 | apply below_alloc | apply pw_below_drewN | apply below_drew1 | refine below_set ?_ hE.1 | refine below_set ?_ hF.1) | exact HB.1)⟩
   ·
    replace c15 := Bool.eq_false_iff.mpr c15
    subst c15
    have H1 : ((spec_l17Copy.f kj2 gA gB g7).bind fun hG => (spec_ClockLater.l0 kj2 a1 0 hG.1 hG.2.1 hG.2.2)) = some (r1, r2, r3, r4) := by rw [if_neg (show ¬ (false = true) by decide)] at H; exact H
    clear H
    have H := H1
    clear H1
    replace H := Option.bind_eq_some_iff.mp H
    obtain ⟨⟨i8, i9, hR⟩, iA, H⟩ := H
    replace H : (spec_ClockLater.l0 kj2 a1 0 i8 i9 hR) = some (r1, r2, r3, r4) := H
    have A18 := am iA
    clear iA
    have H' := am H
    clear H; have kF := g8.1; have kG := g9.1; obtain ⟨hS, hT, hU, hV, hW, hX⟩ := cs3 g1
    go_wp2_with (first | ((with_reducible refine gate_callee (f := 51) rfl ?_); refine gl (some 20) Try.func51 #[.agg #[.int .i64 gA, .int .i64 gB, .slice gU g7.length gV]] ?_; (with_reducible refine (spec_l17Copy.calls kj2 gA gB _ _ g7 i8 i9 hR _ ?side1 ?side2 A18.1).mono ?_); (case side1 => exact cq (Kd.C_below hC.1 HB.1)); (case side2 => exact hD.1); rintro e w21 ⟨lL, rfl, ho0, hb⟩; refine ⟨_, rfl, ?_⟩; have h9 := nm HB (Kd.R_N (Kd.R_bound ho0)) (fun k_ => (w.heap.size ≤ k_) ∧ k_ ≠ gQ ∧ k_ ≠ gC) (fun k_ hk_ => ⟨(zt HB hk_.2.1), (fb g1 k_ hk_.2.1), (fb g2 k_ hk_.2.1)⟩); replace g1 := kb g1 hb; replace g2 := kb g2 hb; replace HB := bs HB hb; clear hb ho0) | ((with_reducible refine gate_dst (N := 6) rfl ?_); refine bx (cs := #[.int .i64 0, .int .i64 0, .slice none 0 0]) (t := 25) fun hA hg w22 hbox hb => ?_; replace h9 := nb h9 hg hb; have g4 := am (hbox); have kH := bz HB hg; have i6 := bz HB hg; replace HB := bs HB hb; have gD := nl g1 hg; have gE := ng g1 hg; replace g1 := kb g1 hb; have gF := nl g2 hg; have gG := ng g2 hg; replace g2 := kb g2 hb; clear hb hbox hg; have kI := gE.1; have kJ := gD.1; have kK := gG.1; have kL := gF.1; obtain ⟨hY, hZ, i0, i1, i2, i3⟩ := cs3 g4; obtain ⟨k0, k1, rfl⟩ := Kd.N_slice h9.1))
    go_loopg [7] kj2 (fun kq v7 w' => ∃ (gS : Int) (gH : Int) (gI : Int) (g5 : Int) (g6 : Int) (g3 : List (S25)) (gT : Value), v7 = .int .i64 gS ∧ Aside0 (spec_ClockLater.l0 kq a1 gS g5 g6 g3 = some (r1, r2, r3, r4)) ∧ Aside0 (kq ≤ kj2) ∧ Aside0 (Kd.N k25 25 w' w.heap.size (fun k_ => (w.heap.size ≤ k_) ∧ k_ ≠ gQ ∧ k_ ≠ gC ∧ k_ ≠ hA) gT g3) ∧ Aside0 (w'.heap[gQ]? = some (.cells #[.int .i64 gA, .int .i64 gB, (.slice gU g7.length gV)] 25 (0, 0))) ∧ Aside0 (w'.heap[gC]? = some (.cells #[.int .i64 gH, .int .i64 gI, (.slice none 0 0)] 25 (0, 0))) ∧ Aside0 (w'.heap[hA]? = some (.cells #[.int .i64 g5, .int .i64 g6, gT] 25 (0, 0))) ∧ Aside0 (Below w.heap.size w w'))
    case atStart => exact ⟨(0), (0), (0), (i8), (i9), (hR), (.slice k0 hR.length k1), rq, H', ⟨Nat.le_refl _⟩, nf h9, kf g1, kf g2, kf g4, bw⟩
    case round =>
     clear H'; (try clear c1); (try clear c2); (try clear p2); (try clear c3); (try clear c5); (try clear c7); (try clear c9); (try clear c12); (try clear c14); (try clear c15); (try clear c16); (try clear c19); (try clear c23); (try clear c24); (try clear gX); (try clear gY); (try clear gZ); (try clear h3); (try clear h4); (try clear h5); (try clear hL); (try clear hM); (try clear hN); (try clear hS); (try clear hT); (try clear hU); (try clear hY); (try clear hZ); (try clear i0); (try clear h0); (try clear h1); (try clear h2); (try clear h6); (try clear h7); (try clear h8); (try clear hO); (try clear hP); (try clear hQ); (try clear hV); (try clear hW); (try clear hX); (try clear i1); (try clear i2); (try clear i3); (try clear p2); (try clear g0); (try clear g1); (try clear g2); (try clear g4); (try clear HB)
     obtain ⟨gS, gH, gI, g5, g6, g3, gT, rfl, HA, HK2, g0, g1, g2, g4, HB⟩ := hrel
     cases gk with
     | zero => exact absurd HA.1 (by simp [spec_ClockLater.l0])
     | succ k2 =>
      have H := HA.1
      clear HA
      simp only [spec_ClockLater.l0] at H
      by_cases c27 : gS < a1
      ·
       rw [if_pos c27] at H; have c27b0 : decide (gS < a1) = true := decide_eq_true c27; clear c27
       replace H := Option.bind_eq_some_iff.mp H
       obtain ⟨⟨hH, hI, hB, iB⟩, iC, H⟩ := H
       replace H : (if iB = true then (spec_ClockLater.l0 k2 a1 (wrap64 (gS + 1)) hH hI hB) else (some (0, 0, ([] : List (S25)), false))) = some (r1, r2, r3, r4) := H
       have A28 := am iC
       clear iC
       by_cases c29 : iB = true
       ·
        subst c29
        have H1 : (spec_ClockLater.l0 k2 a1 (wrap64 (gS + 1)) hH hI hB) = some (r1, r2, r3, r4) := by rw [if_pos rfl] at H; exact H
        clear H
        have H := H1
        clear H1
        have H' := am H
        clear H; have kM := gE.1; have kN := gD.1; have kO := gG.1; have kP := gF.1; obtain ⟨iL, iM, iN, iO, iP, iQ⟩ := cs3 g4
        obtain ⟨iD, iE, k3⟩ := Kd.N_slice g0.1
        subst k3
        go_wp2_with (first | ((with_reducible refine gate_callee (f := 47) rfl ?_); refine gl (some 28) Try.func47 #[.agg #[.int .i64 g5, .int .i64 g6, .slice iD g3.length iE]] ?_; (with_reducible refine (spec_l17Pass.calls k2 g5 g6 _ _ g3 hH hI hB true _ ?side1 ?side2 A28.1).mono ?_); (case side1 => exact cq (Kd.N_reads' g0.1).2.2); (case side2 => exact (Kd.N_reads' g0.1).2.1); rintro e w34 ⟨k4, rfl, ho0, hb⟩; refine ⟨_, rfl, ?_⟩; have gP := nm HB ho0 (fun k_ => (w.heap.size ≤ k_) ∧ some k_ ≠ (.slice iD g3.length iE : Value).ownBlock ∧ k_ ≠ gQ ∧ k_ ≠ gC ∧ k_ ≠ hA) (fun k_ hk_ => ⟨(zt HB hk_), (fr g0 k_ hk_), (fb g1 k_ hk_), (fb g2 k_ hk_), (fb g4 k_ hk_)⟩); replace g0 := ne g0 hb; replace g1 := kb g1 hb; replace g2 := kb g2 hb; replace g4 := kb g4 hb; replace HB := bs HB hb; clear hb ho0) | ((with_reducible refine gate_dst (N := 8) rfl ?_); refine bx (cs := #[.int .i64 0, .int .i64 0, .slice none 0 0]) (t := 25) fun iF hg w35 hbox hb => ?_; replace g0 := nb g0 hg hb; replace gP := nb gP hg hb; have hJ := am (hbox); have iG := bz HB hg; have i7 := bz HB hg; replace HB := bs HB hb; have gJ := nl g1 hg; have gK := ng g1 hg; replace g1 := kb g1 hb; have gL := nl g2 hg; have gM := ng g2 hg; replace g2 := kb g2 hb; have gN := nl g4 hg; have gO := ng g4 hg; replace g4 := kb g4 hb; clear hb hbox hg; have kQ := gK.1; have kR := gJ.1; have kS := gM.1; have kT := gL.1; have kU := gO.1; have kV := gN.1; obtain ⟨iR, iS, iT, iU, iV, iW⟩ := cs3 hJ; obtain ⟨k5, k6, rfl⟩ := Kd.N_slice gP.1; obtain ⟨iX, iY, iZ, j3, j4, j5⟩ := cs3 g4))
        go_roundg k2
        case measure => have := HJ2.1; have := HK2.1; omega
        case rel => exact ⟨(wrap64 (gS + 1)), (gH), (gI), (hH), (hI), (hB), (.slice k5 hB.length k6), rq, H', ⟨by have := HJ2.1; have := HK2.1; omega⟩, nf gP, kf g1, kf g2, kf g4, bw⟩
       ·
        replace c29 := Bool.eq_false_iff.mpr c29
        subst c29
        have H1 : (some (0, 0, ([] : List (S25)), false)) = some (r1, r2, r3, r4) := by rw [if_neg (show ¬ (false = true) by decide)] at H; exact H
        clear H
        have H := H1
        clear H1
        simp only [Option.some.injEq, Prod.mk.injEq] at H
        obtain ⟨rfl, rfl, rfl, rfl⟩ := H
        have kW := gE.1; have kX := gD.1; have kY := gG.1; have kZ := gF.1; obtain ⟨j6, j7, j8, j9, jA, jB⟩ := cs3 g4
        obtain ⟨iH, iI, k7⟩ := Kd.N_slice g0.1
        subst k7
        go_wp2_with (first | ((with_reducible refine gate_callee (f := 47) rfl ?_); refine gl (some 28) Try.func47 #[.agg #[.int .i64 g5, .int .i64 g6, .slice iH g3.length iI]] ?_; (with_reducible refine (spec_l17Pass.calls k2 g5 g6 _ _ g3 hH hI hB false _ ?side1 ?side2 A28.1).mono ?_); (case side1 => exact cq (Kd.N_reads' g0.1).2.2); (case side2 => exact (Kd.N_reads' g0.1).2.1); rintro e w46 ⟨k4, rfl, ho0, hb⟩; refine ⟨_, rfl, ?_⟩; have gP := nm HB ho0 (fun k_ => (w.heap.size ≤ k_) ∧ some k_ ≠ (.slice iH g3.length iI : Value).ownBlock ∧ k_ ≠ gQ ∧ k_ ≠ gC ∧ k_ ≠ hA) (fun k_ hk_ => ⟨(zt HB hk_), (fr g0 k_ hk_), (fb g1 k_ hk_), (fb g2 k_ hk_), (fb g4 k_ hk_)⟩); replace g0 := ne g0 hb; replace g1 := kb g1 hb; replace g2 := kb g2 hb; replace g4 := kb g4 hb; replace HB := bs HB hb; clear hb ho0) | ((with_reducible refine gate_dst (N := 8) rfl ?_); refine bx (cs := #[.int .i64 0, .int .i64 0, .slice none 0 0]) (t := 25) fun iF hg w47 hbox hb => ?_; replace g0 := nb g0 hg hb; replace gP := nb gP hg hb; have hJ := am (hbox); have iG := bz HB hg; have i7 := bz HB hg; replace HB := bs HB hb; have gJ := nl g1 hg; have gK := ng g1 hg; replace g1 := kb g1 hb; have gL := nl g2 hg; have gM := ng g2 hg; replace g2 := kb g2 hb; have gN := nl g4 hg; have gO := ng g4 hg; replace g4 := kb g4 hb; clear hb hbox hg; have l4 := gK.1; have l5 := gJ.1; have l6 := gM.1; have l7 := gL.1; have l8 := gO.1; have l9 := gN.1; obtain ⟨jC, jD, jE, jF, jG, jH⟩ := cs3 hJ; obtain ⟨lM, lN, rfl⟩ := Kd.N_slice gP.1; have lA := g9.1; have lB := g8.1; obtain ⟨jI, jJ, jK, jL, jM, jN⟩ := cs3 g2))
        refine bodyPost_ret (results_ct rfl _ _ gC 25 #[.int .i64 0, .int .i64 0, .slice none 0 0] (0, 0) _ rfl (kf g2).1 Try.underlying25 rfl (by kernel_rfl)) rfl ?_
        exact ⟨_, by first | rfl | (simp [errW_none, errW_some] <;> rfl) | (simp [*, errW_none, errW_some] <;> rfl), by first | exact Kd.R_nil _ _ _ _ _ | exact Kd.N_nil _ _ _ _ _ | exact Kd.V_nil _ _ _ _ _ | exact Kd.Q_nil _ _ _ _ _ | exact Kd.S_nil _ _ _ _ _, by repeat (first | (with_reducible first | exact HB.1 | apply below_alloc | apply pw_below_drewN | apply below_drew1 | refine below_set ?_ hE.1 | refine below_set ?_ hF.1 | refine below_set ?_ i6.1 | refine below_set ?_ i7.1) | exact HB.1)⟩
      ·
       rw [if_neg c27] at H; have c27b0 : decide (gS < a1) = false := decide_eq_false c27; clear c27
       simp only [Option.some.injEq, Prod.mk.injEq] at H
       obtain ⟨rfl, rfl, rfl, rfl⟩ := H
       have lC := gE.1; have lD := gD.1; have lE := gG.1; have lF := gF.1; obtain ⟨jO, jP, jQ, jR, jS, jT⟩ := cs3 g4; have lG := g9.1; have lH := g8.1; obtain ⟨jU, jV, jW, jX, jY, jZ⟩ := cs3 g2
       obtain ⟨iJ, iK, k8⟩ := Kd.N_slice g0.1
       subst k8
       go_wp2
       refine bodyPost_ret (results_ct rfl _ _ gC 25 #[.int .i64 g5, .int .i64 g6, .slice iJ g3.length iK] (0, 0) _ rfl (kf g2).1 Try.underlying25 rfl (by kernel_rfl)) rfl ?_
       exact ⟨_, by first | rfl | (simp [errW_none, errW_some] <;> rfl) | (simp [*, errW_none, errW_some] <;> rfl), by (with_reducible repeat (first | apply Kd.N_alloc | apply Kd.N_drewN | apply Kd.N_drew)); exact Kd.N_mono (Kd.N_far (p := ⟨gC, 2, none⟩) (Kd.N_far (p := ⟨gC, 1, none⟩) (Kd.N_far (p := ⟨gC, 0, none⟩) (Kd.N_mono g0.1 (fun k_ hk => (⟨hk, hk.2.2.1⟩ : _ ∧ k_ ≠ gC))) mq (.int .i64 g5)) mq (.int .i64 g6)) mq (.slice iJ g3.length iK)) mq, by repeat (first | (with_reducible first | exact HB.1 | apply below_alloc | apply pw_below_drewN | apply below_drew1 | refine below_set ?_ hE.1 | refine below_set ?_ hF.1 | refine below_set ?_ i6.1) | exact HB.1)⟩


/-! ### spec_ClockPass: function 30 -/
def spec_ClockPass.f (k : Nat) (a0_0 : Int) (a0_1 : Int) (l0_2 : List (S25)) : Option (Int × Int × (List (S25)) × Bool) := (spec_ClockLater.f k a0_0 a0_1 l0_2 1).bind fun bt656 => (some (bt656.1, bt656.2.1, bt656.2.2.1, bt656.2.2.2))
theorem spec_ClockPass.mono : ∀ a0 a1 a2 k, LeO (spec_ClockPass.f k a0 a1 a2) (spec_ClockPass.f (k + 1) a0 a1 a2) := by
 intro a0 a1 a2 k
 unfold spec_ClockPass.f
 repeat' first
   | (with_reducible exact spec_ClockLater.mono _ _ _ _ _)
   | (with_reducible exact LeO.refl _)
   | (with_reducible exact LeO.none _)
   | (with_reducible refine LeO.ite ?_ ?_)
   | (with_reducible refine LeO.bind ?_ (fun _ => ?_))
   | exact spec_ClockLater.mono _ _ _ _ _
   | exact LeO.none _
   | refine LeO.ite ?_ ?_
   | refine LeO.bind ?_ (fun _ => ?_)
set_option maxHeartbeats 8000000 in
set_option maxRecDepth 100000 in
theorem spec_ClockPass.calls (k : Nat) (g5 : Int) (g6 : Int) (g9 : Option Addr) (gA : Nat) (g2 : List (S25)) (r1 : Int) (r2 : Int) (r3 : List (S25)) (r4 : Bool) (w : World) (gE : Kd.C k25 w g9 g2.length g2) (gF : g2.length ≤ gA) (h : spec_ClockPass.f k g5 g6 g2 = some (r1, r2, r3, r4)) :
  Calls Try.prog 30 #[.agg #[.int .i64 g5, .int .i64 g6, .slice g9 g2.length gA]] w fun e w' => ∃ v2_ : Value, e = .returned (.tuple #[.agg #[.int .i64 r1, .int .i64 r2, v2_], .bool r4]) ∧ Kd.N k25 25 w' w.heap.size (fun k_ => (w.heap.size ≤ k_)) v2_ r3 ∧ Below w.heap.size w w' := by
 have h1 := Try.underlying25
 have gH := am gE; have gI := am gF; clear gE gF; have HB := am (Below.refl w.heap.size w)
 have H : ((spec_ClockLater.f k g5 g6 g2 1).bind fun g4 => (some (g4.1, g4.2.1, g4.2.2.1, g4.2.2.2))) = some (r1, r2, r3, r4) := h
 clear h
 replace H := Option.bind_eq_some_iff.mp H
 obtain ⟨⟨gB, gC, gD, gJ⟩, A20, H⟩ := H
 replace H : (some (gB, gC, gD, gJ)) = some (r1, r2, r3, r4) := H
 have A2 := am A20
 clear A20
 simp only [Option.some.injEq, Prod.mk.injEq] at H
 obtain ⟨rfl, rfl, rfl, rfl⟩ := H
 go_enter Try.func30, Try.ntmps30
 go_wp2_with (first | ((with_reducible refine gate_dst (N := 1) rfl ?_); refine bx (cs := #[.int .i64 g5, .int .i64 g6, .slice g9 g2.length gA]) (t := 25) fun gK hg w3 hbox hb => ?_; have g0 := am (hbox); have gZ := bz HB hg; have gL := bz HB hg; replace HB := bs HB hb; clear hb hbox hg) | ((with_reducible refine gate_dst (N := 2) rfl ?_); refine bx (cs := #[.int .i64 0, .int .i64 0, .slice none 0 0]) (t := 25) fun g1 hg w4 hbox hb => ?_; have g3 := am (hbox); have h0 := bz HB hg; have gM := bz HB hg; replace HB := bs HB hb; have g7 := nl g0 hg; have g8 := ng g0 hg; replace g0 := kb g0 hb; clear hb hbox hg; have h2 := g7.1; have h3 := g8.1; obtain ⟨gN, gO, gP, gQ, gR, gS⟩ := cs3 g0) | ((with_reducible refine gate_callee (f := 35) rfl ?_); refine gl (some 5) Try.func35 #[.agg #[.int .i64 g5, .int .i64 g6, .slice g9 g2.length gA], .int .i64 1] ?_; (with_reducible refine (spec_ClockLater.calls k g5 g6 _ _ g2 1 gB gC gD gJ _ ?side1 ?side2 A2.1).mono ?_); (case side1 => exact cq (Kd.C_below gH.1 HB.1)); (case side2 => exact gI.1); rintro e w7 ⟨h4, rfl, ho0, hb⟩; refine ⟨_, rfl, ?_⟩; have gG := nm HB ho0 (fun k_ => (w.heap.size ≤ k_) ∧ k_ ≠ gK ∧ k_ ≠ g1) (fun k_ hk_ => ⟨(zt HB hk_), (fb g0 k_ hk_), (fb g3 k_ hk_)⟩); replace g0 := kb g0 hb; replace g3 := kb g3 hb; replace HB := bs HB hb; clear hb ho0; obtain ⟨gT, gU, gV, gW, gX, gY⟩ := cs3 g3; obtain ⟨Ao9, co9, rfl⟩ := Kd.N_slice gG.1))
 refine bodyPost_ret (results_ct rfl _ _ g1 25 #[.int .i64 gB, .int .i64 gC, .slice Ao9 gD.length co9] (0, 0) _ rfl (kf g3).1 Try.underlying25 rfl (by kernel_rfl)) rfl ?_
 exact ⟨_, by first | rfl | (simp [errW_none, errW_some] <;> rfl) | (simp [*, errW_none, errW_some] <;> rfl), by (with_reducible repeat (first | apply Kd.N_alloc | apply Kd.N_drewN | apply Kd.N_drew)); exact Kd.N_mono (Kd.N_far (p := ⟨g1, 2, none⟩) (Kd.N_far (p := ⟨g1, 1, none⟩) (Kd.N_far (p := ⟨g1, 0, none⟩) (Kd.N_mono gG.1 (fun k_ hk => (⟨hk, hk.2.2⟩ : _ ∧ k_ ≠ g1))) mq (.int .i64 gB)) mq (.int .i64 gC)) mq (.slice Ao9 gD.length co9)) mq, by repeat (first | (with_reducible first | exact HB.1 | apply below_alloc | apply pw_below_drewN | apply below_drew1 | refine below_set ?_ gL.1 | refine below_set ?_ gM.1) | exact HB.1)⟩

-- NOT PRINTED: function 7 (laws_FnClockPass)


/-! ### spec_ClockUrgent: function 18 -/
def spec_ClockUrgent.l0 : Nat → Int → Int → Int → List (S25) → Option (Int)
 | 0, _, _, _, _ => none
 | k + 1, x3, x716000, x716001, x716002 => (spec_l17Pass.f k x716000 x716001 x716002).bind fun bt717 => (if bt717.2.2.2 = true then (if x3 = 100 then (some x3) else (spec_ClockUrgent.l0 k (wrap64 (x3 + 1)) bt717.1 bt717.2.1 bt717.2.2.1)) else (some x3))
def spec_ClockUrgent.f (k : Nat) (a0_0 : Int) (a0_1 : Int) (l0_2 : List (S25)) : Option (Int) := (spec_ClockOk.f k a0_0 a0_1 l0_2).bind fun t716 => (if t716 = true then (spec_ClockUrgent.l0 k 0 a0_0 a0_1 l0_2) else (some (-1)))
theorem spec_ClockUrgent.mono_l : ∀ k, (∀ y0 y1 y2 y3, LeO (spec_ClockUrgent.l0 k y0 y1 y2 y3) (spec_ClockUrgent.l0 (k + 1) y0 y1 y2 y3))
 | 0 => fun _ _ _ _ r h => by simp [spec_ClockUrgent.l0] at h
 | k + 1 => by
  have ih0 := spec_ClockUrgent.mono_l k
  ·
   intro y0 y1 y2 y3
   unfold spec_ClockUrgent.l0
   repeat' first
   | (with_reducible exact ih0 _ _ _ _)
   | (with_reducible exact spec_ClockOk.mono _ _ _ _)
   | (with_reducible exact spec_l17Pass.mono _ _ _ _)
   | (with_reducible exact LeO.refl _)
   | (with_reducible exact LeO.none _)
   | (with_reducible refine LeO.ite ?_ ?_)
   | (with_reducible refine LeO.bind ?_ (fun _ => ?_))
   | exact ih0 _ _ _ _
   | exact spec_ClockOk.mono _ _ _ _
   | exact spec_l17Pass.mono _ _ _ _
   | exact LeO.none _
   | refine LeO.ite ?_ ?_
   | refine LeO.bind ?_ (fun _ => ?_)
theorem spec_ClockUrgent.mono : ∀ a0 a1 a2 k, LeO (spec_ClockUrgent.f k a0 a1 a2) (spec_ClockUrgent.f (k + 1) a0 a1 a2) := by
 intro a0 a1 a2 k
 have ih0 := spec_ClockUrgent.mono_l k
 unfold spec_ClockUrgent.f
 repeat' first
   | (with_reducible exact ih0 _ _ _ _)
   | (with_reducible exact spec_ClockOk.mono _ _ _ _)
   | (with_reducible exact spec_l17Pass.mono _ _ _ _)
   | (with_reducible exact LeO.refl _)
   | (with_reducible exact LeO.none _)
   | (with_reducible refine LeO.ite ?_ ?_)
   | (with_reducible refine LeO.bind ?_ (fun _ => ?_))
   | exact ih0 _ _ _ _
   | exact spec_ClockOk.mono _ _ _ _
   | exact spec_l17Pass.mono _ _ _ _
   | exact LeO.none _
   | refine LeO.ite ?_ ?_
   | refine LeO.bind ?_ (fun _ => ?_)
set_option maxHeartbeats 8000000 in
set_option maxRecDepth 100000 in
theorem spec_ClockUrgent.calls (k : Nat) (gB : Int) (gC : Int) (gD : Nat → Prop) (gG : Option Addr) (gH : Nat) (g9 : List (S25)) (r : Int) (w : World) (gX : Kd.V k25 25 w w.heap.size (fun k_ => gD k_) (.slice gG g9.length gH) g9) (h : spec_ClockUrgent.f k gB gC g9 = some r) :
  Calls Try.prog 18 #[.agg #[.int .i64 gB, .int .i64 gC, .slice gG g9.length gH]] w fun e w' => e = .returned (.int .i64 r) ∧ Below w.heap.size w w' := by
 have iU := Try.underlying25
 have g5 := am (show Kd.V k25 25 w w.heap.size (fun k_ => (gD k_ ∨ w.heap.size ≤ k_)) (.slice gG g9.length gH) g9 from Kd.V_mono gX (fun k_ hk => .inl hk)); have HB := am (Below.refl w.heap.size w)
 have H : ((spec_ClockOk.f k gB gC g9).bind fun gO => (if gO = true then (spec_ClockUrgent.l0 k 0 gB gC g9) else (some (-1)))) = some r := h
 clear h
 replace H := Option.bind_eq_some_iff.mp H
 obtain ⟨gO, A20, H⟩ := H
 replace H : (if gO = true then (spec_ClockUrgent.l0 k 0 gB gC g9) else (some (-1))) = some r := H
 have A2 := am A20
 clear A20
 by_cases c3 : gO = true
 ·
  subst c3
  have H1 : (spec_ClockUrgent.l0 k 0 gB gC g9) = some r := by rw [if_pos rfl] at H; exact H
  clear H
  have H := H1
  clear H1
  have H' := am H
  clear H
  go_enter Try.func18, Try.ntmps18
  go_wp2_with (first | ((with_reducible refine gate_dst (N := 1) rfl ?_); refine bx (cs := #[.int .i64 gB, .int .i64 gC, .slice gG g9.length gH]) (t := 25) fun gE hg w4 hbox hb => ?_; replace g5 := vb g5 hg hb; have g1 := am (hbox); have gY := bz HB hg; have gK := bz HB hg; replace HB := bs HB hb; clear hb hbox hg; obtain ⟨gR, gS, gT, gU, gV, gW⟩ := cs3 g1) | ((with_reducible refine gate_callee (f := 14) rfl ?_); refine gl (some 7) Try.func14 #[.agg #[.int .i64 gB, .int .i64 gC, .slice gG g9.length gH]] ?_; (with_reducible refine (spec_ClockOk.calls k gB gC _ _ g9 true _ ?side1 ?side2 A2.1).mono ?_); (case side1 => exact cq (Kd.V_reads' g5.1).2.2); (case side2 => exact (Kd.V_reads' g5.1).2.1); rintro e w6 ⟨rfl, hb⟩; refine ⟨_, rfl, ?_⟩; replace g5 := vw g5 hb; replace g1 := kb g1 hb; replace HB := bs HB hb; clear hb))
  go_loopg [3] k (fun kq v3 w' => ∃ (gA : Int) (g2 : Int) (g3 : Int) (g4 : List (S25)) (gF : Value), v3 = .int .i64 gA ∧ Aside0 (spec_ClockUrgent.l0 kq gA g2 g3 g4 = some r) ∧ Aside0 (kq ≤ k) ∧ Aside0 (Kd.V k25 25 w' w.heap.size (fun k_ => (gD k_ ∨ w.heap.size ≤ k_) ∧ k_ ≠ gE) gF g4) ∧ Aside0 (w'.heap[gE]? = some (.cells #[.int .i64 g2, .int .i64 g3, gF] 25 (0, 0))) ∧ Aside0 (Below w.heap.size w w'))
  case atStart => exact ⟨(0), (gB), (gC), (g9), (.slice gG g9.length gH), rq, H', ⟨Nat.le_refl _⟩, vf g5, kf g1, bw⟩
  case round =>
   clear H'; (try clear c1); (try clear p2); (try clear c3); (try clear gR); (try clear gS); (try clear gT); (try clear gU); (try clear gV); (try clear gW); (try clear g0); (try clear g1); (try clear HB)
   obtain ⟨gA, g2, g3, g4, gF, rfl, HA, HK1, g0, g1, HB⟩ := hrel
   cases gk with
   | zero => exact absurd HA.1 (by simp [spec_ClockUrgent.l0])
   | succ k1 =>
    have H := HA.1
    clear HA
    simp only [spec_ClockUrgent.l0] at H
    replace H := Option.bind_eq_some_iff.mp H
    obtain ⟨⟨gM, gN, gJ, gZ⟩, A70, H⟩ := H
    replace H : (if gZ = true then (if gA = 100 then (some gA) else (spec_ClockUrgent.l0 k1 (wrap64 (gA + 1)) gM gN gJ)) else (some gA)) = some r := H
    have A7 := am A70
    clear A70
    by_cases c8 : gZ = true
    ·
     subst c8
     have H1 : (if gA = 100 then (some gA) else (spec_ClockUrgent.l0 k1 (wrap64 (gA + 1)) gM gN gJ)) = some r := by rw [if_pos rfl] at H; exact H
     clear H
     have H := H1
     clear H1
     by_cases c9 : gA = 100
     ·
      rw [if_pos c9] at H; have c9b0 : (gA == 100) = true := beq_iff_eq.mpr c9; have c9b1 : (gA != 100) = false := bne_eq_false_iff_eq.mpr c9; clear c9
      obtain rfl := Option.some.inj H
      obtain ⟨h1, h2, h3, h4, h5, h6⟩ := cs3 g1
      obtain ⟨iD, iE, iF⟩ := Kd.V_slice g0.1
      subst iF
      go_wp2_with (first | ((with_reducible refine gate_callee (f := 47) rfl ?_); refine gl (some 11) Try.func47 #[.agg #[.int .i64 g2, .int .i64 g3, .slice iD g4.length iE]] ?_; (with_reducible refine (spec_l17Pass.calls k1 g2 g3 _ _ g4 gM gN gJ true _ ?side1 ?side2 A7.1).mono ?_); (case side1 => exact cq (Kd.V_reads' g0.1).2.2); (case side2 => exact (Kd.V_reads' g0.1).2.1); rintro e w12 ⟨h0, rfl, ho0, hb⟩; refine ⟨_, rfl, ?_⟩; replace g0 := ve g0 hb; have g8 := nm HB ho0 (fun k_ => (gD k_ ∨ w.heap.size ≤ k_) ∧ k_ ≠ gE) (fun k_ hk_ => ⟨(.inr (zt HB hk_)), (fb g1 k_ hk_)⟩); replace g1 := kb g1 hb; replace HB := bs HB hb; clear hb ho0) | ((with_reducible refine gate_dst (N := 4) rfl ?_); refine bx (cs := #[.int .i64 0, .int .i64 0, .slice none 0 0]) (t := 25) fun gP hg w13 hbox hb => ?_; replace g0 := vb g0 hg hb; replace g8 := nb g8 hg hb; have gI := am (hbox); have gQ := bz HB hg; have gL := bz HB hg; replace HB := bs HB hb; have g6 := nl g1 hg; have g7 := ng g1 hg; replace g1 := kb g1 hb; clear hb hbox hg; have iO := g7.1; have iP := g6.1; obtain ⟨h7, h8, h9, hA, hB, hC⟩ := cs3 gI; obtain ⟨iV, iW, rfl⟩ := Kd.N_slice g8.1))
      go_ret
      exact ⟨by first | rfl | (simp [errW_none, errW_some] <;> rfl) | (simp [*, errW_none, errW_some] <;> rfl), by repeat (first | (with_reducible first | exact HB.1 | apply below_alloc | apply pw_below_drewN | apply below_drew1 | refine below_set ?_ gK.1 | refine below_set ?_ gL.1) | exact HB.1)⟩
     ·
      rw [if_neg c9] at H; have c9b0 : (gA == 100) = false := beq_eq_false_iff_ne.mpr c9; have c9b1 : (gA != 100) = true := bne_iff_ne.mpr c9
      have H' := am H
      clear H; obtain ⟨hD, hE, hF, hG, hH, hI⟩ := cs3 g1
      obtain ⟨iG, iH, iI⟩ := Kd.V_slice g0.1
      subst iI
      go_wp2_with (first | ((with_reducible refine gate_callee (f := 47) rfl ?_); refine gl (some 11) Try.func47 #[.agg #[.int .i64 g2, .int .i64 g3, .slice iG g4.length iH]] ?_; (with_reducible refine (spec_l17Pass.calls k1 g2 g3 _ _ g4 gM gN gJ true _ ?side1 ?side2 A7.1).mono ?_); (case side1 => exact cq (Kd.V_reads' g0.1).2.2); (case side2 => exact (Kd.V_reads' g0.1).2.1); rintro e w19 ⟨h0, rfl, ho0, hb⟩; refine ⟨_, rfl, ?_⟩; replace g0 := ve g0 hb; have g8 := nm HB ho0 (fun k_ => (gD k_ ∨ w.heap.size ≤ k_) ∧ k_ ≠ gE) (fun k_ hk_ => ⟨(.inr (zt HB hk_)), (fb g1 k_ hk_)⟩); replace g1 := kb g1 hb; replace HB := bs HB hb; clear hb ho0) | ((with_reducible refine gate_dst (N := 4) rfl ?_); refine bx (cs := #[.int .i64 0, .int .i64 0, .slice none 0 0]) (t := 25) fun gP hg w20 hbox hb => ?_; replace g0 := vb g0 hg hb; replace g8 := nb g8 hg hb; have gI := am (hbox); have gQ := bz HB hg; have gL := bz HB hg; replace HB := bs HB hb; have g6 := nl g1 hg; have g7 := ng g1 hg; replace g1 := kb g1 hb; clear hb hbox hg; have iQ := g7.1; have iR := g6.1; obtain ⟨hJ, hK, hL, hM, hN, hO⟩ := cs3 gI; obtain ⟨iJ, iK, rfl⟩ := Kd.N_slice g8.1; obtain ⟨hP, hQ, hR, hS, hT, hU⟩ := cs3 g1))
      go_roundg k1
      case measure => have := HK1.1; omega
      case rel => exact ⟨(wrap64 (gA + 1)), (gM), (gN), (gJ), (.slice iJ gJ.length iK), rq, H', km, ⟨Kd.N_V (nf g8).1⟩, kf g1, bw⟩
    ·
     replace c8 := Bool.eq_false_iff.mpr c8
     subst c8
     have H1 : (some gA) = some r := by rw [if_neg (show ¬ (false = true) by decide)] at H; exact H
     clear H
     have H := H1
     clear H1
     obtain rfl := Option.some.inj H
     obtain ⟨hV, hW, hX, hY, hZ, i0⟩ := cs3 g1
     obtain ⟨iL, iM, iN⟩ := Kd.V_slice g0.1
     subst iN
     go_wp2_with (first | ((with_reducible refine gate_callee (f := 47) rfl ?_); refine gl (some 11) Try.func47 #[.agg #[.int .i64 g2, .int .i64 g3, .slice iL g4.length iM]] ?_; (with_reducible refine (spec_l17Pass.calls k1 g2 g3 _ _ g4 gM gN gJ false _ ?side1 ?side2 A7.1).mono ?_); (case side1 => exact cq (Kd.V_reads' g0.1).2.2); (case side2 => exact (Kd.V_reads' g0.1).2.1); rintro e w27 ⟨h0, rfl, ho0, hb⟩; refine ⟨_, rfl, ?_⟩; replace g0 := ve g0 hb; have g8 := nm HB ho0 (fun k_ => (gD k_ ∨ w.heap.size ≤ k_) ∧ k_ ≠ gE) (fun k_ hk_ => ⟨(.inr (zt HB hk_)), (fb g1 k_ hk_)⟩); replace g1 := kb g1 hb; replace HB := bs HB hb; clear hb ho0) | ((with_reducible refine gate_dst (N := 4) rfl ?_); refine bx (cs := #[.int .i64 0, .int .i64 0, .slice none 0 0]) (t := 25) fun gP hg w28 hbox hb => ?_; replace g0 := vb g0 hg hb; replace g8 := nb g8 hg hb; have gI := am (hbox); have gQ := bz HB hg; have gL := bz HB hg; replace HB := bs HB hb; have g6 := nl g1 hg; have g7 := ng g1 hg; replace g1 := kb g1 hb; clear hb hbox hg; have iS := g7.1; have iT := g6.1; obtain ⟨i1, i2, i3, i4, i5, i6⟩ := cs3 gI; obtain ⟨iX, iY, rfl⟩ := Kd.N_slice g8.1))
     go_ret
     exact ⟨by first | rfl | (simp [errW_none, errW_some] <;> rfl) | (simp [*, errW_none, errW_some] <;> rfl), by repeat (first | (with_reducible first | exact HB.1 | apply below_alloc | apply pw_below_drewN | apply below_drew1 | refine below_set ?_ gK.1 | refine below_set ?_ gL.1) | exact HB.1)⟩
 ·
  replace c3 := Bool.eq_false_iff.mpr c3
  subst c3
  have H1 : (some (-1)) = some r := by rw [if_neg (show ¬ (false = true) by decide)] at H; exact H
  clear H
  have H := H1
  clear H1
  obtain rfl := Option.some.inj H
  go_enter Try.func18, Try.ntmps18
  go_wp2_with (first | ((with_reducible refine gate_dst (N := 1) rfl ?_); refine bx (cs := #[.int .i64 gB, .int .i64 gC, .slice gG g9.length gH]) (t := 25) fun gE hg w32 hbox hb => ?_; replace g5 := vb g5 hg hb; have g1 := am (hbox); have gY := bz HB hg; have gK := bz HB hg; replace HB := bs HB hb; clear hb hbox hg; obtain ⟨i7, i8, i9, iA, iB, iC⟩ := cs3 g1) | ((with_reducible refine gate_callee (f := 14) rfl ?_); refine gl (some 7) Try.func14 #[.agg #[.int .i64 gB, .int .i64 gC, .slice gG g9.length gH]] ?_; (with_reducible refine (spec_ClockOk.calls k gB gC _ _ g9 false _ ?side1 ?side2 A2.1).mono ?_); (case side1 => exact cq (Kd.V_reads' g5.1).2.2); (case side2 => exact (Kd.V_reads' g5.1).2.1); rintro e w34 ⟨rfl, hb⟩; refine ⟨_, rfl, ?_⟩; replace g5 := vw g5 hb; replace g1 := kb g1 hb; replace HB := bs HB hb; clear hb))
  go_ret
  exact ⟨by first | rfl | (simp [errW_none, errW_some] <;> rfl) | (simp [*, errW_none, errW_some] <;> rfl), by repeat (first | (with_reducible first | exact HB.1 | apply below_alloc | apply pw_below_drewN | apply below_drew1 | refine below_set ?_ gK.1) | exact HB.1)⟩
end Go.Proofs.Ytfnmjecofgeboaa.PAll
