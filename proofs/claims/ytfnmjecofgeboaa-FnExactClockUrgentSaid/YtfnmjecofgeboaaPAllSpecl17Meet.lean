-- Laid by a program of this session out of the translation's print
import Derived.Test.YtfnmjecofgeboaaPAll0
import Derived.Test.YtfnmjecofgeboaaPAllAb
import Derived.Test.YtfnmjecofgeboaaPAllSpecl17Steps
namespace Go.Proofs.Ytfnmjecofgeboaa.PAll
open Go.RowKit Go.Proofs.YtfnmjecofgeboaaW.PrintWords Go.Proofs.YtfnmjecofgeboaaW.PrintLast Go.Proofs.YtfnmjecofgeboaaW.PrintMore
attribute [local go_sem] max2_int min2_int max_two min_two max_three min_three max_four min_four   -- for this text's walks alone
set_option linter.unusedVariables false
set_option linter.unusedSimpArgs false

/-! ### spec_l17Meet: function 64 -/
mutual
def spec_l17Meet.l0 : Nat → List (S44) → List (S44) → Int → Option (Bool)
 | 0, _, _, _ => none
 | k + 1, x5, x6, x7 => if x7 < (x5.length : Int) then (spec_l17Meet.l1 k x5 x6 x7 0) else (some false)
def spec_l17Meet.l1 : Nat → List (S44) → List (S44) → Int → Int → Option (Bool)
 | 0, _, _, _, _ => none
 | k + 1, x5, x6, x7, x8 => if x8 < (x6.length : Int) then (if 0 ≤ x7 then (if x7 < (x5.length : Int) then (if ((rd_T44 x5 x7).f0) = 0 then (spec_l17Meet.l1 k x5 x6 x7 (wrap64 (x8 + 1))) else (if 0 ≤ x8 then (if ((rd_T44 x5 x7).f0) = (wrap64 (-((rd_T44 x6 x8).f0))) then (some true) else (spec_l17Meet.l1 k x5 x6 x7 (wrap64 (x8 + 1)))) else (none))) else (none)) else (none)) else (spec_l17Meet.l0 k x5 x6 (wrap64 (x7 + 1)))
end
def spec_l17Meet.f (k : Nat) (a0_0 : Int) (a0_1 : Int) (l0_2 : List (S25)) (a1_0 : Int) (a1_1 : Int) (l1_2 : List (S25)) : Option (Bool) := (spec_l17Steps.f k a0_0 a0_1 l0_2).bind fun t577 => ((spec_l17Steps.f k a1_0 a1_1 l1_2).bind fun t580 => (spec_l17Meet.l0 k t577 t580 0))
theorem spec_l17Meet.mono_l : ∀ k, (∀ y0 y1 y2, LeO (spec_l17Meet.l0 k y0 y1 y2) (spec_l17Meet.l0 (k + 1) y0 y1 y2)) ∧ (∀ y0 y1 y2 y3, LeO (spec_l17Meet.l1 k y0 y1 y2 y3) (spec_l17Meet.l1 (k + 1) y0 y1 y2 y3))
 | 0 => ⟨fun _ _ _ r h => by simp [spec_l17Meet.l0] at h, fun _ _ _ _ r h => by simp [spec_l17Meet.l1] at h⟩
 | k + 1 => by
  obtain ⟨ih0, ih1⟩ := spec_l17Meet.mono_l k
  refine ⟨?_, ?_⟩
  ·
   intro y0 y1 y2
   unfold spec_l17Meet.l0
   repeat' first
   | (with_reducible exact ih0 _ _ _)
   | (with_reducible exact ih1 _ _ _ _)
   | (with_reducible exact spec_l17Steps.mono _ _ _ _)
   | (with_reducible exact LeO.refl _)
   | (with_reducible exact LeO.none _)
   | (with_reducible refine LeO.ite ?_ ?_)
   | (with_reducible refine LeO.bind ?_ (fun _ => ?_))
   | exact ih0 _ _ _
   | exact ih1 _ _ _ _
   | exact spec_l17Steps.mono _ _ _ _
   | exact LeO.none _
   | refine LeO.ite ?_ ?_
   | refine LeO.bind ?_ (fun _ => ?_)
  ·
   intro y0 y1 y2 y3
   unfold spec_l17Meet.l1
   repeat' first
   | (with_reducible exact ih0 _ _ _)
   | (with_reducible exact ih1 _ _ _ _)
   | (with_reducible exact spec_l17Steps.mono _ _ _ _)
   | (with_reducible exact LeO.refl _)
   | (with_reducible exact LeO.none _)
   | (with_reducible refine LeO.ite ?_ ?_)
   | (with_reducible refine LeO.bind ?_ (fun _ => ?_))
   | exact ih0 _ _ _
   | exact ih1 _ _ _ _
   | exact spec_l17Steps.mono _ _ _ _
   | exact LeO.none _
   | refine LeO.ite ?_ ?_
   | refine LeO.bind ?_ (fun _ => ?_)
theorem spec_l17Meet.mono : ∀ a0 a1 a2 a3 a4 a5 k, LeO (spec_l17Meet.f k a0 a1 a2 a3 a4 a5) (spec_l17Meet.f (k + 1) a0 a1 a2 a3 a4 a5) := by
 intro a0 a1 a2 a3 a4 a5 k
 obtain ⟨ih0, ih1⟩ := spec_l17Meet.mono_l k
 unfold spec_l17Meet.f
 repeat' first
   | (with_reducible exact ih0 _ _ _)
   | (with_reducible exact ih1 _ _ _ _)
   | (with_reducible exact spec_l17Steps.mono _ _ _ _)
   | (with_reducible exact LeO.refl _)
   | (with_reducible exact LeO.none _)
   | (with_reducible refine LeO.ite ?_ ?_)
   | (with_reducible refine LeO.bind ?_ (fun _ => ?_))
   | exact ih0 _ _ _
   | exact ih1 _ _ _ _
   | exact spec_l17Steps.mono _ _ _ _
   | exact LeO.none _
   | refine LeO.ite ?_ ?_
   | refine LeO.bind ?_ (fun _ => ?_)
set_option maxHeartbeats 8000000 in
set_option maxRecDepth 100000 in
theorem spec_l17Meet.calls (k : Nat) (h9 : Int) (hA : Int) (hQ : Option Addr) (hR : Nat) (gR : List (S25)) (h1 : Int) (h2 : Int) (hS : Option Addr) (hT : Nat) (gQ : List (S25)) (r : Bool) (w : World) (j3 : Kd.C k25 w hQ gR.length gR) (j4 : gR.length ≤ hR) (j5 : Kd.C k25 w hS gQ.length gQ) (j6 : gQ.length ≤ hT) (h : spec_l17Meet.f k h9 hA gR h1 h2 gQ = some r) :
  Calls Try.prog 64 #[.agg #[.int .i64 h9, .int .i64 hA, .slice hQ gR.length hR], .agg #[.int .i64 h1, .int .i64 h2, .slice hS gQ.length hT]] w fun e w' => e = .returned (.bool r) ∧ Below w.heap.size w w' := by
 have jR := Try.underlying25
 have iB := am j3; have iC := am j4; clear j3 j4; have iD := am j5; have iE := am j6; clear j5 j6; have HB := am (Below.refl w.heap.size w)
 have H : ((spec_l17Steps.f k h9 hA gR).bind fun g3 => ((spec_l17Steps.f k h1 h2 gQ).bind fun g9 => (spec_l17Meet.l0 k g3 g9 0))) = some r := h
 clear h
 replace H := Option.bind_eq_some_iff.mp H
 obtain ⟨g3, A30, H⟩ := H
 replace H : ((spec_l17Steps.f k h1 h2 gQ).bind fun g9 => (spec_l17Meet.l0 k g3 g9 0)) = some r := H
 have A3 := am A30
 clear A30
 replace H := Option.bind_eq_some_iff.mp H
 obtain ⟨g9, A40, H⟩ := H
 replace H : (spec_l17Meet.l0 k g3 g9 0) = some r := H
 have A4 := am A40
 clear A40
 have H' := am H
 clear H
 go_enter Try.func64, Try.ntmps64
 go_wp2_with (first | ((with_reducible refine gate_dst (N := 2) rfl ?_); refine bx (cs := #[.int .i64 h9, .int .i64 hA, .slice hQ gR.length hR]) (t := 25) fun gD hg w5 hbox hb => ?_; have g0 := am (hbox); have gZ := bz HB hg; have hZ := bz HB hg; replace HB := bs HB hb; clear hb hbox hg) | ((with_reducible refine gate_dst (N := 3) rfl ?_); refine bx (cs := #[.int .i64 h1, .int .i64 h2, .slice hS gQ.length hT]) (t := 25) fun gE hg w6 hbox hb => ?_; have g1 := am (hbox); have h0 := bz HB hg; have i0 := bz HB hg; replace HB := bs HB hb; have gH := nl g0 hg; have gI := ng g0 hg; replace g0 := kb g0 hb; clear hb hbox hg; have jE := gH.1; have jF := gI.1; obtain ⟨hF, hG, hH, hI, hJ, hK⟩ := cs3 g0) | (go_at_call 50; (with_reducible refine (spec_l17Steps.calls k h9 hA (fun k_ => k_ < w.heap.size) _ _ gR g3 _ ?side1 A3.1).mono ?_); (case side1 => exact Kd.V_mk iC.1 (Kd.F_below (Kd.C_F k25_heap iB.1) bq)); rintro e w9 ⟨hU, rfl, ho0, hb⟩; have n0_ := nm HB ho0 (fun k_ => k_ ≠ gD ∧ k_ ≠ gE) (fun k_ hk_ => ⟨Or.elim hk_ (fun hs_ => fun e_ => Nat.not_le.2 hs_ (by rw [e_]; exact gZ.1)) (fun hn_ => (fb g0 k_ hn_)), Or.elim hk_ (fun hs_ => fun e_ => Nat.not_le.2 hs_ (by rw [e_]; exact h0.1)) (fun hn_ => (fb g1 k_ hn_))⟩); have n1_ := kb g0 hb; have n2_ := kb g1 hb; have n3_ := bs HB hb; clear g0 g1 HB; have g7 := n0_; have g0 := n1_; have g1 := n2_; have HB := n3_; clear n0_ n1_ n2_ n3_ hb ho0; obtain ⟨h3, h4, h5, h6, h7, h8⟩ := cs3 g1) | (go_at_call 50; (with_reducible refine (spec_l17Steps.calls k h1 h2 (fun k_ => k_ < w.heap.size) _ _ gQ g9 _ ?side1 A4.1).mono ?_); (case side1 => exact Kd.V_mk iE.1 (Kd.F_below (Kd.C_F k25_heap iD.1) bq)); rintro e w11 ⟨iA, rfl, ho0, hb⟩; have n0_ := ne g7 hb; have n1_ := nm HB ho0 (fun k_ => some k_ ≠ (hU : Value).ownBlock ∧ k_ ≠ gD ∧ k_ ≠ gE) (fun k_ hk_ => ⟨Or.elim hk_ (fun hs_ => fun e_ => Nat.not_le.2 hs_ (Kd.N_base g7.1 k_ e_.symm)) (fun hn_ => (fr g7 k_ hn_)), Or.elim hk_ (fun hs_ => fun e_ => Nat.not_le.2 hs_ (by rw [e_]; exact gZ.1)) (fun hn_ => (fb g0 k_ hn_)), Or.elim hk_ (fun hs_ => fun e_ => Nat.not_le.2 hs_ (by rw [e_]; exact h0.1)) (fun hn_ => (fb g1 k_ hn_))⟩); have n2_ := kb g0 hb; have n3_ := kb g1 hb; have n4_ := bs HB hb; clear g7 g0 g1 HB; have g7 := n0_; have iF := n1_; have g0 := n2_; have g1 := n3_; have HB := n4_; clear n0_ n1_ n2_ n3_ n4_ hb ho0))
 repeat (go_quiet (first | ((with_reducible refine gate_dst (N := 2) rfl ?_); refine bx (cs := #[.int .i64 h9, .int .i64 hA, .slice hQ gR.length hR]) (t := 25) fun gD hg w5 hbox hb => ?_; have g0 := am (hbox); have gZ := bz HB hg; have hZ := bz HB hg; replace HB := bs HB hb; clear hb hbox hg) | ((with_reducible refine gate_dst (N := 3) rfl ?_); refine bx (cs := #[.int .i64 h1, .int .i64 h2, .slice hS gQ.length hT]) (t := 25) fun gE hg w6 hbox hb => ?_; have g1 := am (hbox); have h0 := bz HB hg; have i0 := bz HB hg; replace HB := bs HB hb; have gH := nl g0 hg; have gI := ng g0 hg; replace g0 := kb g0 hb; clear hb hbox hg; have jE := gH.1; have jF := gI.1; obtain ⟨hF, hG, hH, hI, hJ, hK⟩ := cs3 g0) | (go_at_call 50; (with_reducible refine (spec_l17Steps.calls k h9 hA (fun k_ => k_ < w.heap.size) _ _ gR g3 _ ?side1 A3.1).mono ?_); (case side1 => exact Kd.V_mk iC.1 (Kd.F_below (Kd.C_F k25_heap iB.1) bq)); rintro e w9 ⟨hU, rfl, ho0, hb⟩; have n0_ := nm HB ho0 (fun k_ => k_ ≠ gD ∧ k_ ≠ gE) (fun k_ hk_ => ⟨Or.elim hk_ (fun hs_ => fun e_ => Nat.not_le.2 hs_ (by rw [e_]; exact gZ.1)) (fun hn_ => (fb g0 k_ hn_)), Or.elim hk_ (fun hs_ => fun e_ => Nat.not_le.2 hs_ (by rw [e_]; exact h0.1)) (fun hn_ => (fb g1 k_ hn_))⟩); have n1_ := kb g0 hb; have n2_ := kb g1 hb; have n3_ := bs HB hb; clear g0 g1 HB; have g7 := n0_; have g0 := n1_; have g1 := n2_; have HB := n3_; clear n0_ n1_ n2_ n3_ hb ho0; obtain ⟨h3, h4, h5, h6, h7, h8⟩ := cs3 g1) | (go_at_call 50; (with_reducible refine (spec_l17Steps.calls k h1 h2 (fun k_ => k_ < w.heap.size) _ _ gQ g9 _ ?side1 A4.1).mono ?_); (case side1 => exact Kd.V_mk iE.1 (Kd.F_below (Kd.C_F k25_heap iD.1) bq)); rintro e w11 ⟨iA, rfl, ho0, hb⟩; have n0_ := ne g7 hb; have n1_ := nm HB ho0 (fun k_ => some k_ ≠ (hU : Value).ownBlock ∧ k_ ≠ gD ∧ k_ ≠ gE) (fun k_ hk_ => ⟨Or.elim hk_ (fun hs_ => fun e_ => Nat.not_le.2 hs_ (Kd.N_base g7.1 k_ e_.symm)) (fun hn_ => (fr g7 k_ hn_)), Or.elim hk_ (fun hs_ => fun e_ => Nat.not_le.2 hs_ (by rw [e_]; exact gZ.1)) (fun hn_ => (fb g0 k_ hn_)), Or.elim hk_ (fun hs_ => fun e_ => Nat.not_le.2 hs_ (by rw [e_]; exact h0.1)) (fun hn_ => (fb g1 k_ hn_))⟩); have n2_ := kb g0 hb; have n3_ := kb g1 hb; have n4_ := bs HB hb; clear g7 g0 g1 HB; have g7 := n0_; have iF := n1_; have g0 := n2_; have g1 := n3_; have HB := n4_; clear n0_ n1_ n2_ n3_ n4_ hb ho0)); try go_wp2_with (first | ((with_reducible refine gate_dst (N := 2) rfl ?_); refine bx (cs := #[.int .i64 h9, .int .i64 hA, .slice hQ gR.length hR]) (t := 25) fun gD hg w5 hbox hb => ?_; have g0 := am (hbox); have gZ := bz HB hg; have hZ := bz HB hg; replace HB := bs HB hb; clear hb hbox hg) | ((with_reducible refine gate_dst (N := 3) rfl ?_); refine bx (cs := #[.int .i64 h1, .int .i64 h2, .slice hS gQ.length hT]) (t := 25) fun gE hg w6 hbox hb => ?_; have g1 := am (hbox); have h0 := bz HB hg; have i0 := bz HB hg; replace HB := bs HB hb; have gH := nl g0 hg; have gI := ng g0 hg; replace g0 := kb g0 hb; clear hb hbox hg; have jE := gH.1; have jF := gI.1; obtain ⟨hF, hG, hH, hI, hJ, hK⟩ := cs3 g0) | (go_at_call 50; (with_reducible refine (spec_l17Steps.calls k h9 hA (fun k_ => k_ < w.heap.size) _ _ gR g3 _ ?side1 A3.1).mono ?_); (case side1 => exact Kd.V_mk iC.1 (Kd.F_below (Kd.C_F k25_heap iB.1) bq)); rintro e w9 ⟨hU, rfl, ho0, hb⟩; have n0_ := nm HB ho0 (fun k_ => k_ ≠ gD ∧ k_ ≠ gE) (fun k_ hk_ => ⟨Or.elim hk_ (fun hs_ => fun e_ => Nat.not_le.2 hs_ (by rw [e_]; exact gZ.1)) (fun hn_ => (fb g0 k_ hn_)), Or.elim hk_ (fun hs_ => fun e_ => Nat.not_le.2 hs_ (by rw [e_]; exact h0.1)) (fun hn_ => (fb g1 k_ hn_))⟩); have n1_ := kb g0 hb; have n2_ := kb g1 hb; have n3_ := bs HB hb; clear g0 g1 HB; have g7 := n0_; have g0 := n1_; have g1 := n2_; have HB := n3_; clear n0_ n1_ n2_ n3_ hb ho0; obtain ⟨h3, h4, h5, h6, h7, h8⟩ := cs3 g1) | (go_at_call 50; (with_reducible refine (spec_l17Steps.calls k h1 h2 (fun k_ => k_ < w.heap.size) _ _ gQ g9 _ ?side1 A4.1).mono ?_); (case side1 => exact Kd.V_mk iE.1 (Kd.F_below (Kd.C_F k25_heap iD.1) bq)); rintro e w11 ⟨iA, rfl, ho0, hb⟩; have n0_ := ne g7 hb; have n1_ := nm HB ho0 (fun k_ => some k_ ≠ (hU : Value).ownBlock ∧ k_ ≠ gD ∧ k_ ≠ gE) (fun k_ hk_ => ⟨Or.elim hk_ (fun hs_ => fun e_ => Nat.not_le.2 hs_ (Kd.N_base g7.1 k_ e_.symm)) (fun hn_ => (fr g7 k_ hn_)), Or.elim hk_ (fun hs_ => fun e_ => Nat.not_le.2 hs_ (by rw [e_]; exact gZ.1)) (fun hn_ => (fb g0 k_ hn_)), Or.elim hk_ (fun hs_ => fun e_ => Nat.not_le.2 hs_ (by rw [e_]; exact h0.1)) (fun hn_ => (fb g1 k_ hn_))⟩); have n2_ := kb g0 hb; have n3_ := kb g1 hb; have n4_ := bs HB hb; clear g7 g0 g1 HB; have g7 := n0_; have iF := n1_; have g0 := n2_; have g1 := n3_; have HB := n4_; clear n0_ n1_ n2_ n3_ n4_ hb ho0)))
 go_loopg [7] k (fun kq v7 w' => ∃ (g2 : Int), v7 = .int .i64 g2 ∧ Aside0 (spec_l17Meet.l0 kq g3 g9 g2 = some r) ∧ Aside0 (kq ≤ k) ∧ Aside0 (Kd.N k44 44 w' w.heap.size (fun k_ => some k_ ≠ (iA : Value).ownBlock ∧ k_ ≠ gD ∧ k_ ≠ gE) hU g3) ∧ Aside0 (Kd.N k44 44 w' w.heap.size (fun k_ => some k_ ≠ (hU : Value).ownBlock ∧ k_ ≠ gD ∧ k_ ≠ gE) iA g9) ∧ Aside0 (w'.heap[gD]? = some (.cells #[.int .i64 h9, .int .i64 hA, (.slice hQ gR.length hR)] 25 (0, 0))) ∧ Aside0 (w'.heap[gE]? = some (.cells #[.int .i64 h1, .int .i64 h2, (.slice hS gQ.length hT)] 25 (0, 0))) ∧ Aside0 (Below w.heap.size w w'))
 case atStart => exact ⟨(0), rq, H', ⟨Nat.le_refl _⟩, nf g7, nf iF, kf g0, kf g1, bw⟩
 case round =>
  clear H'; (try clear c1); (try clear p2); (try clear c6); (try clear c7); (try clear h3); (try clear h4); (try clear h5); (try clear hF); (try clear hG); (try clear hH); (try clear h6); (try clear h7); (try clear h8); (try clear hI); (try clear hJ); (try clear hK); (try clear gA); (try clear gO); (try clear g0); (try clear g1); (try clear HB)
  obtain ⟨g2, rfl, HA, HK1, gA, gO, g0, g1, HB⟩ := hrel
  cases gk with
  | zero => exact absurd HA.1 (by simp [spec_l17Meet.l0])
  | succ k1 =>
   have H := HA.1
   clear HA
   simp only [spec_l17Meet.l0] at H
   by_cases c12 : g2 < (g3.length : Int)
   ·
    rw [if_pos c12] at H; have c12b0 : decide (g2 < (g3.length : Int)) = true := decide_eq_true c12; clear c12
    have H' := am H
    clear H
    obtain ⟨jG, jH, jL⟩ := Kd.N_slice gA.1
    subst jL
    go_wp2
    repeat (go_quiet (fail); try go_wp2)
    go_loopg [8] k1 (fun kq v8 w' => ∃ (g8 : Int), v8 = .int .i64 g8 ∧ Aside0 (spec_l17Meet.l1 kq g3 g9 g2 g8 = some r) ∧ Aside0 (kq ≤ k1) ∧ Aside0 (Kd.N k44 44 w' w.heap.size (fun k_ => some k_ ≠ (iA : Value).ownBlock ∧ k_ ≠ gD ∧ k_ ≠ gE) (.slice jG g3.length jH) g3) ∧ Aside0 (Kd.N k44 44 w' w.heap.size (fun k_ => some k_ ≠ ((.slice jG g3.length jH) : Value).ownBlock ∧ k_ ≠ gD ∧ k_ ≠ gE) iA g9) ∧ Aside0 (w'.heap[gD]? = some (.cells #[.int .i64 h9, .int .i64 hA, (.slice hQ gR.length hR)] 25 (0, 0))) ∧ Aside0 (w'.heap[gE]? = some (.cells #[.int .i64 h1, .int .i64 h2, (.slice hS gQ.length hT)] 25 (0, 0))) ∧ Aside0 (Below w.heap.size w w'))
    case atStart => exact ⟨(0), rq, H', ⟨Nat.le_refl _⟩, nf gA, nf gO, kf g0, kf g1, bw⟩
    case round =>
     clear H'; (try clear c1); (try clear p2); (try clear c6); (try clear c7); (try clear c12); (try clear c12b0); (try clear h3); (try clear h4); (try clear h5); (try clear hF); (try clear hG); (try clear hH); (try clear h6); (try clear h7); (try clear h8); (try clear hI); (try clear hJ); (try clear hK); (try clear p2); (try clear gA); (try clear gO); (try clear g0); (try clear g1); (try clear HB)
     obtain ⟨g8, rfl, HA, HK2, gA, gO, g0, g1, HB⟩ := hrel
     cases gk with
     | zero => exact absurd HA.1 (by simp [spec_l17Meet.l1])
     | succ k2 =>
      have H := HA.1
      clear HA
      simp only [spec_l17Meet.l1] at H
      by_cases c14 : g8 < (g9.length : Int)
      ·
       rw [if_pos c14] at H; have c14b0 : decide (g8 < (g9.length : Int)) = true := decide_eq_true c14; clear c14
       by_cases c15 : 0 ≤ g2
       ·
        rw [if_pos c15] at H; have c15b0 : decide (0 ≤ g2) = true := decide_eq_true c15; clear c15
        by_cases c16 : g2 < (g3.length : Int)
        ·
         rw [if_pos c16] at H; have c16b0 : decide (g2 < (g3.length : Int)) = true := decide_eq_true c16; clear c16
         by_cases c17 : ((rd_T44 g3 g2).f0) = 0
         ·
          rw [if_pos c17] at H; have c17b0 : (((rd_T44 g3 g2).f0) == 0) = true := beq_iff_eq.mpr c17; have c17b1 : (((rd_T44 g3 g2).f0) != 0) = false := bne_eq_false_iff_eq.mpr c17; clear c17
          have H' := am H
          clear H
          obtain ⟨jS, jT, jM⟩ := Kd.N_slice gO.1
          subst jM
          have gS : 0 ≤ (g2 : Int) := od; have gT : g2 < (g3.length : Int) := od
          obtain ⟨i1, iG, iH, iI, i2, i3, i4, gJ, gF, gG⟩ := at_T44 (Kd.N_reads' gA.1).2.2 g2 gS gT
          cases iI
          obtain ⟨j7, hB, hC, gP⟩ := Kd.N_get gA.1 z44 g2 gS (by first | exact gT | exact od | (have e_ := (Kd.N_reads' gA.1).1; omega))
          obtain ⟨i5, i6, rfl, g5, g6⟩ := k44_openF hC
          have g4 := gP 3 _ rfl; rw [add_field _ _ 3 (by omega)] at g4; replace g4 := Option.some.inj (g4.symm.trans gJ); injection g4 with hva_ hvn_ hvc_; rw [hva_] at g6; rw [hvc_] at g5; have i7 := am (show Kd.V k25 25 _ w.heap.size _ _ ((rd_T44 g3 g2).f1.f2) from Kd.V_mk g5 g6); clear hva_ hvn_ hvc_ g6 g5 gP hB; have i8 := am gG; have i9 := am gF; clear gG gF; replace gS := eq_true gS; replace gT := eq_true gT
          go_wp2
          repeat (go_quiet (fail); try go_wp2)
          go_roundg k2
          case measure => have := HK1.1; have := HK2.1; omega
          case rel => exact ⟨(wrap64 (g8 + 1)), rq, H', km, nf gA, nf gO, kf g0, kf g1, bw⟩
         ·
          rw [if_neg c17] at H; have c17b0 : (((rd_T44 g3 g2).f0) == 0) = false := beq_eq_false_iff_ne.mpr c17; have c17b1 : (((rd_T44 g3 g2).f0) != 0) = true := bne_iff_ne.mpr c17
          by_cases c19 : 0 ≤ g8
          ·
           rw [if_pos c19] at H; have c19b0 : decide (0 ≤ g8) = true := decide_eq_true c19; clear c19
           by_cases c20 : ((rd_T44 g3 g2).f0) = (wrap64 (-((rd_T44 g9 g8).f0)))
           ·
            rw [if_pos c20] at H; have c20b0 : (((rd_T44 g3 g2).f0) == (wrap64 (-((rd_T44 g9 g8).f0)))) = true := beq_iff_eq.mpr c20; have c20b1 : (((rd_T44 g3 g2).f0) != (wrap64 (-((rd_T44 g9 g8).f0)))) = false := bne_eq_false_iff_eq.mpr c20; clear c20
            obtain rfl := Option.some.inj H
            obtain ⟨jU, jV, jN⟩ := Kd.N_slice gO.1
            subst jN
            have gS : 0 ≤ (g2 : Int) := od; have gT : g2 < (g3.length : Int) := od
            obtain ⟨i1, iG, iH, iI, i2, i3, i4, gJ, gF, gG⟩ := at_T44 (Kd.N_reads' gA.1).2.2 g2 gS gT
            cases iI
            obtain ⟨j7, hB, hC, gP⟩ := Kd.N_get gA.1 z44 g2 gS (by first | exact gT | exact od | (have e_ := (Kd.N_reads' gA.1).1; omega))
            obtain ⟨i5, i6, rfl, g5, g6⟩ := k44_openF hC
            have g4 := gP 3 _ rfl; rw [add_field _ _ 3 (by omega)] at g4; replace g4 := Option.some.inj (g4.symm.trans gJ); injection g4 with hva_ hvn_ hvc_; rw [hva_] at g6; rw [hvc_] at g5; have i7 := am (show Kd.V k25 25 _ w.heap.size _ _ ((rd_T44 g3 g2).f1.f2) from Kd.V_mk g5 g6); clear hva_ hvn_ hvc_ g6 g5 gP hB; have i8 := am gG; have i9 := am gF; clear gG gF; replace gS := eq_true gS; replace gT := eq_true gT; have hL : 0 ≤ (g2 : Int) := od; have hM : g2 < (g3.length : Int) := od
            obtain ⟨iJ, j8, j9, jA, iK, iL, iM, gU, gV, gW⟩ := at_T44 (Kd.N_reads' gA.1).2.2 g2 hL hM
            obtain rfl : i1 = iJ := (by injection jA)
            obtain ⟨jI, hV, hW, hD⟩ := Kd.N_get gA.1 z44 g2 hL (by first | exact hM | exact od | (have e_ := (Kd.N_reads' gA.1).1; omega))
            obtain ⟨iN, iO, rfl, gK, gL⟩ := k44_openF hW
            have gB := hD 3 _ rfl; rw [add_field _ _ 3 (by omega)] at gB; replace gB := Option.some.inj (gB.symm.trans gU); injection gB with hva_ hvn_ hvc_; rw [hva_] at gL; rw [hvc_] at gK; have iP := am (show Kd.V k25 25 _ w.heap.size _ _ ((rd_T44 g3 g2).f1.f2) from Kd.V_mk gK gL); clear hva_ hvn_ hvc_ gL gK hD hV; have iQ := am gW; have iR := am gV; clear gW gV; replace hL := eq_true hL; replace hM := eq_true hM
            have ea_ := Option.some.inj (gJ.symm.trans gU)
            injection ea_ with ea_ en_ ec_
            subst ea_
            subst ec_
            clear en_; have hN : 0 ≤ (g8 : Int) := od; have hO : g8 < (g9.length : Int) := od
            obtain ⟨jJ, jB, jC, jD, iS, iT, iU, hP, gX, gY⟩ := at_T44 (Kd.N_reads' gO.1).2.2 g8 hN hO
            cases jD
            obtain ⟨jK, hX, hY, hE⟩ := Kd.N_get gO.1 z44 g8 hN (by first | exact hO | exact od | (have e_ := (Kd.N_reads' gO.1).1; omega))
            obtain ⟨iV, iW, rfl, gM, gN⟩ := k44_openF hY
            have gC := hE 3 _ rfl; rw [add_field _ _ 3 (by omega)] at gC; replace gC := Option.some.inj (gC.symm.trans hP); injection gC with hva_ hvn_ hvc_; rw [hva_] at gN; rw [hvc_] at gM; have iX := am (show Kd.V k25 25 _ w.heap.size _ _ ((rd_T44 g9 g8).f1.f2) from Kd.V_mk gM gN); clear hva_ hvn_ hvc_ gN gM hE hX; have iY := am gY; have iZ := am gX; clear gY gX; replace hN := eq_true hN; replace hO := eq_true hO
            go_wp2
            repeat (go_quiet (fail); try go_wp2)
            go_ret
            exact ⟨by first | rfl | (simp [errW_none, errW_some] <;> rfl) | (simp [*, errW_none, errW_some] <;> rfl), by repeat (first | (with_reducible first | exact HB.1 | apply below_alloc | apply pw_below_drewN | apply below_drew1 | refine below_set ?_ hZ.1 | refine below_set ?_ i0.1) | exact HB.1)⟩
           ·
            rw [if_neg c20] at H; have c20b0 : (((rd_T44 g3 g2).f0) == (wrap64 (-((rd_T44 g9 g8).f0)))) = false := beq_eq_false_iff_ne.mpr c20; have c20b1 : (((rd_T44 g3 g2).f0) != (wrap64 (-((rd_T44 g9 g8).f0)))) = true := bne_iff_ne.mpr c20
            have H' := am H
            clear H
            obtain ⟨jW, jX, jO⟩ := Kd.N_slice gO.1
            subst jO
            have gS : 0 ≤ (g2 : Int) := od; have gT : g2 < (g3.length : Int) := od
            obtain ⟨i1, iG, iH, iI, i2, i3, i4, gJ, gF, gG⟩ := at_T44 (Kd.N_reads' gA.1).2.2 g2 gS gT
            cases iI
            obtain ⟨j7, hB, hC, gP⟩ := Kd.N_get gA.1 z44 g2 gS (by first | exact gT | exact od | (have e_ := (Kd.N_reads' gA.1).1; omega))
            obtain ⟨i5, i6, rfl, g5, g6⟩ := k44_openF hC
            have g4 := gP 3 _ rfl; rw [add_field _ _ 3 (by omega)] at g4; replace g4 := Option.some.inj (g4.symm.trans gJ); injection g4 with hva_ hvn_ hvc_; rw [hva_] at g6; rw [hvc_] at g5; have i7 := am (show Kd.V k25 25 _ w.heap.size _ _ ((rd_T44 g3 g2).f1.f2) from Kd.V_mk g5 g6); clear hva_ hvn_ hvc_ g6 g5 gP hB; have i8 := am gG; have i9 := am gF; clear gG gF; replace gS := eq_true gS; replace gT := eq_true gT; have hL : 0 ≤ (g2 : Int) := od; have hM : g2 < (g3.length : Int) := od
            obtain ⟨iJ, j8, j9, jA, iK, iL, iM, gU, gV, gW⟩ := at_T44 (Kd.N_reads' gA.1).2.2 g2 hL hM
            obtain rfl : i1 = iJ := (by injection jA)
            obtain ⟨jI, hV, hW, hD⟩ := Kd.N_get gA.1 z44 g2 hL (by first | exact hM | exact od | (have e_ := (Kd.N_reads' gA.1).1; omega))
            obtain ⟨iN, iO, rfl, gK, gL⟩ := k44_openF hW
            have gB := hD 3 _ rfl; rw [add_field _ _ 3 (by omega)] at gB; replace gB := Option.some.inj (gB.symm.trans gU); injection gB with hva_ hvn_ hvc_; rw [hva_] at gL; rw [hvc_] at gK; have iP := am (show Kd.V k25 25 _ w.heap.size _ _ ((rd_T44 g3 g2).f1.f2) from Kd.V_mk gK gL); clear hva_ hvn_ hvc_ gL gK hD hV; have iQ := am gW; have iR := am gV; clear gW gV; replace hL := eq_true hL; replace hM := eq_true hM
            have ea_ := Option.some.inj (gJ.symm.trans gU)
            injection ea_ with ea_ en_ ec_
            subst ea_
            subst ec_
            clear en_; have hN : 0 ≤ (g8 : Int) := od; have hO : g8 < (g9.length : Int) := od
            obtain ⟨jJ, jB, jC, jD, iS, iT, iU, hP, gX, gY⟩ := at_T44 (Kd.N_reads' gO.1).2.2 g8 hN hO
            cases jD
            obtain ⟨jK, hX, hY, hE⟩ := Kd.N_get gO.1 z44 g8 hN (by first | exact hO | exact od | (have e_ := (Kd.N_reads' gO.1).1; omega))
            obtain ⟨iV, iW, rfl, gM, gN⟩ := k44_openF hY
            have gC := hE 3 _ rfl; rw [add_field _ _ 3 (by omega)] at gC; replace gC := Option.some.inj (gC.symm.trans hP); injection gC with hva_ hvn_ hvc_; rw [hva_] at gN; rw [hvc_] at gM; have iX := am (show Kd.V k25 25 _ w.heap.size _ _ ((rd_T44 g9 g8).f1.f2) from Kd.V_mk gM gN); clear hva_ hvn_ hvc_ gN gM hE hX; have iY := am gY; have iZ := am gX; clear gY gX; replace hN := eq_true hN; replace hO := eq_true hO
            go_wp2
            repeat (go_quiet (fail); try go_wp2)
            go_roundg k2
            case measure => have := HK1.1; have := HK2.1; omega
            case rel => exact ⟨(wrap64 (g8 + 1)), rq, H', km, nf gA, nf gO, kf g0, kf g1, bw⟩
          ·
           rw [if_neg c19] at H
           exact absurd H (by simp)
        ·
         rw [if_neg c16] at H
         exact absurd H (by simp)
       ·
        rw [if_neg c15] at H
        exact absurd H (by simp)
      ·
       rw [if_neg c14] at H; have c14b0 : decide (g8 < (g9.length : Int)) = false := decide_eq_false c14; clear c14
       have H' := am H
       clear H
       obtain ⟨jY, jZ, jP⟩ := Kd.N_slice gO.1
       subst jP
       go_wp2
       repeat (go_quiet (fail); try go_wp2)
       go_roundg k2
       case measure => have := HK1.1; have := HK2.1; omega
       case rel => exact ⟨(wrap64 (g2 + 1)), rq, H', km, nf gA, nf gO, kf g0, kf g1, bw⟩
   ·
    rw [if_neg c12] at H; have c12b0 : decide (g2 < (g3.length : Int)) = false := decide_eq_false c12; clear c12
    obtain rfl := Option.some.inj H
    obtain ⟨k0, k3, jQ⟩ := Kd.N_slice gA.1
    subst jQ
    go_wp2
    repeat (go_quiet (fail); try go_wp2)
    go_ret
    exact ⟨by first | rfl | (simp [errW_none, errW_some] <;> rfl) | (simp [*, errW_none, errW_some] <;> rfl), by repeat (first | (with_reducible first | exact HB.1 | apply below_alloc | apply pw_below_drewN | apply below_drew1 | refine below_set ?_ hZ.1 | refine below_set ?_ i0.1) | exact HB.1)⟩
end Go.Proofs.Ytfnmjecofgeboaa.PAll
