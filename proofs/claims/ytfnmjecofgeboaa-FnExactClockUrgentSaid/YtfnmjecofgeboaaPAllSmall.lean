-- Laid by a program of this session out of the translation's print
import Derived.Test.YtfnmjecofgeboaaPAll0
import Derived.Test.YtfnmjecofgeboaaPAllAb
namespace Go.Proofs.Ytfnmjecofgeboaa.PAll
open Go.RowKit Go.Proofs.YtfnmjecofgeboaaW.PrintWords Go.Proofs.YtfnmjecofgeboaaW.PrintLast Go.Proofs.YtfnmjecofgeboaaW.PrintMore
attribute [local go_sem] max2_int min2_int max_two min_two max_three min_three max_four min_four   -- for this text's walks alone
set_option linter.unusedVariables false
set_option linter.unusedSimpArgs false

/-! ### impl_clockNodes: function 39 -/
mutual
def impl_clockNodes.l0 : Nat → Int → Int → List (S25) → Int → Int → Option (Int)
 | 0, _, _, _, _, _ => none
 | k + 1, x1, x5, x9, x10, x11 => if x11 < x10 then (if 0 ≤ x11 then (if x11 < (x9.length : Int) then (if x5 > x1 then (some x5) else ((impl_clockNodes.f k ((rd_T25 x9 x11).f0) ((rd_T25 x9 x11).f1) ((rd_T25 x9 x11).f2) (wrap64 (x1 - x5))).bind fun t225 => (impl_clockNodes.l0 k x1 (wrap64 (x5 + t225)) x9 x10 (wrap64 (x11 + 1))))) else (none)) else (none)) else (some x5)
def impl_clockNodes.f : Nat → Int → Int → List (S25) → Int → Option (Int)
 | 0, _, _, _, _ => none
 | k + 1, a0_0, a0_1, l0_2, a1 => impl_clockNodes.l0 k a1 1 l0_2 (l0_2.length : Int) 0
end
theorem impl_clockNodes.mono_l : ∀ k, (∀ y0 y1 y2 y3, LeO (impl_clockNodes.f k y0 y1 y2 y3) (impl_clockNodes.f (k + 1) y0 y1 y2 y3)) ∧ (∀ y0 y1 y2 y3 y4, LeO (impl_clockNodes.l0 k y0 y1 y2 y3 y4) (impl_clockNodes.l0 (k + 1) y0 y1 y2 y3 y4))
 | 0 => ⟨fun _ _ _ _ r h => by simp [impl_clockNodes.f] at h, fun _ _ _ _ _ r h => by simp [impl_clockNodes.l0] at h⟩
 | k + 1 => by
  obtain ⟨ih0, ih1⟩ := impl_clockNodes.mono_l k
  refine ⟨?_, ?_⟩
  ·
   intro y0 y1 y2 y3
   unfold impl_clockNodes.f
   repeat' first
   | (with_reducible exact ih0 _ _ _ _)
   | (with_reducible exact ih1 _ _ _ _ _)
   | (with_reducible exact LeO.refl _)
   | (with_reducible exact LeO.none _)
   | (with_reducible refine LeO.ite ?_ ?_)
   | (with_reducible refine LeO.bind ?_ (fun _ => ?_))
   | exact ih0 _ _ _ _
   | exact ih1 _ _ _ _ _
   | exact LeO.none _
   | refine LeO.ite ?_ ?_
   | refine LeO.bind ?_ (fun _ => ?_)
  ·
   intro y0 y1 y2 y3 y4
   unfold impl_clockNodes.l0
   repeat' first
   | (with_reducible exact ih0 _ _ _ _)
   | (with_reducible exact ih1 _ _ _ _ _)
   | (with_reducible exact LeO.refl _)
   | (with_reducible exact LeO.none _)
   | (with_reducible refine LeO.ite ?_ ?_)
   | (with_reducible refine LeO.bind ?_ (fun _ => ?_))
   | exact ih0 _ _ _ _
   | exact ih1 _ _ _ _ _
   | exact LeO.none _
   | refine LeO.ite ?_ ?_
   | refine LeO.bind ?_ (fun _ => ?_)
theorem impl_clockNodes.mono : ∀ a0 a1 a2 a3 k, LeO (impl_clockNodes.f k a0 a1 a2 a3) (impl_clockNodes.f (k + 1) a0 a1 a2 a3) := by
 intro a0 a1 a2 a3 k
 obtain ⟨ih0, ih1⟩ := impl_clockNodes.mono_l k
 exact ih0 a0 a1 a2 a3
set_option maxHeartbeats 8000000 in
set_option maxRecDepth 100000 in
theorem impl_clockNodes.calls (k : Nat) : ∀ (gI : Int) (gJ : Int) (gK : Option Addr) (gL : Nat) (g1 : List (S25)) (a1 : Int) (r : Int) (w : World) (gM : Kd.C k25 w gK g1.length g1) (gN : g1.length ≤ gL) (h : impl_clockNodes.f k gI gJ g1 a1 = some r),
  Calls Try.prog 39 #[.agg #[.int .i64 gI, .int .i64 gJ, .slice gK g1.length gL], .int .i64 a1] w fun e w' => e = .returned (.int .i64 r) ∧ Below w.heap.size w w' := by
 induction k using Nat.strongRecOn with
 | _ k ih =>
 intro gI gJ gK gL g1 a1 r w gM gN h
 cases k with
 | zero => exact absurd h (by simp [impl_clockNodes.f])
 | succ k =>
 simp only [impl_clockNodes.f] at h
 have hM := Try.underlying25
 have gO := am gM; have hG := am gN; clear gM gN; have HB := am (Below.refl w.heap.size w)
 have H : (impl_clockNodes.l0 k a1 1 g1 (g1.length : Int) 0) = some r := h
 clear h
 have H' := am H
 clear H
 go_enter Try.func39, Try.ntmps39
 go_wp2_with (first | ((with_reducible refine gate_dst (N := 2) rfl ?_); refine bx (cs := #[.int .i64 gI, .int .i64 gJ, .slice gK g1.length gL]) (t := 25) fun gZ hg w3 hbox hb => ?_; have g2 := am (hbox); have hH := bz HB hg; have gP := bz HB hg; replace HB := bs HB hb; clear hb hbox hg; obtain ⟨gR, gS, gT, gU, gV, gW⟩ := cs3 g2))
 go_loopg [5, 11] k (fun kq v5 v11 w' => ∃ (gA : Int) (g0 : Int), v5 = .int .i64 gA ∧ v11 = .int .i64 g0 ∧ Aside0 (impl_clockNodes.l0 kq a1 gA g1 (g1.length : Int) g0 = some r) ∧ Aside0 (kq ≤ k) ∧ Aside0 (w'.heap[gZ]? = some (.cells #[.int .i64 gI, .int .i64 gJ, (.slice gK g1.length gL)] 25 (0, 0))) ∧ Aside0 (Below w.heap.size w w'))
 case atStart => exact ⟨(1), (0), rq, rq, H', ⟨Nat.le_refl _⟩, kf g2, bw⟩
 case round =>
  clear H'; (try clear p2); (try clear c3); (try clear gR); (try clear gS); (try clear gT); (try clear gU); (try clear gV); (try clear gW); (try clear g2); (try clear HB)
  obtain ⟨gA, g0, rfl, rfl, HA, HK1, g2, HB⟩ := hrel
  cases gk with
  | zero => exact absurd HA.1 (by simp [impl_clockNodes.l0])
  | succ k1 =>
   have H := HA.1
   clear HA
   simp only [impl_clockNodes.l0] at H
   by_cases c5 : g0 < (g1.length : Int)
   ·
    rw [if_pos c5] at H; have c5b0 : decide (g0 < (g1.length : Int)) = true := decide_eq_true c5; clear c5
    by_cases c6 : 0 ≤ g0
    ·
     rw [if_pos c6] at H; have c6b0 : decide (0 ≤ g0) = true := decide_eq_true c6; clear c6
     by_cases c7 : g0 < (g1.length : Int)
     ·
      rw [if_pos c7] at H; have c7b0 : decide (g0 < (g1.length : Int)) = true := decide_eq_true c7; clear c7
      by_cases c8 : gA > a1
      ·
       rw [if_pos c8] at H; have c8b0 : decide (a1 < gA) = true := decide_eq_true c8; clear c8
       obtain rfl := Option.some.inj H
       have gC : 0 ≤ (g0 : Int) := od; have gD : g0 < (g1.length : Int) := od
       obtain ⟨h0, gE, gF, gX, g3, g4, g5, g6, g7⟩ := at_T25 gO.1 g0 gC gD
       cases gX; replace g3 := hc HB g3; replace g4 := hc HB g4; replace g5 := hc HB g5; have gG := am g7; have gH := am g6; clear g7 g6; replace gC := eq_true gC; replace gD := eq_true gD
       go_wp2_with (first | ((with_reducible refine gate_dst (N := 7) rfl ?_); refine bx (cs := #[.int .i64 0, .int .i64 0, .slice none 0 0]) (t := 25) fun h1 hg w9 hbox hb => ?_; have gB := am (hbox); have h2 := bz HB hg; have gQ := bz HB hg; replace HB := bs HB hb; have g8 := nl g2 hg; have g9 := ng g2 hg; replace g2 := kb g2 hb; clear hb hbox hg; have hI := g9.1; have hJ := g8.1; obtain ⟨h4, h5, h6, h7, h8, h9⟩ := cs3 gB))
       go_ret
       exact ⟨by first | rfl | (simp [errW_none, errW_some] <;> rfl) | (simp [*, errW_none, errW_some] <;> rfl), by repeat (first | (with_reducible first | exact HB.1 | apply below_alloc | apply pw_below_drewN | apply below_drew1 | refine below_set ?_ gP.1 | refine below_set ?_ gQ.1) | exact HB.1)⟩
      ·
       rw [if_neg c8] at H; have c8b0 : decide (a1 < gA) = false := decide_eq_false c8; clear c8
       replace H := Option.bind_eq_some_iff.mp H
       obtain ⟨gY, h3, H⟩ := H
       replace H : (impl_clockNodes.l0 k1 a1 (wrap64 (gA + gY)) g1 (g1.length : Int) (wrap64 (g0 + 1))) = some r := H
       have A12 := am h3
       clear h3
       have H' := am H
       clear H; have gC : 0 ≤ (g0 : Int) := od; have gD : g0 < (g1.length : Int) := od
       obtain ⟨h0, gE, gF, gX, g3, g4, g5, g6, g7⟩ := at_T25 gO.1 g0 gC gD
       cases gX; replace g3 := hc HB g3; replace g4 := hc HB g4; replace g5 := hc HB g5; have gG := am g7; have gH := am g6; clear g7 g6; replace gC := eq_true gC; replace gD := eq_true gD
       go_wp2_with (first | ((with_reducible refine gate_dst (N := 7) rfl ?_); refine bx (cs := #[.int .i64 0, .int .i64 0, .slice none 0 0]) (t := 25) fun h1 hg w13 hbox hb => ?_; have gB := am (hbox); have h2 := bz HB hg; have gQ := bz HB hg; replace HB := bs HB hb; have g8 := nl g2 hg; have g9 := ng g2 hg; replace g2 := kb g2 hb; clear hb hbox hg; have hK := g9.1; have hL := g8.1; obtain ⟨hA, hB, hC, hD, hE, hF⟩ := cs3 gB) | ((with_reducible refine gate_callee (f := 39) rfl ?_); refine gl (some 24) Try.func39 #[.agg #[.int .i64 ((rd_T25 g1 g0).f0), .int .i64 ((rd_T25 g1 g0).f1), .slice gE ((rd_T25 g1 g0).f2).length gF], .int .i64 (wrap64 (a1 - gA))] ?_; (with_reducible refine (ih k1 (by have := HK1.1; omega) ((rd_T25 g1 g0).f0) ((rd_T25 g1 g0).f1) _ _ ((rd_T25 g1 g0).f2) (wrap64 (a1 - gA)) gY _ ?side1 ?side2 A12.1).mono ?_); (case side1 => exact Kd.C_below gG.1 bq); (case side2 => exact gH.1); rintro e w16 ⟨rfl, hb⟩; refine ⟨_, rfl, ?_⟩; replace g2 := kb g2 hb; replace gB := kc gB hb #[.int .i64 ((rd_T25 g1 g0).f0), .int .i64 ((rd_T25 g1 g0).f1), .slice gE ((rd_T25 g1 g0).f2).length gF]; replace HB := bs HB hb; clear hb))
       go_roundg k1
       case measure => have := HK1.1; omega
       case rel => exact ⟨(wrap64 (gA + gY)), (wrap64 (g0 + 1)), rq, rq, H', km, kf g2, bw⟩
     ·
      rw [if_neg c7] at H
      exact absurd H (by simp)
    ·
     rw [if_neg c6] at H
     exact absurd H (by simp)
   ·
    rw [if_neg c5] at H; have c5b0 : decide (g0 < (g1.length : Int)) = false := decide_eq_false c5; clear c5
    obtain rfl := Option.some.inj H
    go_wp2
    go_ret
    exact ⟨by first | rfl | (simp [errW_none, errW_some] <;> rfl) | (simp [*, errW_none, errW_some] <;> rfl), by repeat (first | (with_reducible first | exact HB.1 | apply below_alloc | apply pw_below_drewN | apply below_drew1 | refine below_set ?_ gP.1) | exact HB.1)⟩


/-! ### impl_ActOk: function 57 -/
def impl_ActOk.f (a0 : Int) : Option (Bool) := if a0 ≥ (-4) then (some (decide (a0 ≤ 4))) else (some false)
set_option maxHeartbeats 8000000 in
set_option maxRecDepth 100000 in
theorem impl_ActOk.calls (a0 : Int) (r : Bool) (w : World) (h : impl_ActOk.f a0 = some r) :
  Calls Try.prog 57 #[.int .i64 a0] w fun e w' => e = .returned (.bool r) ∧ Drawn0 w w' := by
 have H : (if a0 ≥ (-4) then (some (decide (a0 ≤ 4))) else (some false)) = some r := h
 clear h
 by_cases c2 : a0 ≥ (-4)
 ·
  rw [if_pos c2] at H; have c2b0 : decide ((-4) ≤ a0) = true := decide_eq_true c2; clear c2
  obtain rfl := Option.some.inj H
  go_enter Try.func57, Try.ntmps57
  go_wp2
  go_ret
  exact ⟨by first | rfl | (simp; done) | (simp [*]; done), by repeat (first | exact Drawn0.refl _ | apply Drawn0.step)⟩
 ·
  rw [if_neg c2] at H; have c2b0 : decide ((-4) ≤ a0) = false := decide_eq_false c2; clear c2
  obtain rfl := Option.some.inj H
  go_enter Try.func57, Try.ntmps57
  go_wp2
  go_ret
  exact ⟨by first | rfl | (simp; done) | (simp [*]; done), by repeat (first | exact Drawn0.refl _ | apply Drawn0.step)⟩

-- NOT PRINTED: function 67 (impl_Clock_67)

-- NOT PRINTED: function 58 (impl_Clock_58)


/-! ### impl_beside: function 61 -/
def impl_beside.f (a0_0 : Int) (a0_1 : Int) (l0_2 : List (S25)) (a1_0 : Int) (a1_1 : Int) (l1_2 : List (S25)) : Option (Int × Int × (List (S25))) := some (4, 0, (([(⟨a0_0, a0_1, l0_2⟩ : S25), (⟨a1_0, a1_1, l1_2⟩ : S25)] : List (S25))))
set_option maxHeartbeats 8000000 in
set_option maxRecDepth 100000 in
theorem impl_beside.calls (gB : Int) (gC : Int) (g2 : Nat → Prop) (gI : Option Addr) (gJ : Nat) (g6 : List (S25)) (gD : Int) (gE : Int) (g3 : Nat → Prop) (gK : Option Addr) (gL : Nat) (g7 : List (S25)) (r1 : Int) (r2 : Int) (r3 : List (S25)) (w : World) (gV : Kd.V k25 25 w w.heap.size (fun k_ => g2 k_) (.slice gI g6.length gJ) g6) (gW : Kd.V k25 25 w w.heap.size (fun k_ => g3 k_) (.slice gK g7.length gL) g7) (h : impl_beside.f gB gC g6 gD gE g7 = some (r1, r2, r3)) :
  Calls Try.prog 61 #[.agg #[.int .i64 gB, .int .i64 gC, .slice gI g6.length gJ], .agg #[.int .i64 gD, .int .i64 gE, .slice gK g7.length gL]] w fun e w' => ∃ v2_ : Value, e = .returned (.agg #[.int .i64 r1, .int .i64 r2, v2_]) ∧ Kd.N k25 25 w' w.heap.size (fun k_ => ((g2 k_ ∨ g3 k_) ∨ w.heap.size ≤ k_)) v2_ r3 ∧ Below w.heap.size w w' := by
 have hN := Try.underlying25
 have g4 := am (show Kd.V k25 25 w w.heap.size (fun k_ => ((g2 k_ ∨ g3 k_) ∨ w.heap.size ≤ k_)) (.slice gI g6.length gJ) g6 from Kd.V_mono gV (fun k_ hk => .inl (.inl hk))); have g5 := am (show Kd.V k25 25 w w.heap.size (fun k_ => ((g2 k_ ∨ g3 k_) ∨ w.heap.size ≤ k_)) (.slice gK g7.length gL) g7 from Kd.V_mono gW (fun k_ hk => .inl (.inr hk))); have HB := am (Below.refl w.heap.size w)
 have H : (some (4, 0, (([(⟨gB, gC, g6⟩ : S25), (⟨gD, gE, g7⟩ : S25)] : List (S25))))) = some (r1, r2, r3) := h
 clear h
 obtain ⟨gU, gG⟩ : ∃ y_ : List (S25), y_ = (([(⟨gB, gC, g6⟩ : S25), (⟨gD, gE, g7⟩ : S25)] : List (S25))) := ⟨_, rfl⟩
 replace H : (some (4, 0, gU)) = some (r1, r2, r3) := by first | (rw [gG]; with_reducible exact H) | (have H2_ := (Option.bind_some _ _).symm.trans H; rw [gG]; with_reducible exact H2_) | (have H2_ := (Option.bind_some _ _).symm.trans H; with_reducible exact H2_) | with_reducible exact H | (rw [gG]; exact H) | exact H
 have gS := am gG
 clear gG
 simp only [Option.some.injEq, Prod.mk.injEq] at H
 obtain ⟨rfl, rfl, rfl⟩ := H
 go_enter Try.func61, Try.ntmps61
 go_wp2_with (first | ((with_reducible refine gate_dst (N := 2) rfl ?_); refine bx (cs := #[.int .i64 gB, .int .i64 gC, .slice gI g6.length gJ]) (t := 25) fun g8 hg w3 hbox hb => ?_; replace g4 := vb g4 hg hb; replace g5 := vb g5 hg hb; have g1 := am (hbox); have hK := bz HB hg; have gX := bz HB hg; replace HB := bs HB hb; clear hb hbox hg) | ((with_reducible refine gate_dst (N := 3) rfl ?_); refine bx (cs := #[.int .i64 gD, .int .i64 gE, .slice gK g7.length gL]) (t := 25) fun g9 hg w4 hbox hb => ?_; replace g4 := vb g4 hg hb; replace g5 := vb g5 hg hb; have gA := am (hbox); have hL := bz HB hg; have gY := bz HB hg; replace HB := bs HB hb; have gM := nl g1 hg; have gN := ng g1 hg; replace g1 := kb g1 hb; clear hb hbox hg) | ((with_reducible refine gate_dst (N := 4) rfl ?_); refine bx (cs := #[.int .i64 0, .int .i64 0, .slice none 0 0]) (t := 25) fun g0 hg w5 hbox hb => ?_; replace g4 := vb g4 hg hb; replace g5 := vb g5 hg hb; have gH := am (hbox); have hM := bz HB hg; have gZ := bz HB hg; replace HB := bs HB hb; have gO := nl g1 hg; have gP := ng g1 hg; replace g1 := kb g1 hb; have gQ := nl gA hg; have gR := ng gA hg; replace gA := kb gA hb; clear hb hbox hg; have hO := gM.1; have hP := gN.1; have hQ := gO.1; have hR := gP.1; obtain ⟨hE, hF, hG, hH, hI, hJ⟩ := cs3 g1; have hS := gQ.1; have hT := gR.1; obtain ⟨h2, h3, h4, h5, h6, h7⟩ := cs3 gA) | ((with_reducible refine gate_dst (N := 7) rfl ?_); refine Kd.N_lit k25 _ 25 ?hg (N' := 7) ?hd (xs := ([(⟨gB, gC, g6⟩ : S25), (⟨gD, gE, g7⟩ : S25)] : List (S25))) (inner := [.int .i64 gB, .int .i64 gC, .slice gI g6.length gJ, .int .i64 gD, .int .i64 gE, .slice gK g7.length gL]) (ok := (fun k_ => ((g2 k_ ∨ g3 k_) ∨ w.heap.size ≤ k_) ∧ k_ ≠ g8 ∧ k_ ≠ g9 ∧ k_ ≠ g0)) (okp := (fun k_ => ((g2 k_ ∨ g3 k_) ∨ w.heap.size ≤ k_) ∧ k_ ≠ g8 ∧ k_ ≠ g9 ∧ k_ ≠ g0)) ?hr ?hp (fun _ hk => hk) ((show ∀ k_, w5.heap.size ≤ k_ → (fun k_ => ((g2 k_ ∨ g3 k_) ∨ w.heap.size ≤ k_) ∧ k_ ≠ g8 ∧ k_ ≠ g9 ∧ k_ ≠ g0) k_ from fun k_ hk => ⟨(.inr (zt HB hk)), Kd.freshB (g := g8) (o := .cells #[.int .i64 gB, .int .i64 gC, .slice gI g6.length gJ] 25 (0, 0)) (kf g1).1 k_ hk, Kd.freshB (g := g9) (o := .cells #[.int .i64 gD, .int .i64 gE, .slice gK g7.length gL] 25 (0, 0)) (kf gA).1 k_ hk, Kd.freshB (g := g0) (o := .cells #[.int .i64 0, .int .i64 0, .slice none 0 0] 25 (0, 0)) (kf gH).1 k_ hk⟩) _ (Nat.le_refl _)) (Below.refl _ _) (Nat.le_refl _) (by simp) ?_; (case hd => rfl); (case hg => rfl); (case hr => first | (go_simp; done) | (go_simp; rfl)); (case hp => exact (Reps.c3 (show Kd.FK k25 _ _ (⟨gB, gC, g6⟩ : S25) [.int .i64 gB, .int .i64 gC, .slice gI g6.length gJ] from (k25_mkF _ _ (⟨gB, gC, g6⟩ : S25) (Kd.V_reads' (Kd.V_mono (ok' := (fun k_ => ((g2 k_ ∨ g3 k_) ∨ w.heap.size ≤ k_) ∧ k_ ≠ g8 ∧ k_ ≠ g9 ∧ k_ ≠ g0)) (g4.1) mq)).2.1 (Kd.V_F (Kd.V_mono (ok' := (fun k_ => ((g2 k_ ∨ g3 k_) ∨ w.heap.size ≤ k_) ∧ k_ ≠ g8 ∧ k_ ≠ g9 ∧ k_ ≠ g0)) (g4.1) mq)))) (Reps.c3 (show Kd.FK k25 _ _ (⟨gD, gE, g7⟩ : S25) [.int .i64 gD, .int .i64 gE, .slice gK g7.length gL] from (k25_mkF _ _ (⟨gD, gE, g7⟩ : S25) (Kd.V_reads' (Kd.V_mono (ok' := (fun k_ => ((g2 k_ ∨ g3 k_) ∨ w.heap.size ≤ k_) ∧ k_ ≠ g8 ∧ k_ ≠ g9 ∧ k_ ≠ g0)) (g5.1) mq)).2.1 (Kd.V_F (Kd.V_mono (ok' := (fun k_ => ((g2 k_ ∨ g3 k_) ∨ w.heap.size ≤ k_) ∧ k_ ≠ g8 ∧ k_ ≠ g9 ∧ k_ ≠ g0)) (g5.1) mq)))) (Reps.none _ _)))); intro hU w11 gF hb hg_ hnew_; clear hg_ hnew_; (first | rw [← gS.1] at gF | (simp only [Int.reduceToNat] at gF; rw [← gS.1] at gF)); replace g4 := ve g4 hb (by first | exact Kd.N_base gF | exact Kd.R_base gF); replace g5 := ve g5 hb (by first | exact Kd.N_base gF | exact Kd.R_base gF); have gT := am (Kd.N_lower gF (below_size bq)); replace g1 := kb g1 hb; replace gA := kb gA hb; replace gH := kb gH hb; replace HB := bs HB hb; clear hb gF; obtain ⟨h0, h1, rfl⟩ := Kd.N_slice gT.1; obtain ⟨h8, h9, hA, hB, hC, hD⟩ := cs3 gH))
 refine bodyPost_ret (results_cell_row rfl _ _ g0 25 #[.int .i64 4, .int .i64 0, .slice h0 gU.length h1] (0, 0) _ rfl (kf gH).1 Try.underlying25 rfl (by kernel_rfl)) rfl ?_
 exact ⟨_, by first | rfl | (simp [errW_none, errW_some] <;> rfl) | (simp [*, errW_none, errW_some] <;> rfl), by (with_reducible repeat (first | apply Kd.N_alloc | apply Kd.N_drewN | apply Kd.N_drew)); exact Kd.N_mono (Kd.N_far (p := ⟨g0, 2, none⟩) (Kd.N_far (p := ⟨g0, 1, none⟩) (Kd.N_far (p := ⟨g0, 0, none⟩) (Kd.N_mono gT.1 (fun k_ hk => (⟨hk, hk.2.2.2⟩ : _ ∧ k_ ≠ g0))) mq (.int .i64 4)) mq (.int .i64 0)) mq (.slice h0 gU.length h1)) mq, by repeat (first | (with_reducible first | exact HB.1 | apply below_alloc | apply pw_below_drewN | apply below_drew1 | refine below_set ?_ gX.1 | refine below_set ?_ gY.1 | refine below_set ?_ gZ.1) | exact HB.1)⟩


/-! ### impl_copyClock: function 44 -/
mutual
def impl_copyClock.l0 : Nat → List (S25) → Int → Int → Int → Int → List (S25) → Option (Int × Int × (List (S25)))
 | 0, _, _, _, _, _, _ => none
 | k + 1, x12, x13, x14, x308000, x308001, x308002 => if x14 < x13 then (if 0 ≤ x14 then (if x14 < (x12.length : Int) then ((impl_copyClock.f k ((rd_T25 x12 x14).f0) ((rd_T25 x12 x14).f1) ((rd_T25 x12 x14).f2)).bind fun bt310 => (if x308002.length < 3518437208883 then (impl_copyClock.l0 k x12 x13 (wrap64 (x14 + 1)) x308000 x308001 (x308002 ++ [(⟨bt310.1, bt310.2.1, bt310.2.2⟩ : S25)])) else (none))) else (none)) else (none)) else (some (x308000, x308001, x308002))
def impl_copyClock.f : Nat → Int → Int → List (S25) → Option (Int × Int × (List (S25)))
 | 0, _, _, _ => none
 | k + 1, a0_0, a0_1, l0_2 => impl_copyClock.l0 k l0_2 (l0_2.length : Int) 0 a0_0 a0_1 ([] : List (S25))
end
theorem impl_copyClock.mono_l : ∀ k, (∀ y0 y1 y2, LeO (impl_copyClock.f k y0 y1 y2) (impl_copyClock.f (k + 1) y0 y1 y2)) ∧ (∀ y0 y1 y2 y3 y4 y5, LeO (impl_copyClock.l0 k y0 y1 y2 y3 y4 y5) (impl_copyClock.l0 (k + 1) y0 y1 y2 y3 y4 y5))
 | 0 => ⟨fun _ _ _ r h => by simp [impl_copyClock.f] at h, fun _ _ _ _ _ _ r h => by simp [impl_copyClock.l0] at h⟩
 | k + 1 => by
  obtain ⟨ih0, ih1⟩ := impl_copyClock.mono_l k
  refine ⟨?_, ?_⟩
  ·
   intro y0 y1 y2
   unfold impl_copyClock.f
   repeat' first
   | (with_reducible exact ih0 _ _ _)
   | (with_reducible exact ih1 _ _ _ _ _ _)
   | (with_reducible exact LeO.refl _)
   | (with_reducible exact LeO.none _)
   | (with_reducible refine LeO.ite ?_ ?_)
   | (with_reducible refine LeO.bind ?_ (fun _ => ?_))
   | exact ih0 _ _ _
   | exact ih1 _ _ _ _ _ _
   | exact LeO.none _
   | refine LeO.ite ?_ ?_
   | refine LeO.bind ?_ (fun _ => ?_)
  ·
   intro y0 y1 y2 y3 y4 y5
   unfold impl_copyClock.l0
   repeat' first
   | (with_reducible exact ih0 _ _ _)
   | (with_reducible exact ih1 _ _ _ _ _ _)
   | (with_reducible exact LeO.refl _)
   | (with_reducible exact LeO.none _)
   | (with_reducible refine LeO.ite ?_ ?_)
   | (with_reducible refine LeO.bind ?_ (fun _ => ?_))
   | exact ih0 _ _ _
   | exact ih1 _ _ _ _ _ _
   | exact LeO.none _
   | refine LeO.ite ?_ ?_
   | refine LeO.bind ?_ (fun _ => ?_)
theorem impl_copyClock.mono : ∀ a0 a1 a2 k, LeO (impl_copyClock.f k a0 a1 a2) (impl_copyClock.f (k + 1) a0 a1 a2) := by
 intro a0 a1 a2 k
 obtain ⟨ih0, ih1⟩ := impl_copyClock.mono_l k
 exact ih0 a0 a1 a2
def impl_copyClock.T5 : Bool × List (List Nat × List Nat) := (true, [([], []), ([0], [0]), ([], []), ([2], [2]), ([3], [3]), ([1, 4, 3], [1, 4]), ([0, 1, 2, 3, 4, 5], []), ([6, 5, 5, 0, 1, 2, 3, 4, 5], [5, 6])])
def impl_copyClock.B5 : List Nat := [0, 1, 0, 4, 12, 31, 63, 127]
theorem impl_copyClock.tab5 : rtab .any (opsOf Try.f44 5) = impl_copyClock.T5 := by kernel_rfl
theorem impl_copyClock.bits5 : waitsOk impl_copyClock.T5.2 impl_copyClock.B5 = true := by kernel_rfl
set_option maxHeartbeats 8000000 in
set_option maxRecDepth 100000 in
theorem impl_copyClock.calls (k : Nat) : ∀ (gE : Int) (gF : Int) (h3 : Option Addr) (gP : Nat) (g2 : List (S25)) (r1 : Int) (r2 : Int) (r3 : List (S25)) (w : World) (h4 : Kd.C k25 w h3 g2.length g2) (h5 : g2.length ≤ gP) (h : impl_copyClock.f k gE gF g2 = some (r1, r2, r3)),
  Calls Try.prog 44 #[.agg #[.int .i64 gE, .int .i64 gF, .slice h3 g2.length gP]] w fun e w' => ∃ v2_ : Value, e = .returned (.agg #[.int .i64 r1, .int .i64 r2, v2_]) ∧ Kd.R k25 25 w' w.heap.size (fun _ => True) v2_ r3 ∧ Below w.heap.size w w' := by
 induction k using Nat.strongRecOn with
 | _ k ih =>
 intro gE gF h3 gP g2 r1 r2 r3 w h4 h5 h
 cases k with
 | zero => exact absurd h (by simp [impl_copyClock.f])
 | succ k =>
 simp only [impl_copyClock.f] at h
 have jO := Try.underlying25
 have hX := am h4; have j5 := am h5; clear h4 h5; have HB := am (Below.refl w.heap.size w)
 have H : (impl_copyClock.l0 k g2 (g2.length : Int) 0 gE gF ([] : List (S25))) = some (r1, r2, r3) := h
 clear h
 have H' := am H
 clear H
 go_enter Try.func44, Try.ntmps44
 go_wp2_with (first | ((with_reducible refine gate_dst (N := 1) rfl ?_); refine bx (cs := #[.int .i64 gE, .int .i64 gF, .slice h3 g2.length gP]) (t := 25) fun gK hg w2 hbox hb => ?_; have g5 := am (hbox); have j6 := bz HB hg; have hY := bz HB hg; replace HB := bs HB hb; clear hb hbox hg) | ((with_reducible refine gate_dst (N := 2) rfl ?_); refine bx (cs := #[.int .i64 0, .int .i64 0, .slice none 0 0]) (t := 25) fun gD hg w3 hbox hb => ?_; have g6 := am (hbox); have j7 := bz HB hg; have hZ := bz HB hg; replace HB := bs HB hb; have gL := nl g5 hg; have gM := ng g5 hg; replace g5 := kb g5 hb; clear hb hbox hg; have jP := gL.1; have jQ := gM.1; obtain ⟨hI, hJ, hL, hM, hN, hO⟩ := cs3 g5) | ((with_reducible refine gate_dst (N := 3) rfl ?_); refine bx (cs := #[.int .i64 0, .int .i64 0, .slice none 0 0]) (t := 25) fun gC hg w6 hbox hb => ?_; have g3 := am (hbox); have j8 := bz HB hg; have i0 := bz HB hg; replace HB := bs HB hb; have gG := nl g5 hg; have gH := ng g5 hg; replace g5 := kb g5 hb; have gI := nl g6 hg; have gJ := ng g6 hg; replace g6 := kb g6 hb; clear hb hbox hg; have jR := gH.1; have jS := gG.1; have jT := gJ.1; have jU := gI.1; obtain ⟨hP, hQ, hR, hS, hT, hU⟩ := cs3 g3; obtain ⟨h8, h9, hA, hB, hC, hD⟩ := cs3 g5))
 go_loopg [14] k (fun kq v14 w' => ∃ (g0 : Int) (g7 : List (S25)) (g9 : Value), v14 = .int .i64 g0 ∧ Aside0 (impl_copyClock.l0 kq g2 (g2.length : Int) g0 gE gF g7 = some (r1, r2, r3)) ∧ Aside0 (kq ≤ k) ∧ Aside0 (Kd.R k25 25 w' w.heap.size (fun k_ => k_ ≠ gK ∧ k_ ≠ gD ∧ k_ ≠ gC) g9 g7) ∧ Aside0 (w'.heap[gK]? = some (.cells #[.int .i64 gE, .int .i64 gF, (.slice h3 g2.length gP)] 25 (0, 0))) ∧ Aside0 (w'.heap[gD]? = some (.cells #[.int .i64 0, .int .i64 0, (.slice none 0 0)] 25 (0, 0))) ∧ Aside0 (w'.heap[gC]? = some (.cells #[.int .i64 gE, .int .i64 gF, g9] 25 (0, 0))) ∧ Aside0 (Below w.heap.size w w'))
 case atStart => exact ⟨(0), (([] : List (S25))), (.slice none 0 0), rq, H', ⟨Nat.le_refl _⟩, ⟨by first | exact Kd.R_nil _ _ _ _ _ | exact Kd.N_nil _ _ _ _ _ | exact Kd.V_nil _ _ _ _ _ | exact Kd.Q_nil _ _ _ _ _ | exact Kd.S_nil _ _ _ _ _⟩, kf g5, kf g6, kf g3, bw⟩
 case round =>
  clear H'; (try clear p2); (try clear c4); (try clear c7); (try clear c8); (try clear h8); (try clear h9); (try clear hA); (try clear hI); (try clear hJ); (try clear hL); (try clear hP); (try clear hQ); (try clear hR); (try clear hB); (try clear hC); (try clear hD); (try clear hM); (try clear hN); (try clear hO); (try clear hS); (try clear hT); (try clear hU); (try clear g1); (try clear g5); (try clear g6); (try clear g3); (try clear HB)
  obtain ⟨g0, g7, g9, rfl, HA, HK1, g1, g5, g6, g3, HB⟩ := hrel
  cases gk with
  | zero => exact absurd HA.1 (by simp [impl_copyClock.l0])
  | succ k1 =>
   have H := HA.1
   clear HA
   simp only [impl_copyClock.l0] at H
   by_cases c11 : g0 < (g2.length : Int)
   ·
    rw [if_pos c11] at H; have c11b0 : decide (g0 < (g2.length : Int)) = true := decide_eq_true c11; clear c11
    by_cases c12 : 0 ≤ g0
    ·
     rw [if_pos c12] at H; have c12b0 : decide (0 ≤ g0) = true := decide_eq_true c12; clear c12
     by_cases c13 : g0 < (g2.length : Int)
     ·
      rw [if_pos c13] at H; have c13b0 : decide (g0 < (g2.length : Int)) = true := decide_eq_true c13; clear c13
      replace H := Option.bind_eq_some_iff.mp H
      obtain ⟨⟨gW, gX, gY⟩, i1, H⟩ := H
      replace H : (if g7.length < 3518437208883 then (impl_copyClock.l0 k1 g2 (g2.length : Int) (wrap64 (g0 + 1)) gE gF (g7 ++ [(⟨gW, gX, gY⟩ : S25)])) else (none)) = some (r1, r2, r3) := H
      have A14 := am i1
      clear i1
      by_cases c15 : g7.length < 3518437208883
      ·
       rw [if_pos c15] at H
       have i2 := am c15
       clear c15
       obtain ⟨hE, gQ⟩ : ∃ y_ : List (S25), y_ = (g7 ++ [(⟨gW, gX, gY⟩ : S25)]) := ⟨_, rfl⟩
       replace H : (impl_copyClock.l0 k1 g2 (g2.length : Int) (wrap64 (g0 + 1)) gE gF hE) = some (r1, r2, r3) := by first | (rw [gQ]; with_reducible exact H) | (have H2_ := (Option.bind_some _ _).symm.trans H; rw [gQ]; with_reducible exact H2_) | (have H2_ := (Option.bind_some _ _).symm.trans H; with_reducible exact H2_) | with_reducible exact H | (rw [gQ]; exact H) | exact H
       have i3 := am gQ
       clear gQ
       have H' := am H
       clear H; have hV : 0 ≤ (g0 : Int) := od; have hW : g0 < (g2.length : Int) := od
       obtain ⟨h6, gA, gB, iY, gR, gS, gT, gU, gV⟩ := at_T25 hX.1 g0 hV hW
       cases iY; replace gR := hc HB gR; replace gS := hc HB gS; replace gT := hc HB gT; have hF := am gV; have hG := am gU; clear gV gU; replace hV := eq_true hV; replace hW := eq_true hW
       try go_wp2_with (first | ((with_reducible refine gate_dst (N := 5) rfl ?_); refine bx (cs := #[.int .i64 0, .int .i64 0, .slice none 0 0]) (t := 25) fun g4 hg w16 hbox hb => ?_; replace g1 := am (Kd.R_below (Kd.R_elderB (by (with_reducible repeat (first | apply Kd.R_alloc | apply Kd.R_drewN | apply Kd.R_drew)); exact g1.1) g4 (Nat.le_of_eq hg.symm)) hb); have g8 := am (hbox); have j9 := bz HB hg; have jA := bz HB hg; replace HB := bs HB hb; have gZ := nl g5 hg; have h0 := ng g5 hg; replace g5 := kb g5 hb; have h1 := nl g6 hg; have h2 := ng g6 hg; replace g6 := kb g6 hb; have gN := nl g3 hg; have gO := ng g3 hg; replace g3 := kb g3 hb; clear hb hbox hg; have jB := h0.1; have jC := gZ.1; have jD := h2.1; have jE := h1.1; have jF := gO.1; have jG := gN.1; obtain ⟨iA, iB, iC, iD, iE, iF⟩ := cs3 g8))
       have n0_ : Aside0 (Kd.R k25 25 (((w16.setCell ⟨g4, 0, none⟩ (.int .i64 ((rd_T25 g2 g0).f0))).setCell ⟨g4, 1, none⟩ (.int .i64 ((rd_T25 g2 g0).f1))).setCell ⟨g4, 2, none⟩ (.slice gA ((rd_T25 g2 g0).f2).length gB)) w.heap.size (fun k_ => k_ ≠ gK ∧ k_ ≠ gD ∧ k_ ≠ gC ∧ k_ ≠ g4) g9 g7) := ⟨by (with_reducible repeat (first | apply Kd.R_alloc | apply Kd.R_drewN | apply Kd.R_drew)); exact Kd.R_mono (Kd.R_far (p := ⟨g4, 2, none⟩) (Kd.R_far (p := ⟨g4, 1, none⟩) (Kd.R_far (p := ⟨g4, 0, none⟩) (Kd.R_mono g1.1 (fun k_ hk => (⟨hk, hk.2⟩ : _ ∧ k_ ≠ g4))) mq (.int .i64 ((rd_T25 g2 g0).f0))) mq (.int .i64 ((rd_T25 g2 g0).f1))) mq (.slice gA ((rd_T25 g2 g0).f2).length gB)) mq⟩; have n1_ : Aside0 ((((w16.setCell ⟨g4, 0, none⟩ (.int .i64 ((rd_T25 g2 g0).f0))).setCell ⟨g4, 1, none⟩ (.int .i64 ((rd_T25 g2 g0).f1))).setCell ⟨g4, 2, none⟩ (.slice gA ((rd_T25 g2 g0).f2).length gB)).heap[gK]? = some (.cells #[.int .i64 gE, .int .i64 gF, .slice (some h6) g2.length gP] 25 (0, 0))) := kf g5; have n2_ : Aside0 ((((w16.setCell ⟨g4, 0, none⟩ (.int .i64 ((rd_T25 g2 g0).f0))).setCell ⟨g4, 1, none⟩ (.int .i64 ((rd_T25 g2 g0).f1))).setCell ⟨g4, 2, none⟩ (.slice gA ((rd_T25 g2 g0).f2).length gB)).heap[gD]? = some (.cells #[.int .i64 0, .int .i64 0, .slice none 0 0] 25 (0, 0))) := kf g6; have n3_ : Aside0 ((((w16.setCell ⟨g4, 0, none⟩ (.int .i64 ((rd_T25 g2 g0).f0))).setCell ⟨g4, 1, none⟩ (.int .i64 ((rd_T25 g2 g0).f1))).setCell ⟨g4, 2, none⟩ (.slice gA ((rd_T25 g2 g0).f2).length gB)).heap[gC]? = some (.cells #[.int .i64 gE, .int .i64 gF, g9] 25 (0, 0))) := kf g3; have n4_ : Aside0 ((((w16.setCell ⟨g4, 0, none⟩ (.int .i64 ((rd_T25 g2 g0).f0))).setCell ⟨g4, 1, none⟩ (.int .i64 ((rd_T25 g2 g0).f1))).setCell ⟨g4, 2, none⟩ (.slice gA ((rd_T25 g2 g0).f2).length gB)).heap[g4]? = some (.cells #[.int .i64 ((rd_T25 g2 g0).f0), .int .i64 ((rd_T25 g2 g0).f1), .slice gA ((rd_T25 g2 g0).f2).length gB] 25 (0, 0))) := kf g8; have n5_ : Aside0 (Below w.heap.size w (((w16.setCell ⟨g4, 0, none⟩ (.int .i64 ((rd_T25 g2 g0).f0))).setCell ⟨g4, 1, none⟩ (.int .i64 ((rd_T25 g2 g0).f1))).setCell ⟨g4, 2, none⟩ (.slice gA ((rd_T25 g2 g0).f2).length gB))) := bw; (try clear g1); (try clear g5); (try clear g6); (try clear g3); (try clear g8); (try clear HB)
       generalize (((w16.setCell ⟨g4, 0, none⟩ (.int .i64 ((rd_T25 g2 g0).f0))).setCell ⟨g4, 1, none⟩ (.int .i64 ((rd_T25 g2 g0).f1))).setCell ⟨g4, 2, none⟩ (.slice gA ((rd_T25 g2 g0).f2).length gB)) = w21 at n0_ n1_ n2_ n3_ n4_ n5_ ⊢
       have g1 := n0_; have g5 := n1_; have g6 := n2_; have g3 := n3_; have g8 := n4_; have HB := n5_; clear n0_ n1_ n2_ n3_ n4_ n5_; replace g1 := am (Kd.R_drew g1.1); replace g5 := am (blk_drew g5.1); replace g6 := am (blk_drew g6.1); replace g3 := am (blk_drew g3.1); replace g8 := am (blk_drew g8.1); replace HB := am (below_drew1 HB.1)
       refine start_ (n := 8) (S := fun w' => w'.cell? ⟨gC, 0, none⟩ = some (.int .i64 gE) ∧ w'.cell? ⟨gC, 1, none⟩ = some (.int .i64 gF) ∧ w'.cell? ⟨gC, 2, none⟩ = some (g9) ∧ w'.cell? ⟨g4, 0, none⟩ = some (.int .i64 ((rd_T25 g2 g0).f0)) ∧ w'.cell? ⟨g4, 1, none⟩ = some (.int .i64 ((rd_T25 g2 g0).f1)) ∧ w'.cell? ⟨g4, 2, none⟩ = some (.slice gA ((rd_T25 g2 g0).f2).length gB)) (ds := [7]) #[ff,ff,ff,ff,ff,ff,ff,ff] (by kernel_rfl) rfl rfl ⟨(blk_cell g3.1 0).trans rfl, (blk_cell g3.1 1).trans rfl, (blk_cell g3.1 2).trans rfl, (blk_cell g8.1 0).trans rfl, (blk_cell g8.1 1).trans rfl, (blk_cell g8.1 2).trans rfl⟩ (fun hHeld => ?_); refine with_tabW impl_copyClock.tab5 impl_copyClock.bits5 (fun HT_ HW_ => ?_)
       generalize w21.drew = w22 at g1 g5 g6 g3 g8 HB hHeld ⊢
       refine pu (i := 0) (N := some 18) #[tt,ff,ff,ff,ff,ff,ff,ff] HT_ ?_
       refine tk (i := 1) (N := some 19) #[tt,tt,ff,ff,ff,ff,ff,ff] HT_ HW_ hHeld ?_
       refine tk (i := 2) (N := some 20) #[tt,tt,tt,ff,ff,ff,ff,ff] HT_ HW_ hHeld ?_
       refine on (i := 3) (N := some 21) #[tt,tt,tt,tt,ff,ff,ff,ff] HT_ (fun K hK => ?_)
       refine goes_ Try.func44 (by kernel_rfl) rfl #[.agg #[.int .i64 ((rd_T25 g2 g0).f0), .int .i64 ((rd_T25 g2 g0).f1), .slice gA ((rd_T25 g2 g0).f2).length gB]] (by rfl) rfl rfl (by (try simp only [List.map_toArray, List.map_cons, List.map_nil]); first | done | rfl | (simp only [List.length_drop, List.length_take]; rfl)) ?_
       with_reducible refine (ih k1 (by have := HK1.1; omega) ((rd_T25 g2 g0).f0) ((rd_T25 g2 g0).f1) _ _ ((rd_T25 g2 g0).f2) gW gX gY _ ?side1 ?side2 A14.1).mono ?_
       (case side1 => exact cq (Kd.C_below hF.1 HB.1))
       (case side2 => exact hG.1)
       rintro e w23 ⟨jV, rfl, ho0, hb⟩
       refine ⟨_, rfl, ?_⟩
       have h7 := am (Kd.R_lower (Kd.R_newB (Kd.R_newB (Kd.R_newB (Kd.R_newB (Kd.R_new' ho0 (Kd.R_lt (by (with_reducible repeat (first | apply Kd.R_alloc | apply Kd.R_drewN | apply Kd.R_drew)); exact g1.1))) (g := gK) (o := .cells #[.int .i64 gE, .int .i64 gF, .slice (some h6) g2.length gP] 25 (0, 0)) (kf g5).1) (g := gD) (o := .cells #[.int .i64 0, .int .i64 0, .slice none 0 0] 25 (0, 0)) (kf g6).1) (g := gC) (o := .cells #[.int .i64 gE, .int .i64 gF, g9] 25 (0, 0)) (kf g3).1) (g := g4) (o := .cells #[.int .i64 ((rd_T25 g2 g0).f0), .int .i64 ((rd_T25 g2 g0).f1), .slice gA ((rd_T25 g2 g0).f2).length gB] 25 (0, 0)) (kf g8).1) (below_size bq)); replace g1 := am (Kd.R_elder' (by (with_reducible repeat (first | apply Kd.R_alloc | apply Kd.R_drewN | apply Kd.R_drew)); exact g1.1) (Kd.R_base ho0) hb); replace g5 := kb g5 hb; replace g6 := kb g6 hb; replace g3 := kb g3 hb; replace g8 := kb g8 hb; replace HB := bs HB hb; (try clear hb); (try clear hb2); (try clear hk); (try clear hi); (try clear ho0)
       obtain ⟨iZ, j3, i4⟩ := Kd.R_slice h7.1
       (first | subst i4 | (injection i4 with f1_ f2_ f3_; have f4_ := f1_.symm; have f5_ := f3_.symm; clear f1_ f2_ f3_; subst f4_; subst f5_))
       refine hK.out _ _ ⟨(blk_cell g3.1 0).trans rfl, (blk_cell g3.1 1).trans rfl, (blk_cell g3.1 2).trans rfl, (blk_cell g8.1 0).trans rfl, (blk_cell g8.1 1).trans rfl, (blk_cell g8.1 2).trans rfl⟩ (fun hHeld => ?_)
       clear hK K
       refine norm_ (a' := ?_) ?_ ?_
       rotate_left
       ·
        show Act.put _ (some 21) _ = _
        simp only [Act.put, List.setIfInBounds_toArray, List.set_cons_zero, List.set_cons_succ, i64_w, i32_w]
        rfl
       refine on (i := 4) (N := some 22) #[tt,tt,tt,tt,tt,ff,ff,ff] HT_ (fun K hK => ?_)
       refine value_ (w1 := ?_) (v := ?_) (by rfl) rfl ?_ ?_
       rotate_left 2
       ·
        go_simp
        constructor
        ·
         rfl
        ·
         rfl
       refine hK.out _ _ ⟨(blk_cell (blk_alloc g3.1 _) 0).trans rfl, (blk_cell (blk_alloc g3.1 _) 1).trans rfl, (blk_cell (blk_alloc g3.1 _) 2).trans rfl, (blk_cell (blk_alloc g8.1 _) 0).trans rfl, (blk_cell (blk_alloc g8.1 _) 1).trans rfl, (blk_cell (blk_alloc g8.1 _) 2).trans rfl⟩ (fun hHeld => ?_)
       clear hK K
       refine norm_ (a' := ?_) ?_ ?_
       rotate_left
       ·
        show Act.put _ (some 22) _ = _
        simp only [Act.put, List.setIfInBounds_toArray, List.set_cons_zero, List.set_cons_succ, i64_w, i32_w]
        rfl
       refine on (i := 5) (N := some 23) #[tt,tt,tt,tt,tt,tt,ff,ff] HT_ (fun K hK => ?_)
       refine Kd.R_append_step k25 (w0 := w) w.heap.size (by rfl) (.tmp 19) (.tmp 22) 23 25 (.agg #[(.int .i64 0), (.int .i64 0), (.slice none 0 0)]) 40 rfl Try.underlying23 info25 rfl (by decide) (by omega) g9 g7 (⟨gW, gX, gY⟩ : S25) [.int .i64 gW, .int .i64 gX, .slice iZ gY.length j3] (fun k_ => k_ ≠ gK ∧ k_ ≠ gD ∧ k_ ≠ gC ∧ k_ ≠ g4) (fun k_ => ((fun k_ => k_ ≠ gK ∧ k_ ≠ gD ∧ k_ ≠ gC ∧ k_ ≠ g4)) k_ ∧ some k_ ≠ (g9 : Value).ownBlock) rfl rfl ?aP (fun _ hk => hk) ?aF ?aO ?aB ?aS ?aL ?_
       (case aP => exact k25_mkM _ _ _ (⟨gW, gX, gY⟩ : S25) (Kd.R_mono (h7.1) mq))
       (case aB => exact bq)
       (case aF => exact (fun k_ hk => ⟨Kd.freshB (g := gK) (o := .cells #[.int .i64 gE, .int .i64 gF, .slice (some h6) g2.length gP] 25 (0, 0)) (kf g5).1 k_ hk, Kd.freshB (g := gD) (o := .cells #[.int .i64 0, .int .i64 0, .slice none 0 0] 25 (0, 0)) (kf g6).1 k_ hk, Kd.freshB (g := gC) (o := .cells #[.int .i64 gE, .int .i64 gF, g9] 25 (0, 0)) (kf g3).1 k_ hk, Kd.freshB (g := g4) (o := .cells #[.int .i64 ((rd_T25 g2 g0).f0), .int .i64 ((rd_T25 g2 g0).f1), .slice gA ((rd_T25 g2 g0).f2).length gB] 25 (0, 0)) (kf g8).1 k_ hk⟩))
       (case aO => exact (by (with_reducible repeat (first | apply Kd.R_alloc | apply Kd.R_drewN | apply Kd.R_drew)); exact Kd.R_mono g1.1 mq))
       (case aS => exact (below_size bq))
       (case aL => have := i2.1; omega)
       intro jW w24 ho hb hg hat
       rw [← i3.1] at ho; have n0_ := kg g5 hg (Kd.R_away g1.1 mq); have n1_ := kg g6 hg (Kd.R_away g1.1 mq); have n2_ := kg g3 hg (Kd.R_away g1.1 mq); have n3_ := kg g8 hg (Kd.R_away g1.1 mq); have n4_ := am (hb); have n5_ := am (ho); clear g5 g6 g3 g8 HB g1 h7; have g5 := n0_; have g6 := n1_; have g3 := n2_; have g8 := n3_; have HB := n4_; have hH := n5_; clear n0_ n1_ n2_ n3_ n4_ n5_ ho hb hg hat
       obtain ⟨i5, i6, i7⟩ := Kd.R_slice hH.1
       (first | subst i7 | (injection i7 with f1_ f2_ f3_; have f4_ := f1_.symm; have f5_ := f3_.symm; clear f1_ f2_ f3_; subst f4_; subst f5_))
       refine hK.out _ _ ⟨(blk_cell g3.1 0).trans rfl, (blk_cell g3.1 1).trans rfl, (blk_cell g3.1 2).trans rfl, (blk_cell g8.1 0).trans rfl, (blk_cell g8.1 1).trans rfl, (blk_cell g8.1 2).trans rfl⟩ (fun hHeld => ?_)
       clear hK K
       refine norm_ (a' := ?_) ?_ ?_
       rotate_left
       ·
        show Act.put _ (some 23) _ = _
        simp only [Act.put, List.setIfInBounds_toArray, List.set_cons_zero, List.set_cons_succ, i64_w, i32_w]
        rfl
       refine pu (i := 6) (N := some 24) #[tt,tt,tt,tt,tt,tt,tt,ff] HT_ ?_
       refine la (i := 7) (N := none) #[tt,tt,tt,tt,tt,tt,tt,tt] HT_ (fun K hK => ?_)
       have jX : w24.cell? ⟨gC, 2, none⟩ = some (g9) := (blk_cell g3.1 2).trans rfl
       have jH := blk_frozen g3.1 2
       have iG := gG.1
       have iH := gI.1
       have iI := gO.1
       have iJ := gH.1
       have iK := gJ.1
       have iL := gN.1
       refine skip_ (w1 := ?_) (by rfl) rfl ?_ ?_
       rotate_left
       ·
        go_simp
        rfl
       refine hK.out _ _ ?_
       clear hK K
       refine done_ (done_of HT_.1 (by kernel_rfl)) ?_
       try go_wp2
       go_roundg k1
       case measure => have := HK1.1; omega
       case rel => exact ⟨(wrap64 (g0 + 1)), (hE), (.slice i5 hE.length i6), rq, H', km, ⟨by (with_reducible repeat (first | apply Kd.R_alloc | apply Kd.R_drewN | apply Kd.R_drew)); exact Kd.R_mono (Kd.R_far (p := ⟨gC, 2, none⟩) (Kd.R_mono hH.1 (fun k_ hk => (⟨hk, hk.2.2.1⟩ : _ ∧ k_ ≠ gC))) mq (.slice i5 hE.length i6)) mq⟩, kf g5, kf g6, kf g3, bw⟩
      ·
       rw [if_neg c15] at H
       exact absurd H (by simp)
     ·
      rw [if_neg c13] at H
      exact absurd H (by simp)
    ·
     rw [if_neg c12] at H
     exact absurd H (by simp)
   ·
    rw [if_neg c11] at H; have c11b0 : decide (g0 < (g2.length : Int)) = false := decide_eq_false c11; clear c11
    simp only [Option.some.injEq, Prod.mk.injEq] at H
    obtain ⟨rfl, rfl, rfl⟩ := H
    have jI := gH.1; have jJ := gG.1; have jK := gJ.1; have jL := gI.1; obtain ⟨iM, iN, iO, iP, iQ, iR⟩ := cs3 g3; have jM := gM.1; have jN := gL.1; obtain ⟨iS, iT, iU, iV, iW, iX⟩ := cs3 g6
    obtain ⟨i8, i9, j4⟩ := Kd.R_slice g1.1
    subst j4
    go_wp2
    refine bodyPost_ret (results_cell_row rfl _ _ gD 25 #[.int .i64 gE, .int .i64 gF, .slice i8 g7.length i9] (0, 0) _ rfl (kf g6).1 Try.underlying25 rfl (by kernel_rfl)) rfl ?_
    exact ⟨_, by first | rfl | (simp [errW_none, errW_some] <;> rfl) | (simp [*, errW_none, errW_some] <;> rfl), by (with_reducible repeat (first | apply Kd.R_alloc | apply Kd.R_drewN | apply Kd.R_drew)); exact Kd.R_mono (Kd.R_far (p := ⟨gD, 2, none⟩) (Kd.R_far (p := ⟨gD, 1, none⟩) (Kd.R_far (p := ⟨gD, 0, none⟩) (Kd.R_mono g1.1 (fun k_ hk => (⟨hk, hk.2.1⟩ : _ ∧ k_ ≠ gD))) mq (.int .i64 gE)) mq (.int .i64 gF)) mq (.slice i8 g7.length i9)) (fun _ hk => trivial), by repeat (first | (with_reducible first | exact HB.1 | apply below_alloc | apply pw_below_drewN | apply below_drew1 | refine below_set ?_ hY.1 | refine below_set ?_ hZ.1 | refine below_set ?_ i0.1) | exact HB.1)⟩
end Go.Proofs.Ytfnmjecofgeboaa.PAll
