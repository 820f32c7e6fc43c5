-- Laid by a program of this session out of the translation's print
import Derived.Test.YtfnmjecofgeboaaPAll0
import Derived.Test.YtfnmjecofgeboaaPAllAb
import Derived.Test.YtfnmjecofgeboaaPAllSmall
import Derived.Test.YtfnmjecofgeboaaPAllImplticksOf
import Derived.Test.YtfnmjecofgeboaaHa2
namespace Go.Proofs.Ytfnmjecofgeboaa.PAll
open Go.RowKit Go.Proofs.YtfnmjecofgeboaaW.PrintWords Go.Proofs.YtfnmjecofgeboaaW.PrintLast Go.Proofs.YtfnmjecofgeboaaW.PrintMore
attribute [local go_sem] max2_int min2_int max_two min_two max_three min_three max_four min_four   -- for this text's walks alone
set_option linter.unusedVariables false
set_option linter.unusedSimpArgs false

/-! ### impl_ClockOk: function 13 -/
def impl_ClockOk.f (k : Nat) (a0_0 : Int) (a0_1 : Int) (l0_2 : List (S25)) : Option (Bool) := (impl_clockNodes.f k a0_0 a0_1 l0_2 16).bind fun t227 => (if t227 ≤ 16 then ((impl_clockShape.f k a0_0 a0_1 l0_2).bind fun t228 => (some t228)) else (some false))
theorem impl_ClockOk.mono : ∀ a0 a1 a2 k, LeO (impl_ClockOk.f k a0 a1 a2) (impl_ClockOk.f (k + 1) a0 a1 a2) := by
 intro a0 a1 a2 k
 unfold impl_ClockOk.f
 repeat' first
   | (with_reducible exact impl_clockNodes.mono _ _ _ _ _)
   | (with_reducible exact impl_clockShape.mono _ _ _ _)
   | (with_reducible exact LeO.refl _)
   | (with_reducible exact LeO.none _)
   | (with_reducible refine LeO.ite ?_ ?_)
   | (with_reducible refine LeO.bind ?_ (fun _ => ?_))
   | exact impl_clockNodes.mono _ _ _ _ _
   | exact impl_clockShape.mono _ _ _ _
   | exact LeO.none _
   | refine LeO.ite ?_ ?_
   | refine LeO.bind ?_ (fun _ => ?_)
set_option maxHeartbeats 8000000 in
set_option maxRecDepth 100000 in
theorem impl_ClockOk.calls (k : Nat) (g2 : Int) (g3 : Int) (g5 : Option Addr) (g6 : Nat) (g1 : List (S25)) (r : Bool) (w : World) (gB : Kd.C k25 w g5 g1.length g1) (gC : g1.length ≤ g6) (h : impl_ClockOk.f k g2 g3 g1 = some r) :
  Calls Try.prog 13 #[.agg #[.int .i64 g2, .int .i64 g3, .slice g5 g1.length g6]] w fun e w' => e = .returned (.bool r) ∧ Below w.heap.size w w' := by
 have gX := Try.underlying25
 have g8 := am gB; have g9 := am gC; clear gB gC; have HB := am (Below.refl w.heap.size w)
 have H : ((impl_clockNodes.f k g2 g3 g1 16).bind fun g4 => (if g4 ≤ 16 then ((impl_clockShape.f k g2 g3 g1).bind fun g7 => (some g7)) else (some false))) = some r := h
 clear h
 replace H := Option.bind_eq_some_iff.mp H
 obtain ⟨g4, A20, H⟩ := H
 replace H : (if g4 ≤ 16 then ((impl_clockShape.f k g2 g3 g1).bind fun g7 => (some g7)) else (some false)) = some r := H
 have A2 := am A20
 clear A20
 by_cases c3 : g4 ≤ 16
 ·
  rw [if_pos c3] at H; have c3b0 : decide (g4 ≤ 16) = true := decide_eq_true c3; clear c3
  replace H := Option.bind_eq_some_iff.mp H
  obtain ⟨g7, A40, H⟩ := H
  replace H : (some g7) = some r := H
  have A4 := am A40
  clear A40
  obtain rfl := Option.some.inj H
  go_enter Try.func13, Try.ntmps13
  go_wp2_with (first | ((with_reducible refine gate_dst (N := 1) rfl ?_); refine bx (cs := #[.int .i64 g2, .int .i64 g3, .slice g5 g1.length g6]) (t := 25) fun gD hg w5 hbox hb => ?_; have g0 := am (hbox); have gE := bz HB hg; have gA := bz HB hg; replace HB := bs HB hb; clear hb hbox hg; obtain ⟨gL, gM, gN, gO, gP, gQ⟩ := cs3 g0) | ((with_reducible refine gate_callee (f := 39) rfl ?_); refine gl (some 4) Try.func39 #[.agg #[.int .i64 g2, .int .i64 g3, .slice g5 g1.length g6], .int .i64 16] ?_; (with_reducible refine (impl_clockNodes.calls k g2 g3 _ _ g1 16 g4 _ ?side1 ?side2 A2.1).mono ?_); (case side1 => exact cq (Kd.C_below g8.1 HB.1)); (case side2 => exact g9.1); rintro e w7 ⟨rfl, hb⟩; refine ⟨_, rfl, ?_⟩; replace g0 := kb g0 hb; replace HB := bs HB hb; clear hb; obtain ⟨gR, gS, gT, gU, gV, gW⟩ := cs3 g0) | (go_at_call 40; (with_reducible refine (impl_clockShape.calls k g2 g3 _ _ g1 g7 _ ?side1 ?side2 A4.1).mono ?_); (case side1 => exact cq (Kd.C_below g8.1 HB.1)); (case side2 => exact g9.1); rintro e w9 ⟨rfl, hb⟩; have n0_ := kb g0 hb; have n1_ := bs HB hb; clear g0 HB; have g0 := n0_; have HB := n1_; clear n0_ n1_ hb))
  go_ret
  exact ⟨by first | rfl | (simp [errW_none, errW_some] <;> rfl) | (simp [*, errW_none, errW_some] <;> rfl), by repeat (first | (with_reducible first | exact HB.1 | apply below_alloc | apply pw_below_drewN | apply below_drew1 | refine below_set ?_ gA.1) | exact HB.1)⟩
 ·
  rw [if_neg c3] at H; have c3b0 : decide (g4 ≤ 16) = false := decide_eq_false c3; clear c3
  obtain rfl := Option.some.inj H
  go_enter Try.func13, Try.ntmps13
  go_wp2_with (first | ((with_reducible refine gate_dst (N := 1) rfl ?_); refine bx (cs := #[.int .i64 g2, .int .i64 g3, .slice g5 g1.length g6]) (t := 25) fun gD hg w10 hbox hb => ?_; have g0 := am (hbox); have gE := bz HB hg; have gA := bz HB hg; replace HB := bs HB hb; clear hb hbox hg; obtain ⟨gF, gG, gH, gI, gJ, gK⟩ := cs3 g0) | ((with_reducible refine gate_callee (f := 39) rfl ?_); refine gl (some 4) Try.func39 #[.agg #[.int .i64 g2, .int .i64 g3, .slice g5 g1.length g6], .int .i64 16] ?_; (with_reducible refine (impl_clockNodes.calls k g2 g3 _ _ g1 16 g4 _ ?side1 ?side2 A2.1).mono ?_); (case side1 => exact cq (Kd.C_below g8.1 HB.1)); (case side2 => exact g9.1); rintro e w12 ⟨rfl, hb⟩; refine ⟨_, rfl, ?_⟩; replace g0 := kb g0 hb; replace HB := bs HB hb; clear hb))
  go_ret
  exact ⟨by first | rfl | (simp [errW_none, errW_some] <;> rfl) | (simp [*, errW_none, errW_some] <;> rfl), by repeat (first | (with_reducible first | exact HB.1 | apply below_alloc | apply pw_below_drewN | apply below_drew1 | refine below_set ?_ gA.1) | exact HB.1)⟩


/-! ### impl_ClockSteps: function 15 -/
def impl_ClockSteps.l0 : Nat → List (S44) → Int → Int → Option ((List (S44)) × Bool)
 | 0, _, _, _ => none
 | k + 1, x4, x12, x13 => if x13 < x12 then (if 0 ≤ x13 then (if x13 < (x4.length : Int) then ((impl_copyClock.f k ((rd_T44 x4 x13).f1.f0) ((rd_T44 x4 x13).f1.f1) ((rd_T44 x4 x13).f1.f2)).bind fun bt324 => (impl_ClockSteps.l0 k (x4.set (x13 : Int).toNat (⟨(rd_T44 x4 x13).f0, (⟨bt324.1, bt324.2.1, bt324.2.2⟩ : S25)⟩ : S44)) x12 (wrap64 (x13 + 1)))) else (none)) else (none)) else (some (x4, true))
def impl_ClockSteps.f (k : Nat) (a0_0 : Int) (a0_1 : Int) (l0_2 : List (S25)) : Option ((List (S44)) × Bool) := (impl_ClockOk.f k a0_0 a0_1 l0_2).bind fun t319 => (if t319 = true then ((impl_ticksOf.f k a0_0 a0_1 l0_2).bind fun t320 => (impl_ClockSteps.l0 k t320 (t320.length : Int) 0)) else (some (([] : List (S44)), false)))
theorem impl_ClockSteps.mono_l : ∀ k, (∀ y0 y1 y2, LeO (impl_ClockSteps.l0 k y0 y1 y2) (impl_ClockSteps.l0 (k + 1) y0 y1 y2))
 | 0 => fun _ _ _ r h => by simp [impl_ClockSteps.l0] at h
 | k + 1 => by
  have ih0 := impl_ClockSteps.mono_l k
  ·
   intro y0 y1 y2
   unfold impl_ClockSteps.l0
   repeat' first
   | (with_reducible exact ih0 _ _ _)
   | (with_reducible exact impl_ClockOk.mono _ _ _ _)
   | (with_reducible exact impl_copyClock.mono _ _ _ _)
   | (with_reducible exact impl_ticksOf.mono _ _ _ _)
   | (with_reducible exact LeO.refl _)
   | (with_reducible exact LeO.none _)
   | (with_reducible refine LeO.ite ?_ ?_)
   | (with_reducible refine LeO.bind ?_ (fun _ => ?_))
   | exact ih0 _ _ _
   | exact impl_ClockOk.mono _ _ _ _
   | exact impl_copyClock.mono _ _ _ _
   | exact impl_ticksOf.mono _ _ _ _
   | exact LeO.none _
   | refine LeO.ite ?_ ?_
   | refine LeO.bind ?_ (fun _ => ?_)
theorem impl_ClockSteps.mono : ∀ a0 a1 a2 k, LeO (impl_ClockSteps.f k a0 a1 a2) (impl_ClockSteps.f (k + 1) a0 a1 a2) := by
 intro a0 a1 a2 k
 have ih0 := impl_ClockSteps.mono_l k
 unfold impl_ClockSteps.f
 repeat' first
   | (with_reducible exact ih0 _ _ _)
   | (with_reducible exact impl_ClockOk.mono _ _ _ _)
   | (with_reducible exact impl_copyClock.mono _ _ _ _)
   | (with_reducible exact impl_ticksOf.mono _ _ _ _)
   | (with_reducible exact LeO.refl _)
   | (with_reducible exact LeO.none _)
   | (with_reducible refine LeO.ite ?_ ?_)
   | (with_reducible refine LeO.bind ?_ (fun _ => ?_))
   | exact ih0 _ _ _
   | exact impl_ClockOk.mono _ _ _ _
   | exact impl_copyClock.mono _ _ _ _
   | exact impl_ticksOf.mono _ _ _ _
   | exact LeO.none _
   | refine LeO.ite ?_ ?_
   | refine LeO.bind ?_ (fun _ => ?_)
set_option maxHeartbeats 8000000 in
set_option maxRecDepth 100000 in
theorem impl_ClockSteps.calls (k : Nat) (gB : Int) (gC : Int) (g5 : Nat → Prop) (gG : Option Addr) (gH : Nat) (g7 : List (S25)) (r1 : List (S44)) (r2 : Bool) (w : World) (i2 : Kd.V k25 25 w w.heap.size (fun k_ => g5 k_) (.slice gG g7.length gH) g7) (h : impl_ClockSteps.f k gB gC g7 = some (r1, r2)) :
  Calls Try.prog 15 #[.agg #[.int .i64 gB, .int .i64 gC, .slice gG g7.length gH]] w fun e w' => ∃ v0_ : Value, e = .returned (.tuple #[v0_, .bool r2]) ∧ Kd.N k44 44 w' w.heap.size (fun k_ => (g5 k_ ∨ w.heap.size ≤ k_)) v0_ r1 ∧ Below w.heap.size w w' := by
 have j8 := Try.underlying25
 have g3 := am (show Kd.V k25 25 w w.heap.size (fun k_ => (g5 k_ ∨ w.heap.size ≤ k_)) (.slice gG g7.length gH) g7 from Kd.V_mono i2 (fun k_ hk => .inl hk)); have HB := am (Below.refl w.heap.size w)
 have H : ((impl_ClockOk.f k gB gC g7).bind fun h2 => (if h2 = true then ((impl_ticksOf.f k gB gC g7).bind fun g8 => (impl_ClockSteps.l0 k g8 (g8.length : Int) 0)) else (some (([] : List (S44)), false)))) = some (r1, r2) := h
 clear h
 replace H := Option.bind_eq_some_iff.mp H
 obtain ⟨h2, A20, H⟩ := H
 replace H : (if h2 = true then ((impl_ticksOf.f k gB gC g7).bind fun g8 => (impl_ClockSteps.l0 k g8 (g8.length : Int) 0)) else (some (([] : List (S44)), false))) = some (r1, r2) := H
 have A2 := am A20
 clear A20
 by_cases c3 : h2 = true
 ·
  subst c3
  have H1 : ((impl_ticksOf.f k gB gC g7).bind fun g8 => (impl_ClockSteps.l0 k g8 (g8.length : Int) 0)) = some (r1, r2) := by rw [if_pos rfl] at H; exact H
  clear H
  have H := H1
  clear H1
  replace H := Option.bind_eq_some_iff.mp H
  obtain ⟨g8, A40, H⟩ := H
  replace H : (impl_ClockSteps.l0 k g8 (g8.length : Int) 0) = some (r1, r2) := H
  have A4 := am A40
  clear A40
  have H' := am H
  clear H
  go_enter Try.func15, Try.ntmps15
  go_wp2_with (first | ((with_reducible refine gate_dst (N := 1) rfl ?_); refine bx (cs := #[.int .i64 gB, .int .i64 gC, .slice gG g7.length gH]) (t := 25) fun g6 hg w5 hbox hb => ?_; replace g3 := vb g3 hg hb; have g2 := am (hbox); have i3 := bz HB hg; have h0 := bz HB hg; replace HB := bs HB hb; clear hb hbox hg; obtain ⟨hB, hC, hD, hE, hF, hG⟩ := cs3 g2) | ((with_reducible refine gate_callee (f := 13) rfl ?_); refine gl (some 7) Try.func13 #[.agg #[.int .i64 gB, .int .i64 gC, .slice gG g7.length gH]] ?_; (with_reducible refine (impl_ClockOk.calls k gB gC _ _ g7 true _ ?side1 ?side2 A2.1).mono ?_); (case side1 => exact cq (Kd.V_reads' g3.1).2.2); (case side2 => exact (Kd.V_reads' g3.1).2.1); rintro e w7 ⟨rfl, hb⟩; refine ⟨_, rfl, ?_⟩; replace g3 := vw g3 hb; replace g2 := kb g2 hb; replace HB := bs HB hb; clear hb; obtain ⟨hH, hI, hJ, hK, hL, hM⟩ := cs3 g2) | ((with_reducible refine gate_callee (f := 43) rfl ?_); refine gl (some 10) Try.func43 #[.agg #[.int .i64 gB, .int .i64 gC, .slice gG g7.length gH]] ?_; (with_reducible refine (impl_ticksOf.calls k gB gC (fun k_ => ((g5 k_ ∨ w.heap.size ≤ k_) ∧ k_ ≠ g6)) _ _ g7 g8 _ ?side1 A4.1).mono ?_); (case side1 => first | exact g3.1 | exact (vg g3).1 | exact (nf g3).1); rintro e w9 ⟨j9, rfl, ho0, hb⟩; refine ⟨_, rfl, ?_⟩; replace g3 := ve g3 hb; have h9 := nm HB ho0 (fun k_ => (g5 k_ ∨ w.heap.size ≤ k_) ∧ k_ ≠ g6) (fun k_ hk_ => ⟨Or.elim hk_ (fun hs_ => hs_.1) (fun hn_ => (.inr (zt HB hn_))), Or.elim hk_ (fun hs_ => hs_.2) (fun hn_ => (fb g2 k_ hn_))⟩); replace g2 := kb g2 hb; replace HB := bs HB hb; clear hb ho0; obtain ⟨i4, gJ, rfl⟩ := Kd.N_slice h9.1))
  go_loopg [13] k (fun kq v13 w' => ∃ (g1 : List (S44)) (g0 : Int), v13 = .int .i64 g0 ∧ Aside0 (impl_ClockSteps.l0 kq g1 (g8.length : Int) g0 = some (r1, r2)) ∧ Aside0 (kq ≤ k) ∧ Aside0 (Kd.N k44 44 w' w.heap.size (fun k_ => (g5 k_ ∨ w.heap.size ≤ k_) ∧ k_ ≠ g6) (.slice i4 g8.length gJ) g1) ∧ Aside0 (Kd.V k25 25 w' w.heap.size (fun k_ => (g5 k_ ∨ w.heap.size ≤ k_) ∧ some k_ ≠ ((.slice i4 g8.length gJ) : Value).ownBlock ∧ k_ ≠ g6) (.slice gG g7.length gH) g7) ∧ Aside0 (w'.heap[g6]? = some (.cells #[.int .i64 gB, .int .i64 gC, (.slice gG g7.length gH)] 25 (0, 0))) ∧ Aside0 (Below w.heap.size w w'))
  case atStart => exact ⟨(g8), (0), rq, H', ⟨Nat.le_refl _⟩, nf h9, vf g3, kf g2, bw⟩
  case round =>
   clear H'; (try clear c1); (try clear p2); (try clear c3); (try clear c4); (try clear hB); (try clear hC); (try clear hD); (try clear hH); (try clear hI); (try clear hJ); (try clear hE); (try clear hF); (try clear hG); (try clear hK); (try clear hL); (try clear hM); (try clear g9); (try clear g4); (try clear g2); (try clear HB)
   obtain ⟨g1, g0, rfl, HA, HK1, g9, g4, g2, HB⟩ := hrel
   have gD := (Kd.N_reads' g9.1).1
   rw [gD] at g9
   (try simp only [gD])
   (try simp only [gD] at g2)
   (try simp only [gD] at g4)
   cases gk with
   | zero => exact absurd HA.1 (by simp [impl_ClockSteps.l0])
   | succ k1 =>
    have H := HA.1
    clear HA
    simp only [impl_ClockSteps.l0] at H
    by_cases c11 : g0 < (g8.length : Int)
    ·
     rw [if_pos c11] at H; have c11b0 : decide (g0 < (g8.length : Int)) = true := decide_eq_true c11; clear c11
     by_cases c12 : 0 ≤ g0
     ·
      rw [if_pos c12] at H; have c12b0 : decide (0 ≤ g0) = true := decide_eq_true c12; clear c12
      by_cases c13 : g0 < (g1.length : Int)
      ·
       rw [if_pos c13] at H; have c13b0 : decide (g0 < (g1.length : Int)) = true := decide_eq_true c13; clear c13
       replace H := Option.bind_eq_some_iff.mp H
       obtain ⟨⟨gT, gU, gI⟩, i5, H⟩ := H
       replace H : (impl_ClockSteps.l0 k1 (g1.set (g0 : Int).toNat (⟨(rd_T44 g1 g0).f0, (⟨gT, gU, gI⟩ : S25)⟩ : S44)) (g8.length : Int) (wrap64 (g0 + 1))) = some (r1, r2) := H
       have A14 := am i5
       clear i5
       obtain ⟨hN, gN⟩ : ∃ y_ : List (S44), y_ = (g1.set (g0 : Int).toNat (⟨(rd_T44 g1 g0).f0, (⟨gT, gU, gI⟩ : S25)⟩ : S44)) := ⟨_, rfl⟩
       replace H : (impl_ClockSteps.l0 k1 hN (g8.length : Int) (wrap64 (g0 + 1))) = some (r1, r2) := by first | (rw [gN]; with_reducible exact H) | (have H2_ := (Option.bind_some _ _).symm.trans H; rw [gN]; with_reducible exact H2_) | (have H2_ := (Option.bind_some _ _).symm.trans H; with_reducible exact H2_) | with_reducible exact H | (rw [gN]; exact H) | exact H
       have i6 := am gN
       clear gN
       have H' := am H
       clear H; have h3 : 0 ≤ (g0 : Int) := od; have h4 : g0 < (g1.length : Int) := od
       obtain ⟨i7, hO, hP, iO, h5, h6, h7, gV, gW, gX⟩ := at_T44 (Kd.N_reads' g9.1).2.2 g0 h3 h4
       cases iO
       obtain ⟨j7, hQ, hR, h1⟩ := Kd.N_get g9.1 z44 g0 h3 (by first | exact h4 | exact od | (have e_ := (Kd.N_reads' g9.1).1; omega))
       obtain ⟨iG, iH, rfl, gK, gL⟩ := k44_openF hR
       have gE := h1 3 _ rfl; rw [add_field _ _ 3 (by omega)] at gE; replace gE := Option.some.inj (gE.symm.trans gV); injection gE with hva_ hvn_ hvc_; rw [hva_] at gL; rw [hvc_] at gK; have gF := am (show Kd.V k25 25 _ w.heap.size _ _ ((rd_T44 g1 g0).f1.f2) from Kd.V_mk gK gL); clear hva_ hvn_ hvc_ gL gK h1 hQ; have gM := am gX; have h8 := am gW; clear gX gW; replace h3 := eq_true h3; replace h4 := eq_true h4
       go_wp2_with (first | ((with_reducible refine gate_callee (f := 44) rfl ?_); refine gl (some 23) Try.func44 #[.agg #[.int .i64 ((rd_T44 g1 g0).f1.f0), .int .i64 ((rd_T44 g1 g0).f1.f1), .slice hO ((rd_T44 g1 g0).f1.f2).length hP]] ?_; (with_reducible refine (impl_copyClock.calls k1 ((rd_T44 g1 g0).f1.f0) ((rd_T44 g1 g0).f1.f1) _ _ ((rd_T44 g1 g0).f1.f2) gT gU gI _ ?side1 ?side2 A14.1).mono ?_); (case side1 => exact cq (cq gM.1)); (case side2 => exact h8.1); rintro e w16 ⟨jA, rfl, ho0, hb⟩; refine ⟨_, rfl, ?_⟩; replace g4 := ve g4 hb; replace gF := ve gF hb; have gY := nm HB (Kd.R_N (Kd.R_bound ho0)) (fun k_ => (g5 k_ ∨ w.heap.size ≤ k_) ∧ some k_ ≠ (.slice (some i7) g1.length gJ : Value).ownBlock ∧ k_ ≠ g6) (fun k_ hk_ => ⟨(.inr (zt HB hk_.2.1)), (fr g9 k_ hk_.2.1), (fb g2 k_ hk_.2.1)⟩); replace g9 := ne g9 hb; replace g2 := kb g2 hb; replace gM := cb gM hb; replace HB := bs HB hb; clear hb ho0; obtain ⟨gO, gP, i8⟩ := Kd.N_slice gY.1; subst i8; have p15 : 0 ≤ (g0 : Int) := od; have q15 : (g0 : Int) < ((g1.length : Int) : Int) := od; obtain ⟨gA, jB, i9, iA, iP, jC, iB⟩ := Kd.N_form g9.1 (by omega); (first | cases i9 | (injection i9 with ea_ en_ ec_; (first | subst ea_ | (injection ea_ with ea_; subst ea_)); subst ec_; clear en_)); have hS := am iA; have jD := am iB; clear iA iP iB; (first | simp only [add_plain] at h5 | skip); (first | simp only [add_plain] at h6 | skip); (first | simp only [add_plain] at h7 | skip); (first | simp only [add_plain] at gV | skip); obtain ⟨jE, iC, iD, gQ, gR⟩ := Kd.N_elem g9.1 z44 (g0 : Int) p15 q15; obtain ⟨hT, hU, rfl, iQ, iR⟩ := k44_openF iD; have iS : w16.cell? ⟨gA, (g0 : Int).toNat * 4, none⟩ = some (.int .i64 ((rd_T44 g1 g0).f0)) := gQ 0 _ rfl; have iT : w16.cell? ⟨gA, (g0 : Int).toNat * 4 + 1, none⟩ = some (.int .i64 ((rd_T44 g1 g0).f1.f0)) := gQ 1 _ rfl; have iU : w16.cell? ⟨gA, (g0 : Int).toNat * 4 + 2, none⟩ = some (.int .i64 ((rd_T44 g1 g0).f1.f1)) := gQ 2 _ rfl; have iV : w16.cell? ⟨gA, (g0 : Int).toNat * 4 + 3, none⟩ = some (.slice hT ((rd_T44 g1 g0).f1.f2).length hU) := gQ 3 _ rfl; have iW : w16.frozen? ⟨gA, (g0 : Int).toNat * 4, none⟩ = false := gR 0; have iX : w16.frozen? ⟨gA, (g0 : Int).toNat * 4 + 1, none⟩ = false := gR 1; have iY : w16.frozen? ⟨gA, (g0 : Int).toNat * 4 + 2, none⟩ = false := gR 2; have iZ : w16.frozen? ⟨gA, (g0 : Int).toNat * 4 + 3, none⟩ = false := gR 3; clear iC gQ gR iD; replace p15 := eq_true p15; replace q15 := eq_true q15; have n_ := am (Kd.N_mono (ok' := (fun k_ => (g5 k_ ∨ w.heap.size ≤ k_) ∧ some k_ ≠ ((.slice gO gI.length gP) : Value).ownBlock ∧ k_ ≠ g6)) g9.1 mq); clear g9; have g9 := n_; clear n_; have iE := am (show Kd.N k44 44 w16 w.heap.size (fun k_ => (g5 k_ ∨ w.heap.size ≤ k_) ∧ k_ ≠ g6) (.slice (some ⟨gA, 0, none⟩) g1.length gJ) g1 from (nf g9).1); obtain ⟨jF, hA, iF, gS, gZ⟩ := Kd.N_elem iE.1 z44 (g0 : Int) (od) (by have h_ : (g0 : Int) < ((g1.length : Int) : Int) := od; first | exact h_ | (have e_ := (Kd.N_reads' g9.1).1; omega) | simpa using h_); obtain ⟨j3, j4, rfl, j5, j6⟩ := k44_openF iF; have hV := Kd.N_seg iE.1 (g0 : Int) (od) (by have h_ : (g0 : Int) < ((g1.length : Int) : Int) := od; first | exact h_ | (have e_ := (Kd.N_reads' g9.1).1; omega) | simpa using h_) (seg := [.int .i64 gT, .int .i64 gU, (.slice gO gI.length gP)]) (j := 1) hA gS (show 4 ≤ 4 from by decide) (x' := (⟨(rd_T44 g1 g0).f0, (⟨gT, gU, gI⟩ : S25)⟩ : S44)) (k44_mkF _ _ (⟨(rd_T44 g1 g0).f0, (⟨gT, gU, gI⟩ : S25)⟩ : S44) (Kd.N_reads' (Kd.N_mono (ok' := (fun k_ => ((fun k_ => (g5 k_ ∨ w.heap.size ≤ k_) ∧ k_ ≠ g6)) k_ ∧ k_ ≠ gA)) (gY.1) (fun k_ hk => ⟨⟨hk.1, hk.2.2⟩, fun e_ => (hk.2.1) (by rw [e_]; rfl)⟩))).2.1 (Kd.N_F (Kd.N_mono (ok' := (fun k_ => ((fun k_ => (g5 k_ ∨ w.heap.size ≤ k_) ∧ k_ ≠ g6)) k_ ∧ k_ ≠ gA)) (gY.1) (fun k_ hk => ⟨⟨hk.1, hk.2.2⟩, fun e_ => (hk.2.1) (by rw [e_]; rfl)⟩)))) (fun _ hk => hk); have hW := gS 1 _ rfl; (try simp only [show (k44).sz = 4 from rfl, Nat.mul_one, Nat.add_zero] at hW); have hX := gZ 1; (try simp only [show (k44).sz = 4 from rfl, Nat.mul_one, Nat.add_zero] at hX); have hY := gS 2 _ rfl; (try simp only [show (k44).sz = 4 from rfl, Nat.mul_one, Nat.add_zero] at hY); have hZ := gZ 2; (try simp only [show (k44).sz = 4 from rfl, Nat.mul_one, Nat.add_zero] at hZ); have i0 := gS 3 _ rfl; (try simp only [show (k44).sz = 4 from rfl, Nat.mul_one, Nat.add_zero] at i0); have i1 := gZ 3; (try simp only [show (k44).sz = 4 from rfl, Nat.mul_one, Nat.add_zero] at i1); clear hA gS gZ iF) | ((with_reducible refine gate_store (t := 25) (p := 25) rfl ?_); refine se (((w16.setCell ⟨gA, (g0 : Int).toNat * 4 + 1, none⟩ (.int .i64 gT)).setCell ⟨gA, (g0 : Int).toNat * 4 + 2, none⟩ (.int .i64 gU)).setCell ⟨gA, (g0 : Int).toNat * 4 + 3, none⟩ ((.slice gO gI.length gP))) fun w18 hw => ?_; have hg : w16.grownBy w18 (some gA) := (by rw [hw]; exact hV.2); have hp_ : Kd.N k44 44 w18 w.heap.size (fun k_ => (g5 k_ ∨ w.heap.size ≤ k_) ∧ k_ ≠ g6) (.slice (some ⟨gA, 0, none⟩) g1.length gJ) hN := (by rw [hw, i6.1]; exact hV.1); clear hV; replace g4 := am (Kd.V_afterv (v := (.slice (some ⟨gA, 0, none⟩) g1.length gJ)) (v1 := (.slice (some ⟨gA, 0, none⟩) g1.length gJ)) (ok := (fun k_ => (g5 k_ ∨ w.heap.size ≤ k_) ∧ some k_ ≠ ((.slice gO gI.length gP) : Value).ownBlock ∧ k_ ≠ g6)) (vf g4).1 hg (.inl rfl)); replace g2 := kg g2 hg (Kd.N_ne g9.1 g2.1 (by decide)); replace g9 := am (hp_); replace gF := am (Kd.V_afterv (v := (.slice (some ⟨gA, 0, none⟩) g1.length gJ)) (v1 := (.slice (some ⟨gA, 0, none⟩) g1.length gJ)) (ok := (fun k_ => (g5 k_ ∨ w.heap.size ≤ k_) ∧ some k_ ≠ ((.slice gO gI.length gP) : Value).ownBlock ∧ k_ ≠ g6)) (vf gF).1 hg (.inl rfl)); replace HB := am ((by rw [hw]; exact below_set (below_set (below_set (HB.1) hS.1) hS.1) hS.1 : Below w.heap.size w w18)); clear gY hg hw hp_))
       (try simp only [← gD])
       go_roundg k1
       case measure => have := HK1.1; omega
       case rel => exact ⟨(hN), (wrap64 (g0 + 1)), rq, H', km, ⟨by (try simp only [gD]); (with_reducible repeat (first | apply Kd.N_alloc | apply Kd.N_drewN | apply Kd.N_drew)); exact g9.1⟩, ⟨by (try simp only [gD]); (with_reducible repeat (first | apply Kd.V_alloc | apply Kd.V_drewN | apply Kd.V_drew)); exact Kd.V_mono g4.1 mq⟩, ⟨by (try simp only [gD]); (with_reducible repeat (first | refine blk_drewN ?_ _ | refine blk_drew ?_ | refine blk_alloc ?_ _)); exact g2.1⟩, bw⟩
      ·
       rw [if_neg c13] at H
       exact absurd H (by simp)
     ·
      rw [if_neg c12] at H
      exact absurd H (by simp)
    ·
     rw [if_neg c11] at H; have c11b0 : decide (g0 < (g8.length : Int)) = false := decide_eq_false c11
     (try simp only [gD] at c11b0)
     clear c11
     simp only [Option.some.injEq, Prod.mk.injEq] at H
     obtain ⟨rfl, rfl⟩ := H
     go_wp2
     go_ret2
     exact ⟨_, by first | rfl | (simp [errW_none, errW_some] <;> rfl) | (simp [*, errW_none, errW_some] <;> rfl), by (with_reducible repeat (first | apply Kd.N_alloc | apply Kd.N_drewN | apply Kd.N_drew)); exact Kd.N_mono g9.1 mq, by repeat (first | (with_reducible first | exact HB.1 | apply below_alloc | apply pw_below_drewN | apply below_drew1 | refine below_set ?_ h0.1) | exact HB.1)⟩
 ·
  replace c3 := Bool.eq_false_iff.mpr c3
  subst c3
  have H1 : (some (([] : List (S44)), false)) = some (r1, r2) := by rw [if_neg (show ¬ (false = true) by decide)] at H; exact H
  clear H
  have H := H1
  clear H1
  simp only [Option.some.injEq, Prod.mk.injEq] at H
  obtain ⟨rfl, rfl⟩ := H
  go_enter Try.func15, Try.ntmps15
  go_wp2_with (first | ((with_reducible refine gate_dst (N := 1) rfl ?_); refine bx (cs := #[.int .i64 gB, .int .i64 gC, .slice gG g7.length gH]) (t := 25) fun g6 hg w19 hbox hb => ?_; replace g3 := vb g3 hg hb; have g2 := am (hbox); have i3 := bz HB hg; have h0 := bz HB hg; replace HB := bs HB hb; clear hb hbox hg; obtain ⟨iI, iJ, iK, iL, iM, iN⟩ := cs3 g2) | ((with_reducible refine gate_callee (f := 13) rfl ?_); refine gl (some 7) Try.func13 #[.agg #[.int .i64 gB, .int .i64 gC, .slice gG g7.length gH]] ?_; (with_reducible refine (impl_ClockOk.calls k gB gC _ _ g7 false _ ?side1 ?side2 A2.1).mono ?_); (case side1 => exact cq (Kd.V_reads' g3.1).2.2); (case side2 => exact (Kd.V_reads' g3.1).2.1); rintro e w21 ⟨rfl, hb⟩; refine ⟨_, rfl, ?_⟩; replace g3 := vw g3 hb; replace g2 := kb g2 hb; replace HB := bs HB hb; clear hb))
  go_ret2
  exact ⟨_, by first | rfl | (simp [errW_none, errW_some] <;> rfl) | (simp [*, errW_none, errW_some] <;> rfl), by first | exact Kd.R_nil _ _ _ _ _ | exact Kd.N_nil _ _ _ _ _ | exact Kd.V_nil _ _ _ _ _ | exact Kd.Q_nil _ _ _ _ _ | exact Kd.S_nil _ _ _ _ _, by repeat (first | (with_reducible first | exact HB.1 | apply below_alloc | apply pw_below_drewN | apply below_drew1 | refine below_set ?_ h0.1) | exact HB.1)⟩

-- NOT PRINTED: function 68 (impl_Tick_68)
end Go.Proofs.Ytfnmjecofgeboaa.PAll
