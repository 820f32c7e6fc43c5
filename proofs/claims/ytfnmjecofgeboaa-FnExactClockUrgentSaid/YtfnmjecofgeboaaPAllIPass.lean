-- Laid by a program of this session out of the translation's print
import Derived.Test.YtfnmjecofgeboaaPAll0
import Derived.Test.YtfnmjecofgeboaaPAllAb
import Derived.Test.YtfnmjecofgeboaaPAllIOk
import Derived.Test.YtfnmjecofgeboaaPAllSmall
import Derived.Test.YtfnmjecofgeboaaPAllImplpass
namespace Go.Proofs.Ytfnmjecofgeboaa.PAll
open Go.RowKit Go.Proofs.YtfnmjecofgeboaaW.PrintWords Go.Proofs.YtfnmjecofgeboaaW.PrintLast Go.Proofs.YtfnmjecofgeboaaW.PrintMore
attribute [local go_sem] max2_int min2_int max_two min_two max_three min_three max_four min_four   -- for this text's walks alone
set_option linter.unusedVariables false
set_option linter.unusedSimpArgs false

/-! ### impl_ClockUrgent: function 16 -/
def impl_ClockUrgent.l0 : Nat → Int → Int → Int → List (S25) → Option (Int)
 | 0, _, _, _, _ => none
 | k + 1, x3, x388000, x388001, x388002 => if x3 < 100 then ((impl_pass.f k x388000 x388001 x388002).bind fun bt389 => (if bt389.2.2.2 = true then (impl_ClockUrgent.l0 k (wrap64 (x3 + 1)) bt389.1 bt389.2.1 bt389.2.2.1) else (some x3))) else (some x3)
def impl_ClockUrgent.f (k : Nat) (a0_0 : Int) (a0_1 : Int) (l0_2 : List (S25)) : Option (Int) := (impl_ClockOk.f k a0_0 a0_1 l0_2).bind fun t388 => (if t388 = true then (impl_ClockUrgent.l0 k 0 a0_0 a0_1 l0_2) else (some (-1)))
theorem impl_ClockUrgent.mono_l : ∀ k, (∀ y0 y1 y2 y3, LeO (impl_ClockUrgent.l0 k y0 y1 y2 y3) (impl_ClockUrgent.l0 (k + 1) y0 y1 y2 y3))
 | 0 => fun _ _ _ _ r h => by simp [impl_ClockUrgent.l0] at h
 | k + 1 => by
  have ih0 := impl_ClockUrgent.mono_l k
  ·
   intro y0 y1 y2 y3
   unfold impl_ClockUrgent.l0
   repeat' first
   | (with_reducible exact ih0 _ _ _ _)
   | (with_reducible exact impl_ClockOk.mono _ _ _ _)
   | (with_reducible exact impl_pass.mono _ _ _ _)
   | (with_reducible exact LeO.refl _)
   | (with_reducible exact LeO.none _)
   | (with_reducible refine LeO.ite ?_ ?_)
   | (with_reducible refine LeO.bind ?_ (fun _ => ?_))
   | exact ih0 _ _ _ _
   | exact impl_ClockOk.mono _ _ _ _
   | exact impl_pass.mono _ _ _ _
   | exact LeO.none _
   | refine LeO.ite ?_ ?_
   | refine LeO.bind ?_ (fun _ => ?_)
theorem impl_ClockUrgent.mono : ∀ a0 a1 a2 k, LeO (impl_ClockUrgent.f k a0 a1 a2) (impl_ClockUrgent.f (k + 1) a0 a1 a2) := by
 intro a0 a1 a2 k
 have ih0 := impl_ClockUrgent.mono_l k
 unfold impl_ClockUrgent.f
 repeat' first
   | (with_reducible exact ih0 _ _ _ _)
   | (with_reducible exact impl_ClockOk.mono _ _ _ _)
   | (with_reducible exact impl_pass.mono _ _ _ _)
   | (with_reducible exact LeO.refl _)
   | (with_reducible exact LeO.none _)
   | (with_reducible refine LeO.ite ?_ ?_)
   | (with_reducible refine LeO.bind ?_ (fun _ => ?_))
   | exact ih0 _ _ _ _
   | exact impl_ClockOk.mono _ _ _ _
   | exact impl_pass.mono _ _ _ _
   | exact LeO.none _
   | refine LeO.ite ?_ ?_
   | refine LeO.bind ?_ (fun _ => ?_)
set_option maxHeartbeats 8000000 in
set_option maxRecDepth 100000 in
theorem impl_ClockUrgent.calls (k : Nat) (g7 : Int) (g8 : Int) (gC : Nat → Prop) (gG : Option Addr) (gH : Nat) (g6 : List (S25)) (r : Int) (w : World) (gV : Kd.V k25 25 w w.heap.size (fun k_ => gC k_) (.slice gG g6.length gH) g6) (h : impl_ClockUrgent.f k g7 g8 g6 = some r) :
  Calls Try.prog 16 #[.agg #[.int .i64 g7, .int .i64 g8, .slice gG g6.length gH]] w fun e w' => e = .returned (.int .i64 r) ∧ Below w.heap.size w w' := by
 have iD := Try.underlying25
 have g5 := am (show Kd.V k25 25 w w.heap.size (fun k_ => (gC k_ ∨ w.heap.size ≤ k_)) (.slice gG g6.length gH) g6 from Kd.V_mono gV (fun k_ hk => .inl hk)); have HB := am (Below.refl w.heap.size w)
 have H : ((impl_ClockOk.f k g7 g8 g6).bind fun gN => (if gN = true then (impl_ClockUrgent.l0 k 0 g7 g8 g6) else (some (-1)))) = some r := h
 clear h
 replace H := Option.bind_eq_some_iff.mp H
 obtain ⟨gN, A20, H⟩ := H
 replace H : (if gN = true then (impl_ClockUrgent.l0 k 0 g7 g8 g6) else (some (-1))) = some r := H
 have A2 := am A20
 clear A20
 by_cases c3 : gN = true
 ·
  subst c3
  have H1 : (impl_ClockUrgent.l0 k 0 g7 g8 g6) = some r := by rw [if_pos rfl] at H; exact H
  clear H
  have H := H1
  clear H1
  have H' := am H
  clear H
  go_enter Try.func16, Try.ntmps16
  go_wp2_with (first | ((with_reducible refine gate_dst (N := 1) rfl ?_); refine bx (cs := #[.int .i64 g7, .int .i64 g8, .slice gG g6.length gH]) (t := 25) fun gD hg w4 hbox hb => ?_; replace g5 := vb g5 hg hb; have g1 := am (hbox); have gW := bz HB hg; have gI := bz HB hg; replace HB := bs HB hb; clear hb hbox hg; obtain ⟨gP, gQ, gR, gS, gT, gU⟩ := cs3 g1) | ((with_reducible refine gate_callee (f := 13) rfl ?_); refine gl (some 7) Try.func13 #[.agg #[.int .i64 g7, .int .i64 g8, .slice gG g6.length gH]] ?_; (with_reducible refine (impl_ClockOk.calls k g7 g8 _ _ g6 true _ ?side1 ?side2 A2.1).mono ?_); (case side1 => exact cq (Kd.V_reads' g5.1).2.2); (case side2 => exact (Kd.V_reads' g5.1).2.1); rintro e w6 ⟨rfl, hb⟩; refine ⟨_, rfl, ?_⟩; replace g5 := vw g5 hb; replace g1 := kb g1 hb; replace HB := bs HB hb; clear hb))
  go_loopg [3] k (fun kq v3 w' => ∃ (gE : Int) (g2 : Int) (g3 : Int) (g4 : List (S25)) (gF : Value), v3 = .int .i64 gE ∧ Aside0 (impl_ClockUrgent.l0 kq gE g2 g3 g4 = some r) ∧ Aside0 (kq ≤ k) ∧ Aside0 (Kd.V k25 25 w' w.heap.size (fun k_ => (gC k_ ∨ w.heap.size ≤ k_) ∧ k_ ≠ gD) gF g4) ∧ Aside0 (w'.heap[gD]? = some (.cells #[.int .i64 g2, .int .i64 g3, gF] 25 (0, 0))) ∧ Aside0 (Below w.heap.size w w'))
  case atStart => exact ⟨(0), (g7), (g8), (g6), (.slice gG g6.length gH), rq, H', ⟨Nat.le_refl _⟩, vf g5, kf g1, bw⟩
  case round =>
   clear H'; (try clear c1); (try clear p2); (try clear c3); (try clear gP); (try clear gQ); (try clear gR); (try clear gS); (try clear gT); (try clear gU); (try clear g0); (try clear g1); (try clear HB)
   obtain ⟨gE, g2, g3, g4, gF, rfl, HA, HK1, g0, g1, HB⟩ := hrel
   cases gk with
   | zero => exact absurd HA.1 (by simp [impl_ClockUrgent.l0])
   | succ k1 =>
    have H := HA.1
    clear HA
    simp only [impl_ClockUrgent.l0] at H
    by_cases c7 : gE < 100
    ·
     rw [if_pos c7] at H; have c7b0 : decide (gE < 100) = true := decide_eq_true c7; clear c7
     replace H := Option.bind_eq_some_iff.mp H
     obtain ⟨⟨gK, gL, gJ, gX⟩, A80, H⟩ := H
     replace H : (if gX = true then (impl_ClockUrgent.l0 k1 (wrap64 (gE + 1)) gK gL gJ) else (some gE)) = some r := H
     have A8 := am A80
     clear A80
     by_cases c9 : gX = true
     ·
      subst c9
      have H1 : (impl_ClockUrgent.l0 k1 (wrap64 (gE + 1)) gK gL gJ) = some r := by rw [if_pos rfl] at H; exact H
      clear H
      have H := H1
      clear H1
      have H' := am H
      clear H; obtain ⟨h0, h1, h2, h3, h4, h5⟩ := cs3 g1
      obtain ⟨i0, i1, i2⟩ := Kd.V_slice g0.1
      subst i2
      go_wp2_with (first | ((with_reducible refine gate_callee (f := 45) rfl ?_); refine gl (some 13) Try.func45 #[.agg #[.int .i64 g2, .int .i64 g3, .slice i0 g4.length i1]] ?_; (with_reducible refine (impl_pass.calls k1 g2 g3 (fun k_ => ((gC k_ ∨ w.heap.size ≤ k_) ∧ k_ ≠ gD)) _ _ g4 gK gL gJ true _ ?side1 A8.1).mono ?_); (case side1 => first | exact g0.1 | exact (vg g0).1 | exact (nf g0).1); rintro e w12 ⟨i3, rfl, ho0, hb⟩; refine ⟨_, rfl, ?_⟩; replace g0 := ve g0 hb; have gB := nm HB ho0 (fun k_ => (gC k_ ∨ w.heap.size ≤ k_) ∧ k_ ≠ gD) (fun k_ hk_ => ⟨Or.elim hk_ (fun hs_ => hs_.1) (fun hn_ => (.inr (zt HB hn_))), Or.elim hk_ (fun hs_ => hs_.2) (fun hn_ => (fb g1 k_ hn_))⟩); replace g1 := kb g1 hb; replace HB := bs HB hb; clear hb ho0) | ((with_reducible refine gate_dst (N := 4) rfl ?_); refine bx (cs := #[.int .i64 0, .int .i64 0, .slice none 0 0]) (t := 25) fun gY hg w13 hbox hb => ?_; replace g0 := vb g0 hg hb; replace gB := nb gB hg hb; have gM := am (hbox); have gZ := bz HB hg; have gO := bz HB hg; replace HB := bs HB hb; have g9 := nl g1 hg; have gA := ng g1 hg; replace g1 := kb g1 hb; clear hb hbox hg; have i9 := gA.1; have iA := g9.1; obtain ⟨h6, h7, h8, h9, hA, hB⟩ := cs3 gM; obtain ⟨i4, i5, rfl⟩ := Kd.N_slice gB.1; obtain ⟨hC, hD, hE, hF, hG, hH⟩ := cs3 g1))
      go_roundg k1
      case measure => have := HK1.1; omega
      case rel => exact ⟨(wrap64 (gE + 1)), (gK), (gL), (gJ), (.slice i4 gJ.length i5), rq, H', km, ⟨Kd.N_V (nf gB).1⟩, kf g1, bw⟩
     ·
      replace c9 := Bool.eq_false_iff.mpr c9
      subst c9
      have H1 : (some gE) = some r := by rw [if_neg (show ¬ (false = true) by decide)] at H; exact H
      clear H
      have H := H1
      clear H1
      obtain rfl := Option.some.inj H
      obtain ⟨hI, hJ, hK, hL, hM, hN⟩ := cs3 g1
      obtain ⟨i6, i7, i8⟩ := Kd.V_slice g0.1
      subst i8
      go_wp2_with (first | ((with_reducible refine gate_callee (f := 45) rfl ?_); refine gl (some 13) Try.func45 #[.agg #[.int .i64 g2, .int .i64 g3, .slice i6 g4.length i7]] ?_; (with_reducible refine (impl_pass.calls k1 g2 g3 (fun k_ => ((gC k_ ∨ w.heap.size ≤ k_) ∧ k_ ≠ gD)) _ _ g4 gK gL gJ false _ ?side1 A8.1).mono ?_); (case side1 => first | exact g0.1 | exact (vg g0).1 | exact (nf g0).1); rintro e w20 ⟨i3, rfl, ho0, hb⟩; refine ⟨_, rfl, ?_⟩; replace g0 := ve g0 hb; have gB := nm HB ho0 (fun k_ => (gC k_ ∨ w.heap.size ≤ k_) ∧ k_ ≠ gD) (fun k_ hk_ => ⟨Or.elim hk_ (fun hs_ => hs_.1) (fun hn_ => (.inr (zt HB hn_))), Or.elim hk_ (fun hs_ => hs_.2) (fun hn_ => (fb g1 k_ hn_))⟩); replace g1 := kb g1 hb; replace HB := bs HB hb; clear hb ho0) | ((with_reducible refine gate_dst (N := 4) rfl ?_); refine bx (cs := #[.int .i64 0, .int .i64 0, .slice none 0 0]) (t := 25) fun gY hg w21 hbox hb => ?_; replace g0 := vb g0 hg hb; replace gB := nb gB hg hb; have gM := am (hbox); have gZ := bz HB hg; have gO := bz HB hg; replace HB := bs HB hb; have g9 := nl g1 hg; have gA := ng g1 hg; replace g1 := kb g1 hb; clear hb hbox hg; have iB := gA.1; have iC := g9.1; obtain ⟨hO, hP, hQ, hR, hS, hT⟩ := cs3 gM; obtain ⟨iE, iF, rfl⟩ := Kd.N_slice gB.1))
      go_ret
      exact ⟨by first | rfl | (simp [errW_none, errW_some] <;> rfl) | (simp [*, errW_none, errW_some] <;> rfl), by repeat (first | (with_reducible first | exact HB.1 | apply below_alloc | apply pw_below_drewN | apply below_drew1 | refine below_set ?_ gI.1 | refine below_set ?_ gO.1) | exact HB.1)⟩
    ·
     rw [if_neg c7] at H; have c7b0 : decide (gE < 100) = false := decide_eq_false c7; clear c7
     obtain rfl := Option.some.inj H
     go_wp2
     go_ret
     exact ⟨by first | rfl | (simp [errW_none, errW_some] <;> rfl) | (simp [*, errW_none, errW_some] <;> rfl), by repeat (first | (with_reducible first | exact HB.1 | apply below_alloc | apply pw_below_drewN | apply below_drew1 | refine below_set ?_ gI.1) | exact HB.1)⟩
 ·
  replace c3 := Bool.eq_false_iff.mpr c3
  subst c3
  have H1 : (some (-1)) = some r := by rw [if_neg (show ¬ (false = true) by decide)] at H; exact H
  clear H
  have H := H1
  clear H1
  obtain rfl := Option.some.inj H
  go_enter Try.func16, Try.ntmps16
  go_wp2_with (first | ((with_reducible refine gate_dst (N := 1) rfl ?_); refine bx (cs := #[.int .i64 g7, .int .i64 g8, .slice gG g6.length gH]) (t := 25) fun gD hg w25 hbox hb => ?_; replace g5 := vb g5 hg hb; have g1 := am (hbox); have gW := bz HB hg; have gI := bz HB hg; replace HB := bs HB hb; clear hb hbox hg; obtain ⟨hU, hV, hW, hX, hY, hZ⟩ := cs3 g1) | ((with_reducible refine gate_callee (f := 13) rfl ?_); refine gl (some 7) Try.func13 #[.agg #[.int .i64 g7, .int .i64 g8, .slice gG g6.length gH]] ?_; (with_reducible refine (impl_ClockOk.calls k g7 g8 _ _ g6 false _ ?side1 ?side2 A2.1).mono ?_); (case side1 => exact cq (Kd.V_reads' g5.1).2.2); (case side2 => exact (Kd.V_reads' g5.1).2.1); rintro e w27 ⟨rfl, hb⟩; refine ⟨_, rfl, ?_⟩; replace g5 := vw g5 hb; replace g1 := kb g1 hb; replace HB := bs HB hb; clear hb))
  go_ret
  exact ⟨by first | rfl | (simp [errW_none, errW_some] <;> rfl) | (simp [*, errW_none, errW_some] <;> rfl), by repeat (first | (with_reducible first | exact HB.1 | apply below_alloc | apply pw_below_drewN | apply below_drew1 | refine below_set ?_ gI.1) | exact HB.1)⟩



/-! ### impl_ClockPass: function 24 -/
def impl_ClockPass.f (k : Nat) (a0_0 : Int) (a0_1 : Int) (l0_2 : List (S25)) : Option (Int × Int × (List (S25)) × Bool) := (impl_ClockOk.f k a0_0 a0_1 l0_2).bind fun t527 => (if t527 = true then ((impl_pass.f k a0_0 a0_1 l0_2).bind fun bt528 => (if bt528.2.2.2 = true then (some (bt528.1, bt528.2.1, bt528.2.2.1, true)) else (some (0, 0, ([] : List (S25)), false)))) else (some (0, 0, ([] : List (S25)), false)))
theorem impl_ClockPass.mono : ∀ a0 a1 a2 k, LeO (impl_ClockPass.f k a0 a1 a2) (impl_ClockPass.f (k + 1) a0 a1 a2) := by
 intro a0 a1 a2 k
 unfold impl_ClockPass.f
 repeat' first
   | (with_reducible exact impl_ClockOk.mono _ _ _ _)
   | (with_reducible exact impl_pass.mono _ _ _ _)
   | (with_reducible exact LeO.refl _)
   | (with_reducible exact LeO.none _)
   | (with_reducible refine LeO.ite ?_ ?_)
   | (with_reducible refine LeO.bind ?_ (fun _ => ?_))
   | exact impl_ClockOk.mono _ _ _ _
   | exact impl_pass.mono _ _ _ _
   | exact LeO.none _
   | refine LeO.ite ?_ ?_
   | refine LeO.bind ?_ (fun _ => ?_)
set_option maxHeartbeats 8000000 in
set_option maxRecDepth 100000 in
theorem impl_ClockPass.calls (k : Nat) (g8 : Int) (g9 : Int) (gF : Nat → Prop) (gG : Option Addr) (gH : Nat) (g3 : List (S25)) (r1 : Int) (r2 : Int) (r3 : List (S25)) (r4 : Bool) (w : World) (gW : Kd.V k25 25 w w.heap.size (fun k_ => gF k_) (.slice gG g3.length gH) g3) (h : impl_ClockPass.f k g8 g9 g3 = some (r1, r2, r3, r4)) :
  Calls Try.prog 24 #[.agg #[.int .i64 g8, .int .i64 g9, .slice gG g3.length gH]] w fun e w' => ∃ v2_ : Value, e = .returned (.tuple #[.agg #[.int .i64 r1, .int .i64 r2, v2_], .bool r4]) ∧ Kd.N k25 25 w' w.heap.size (fun k_ => (gF k_ ∨ w.heap.size ≤ k_)) v2_ r3 ∧ Below w.heap.size w w' := by
 have j3 := Try.underlying25
 have g1 := am (show Kd.V k25 25 w w.heap.size (fun k_ => (gF k_ ∨ w.heap.size ≤ k_)) (.slice gG g3.length gH) g3 from Kd.V_mono gW (fun k_ hk => .inl hk)); have HB := am (Below.refl w.heap.size w)
 have H : ((impl_ClockOk.f k g8 g9 g3).bind fun gR => (if gR = true then ((impl_pass.f k g8 g9 g3).bind fun g4 => (if g4.2.2.2 = true then (some (g4.1, g4.2.1, g4.2.2.1, true)) else (some (0, 0, ([] : List (S25)), false)))) else (some (0, 0, ([] : List (S25)), false)))) = some (r1, r2, r3, r4) := h
 clear h
 replace H := Option.bind_eq_some_iff.mp H
 obtain ⟨gR, A20, H⟩ := H
 replace H : (if gR = true then ((impl_pass.f k g8 g9 g3).bind fun g4 => (if g4.2.2.2 = true then (some (g4.1, g4.2.1, g4.2.2.1, true)) else (some (0, 0, ([] : List (S25)), false)))) else (some (0, 0, ([] : List (S25)), false))) = some (r1, r2, r3, r4) := H
 have A2 := am A20
 clear A20
 by_cases c3 : gR = true
 ·
  subst c3
  have H1 : ((impl_pass.f k g8 g9 g3).bind fun g4 => (if g4.2.2.2 = true then (some (g4.1, g4.2.1, g4.2.2.1, true)) else (some (0, 0, ([] : List (S25)), false)))) = some (r1, r2, r3, r4) := by rw [if_pos rfl] at H; exact H
  clear H
  have H := H1
  clear H1
  replace H := Option.bind_eq_some_iff.mp H
  obtain ⟨⟨gM, gN, gO, gX⟩, A40, H⟩ := H
  replace H : (if gX = true then (some (gM, gN, gO, true)) else (some (0, 0, ([] : List (S25)), false))) = some (r1, r2, r3, r4) := H
  have A4 := am A40
  clear A40
  by_cases c5 : gX = true
  ·
   subst c5
   have H1 : (some (gM, gN, gO, true)) = some (r1, r2, r3, r4) := by rw [if_pos rfl] at H; exact H
   clear H
   have H := H1
   clear H1
   simp only [Option.some.injEq, Prod.mk.injEq] at H
   obtain ⟨rfl, rfl, rfl, rfl⟩ := H
   go_enter Try.func24, Try.ntmps24
   go_wp2_with (first | ((with_reducible refine gate_dst (N := 1) rfl ?_); refine bx (cs := #[.int .i64 g8, .int .i64 g9, .slice gG g3.length gH]) (t := 25) fun gI hg w6 hbox hb => ?_; replace g1 := vb g1 hg hb; have g0 := am (hbox); have gS := bz HB hg; have gJ := bz HB hg; replace HB := bs HB hb; clear hb hbox hg) | ((with_reducible refine gate_dst (N := 2) rfl ?_); refine bx (cs := #[.int .i64 0, .int .i64 0, .slice none 0 0]) (t := 25) fun g5 hg w7 hbox hb => ?_; replace g1 := vb g1 hg hb; have g2 := am (hbox); have gT := bz HB hg; have gK := bz HB hg; replace HB := bs HB hb; have g6 := nl g0 hg; have g7 := ng g0 hg; replace g0 := kb g0 hb; clear hb hbox hg; have j4 := g6.1; have j5 := g7.1; obtain ⟨iH, iI, iJ, iK, iL, iM⟩ := cs3 g0) | ((with_reducible refine gate_callee (f := 13) rfl ?_); refine gl (some 7) Try.func13 #[.agg #[.int .i64 g8, .int .i64 g9, .slice gG g3.length gH]] ?_; (with_reducible refine (impl_ClockOk.calls k g8 g9 _ _ g3 true _ ?side1 ?side2 A2.1).mono ?_); (case side1 => exact cq (Kd.V_reads' g1.1).2.2); (case side2 => exact (Kd.V_reads' g1.1).2.1); rintro e w10 ⟨rfl, hb⟩; refine ⟨_, rfl, ?_⟩; replace g1 := vw g1 hb; replace g0 := kb g0 hb; replace g2 := kb g2 hb; replace HB := bs HB hb; clear hb; obtain ⟨gZ, h0, h1, h2, h3, h4⟩ := cs3 g0) | ((with_reducible refine gate_callee (f := 45) rfl ?_); refine gl (some 12) Try.func45 #[.agg #[.int .i64 g8, .int .i64 g9, .slice gG g3.length gH]] ?_; (with_reducible refine (impl_pass.calls k g8 g9 (fun k_ => (((gF k_ ∨ w.heap.size ≤ k_) ∧ k_ ≠ gI) ∧ k_ ≠ g5)) _ _ g3 gM gN gO true _ ?side1 A4.1).mono ?_); (case side1 => first | exact g1.1 | exact (vg g1).1 | exact (nf g1).1); rintro e w12 ⟨iN, rfl, ho0, hb⟩; refine ⟨_, rfl, ?_⟩; replace g1 := ve g1 hb; have gE := nm HB ho0 (fun k_ => (gF k_ ∨ w.heap.size ≤ k_) ∧ k_ ≠ gI ∧ k_ ≠ g5) (fun k_ hk_ => ⟨Or.elim hk_ (fun hs_ => hs_.1.1) (fun hn_ => (.inr (zt HB hn_))), Or.elim hk_ (fun hs_ => hs_.1.2) (fun hn_ => (fb g0 k_ hn_)), Or.elim hk_ (fun hs_ => hs_.2) (fun hn_ => (fb g2 k_ hn_))⟩); replace g0 := kb g0 hb; replace g2 := kb g2 hb; replace HB := bs HB hb; clear hb ho0) | ((with_reducible refine gate_dst (N := 4) rfl ?_); refine bx (cs := #[.int .i64 0, .int .i64 0, .slice none 0 0]) (t := 25) fun gL hg w13 hbox hb => ?_; replace g1 := vb g1 hg hb; replace gE := nb gE hg hb; have gP := am (hbox); have gY := bz HB hg; have gQ := bz HB hg; replace HB := bs HB hb; have gA := nl g0 hg; have gB := ng g0 hg; replace g0 := kb g0 hb; have gC := nl g2 hg; have gD := ng g2 hg; replace g2 := kb g2 hb; clear hb hbox hg; have iO := gB.1; have iP := gA.1; have iQ := gD.1; have iR := gC.1; obtain ⟨h5, h6, h7, h8, h9, hA⟩ := cs3 gP; obtain ⟨gU, gV, rfl⟩ := Kd.N_slice gE.1; obtain ⟨hB, hC, hD, hE, hF, hG⟩ := cs3 g2))
   refine bodyPost_ret (results_ct rfl _ _ g5 25 #[.int .i64 gM, .int .i64 gN, .slice gU gO.length gV] (0, 0) _ rfl (kf g2).1 Try.underlying25 rfl (by kernel_rfl)) rfl ?_
   exact ⟨_, by first | rfl | (simp [errW_none, errW_some] <;> rfl) | (simp [*, errW_none, errW_some] <;> rfl), by (with_reducible repeat (first | apply Kd.N_alloc | apply Kd.N_drewN | apply Kd.N_drew)); exact Kd.N_mono (Kd.N_far (p := ⟨g5, 2, none⟩) (Kd.N_far (p := ⟨g5, 1, none⟩) (Kd.N_far (p := ⟨g5, 0, none⟩) (Kd.N_far (p := ⟨gL, 2, none⟩) (Kd.N_far (p := ⟨gL, 1, none⟩) (Kd.N_far (p := ⟨gL, 0, none⟩) (Kd.N_mono (Kd.N_mono gE.1 (fun k_ hk => (⟨hk, hk.2⟩ : _ ∧ k_ ≠ gL))) (fun k_ hk => (⟨hk, hk.1.1.2.2⟩ : _ ∧ k_ ≠ g5))) mq (.int .i64 gM)) mq (.int .i64 gN)) mq (.slice gU gO.length gV)) mq (.int .i64 gM)) mq (.int .i64 gN)) mq (.slice gU gO.length gV)) mq, by repeat (first | (with_reducible first | exact HB.1 | apply below_alloc | apply pw_below_drewN | apply below_drew1 | refine below_set ?_ gJ.1 | refine below_set ?_ gK.1 | refine below_set ?_ gQ.1) | exact HB.1)⟩
  ·
   replace c5 := Bool.eq_false_iff.mpr c5
   subst c5
   have H1 : (some (0, 0, ([] : List (S25)), false)) = some (r1, r2, r3, r4) := by rw [if_neg (show ¬ (false = true) by decide)] at H; exact H
   clear H
   have H := H1
   clear H1
   simp only [Option.some.injEq, Prod.mk.injEq] at H
   obtain ⟨rfl, rfl, rfl, rfl⟩ := H
   go_enter Try.func24, Try.ntmps24
   go_wp2_with (first | ((with_reducible refine gate_dst (N := 1) rfl ?_); refine bx (cs := #[.int .i64 g8, .int .i64 g9, .slice gG g3.length gH]) (t := 25) fun gI hg w19 hbox hb => ?_; replace g1 := vb g1 hg hb; have g0 := am (hbox); have gS := bz HB hg; have gJ := bz HB hg; replace HB := bs HB hb; clear hb hbox hg) | ((with_reducible refine gate_dst (N := 2) rfl ?_); refine bx (cs := #[.int .i64 0, .int .i64 0, .slice none 0 0]) (t := 25) fun g5 hg w20 hbox hb => ?_; replace g1 := vb g1 hg hb; have g2 := am (hbox); have gT := bz HB hg; have gK := bz HB hg; replace HB := bs HB hb; have g6 := nl g0 hg; have g7 := ng g0 hg; replace g0 := kb g0 hb; clear hb hbox hg; have iS := g6.1; have iT := g7.1; obtain ⟨hH, hI, hJ, hK, hL, hM⟩ := cs3 g0) | ((with_reducible refine gate_callee (f := 13) rfl ?_); refine gl (some 7) Try.func13 #[.agg #[.int .i64 g8, .int .i64 g9, .slice gG g3.length gH]] ?_; (with_reducible refine (impl_ClockOk.calls k g8 g9 _ _ g3 true _ ?side1 ?side2 A2.1).mono ?_); (case side1 => exact cq (Kd.V_reads' g1.1).2.2); (case side2 => exact (Kd.V_reads' g1.1).2.1); rintro e w23 ⟨rfl, hb⟩; refine ⟨_, rfl, ?_⟩; replace g1 := vw g1 hb; replace g0 := kb g0 hb; replace g2 := kb g2 hb; replace HB := bs HB hb; clear hb; obtain ⟨hN, hO, hP, hQ, hR, hS⟩ := cs3 g0) | ((with_reducible refine gate_callee (f := 45) rfl ?_); refine gl (some 12) Try.func45 #[.agg #[.int .i64 g8, .int .i64 g9, .slice gG g3.length gH]] ?_; (with_reducible refine (impl_pass.calls k g8 g9 (fun k_ => (((gF k_ ∨ w.heap.size ≤ k_) ∧ k_ ≠ gI) ∧ k_ ≠ g5)) _ _ g3 gM gN gO false _ ?side1 A4.1).mono ?_); (case side1 => first | exact g1.1 | exact (vg g1).1 | exact (nf g1).1); rintro e w25 ⟨iN, rfl, ho0, hb⟩; refine ⟨_, rfl, ?_⟩; replace g1 := ve g1 hb; have gE := nm HB ho0 (fun k_ => (gF k_ ∨ w.heap.size ≤ k_) ∧ k_ ≠ gI ∧ k_ ≠ g5) (fun k_ hk_ => ⟨Or.elim hk_ (fun hs_ => hs_.1.1) (fun hn_ => (.inr (zt HB hn_))), Or.elim hk_ (fun hs_ => hs_.1.2) (fun hn_ => (fb g0 k_ hn_)), Or.elim hk_ (fun hs_ => hs_.2) (fun hn_ => (fb g2 k_ hn_))⟩); replace g0 := kb g0 hb; replace g2 := kb g2 hb; replace HB := bs HB hb; clear hb ho0) | ((with_reducible refine gate_dst (N := 4) rfl ?_); refine bx (cs := #[.int .i64 0, .int .i64 0, .slice none 0 0]) (t := 25) fun gL hg w26 hbox hb => ?_; replace g1 := vb g1 hg hb; replace gE := nb gE hg hb; have gP := am (hbox); have gY := bz HB hg; have gQ := bz HB hg; replace HB := bs HB hb; have gA := nl g0 hg; have gB := ng g0 hg; replace g0 := kb g0 hb; have gC := nl g2 hg; have gD := ng g2 hg; replace g2 := kb g2 hb; clear hb hbox hg; have iU := gB.1; have iV := gA.1; have iW := gD.1; have iX := gC.1; obtain ⟨hT, hU, hV, hW, hX, hY⟩ := cs3 gP; obtain ⟨j6, j7, rfl⟩ := Kd.N_slice gE.1; obtain ⟨hZ, i0, i1, i2, i3, i4⟩ := cs3 g2))
   refine bodyPost_ret (results_ct rfl _ _ g5 25 #[.int .i64 0, .int .i64 0, .slice none 0 0] (0, 0) _ rfl (kf g2).1 Try.underlying25 rfl (by kernel_rfl)) rfl ?_
   exact ⟨_, by first | rfl | (simp [errW_none, errW_some] <;> rfl) | (simp [*, errW_none, errW_some] <;> rfl), by first | exact Kd.R_nil _ _ _ _ _ | exact Kd.N_nil _ _ _ _ _ | exact Kd.V_nil _ _ _ _ _ | exact Kd.Q_nil _ _ _ _ _ | exact Kd.S_nil _ _ _ _ _, by repeat (first | (with_reducible first | exact HB.1 | apply below_alloc | apply pw_below_drewN | apply below_drew1 | refine below_set ?_ gJ.1 | refine below_set ?_ gK.1 | refine below_set ?_ gQ.1) | exact HB.1)⟩
 ·
  replace c3 := Bool.eq_false_iff.mpr c3
  subst c3
  have H1 : (some (0, 0, ([] : List (S25)), false)) = some (r1, r2, r3, r4) := by rw [if_neg (show ¬ (false = true) by decide)] at H; exact H
  clear H
  have H := H1
  clear H1
  simp only [Option.some.injEq, Prod.mk.injEq] at H
  obtain ⟨rfl, rfl, rfl, rfl⟩ := H
  go_enter Try.func24, Try.ntmps24
  go_wp2_with (first | ((with_reducible refine gate_dst (N := 1) rfl ?_); refine bx (cs := #[.int .i64 g8, .int .i64 g9, .slice gG g3.length gH]) (t := 25) fun gI hg w32 hbox hb => ?_; replace g1 := vb g1 hg hb; have g0 := am (hbox); have gS := bz HB hg; have gJ := bz HB hg; replace HB := bs HB hb; clear hb hbox hg) | ((with_reducible refine gate_dst (N := 2) rfl ?_); refine bx (cs := #[.int .i64 0, .int .i64 0, .slice none 0 0]) (t := 25) fun g5 hg w33 hbox hb => ?_; replace g1 := vb g1 hg hb; have g2 := am (hbox); have gT := bz HB hg; have gK := bz HB hg; replace HB := bs HB hb; have g6 := nl g0 hg; have g7 := ng g0 hg; replace g0 := kb g0 hb; clear hb hbox hg; have iY := g6.1; have iZ := g7.1; obtain ⟨i5, i6, i7, i8, i9, iA⟩ := cs3 g0) | ((with_reducible refine gate_callee (f := 13) rfl ?_); refine gl (some 7) Try.func13 #[.agg #[.int .i64 g8, .int .i64 g9, .slice gG g3.length gH]] ?_; (with_reducible refine (impl_ClockOk.calls k g8 g9 _ _ g3 false _ ?side1 ?side2 A2.1).mono ?_); (case side1 => exact cq (Kd.V_reads' g1.1).2.2); (case side2 => exact (Kd.V_reads' g1.1).2.1); rintro e w36 ⟨rfl, hb⟩; refine ⟨_, rfl, ?_⟩; replace g1 := vw g1 hb; replace g0 := kb g0 hb; replace g2 := kb g2 hb; replace HB := bs HB hb; clear hb; obtain ⟨iB, iC, iD, iE, iF, iG⟩ := cs3 g2))
  refine bodyPost_ret (results_ct rfl _ _ g5 25 #[.int .i64 0, .int .i64 0, .slice none 0 0] (0, 0) _ rfl (kf g2).1 Try.underlying25 rfl (by kernel_rfl)) rfl ?_
  exact ⟨_, by first | rfl | (simp [errW_none, errW_some] <;> rfl) | (simp [*, errW_none, errW_some] <;> rfl), by first | exact Kd.R_nil _ _ _ _ _ | exact Kd.N_nil _ _ _ _ _ | exact Kd.V_nil _ _ _ _ _ | exact Kd.Q_nil _ _ _ _ _ | exact Kd.S_nil _ _ _ _ _, by repeat (first | (with_reducible first | exact HB.1 | apply below_alloc | apply pw_below_drewN | apply below_drew1 | refine below_set ?_ gJ.1 | refine below_set ?_ gK.1) | exact HB.1)⟩



/-! ### impl_ClockLater: function 33 -/
mutual
def impl_ClockLater.j0 : Nat → Int → Bool → Int → Int → List (S25) → Option (Int × Int × (List (S25)) × Bool)
 | 0, _, _, _, _, _ => none
 | k + 1, x1, x18, x736000, x736001, x736002 => if x18 = true then (some (0, 0, ([] : List (S25)), false)) else ((impl_copyClock.f k x736000 x736001 x736002).bind fun bt738 => (impl_ClockLater.l0 k x1 bt738.1 bt738.2.1 bt738.2.2))
def impl_ClockLater.l0 : Nat → Int → Int → Int → List (S25) → Option (Int × Int × (List (S25)) × Bool)
 | 0, _, _, _, _ => none
 | k + 1, x1, x736000, x736001, x736002 => if x1 > 0 then ((impl_pass.f k x736000 x736001 x736002).bind fun bt743 => (if bt743.2.2.2 = true then (impl_ClockLater.l0 k (wrap64 (x1 - 1)) bt743.1 bt743.2.1 bt743.2.2.1) else (some (0, 0, ([] : List (S25)), false)))) else (some (x736000, x736001, x736002, true))
end
def impl_ClockLater.f (k : Nat) (a0_0 : Int) (a0_1 : Int) (l0_2 : List (S25)) (a1 : Int) : Option (Int × Int × (List (S25)) × Bool) := (impl_ClockOk.f k a0_0 a0_1 l0_2).bind fun t737 => (if t737 = true then (if a1 < 0 then (impl_ClockLater.j0 k a1 true a0_0 a0_1 l0_2) else (impl_ClockLater.j0 k a1 (decide (a1 > 100)) a0_0 a0_1 l0_2)) else (impl_ClockLater.j0 k a1 true a0_0 a0_1 l0_2))
theorem impl_ClockLater.mono_l : ∀ k, (∀ y0 y1 y2 y3 y4, LeO (impl_ClockLater.j0 k y0 y1 y2 y3 y4) (impl_ClockLater.j0 (k + 1) y0 y1 y2 y3 y4)) ∧ (∀ y0 y1 y2 y3, LeO (impl_ClockLater.l0 k y0 y1 y2 y3) (impl_ClockLater.l0 (k + 1) y0 y1 y2 y3))
 | 0 => ⟨fun _ _ _ _ _ r h => by simp [impl_ClockLater.j0] at h, fun _ _ _ _ r h => by simp [impl_ClockLater.l0] at h⟩
 | k + 1 => by
  obtain ⟨ih0, ih1⟩ := impl_ClockLater.mono_l k
  refine ⟨?_, ?_⟩
  ·
   intro y0 y1 y2 y3 y4
   unfold impl_ClockLater.j0
   repeat' first
   | (with_reducible exact ih0 _ _ _ _ _)
   | (with_reducible exact ih1 _ _ _ _)
   | (with_reducible exact impl_ClockOk.mono _ _ _ _)
   | (with_reducible exact impl_copyClock.mono _ _ _ _)
   | (with_reducible exact impl_pass.mono _ _ _ _)
   | (with_reducible exact LeO.refl _)
   | (with_reducible exact LeO.none _)
   | (with_reducible refine LeO.ite ?_ ?_)
   | (with_reducible refine LeO.bind ?_ (fun _ => ?_))
   | exact ih0 _ _ _ _ _
   | exact ih1 _ _ _ _
   | exact impl_ClockOk.mono _ _ _ _
   | exact impl_copyClock.mono _ _ _ _
   | exact impl_pass.mono _ _ _ _
   | exact LeO.none _
   | refine LeO.ite ?_ ?_
   | refine LeO.bind ?_ (fun _ => ?_)
  ·
   intro y0 y1 y2 y3
   unfold impl_ClockLater.l0
   repeat' first
   | (with_reducible exact ih0 _ _ _ _ _)
   | (with_reducible exact ih1 _ _ _ _)
   | (with_reducible exact impl_ClockOk.mono _ _ _ _)
   | (with_reducible exact impl_copyClock.mono _ _ _ _)
   | (with_reducible exact impl_pass.mono _ _ _ _)
   | (with_reducible exact LeO.refl _)
   | (with_reducible exact LeO.none _)
   | (with_reducible refine LeO.ite ?_ ?_)
   | (with_reducible refine LeO.bind ?_ (fun _ => ?_))
   | exact ih0 _ _ _ _ _
   | exact ih1 _ _ _ _
   | exact impl_ClockOk.mono _ _ _ _
   | exact impl_copyClock.mono _ _ _ _
   | exact impl_pass.mono _ _ _ _
   | exact LeO.none _
   | refine LeO.ite ?_ ?_
   | refine LeO.bind ?_ (fun _ => ?_)
theorem impl_ClockLater.mono : ∀ a0 a1 a2 a3 k, LeO (impl_ClockLater.f k a0 a1 a2 a3) (impl_ClockLater.f (k + 1) a0 a1 a2 a3) := by
 intro a0 a1 a2 a3 k
 obtain ⟨ih0, ih1⟩ := impl_ClockLater.mono_l k
 unfold impl_ClockLater.f
 repeat' first
   | (with_reducible exact ih0 _ _ _ _ _)
   | (with_reducible exact ih1 _ _ _ _)
   | (with_reducible exact impl_ClockOk.mono _ _ _ _)
   | (with_reducible exact impl_copyClock.mono _ _ _ _)
   | (with_reducible exact impl_pass.mono _ _ _ _)
   | (with_reducible exact LeO.refl _)
   | (with_reducible exact LeO.none _)
   | (with_reducible refine LeO.ite ?_ ?_)
   | (with_reducible refine LeO.bind ?_ (fun _ => ?_))
   | exact ih0 _ _ _ _ _
   | exact ih1 _ _ _ _
   | exact impl_ClockOk.mono _ _ _ _
   | exact impl_copyClock.mono _ _ _ _
   | exact impl_pass.mono _ _ _ _
   | exact LeO.none _
   | refine LeO.ite ?_ ?_
   | refine LeO.bind ?_ (fun _ => ?_)
set_option maxHeartbeats 8000000 in
set_option maxRecDepth 100000 in
theorem impl_ClockLater.calls (k : Nat) (g9 : Int) (gA : Int) (gM : Option Addr) (gN : Nat) (g8 : List (S25)) (a1 : Int) (r1 : Int) (r2 : Int) (r3 : List (S25)) (r4 : Bool) (w : World) (i0 : Kd.C k25 w gM g8.length g8) (i1 : g8.length ≤ gN) (h : impl_ClockLater.f k g9 gA g8 a1 = some (r1, r2, r3, r4)) :
  Calls Try.prog 33 #[.agg #[.int .i64 g9, .int .i64 gA, .slice gM g8.length gN], .int .i64 a1] w fun e w' => ∃ v2_ : Value, e = .returned (.tuple #[.agg #[.int .i64 r1, .int .i64 r2, v2_], .bool r4]) ∧ Kd.N k25 25 w' w.heap.size (fun k_ => (w.heap.size ≤ k_)) v2_ r3 ∧ Below w.heap.size w w' := by
 have kT := Try.underlying25
 have gO := am i0; have gP := am i1; clear i0 i1; have HB := am (Below.refl w.heap.size w)
 have H : ((impl_ClockOk.f k g9 gA g8).bind fun hG => (if hG = true then (if a1 < 0 then (impl_ClockLater.j0 k a1 true g9 gA g8) else (impl_ClockLater.j0 k a1 (decide (a1 > 100)) g9 gA g8)) else (impl_ClockLater.j0 k a1 true g9 gA g8))) = some (r1, r2, r3, r4) := h
 clear h; have HC3 := am H; clear H
 go_enter Try.func33, Try.ntmps33
 go_upto_region 1 with (first | ((with_reducible refine gate_dst (N := 2) rfl ?_); refine bx (cs := #[.int .i64 g9, .int .i64 gA, .slice gM g8.length gN]) (t := 25) fun gI hg w4 hbox hb => ?_; have g0 := am (hbox); have k5 := bz HB hg; have hA := bz HB hg; replace HB := bs HB hb; clear hb hbox hg) | ((with_reducible refine gate_dst (N := 4) rfl ?_); refine bx (cs := #[.int .i64 0, .int .i64 0, .slice none 0 0]) (t := 25) fun gB hg w5 hbox hb => ?_; have g1 := am (hbox); have k6 := bz HB hg; have hB := bz HB hg; replace HB := bs HB hb; have g6 := nl g0 hg; have g7 := ng g0 hg; replace g0 := kb g0 hb; clear hb hbox hg))
 (try simp only [Act.put, List.setIfInBounds_toArray, List.set_cons_zero, List.set_cons_succ])
 go_cut [18] (fun v18 wc => ∃ (kq : Nat) (gQ : Bool), v18 = .bool gQ ∧ Aside0 (impl_ClockLater.j0 kq a1 gQ g9 gA g8 = some (r1, r2, r3, r4)) ∧ Aside0 (kq ≤ k) ∧ Aside0 (wc.heap[gI]? = some (.cells #[.int .i64 g9, .int .i64 gA, (.slice gM g8.length gN)] 25 (0, 0))) ∧ Aside0 (wc.heap[gB]? = some (.cells #[.int .i64 0, .int .i64 0, (.slice none 0 0)] 25 (0, 0))) ∧ Aside0 (Below w.heap.size w wc))
 case first =>
  have H := HC3.1
  clear HC3
  replace H := Option.bind_eq_some_iff.mp H
  obtain ⟨hG, A60, H⟩ := H
  replace H : (if hG = true then (if a1 < 0 then (impl_ClockLater.j0 k a1 true g9 gA g8) else (impl_ClockLater.j0 k a1 (decide (a1 > 100)) g9 gA g8)) else (impl_ClockLater.j0 k a1 true g9 gA g8)) = some (r1, r2, r3, r4) := H
  have A6 := am A60
  clear A60
  by_cases c7 : hG = true
  ·
   subst c7
   have H1 : (if a1 < 0 then (impl_ClockLater.j0 k a1 true g9 gA g8) else (impl_ClockLater.j0 k a1 (decide (a1 > 100)) g9 gA g8)) = some (r1, r2, r3, r4) := by rw [if_pos rfl] at H; exact H
   clear H
   have H := H1
   clear H1
   by_cases c8 : a1 < 0
   ·
    rw [if_pos c8] at H; have c8b0 : decide (a1 < 0) = true := decide_eq_true c8; clear c8
    (first | rw [c8b0] | (simp only [i64_w, i32_w]; rw [c8b0]) | skip)
    have H' := am H
    clear H; have kU := g6.1; have kV := g7.1; obtain ⟨gR, gS, gT, gU, gV, gW⟩ := cs3 g0
    go_wp2_with (first | ((with_reducible refine gate_callee (f := 13) rfl ?_); refine gl (some 9) Try.func13 #[.agg #[.int .i64 g9, .int .i64 gA, .slice gM g8.length gN]] ?_; (with_reducible refine (impl_ClockOk.calls k g9 gA _ _ g8 true _ ?side1 ?side2 A6.1).mono ?_); (case side1 => exact cq (Kd.C_below gO.1 HB.1)); (case side2 => exact gP.1); rintro e w11 ⟨rfl, hb⟩; refine ⟨_, rfl, ?_⟩; replace g0 := kb g0 hb; replace g1 := kb g1 hb; replace HB := bs HB hb; clear hb))
    go_meet
    case rel => exact ⟨_, (true), rq, H', ⟨by first | omega | exact Nat.le_refl _⟩, kf g0, kf g1, bw⟩
   ·
    rw [if_neg c8] at H; have c8b0 : decide (a1 < 0) = false := decide_eq_false c8; clear c8
    (first | rw [c8b0] | (simp only [i64_w, i32_w]; rw [c8b0]) | skip)
    have H' := am H
    clear H; have k7 := g6.1; have k8 := g7.1; obtain ⟨gX, gY, gZ, h0, h1, h2⟩ := cs3 g0
    go_wp2_with (first | ((with_reducible refine gate_callee (f := 13) rfl ?_); refine gl (some 9) Try.func13 #[.agg #[.int .i64 g9, .int .i64 gA, .slice gM g8.length gN]] ?_; (with_reducible refine (impl_ClockOk.calls k g9 gA _ _ g8 true _ ?side1 ?side2 A6.1).mono ?_); (case side1 => exact cq (Kd.C_below gO.1 HB.1)); (case side2 => exact gP.1); rintro e w14 ⟨rfl, hb⟩; refine ⟨_, rfl, ?_⟩; replace g0 := kb g0 hb; replace g1 := kb g1 hb; replace HB := bs HB hb; clear hb))
    go_meet
    case rel => exact ⟨_, (decide (a1 > 100)), rq, H', ⟨by first | omega | exact Nat.le_refl _⟩, kf g0, kf g1, bw⟩
  ·
   replace c7 := Bool.eq_false_iff.mpr c7
   subst c7
   have H1 : (impl_ClockLater.j0 k a1 true g9 gA g8) = some (r1, r2, r3, r4) := by rw [if_neg (show ¬ (false = true) by decide)] at H; exact H
   clear H
   have H := H1
   clear H1
   have H' := am H
   clear H; have k9 := g6.1; have kA := g7.1; obtain ⟨h3, h4, h5, h6, h7, h8⟩ := cs3 g0
   go_wp2_with (first | ((with_reducible refine gate_callee (f := 13) rfl ?_); refine gl (some 9) Try.func13 #[.agg #[.int .i64 g9, .int .i64 gA, .slice gM g8.length gN]] ?_; (with_reducible refine (impl_ClockOk.calls k g9 gA _ _ g8 false _ ?side1 ?side2 A6.1).mono ?_); (case side1 => exact cq (Kd.C_below gO.1 HB.1)); (case side2 => exact gP.1); rintro e w17 ⟨rfl, hb⟩; refine ⟨_, rfl, ?_⟩; replace g0 := kb g0 hb; replace g1 := kb g1 hb; replace HB := bs HB hb; clear hb))
   go_meet
   case rel => exact ⟨_, (true), rq, H', ⟨by first | omega | exact Nat.le_refl _⟩, kf g0, kf g1, bw⟩
 case rest =>
  clear HC3; (try clear c1); (try clear p2); (try clear c3); (try clear c7); (try clear c8); (try clear c8b0); (try clear c9); (try clear c12); (try clear c13); (try clear c15); (try clear gR); (try clear gS); (try clear gT); (try clear gX); (try clear gY); (try clear gZ); (try clear h3); (try clear h4); (try clear h5); (try clear gU); (try clear gV); (try clear gW); (try clear h0); (try clear h1); (try clear h2); (try clear h6); (try clear h7); (try clear h8)
  obtain ⟨kq, gQ, rfl, HA, HJ2, g0, g1, HB⟩ := hcut
  cases kq with
  | zero => exact absurd HA.1 (by simp [impl_ClockLater.j0])
  | succ kj2 =>
   have H := HA.1
   clear HA
   simp only [impl_ClockLater.j0] at H
   by_cases c18 : gQ = true
   ·
    subst c18
    have H1 : (some (0, 0, ([] : List (S25)), false)) = some (r1, r2, r3, r4) := by rw [if_pos rfl] at H; exact H
    clear H
    have H := H1
    clear H1
    simp only [Option.some.injEq, Prod.mk.injEq] at H
    obtain ⟨rfl, rfl, rfl, rfl⟩ := H
    have kB := g7.1; have kC := g6.1; obtain ⟨hH, hI, hJ, hK, hL, hM⟩ := cs3 g1
    go_wp2
    refine bodyPost_ret (results_ct rfl _ _ gB 25 #[.int .i64 0, .int .i64 0, .slice none 0 0] (0, 0) _ rfl (kf g1).1 Try.underlying25 rfl (by kernel_rfl)) rfl ?_
    exact ⟨_, by first | rfl | (simp [errW_none, errW_some] <;> rfl) | (simp [*, errW_none, errW_some] <;> rfl), by first | exact Kd.R_nil _ _ _ _ _ | exact Kd.N_nil _ _ _ _ _ | exact Kd.V_nil _ _ _ _ _ | exact Kd.Q_nil _ _ _ _ _ | exact Kd.S_nil _ _ _ _ _, by repeat (first | (with_reducible first | exact HB.1 | apply below_alloc | apply pw_below_drewN | apply below_drew1 | refine below_set ?_ hA.1 | refine below_set ?_ hB.1) | exact HB.1)⟩
   ·
    replace c18 := Bool.eq_false_iff.mpr c18
    subst c18
    have H1 : ((impl_copyClock.f kj2 g9 gA g8).bind fun hC => (impl_ClockLater.l0 kj2 a1 hC.1 hC.2.1 hC.2.2)) = some (r1, r2, r3, r4) := by rw [if_neg (show ¬ (false = true) by decide)] at H; exact H
    clear H
    have H := H1
    clear H1
    replace H := Option.bind_eq_some_iff.mp H
    obtain ⟨⟨i4, i5, hN⟩, i6, H⟩ := H
    replace H : (impl_ClockLater.l0 kj2 a1 i4 i5 hN) = some (r1, r2, r3, r4) := H
    have A21 := am i6
    clear i6
    have H' := am H
    clear H; have kD := g6.1; have kE := g7.1; obtain ⟨hO, hP, hQ, hR, hS, hT⟩ := cs3 g0
    go_wp2_with (first | ((with_reducible refine gate_callee (f := 44) rfl ?_); refine gl (some 21) Try.func44 #[.agg #[.int .i64 g9, .int .i64 gA, .slice gM g8.length gN]] ?_; (with_reducible refine (impl_copyClock.calls kj2 g9 gA _ _ g8 i4 i5 hN _ ?side1 ?side2 A21.1).mono ?_); (case side1 => exact cq (Kd.C_below gO.1 HB.1)); (case side2 => exact gP.1); rintro e w24 ⟨kW, rfl, ho0, hb⟩; refine ⟨_, rfl, ?_⟩; have i2 := nm HB (Kd.R_N (Kd.R_bound ho0)) (fun k_ => (w.heap.size ≤ k_) ∧ k_ ≠ gI ∧ k_ ≠ gB) (fun k_ hk_ => ⟨(zt HB hk_.2.1), (fb g0 k_ hk_.2.1), (fb g1 k_ hk_.2.1)⟩); replace g0 := kb g0 hb; replace g1 := kb g1 hb; replace HB := bs HB hb; clear hb ho0; obtain ⟨hU, hV, hW, hX, hY, hZ⟩ := cs3 g0; obtain ⟨jS, jT, rfl⟩ := Kd.N_slice i2.1))
    go_loopg [1] kj2 (fun kq v1 w' => ∃ (gK : Int) (g3 : Int) (g4 : Int) (g5 : List (S25)) (gC : Int) (gD : Int) (gL : Value), v1 = .int .i64 gK ∧ Aside0 (impl_ClockLater.l0 kq gK g3 g4 g5 = some (r1, r2, r3, r4)) ∧ Aside0 (kq ≤ kj2) ∧ Aside0 (Kd.N k25 25 w' w.heap.size (fun k_ => (w.heap.size ≤ k_) ∧ k_ ≠ gI ∧ k_ ≠ gB) gL g5) ∧ Aside0 (w'.heap[gI]? = some (.cells #[.int .i64 g3, .int .i64 g4, gL] 25 (0, 0))) ∧ Aside0 (w'.heap[gB]? = some (.cells #[.int .i64 gC, .int .i64 gD, (.slice none 0 0)] 25 (0, 0))) ∧ Aside0 (Below w.heap.size w w'))
    case atStart => exact ⟨(a1), (i4), (i5), (hN), (0), (0), (.slice jS hN.length jT), rq, H', ⟨Nat.le_refl _⟩, nf i2, kf g0, kf g1, bw⟩
    case round =>
     clear H'; (try clear c1); (try clear c2); (try clear p2); (try clear c3); (try clear c4); (try clear c7); (try clear c8); (try clear c8b0); (try clear c9); (try clear c12); (try clear c13); (try clear c15); (try clear c18); (try clear c19); (try clear c22); (try clear gR); (try clear gS); (try clear gT); (try clear gX); (try clear gY); (try clear gZ); (try clear h3); (try clear h4); (try clear h5); (try clear hH); (try clear hI); (try clear hJ); (try clear hO); (try clear hP); (try clear hQ); (try clear hU); (try clear hV); (try clear hW); (try clear gU); (try clear gV); (try clear gW); (try clear h0); (try clear h1); (try clear h2); (try clear h6); (try clear h7); (try clear h8); (try clear hK); (try clear hL); (try clear hM); (try clear hR); (try clear hS); (try clear hT); (try clear hX); (try clear hY); (try clear hZ); (try clear p2); (try clear g2); (try clear g0); (try clear g1); (try clear HB)
     obtain ⟨gK, g3, g4, g5, gC, gD, gL, rfl, HA, HK2, g2, g0, g1, HB⟩ := hrel
     cases gk with
     | zero => exact absurd HA.1 (by simp [impl_ClockLater.l0])
     | succ k2 =>
      have H := HA.1
      clear HA
      simp only [impl_ClockLater.l0] at H
      by_cases c27 : gK > 0
      ·
       rw [if_pos c27] at H; have c27b0 : decide (0 < gK) = true := decide_eq_true c27; clear c27
       replace H := Option.bind_eq_some_iff.mp H
       obtain ⟨⟨hD, hE, h9, i7⟩, i8, H⟩ := H
       replace H : (if i7 = true then (impl_ClockLater.l0 k2 (wrap64 (gK - 1)) hD hE h9) else (some (0, 0, ([] : List (S25)), false))) = some (r1, r2, r3, r4) := H
       have A28 := am i8
       clear i8
       by_cases c29 : i7 = true
       ·
        subst c29
        have H1 : (impl_ClockLater.l0 k2 (wrap64 (gK - 1)) hD hE h9) = some (r1, r2, r3, r4) := by rw [if_pos rfl] at H; exact H
        clear H
        have H := H1
        clear H1
        have H' := am H
        clear H; have kF := g6.1; have kG := g7.1; obtain ⟨iD, iE, iF, iG, iH, iI⟩ := cs3 g0
        obtain ⟨jU, jV, jW⟩ := Kd.N_slice g2.1
        subst jW
        go_wp2_with (first | ((with_reducible refine gate_callee (f := 45) rfl ?_); refine gl (some 28) Try.func45 #[.agg #[.int .i64 g3, .int .i64 g4, .slice jU g5.length jV]] ?_; (with_reducible refine (impl_pass.calls k2 g3 g4 (fun k_ => ((w.heap.size ≤ k_) ∧ (k_ ≠ gI ∧ k_ ≠ gB))) _ _ g5 hD hE h9 true _ ?side1 A28.1).mono ?_); (case side1 => exact Kd.N_V (nf g2).1); rintro e w33 ⟨jX, rfl, ho0, hb⟩; refine ⟨_, rfl, ?_⟩; replace g2 := ne g2 hb; have gJ := nm HB ho0 (fun k_ => (w.heap.size ≤ k_) ∧ k_ ≠ gI ∧ k_ ≠ gB) (fun k_ hk_ => ⟨Or.elim hk_ (fun hs_ => hs_.1) (fun hn_ => (zt HB hn_)), Or.elim hk_ (fun hs_ => hs_.2.1) (fun hn_ => (fb g0 k_ hn_)), Or.elim hk_ (fun hs_ => hs_.2.2) (fun hn_ => (fb g1 k_ hn_))⟩); replace g0 := kb g0 hb; replace g1 := kb g1 hb; replace HB := bs HB hb; clear hb ho0) | ((with_reducible refine gate_dst (N := 6) rfl ?_); refine bx (cs := #[.int .i64 0, .int .i64 0, .slice none 0 0]) (t := 25) fun i9 hg w34 hbox hb => ?_; replace g2 := nb g2 hg hb; replace gJ := nb gJ hg hb; have hF := am (hbox); have iA := bz HB hg; have i3 := bz HB hg; replace HB := bs HB hb; have gE := nl g0 hg; have gF := ng g0 hg; replace g0 := kb g0 hb; have gG := nl g1 hg; have gH := ng g1 hg; replace g1 := kb g1 hb; clear hb hbox hg; have kH := gF.1; have kI := gE.1; have kJ := gH.1; have kK := gG.1; obtain ⟨iJ, iK, iL, iM, iN, iO⟩ := cs3 hF; obtain ⟨jY, jZ, rfl⟩ := Kd.N_slice gJ.1; obtain ⟨iP, iQ, iR, iS, iT, iU⟩ := cs3 g0))
        go_roundg k2
        case measure => have := HJ2.1; have := HK2.1; omega
        case rel => exact ⟨(wrap64 (gK - 1)), (hD), (hE), (h9), (gC), (gD), (.slice jY h9.length jZ), rq, H', ⟨by have := HJ2.1; have := HK2.1; omega⟩, nf gJ, kf g0, kf g1, bw⟩
       ·
        replace c29 := Bool.eq_false_iff.mpr c29
        subst c29
        have H1 : (some (0, 0, ([] : List (S25)), false)) = some (r1, r2, r3, r4) := by rw [if_neg (show ¬ (false = true) by decide)] at H; exact H
        clear H
        have H := H1
        clear H1
        simp only [Option.some.injEq, Prod.mk.injEq] at H
        obtain ⟨rfl, rfl, rfl, rfl⟩ := H
        have kL := g6.1; have kM := g7.1; obtain ⟨iV, iW, iX, iY, iZ, j3⟩ := cs3 g0
        obtain ⟨k0, k1, k3⟩ := Kd.N_slice g2.1
        subst k3
        go_wp2_with (first | ((with_reducible refine gate_callee (f := 45) rfl ?_); refine gl (some 28) Try.func45 #[.agg #[.int .i64 g3, .int .i64 g4, .slice k0 g5.length k1]] ?_; (with_reducible refine (impl_pass.calls k2 g3 g4 (fun k_ => ((w.heap.size ≤ k_) ∧ (k_ ≠ gI ∧ k_ ≠ gB))) _ _ g5 hD hE h9 false _ ?side1 A28.1).mono ?_); (case side1 => exact Kd.N_V (nf g2).1); rintro e w43 ⟨jX, rfl, ho0, hb⟩; refine ⟨_, rfl, ?_⟩; replace g2 := ne g2 hb; have gJ := nm HB ho0 (fun k_ => (w.heap.size ≤ k_) ∧ k_ ≠ gI ∧ k_ ≠ gB) (fun k_ hk_ => ⟨Or.elim hk_ (fun hs_ => hs_.1) (fun hn_ => (zt HB hn_)), Or.elim hk_ (fun hs_ => hs_.2.1) (fun hn_ => (fb g0 k_ hn_)), Or.elim hk_ (fun hs_ => hs_.2.2) (fun hn_ => (fb g1 k_ hn_))⟩); replace g0 := kb g0 hb; replace g1 := kb g1 hb; replace HB := bs HB hb; clear hb ho0) | ((with_reducible refine gate_dst (N := 6) rfl ?_); refine bx (cs := #[.int .i64 0, .int .i64 0, .slice none 0 0]) (t := 25) fun i9 hg w44 hbox hb => ?_; replace g2 := nb g2 hg hb; replace gJ := nb gJ hg hb; have hF := am (hbox); have iA := bz HB hg; have i3 := bz HB hg; replace HB := bs HB hb; have gE := nl g0 hg; have gF := ng g0 hg; replace g0 := kb g0 hb; have gG := nl g1 hg; have gH := ng g1 hg; replace g1 := kb g1 hb; clear hb hbox hg; have kN := gF.1; have kO := gE.1; have kP := gH.1; have kQ := gG.1; obtain ⟨j4, j5, j6, j7, j8, j9⟩ := cs3 hF; obtain ⟨kX, kY, rfl⟩ := Kd.N_slice gJ.1; obtain ⟨jA, jB, jC, jD, jE, jF⟩ := cs3 g1))
        refine bodyPost_ret (results_ct rfl _ _ gB 25 #[.int .i64 0, .int .i64 0, .slice none 0 0] (0, 0) _ rfl (kf g1).1 Try.underlying25 rfl (by kernel_rfl)) rfl ?_
        exact ⟨_, by first | rfl | (simp [errW_none, errW_some] <;> rfl) | (simp [*, errW_none, errW_some] <;> rfl), by first | exact Kd.R_nil _ _ _ _ _ | exact Kd.N_nil _ _ _ _ _ | exact Kd.V_nil _ _ _ _ _ | exact Kd.Q_nil _ _ _ _ _ | exact Kd.S_nil _ _ _ _ _, by repeat (first | (with_reducible first | exact HB.1 | apply below_alloc | apply pw_below_drewN | apply below_drew1 | refine below_set ?_ hA.1 | refine below_set ?_ hB.1 | refine below_set ?_ i3.1) | exact HB.1)⟩
      ·
       rw [if_neg c27] at H; have c27b0 : decide (0 < gK) = false := decide_eq_false c27; clear c27
       simp only [Option.some.injEq, Prod.mk.injEq] at H
       obtain ⟨rfl, rfl, rfl, rfl⟩ := H
       have kR := g6.1; have kS := g7.1; obtain ⟨jG, jH, jI, jJ, jK, jL⟩ := cs3 g0; obtain ⟨jM, jN, jO, jP, jQ, jR⟩ := cs3 g1
       obtain ⟨iB, iC, k4⟩ := Kd.N_slice g2.1
       subst k4
       go_wp2
       refine bodyPost_ret (results_ct rfl _ _ gB 25 #[.int .i64 g3, .int .i64 g4, .slice iB g5.length iC] (0, 0) _ rfl (kf g1).1 Try.underlying25 rfl (by kernel_rfl)) rfl ?_
       exact ⟨_, by first | rfl | (simp [errW_none, errW_some] <;> rfl) | (simp [*, errW_none, errW_some] <;> rfl), by (with_reducible repeat (first | apply Kd.N_alloc | apply Kd.N_drewN | apply Kd.N_drew)); exact Kd.N_mono (Kd.N_far (p := ⟨gB, 2, none⟩) (Kd.N_far (p := ⟨gB, 1, none⟩) (Kd.N_far (p := ⟨gB, 0, none⟩) (Kd.N_mono g2.1 (fun k_ hk => (⟨hk, hk.2.2⟩ : _ ∧ k_ ≠ gB))) mq (.int .i64 g3)) mq (.int .i64 g4)) mq (.slice iB g5.length iC)) mq, by repeat (first | (with_reducible first | exact HB.1 | apply below_alloc | apply pw_below_drewN | apply below_drew1 | refine below_set ?_ hA.1 | refine below_set ?_ hB.1) | exact HB.1)⟩
end Go.Proofs.Ytfnmjecofgeboaa.PAll
