-- Laid by a program of this session out of the translation's print
import Derived.Test.YtfnmjecofgeboaaPAll0
import Derived.Test.YtfnmjecofgeboaaPAllAb
namespace Go.Proofs.Ytfnmjecofgeboaa.PAll
open Go.RowKit Go.Proofs.YtfnmjecofgeboaaW.PrintWords Go.Proofs.YtfnmjecofgeboaaW.PrintLast Go.Proofs.YtfnmjecofgeboaaW.PrintMore
attribute [local go_sem] max2_int min2_int max_two min_two max_three min_three max_four min_four   -- for this text's walks alone
set_option linter.unusedVariables false
set_option linter.unusedSimpArgs false

/-! ### spec_l6In: function 41 -/
def spec_l6In.f (a0 : Int) (a1 : Int) (a2 : Int) : Option (Bool) := if a0 ≥ a1 then (some (decide (a0 ≤ a2))) else (some false)
set_option maxHeartbeats 8000000 in
set_option maxRecDepth 100000 in
theorem spec_l6In.calls (a0 : Int) (a1 : Int) (a2 : Int) (r : Bool) (w : World) (h : spec_l6In.f a0 a1 a2 = some r) :
  Calls Try.prog 41 #[.int .i64 a0, .int .i64 a1, .int .i64 a2] w fun e w' => e = .returned (.bool r) ∧ Drawn0 w w' := by
 have H : (if a0 ≥ a1 then (some (decide (a0 ≤ a2))) else (some false)) = some r := h
 clear h
 by_cases c4 : a0 ≥ a1
 ·
  rw [if_pos c4] at H; have c4b0 : decide (a1 ≤ a0) = true := decide_eq_true c4; clear c4
  obtain rfl := Option.some.inj H
  go_enter Try.func41, Try.ntmps41
  go_wp2
  go_ret
  exact ⟨by first | rfl | (simp; done) | (simp [*]; done), by repeat (first | exact Drawn0.refl _ | apply Drawn0.step)⟩
 ·
  rw [if_neg c4] at H; have c4b0 : decide (a1 ≤ a0) = false := decide_eq_false c4; clear c4
  obtain rfl := Option.some.inj H
  go_enter Try.func41, Try.ntmps41
  go_wp2
  go_ret
  exact ⟨by first | rfl | (simp; done) | (simp [*]; done), by repeat (first | exact Drawn0.refl _ | apply Drawn0.step)⟩


/-! ### spec_ActOk: function 60 -/
def spec_ActOk.f (a0 : Int) : Option (Bool) := (spec_l6In.f a0 (-4) 4).bind fun t229 => (some t229)
set_option maxHeartbeats 8000000 in
set_option maxRecDepth 100000 in
theorem spec_ActOk.calls (a0 : Int) (r : Bool) (w : World) (h : spec_ActOk.f a0 = some r) :
  Calls Try.prog 60 #[.int .i64 a0] w fun e w' => e = .returned (.bool r) ∧ Drawn0 w w' := by
 have H : ((spec_l6In.f a0 (-4) 4).bind fun t229 => (some t229)) = some r := h
 clear h
 replace H := Option.bind_eq_some_iff.mp H
 obtain ⟨t229, A20, H⟩ := H
 replace H : (some t229) = some r := H
 have A2 := am A20
 clear A20
 obtain rfl := Option.some.inj H
 go_enter Try.func60, Try.ntmps60
 go_wp2_with (first | ((with_reducible refine gate_callee (f := 41) rfl ?_); refine gl (some 4) Try.func41 #[.int .i64 a0, .int .i64 (-4), .int .i64 4] ?_; (with_reducible refine (spec_l6In.calls a0 (-4) 4 t229 _ A2.1).mono ?_); rintro e w' ⟨rfl, ⟨nd, rfl⟩⟩; refine ⟨_, rfl, ?_⟩))
 go_ret
 exact ⟨by first | rfl | (simp; done) | (simp [*]; done), by repeat (first | exact Drawn0.refl _ | apply Drawn0.step)⟩


/-! ### spec_l17Nodes: function 42 -/
mutual
def spec_l17Nodes.j0 : Nat → Int → Bool → Int → Int → List (S25) → Option (Int)
 | 0, _, _, _, _, _ => none
 | k + 1, x3, x4, x231000, x231001, x231002 => if x4 = true then (spec_l17Nodes.j1 k x3 ((x231002.length : Int) != x3) x231000 x231001 x231002) else (spec_l17Nodes.j1 k x3 true x231000 x231001 x231002)
def spec_l17Nodes.j1 : Nat → Int → Bool → Int → Int → List (S25) → Option (Int)
 | 0, _, _, _, _, _ => none
 | k + 1, x3, x36, x231000, x231001, x231002 => if x36 = true then (some 0) else (spec_l17Nodes.l0 k x3 1 0 x231000 x231001 x231002)
def spec_l17Nodes.l0 : Nat → Int → Int → Int → Int → Int → List (S25) → Option (Int)
 | 0, _, _, _, _, _, _ => none
 | k + 1, x3, x5, x6, x231000, x231001, x231002 => if x6 < x3 then (if 0 ≤ x6 then (if x6 < (x231002.length : Int) then ((spec_l17Nodes.f k ((rd_T25 x231002 x6).f0) ((rd_T25 x231002 x6).f1) ((rd_T25 x231002 x6).f2)).bind fun t234 => (if t234 = 0 then (some 0) else (spec_l17Nodes.l0 k x3 (mn 1000 (wrap64 (x5 + t234))) (wrap64 (x6 + 1)) x231000 x231001 x231002))) else (none)) else (none)) else (some x5)
def spec_l17Nodes.f : Nat → Int → Int → List (S25) → Option (Int)
 | 0, _, _, _ => none
 | k + 1, a0_0, a0_1, l0_2 => if a0_0 = 0 then (spec_l17Nodes.j0 k 0 (a0_1 == 0) a0_0 a0_1 l0_2) else (if a0_0 = 1 then ((spec_ActOk.f a0_1).bind fun t231 => (spec_l17Nodes.j0 k 1 t231 a0_0 a0_1 l0_2)) else (if a0_0 = 2 then ((spec_l6In.f a0_1 1 9).bind fun t232 => (spec_l17Nodes.j0 k 1 t232 a0_0 a0_1 l0_2)) else (if a0_0 = 3 then (spec_l17Nodes.j0 k 2 (a0_1 == 0) a0_0 a0_1 l0_2) else (if a0_0 = 4 then (spec_l17Nodes.j0 k 2 (a0_1 == 0) a0_0 a0_1 l0_2) else (some 0)))))
end
theorem spec_l17Nodes.mono_l : ∀ k, (∀ y0 y1 y2, LeO (spec_l17Nodes.f k y0 y1 y2) (spec_l17Nodes.f (k + 1) y0 y1 y2)) ∧ (∀ y0 y1 y2 y3 y4, LeO (spec_l17Nodes.j0 k y0 y1 y2 y3 y4) (spec_l17Nodes.j0 (k + 1) y0 y1 y2 y3 y4)) ∧ (∀ y0 y1 y2 y3 y4, LeO (spec_l17Nodes.j1 k y0 y1 y2 y3 y4) (spec_l17Nodes.j1 (k + 1) y0 y1 y2 y3 y4)) ∧ (∀ y0 y1 y2 y3 y4 y5, LeO (spec_l17Nodes.l0 k y0 y1 y2 y3 y4 y5) (spec_l17Nodes.l0 (k + 1) y0 y1 y2 y3 y4 y5))
 | 0 => ⟨fun _ _ _ r h => by simp [spec_l17Nodes.f] at h, fun _ _ _ _ _ r h => by simp [spec_l17Nodes.j0] at h, fun _ _ _ _ _ r h => by simp [spec_l17Nodes.j1] at h, fun _ _ _ _ _ _ r h => by simp [spec_l17Nodes.l0] at h⟩
 | k + 1 => by
  obtain ⟨ih0, ih1, ih2, ih3⟩ := spec_l17Nodes.mono_l k
  refine ⟨?_, ?_, ?_, ?_⟩
  ·
   intro y0 y1 y2
   unfold spec_l17Nodes.f
   repeat' first
   | (with_reducible exact ih0 _ _ _)
   | (with_reducible exact ih1 _ _ _ _ _)
   | (with_reducible exact ih2 _ _ _ _ _)
   | (with_reducible exact ih3 _ _ _ _ _ _)
   | (with_reducible exact LeO.refl _)
   | (with_reducible exact LeO.none _)
   | (with_reducible refine LeO.ite ?_ ?_)
   | (with_reducible refine LeO.bind ?_ (fun _ => ?_))
   | exact ih0 _ _ _
   | exact ih1 _ _ _ _ _
   | exact ih2 _ _ _ _ _
   | exact ih3 _ _ _ _ _ _
   | exact LeO.none _
   | refine LeO.ite ?_ ?_
   | refine LeO.bind ?_ (fun _ => ?_)
  ·
   intro y0 y1 y2 y3 y4
   unfold spec_l17Nodes.j0
   repeat' first
   | (with_reducible exact ih0 _ _ _)
   | (with_reducible exact ih1 _ _ _ _ _)
   | (with_reducible exact ih2 _ _ _ _ _)
   | (with_reducible exact ih3 _ _ _ _ _ _)
   | (with_reducible exact LeO.refl _)
   | (with_reducible exact LeO.none _)
   | (with_reducible refine LeO.ite ?_ ?_)
   | (with_reducible refine LeO.bind ?_ (fun _ => ?_))
   | exact ih0 _ _ _
   | exact ih1 _ _ _ _ _
   | exact ih2 _ _ _ _ _
   | exact ih3 _ _ _ _ _ _
   | exact LeO.none _
   | refine LeO.ite ?_ ?_
   | refine LeO.bind ?_ (fun _ => ?_)
  ·
   intro y0 y1 y2 y3 y4
   unfold spec_l17Nodes.j1
   repeat' first
   | (with_reducible exact ih0 _ _ _)
   | (with_reducible exact ih1 _ _ _ _ _)
   | (with_reducible exact ih2 _ _ _ _ _)
   | (with_reducible exact ih3 _ _ _ _ _ _)
   | (with_reducible exact LeO.refl _)
   | (with_reducible exact LeO.none _)
   | (with_reducible refine LeO.ite ?_ ?_)
   | (with_reducible refine LeO.bind ?_ (fun _ => ?_))
   | exact ih0 _ _ _
   | exact ih1 _ _ _ _ _
   | exact ih2 _ _ _ _ _
   | exact ih3 _ _ _ _ _ _
   | exact LeO.none _
   | refine LeO.ite ?_ ?_
   | refine LeO.bind ?_ (fun _ => ?_)
  ·
   intro y0 y1 y2 y3 y4 y5
   unfold spec_l17Nodes.l0
   repeat' first
   | (with_reducible exact ih0 _ _ _)
   | (with_reducible exact ih1 _ _ _ _ _)
   | (with_reducible exact ih2 _ _ _ _ _)
   | (with_reducible exact ih3 _ _ _ _ _ _)
   | (with_reducible exact LeO.refl _)
   | (with_reducible exact LeO.none _)
   | (with_reducible refine LeO.ite ?_ ?_)
   | (with_reducible refine LeO.bind ?_ (fun _ => ?_))
   | exact ih0 _ _ _
   | exact ih1 _ _ _ _ _
   | exact ih2 _ _ _ _ _
   | exact ih3 _ _ _ _ _ _
   | exact LeO.none _
   | refine LeO.ite ?_ ?_
   | refine LeO.bind ?_ (fun _ => ?_)
theorem spec_l17Nodes.mono : ∀ a0 a1 a2 k, LeO (spec_l17Nodes.f k a0 a1 a2) (spec_l17Nodes.f (k + 1) a0 a1 a2) := by
 intro a0 a1 a2 k
 obtain ⟨ih0, ih1, ih2, ih3⟩ := spec_l17Nodes.mono_l k
 exact ih0 a0 a1 a2
set_option maxHeartbeats 8000000 in
set_option maxRecDepth 100000 in
theorem spec_l17Nodes.calls (k : Nat) : ∀ (g0 : Int) (g3 : Int) (gM : Option Addr) (gN : Nat) (g1 : List (S25)) (r : Int) (w : World) (hC : Kd.C k25 w gM g1.length g1) (hD : g1.length ≤ gN) (h : spec_l17Nodes.f k g0 g3 g1 = some r),
  Calls Try.prog 42 #[.agg #[.int .i64 g0, .int .i64 g3, .slice gM g1.length gN]] w fun e w' => e = .returned (.int .i64 r) ∧ Below w.heap.size w w' := by
 induction k using Nat.strongRecOn with
 | _ k ih =>
 intro g0 g3 gM gN g1 r w hC hD h
 cases k with
 | zero => exact absurd h (by simp [spec_l17Nodes.f])
 | succ k =>
 simp only [spec_l17Nodes.f] at h
 have i6 := Try.underlying25
 have hJ := am hC; have i4 := am hD; clear hC hD; have HB := am (Below.refl w.heap.size w)
 have H : (if g0 = 0 then (spec_l17Nodes.j0 k 0 (g3 == 0) g0 g3 g1) else (if g0 = 1 then ((spec_ActOk.f g3).bind fun hE => (spec_l17Nodes.j0 k 1 hE g0 g3 g1)) else (if g0 = 2 then ((spec_l6In.f g3 1 9).bind fun hF => (spec_l17Nodes.j0 k 1 hF g0 g3 g1)) else (if g0 = 3 then (spec_l17Nodes.j0 k 2 (g3 == 0) g0 g3 g1) else (if g0 = 4 then (spec_l17Nodes.j0 k 2 (g3 == 0) g0 g3 g1) else (some 0)))))) = some r := h
 clear h; have HC2 := am H; clear H
 go_enter Try.func42, Try.ntmps42
 go_upto_block 0 with (first | ((with_reducible refine gate_dst (N := 1) rfl ?_); (try (refine gate_guard (by rfl) ?_; dsimp only)); refine bx (cs := #[.int .i64 g0, .int .i64 g3, .slice gM g1.length gN]) (t := 25) fun hG hg w3 hbox hb => ?_; have g2 := am (hbox); have i5 := bz HB hg; have h5 := bz HB hg; replace HB := bs HB hb; clear hb hbox hg; obtain ⟨gO, gP, gQ, gR, gS, gT⟩ := cs3 g2))
 (try simp only [Act.put, List.setIfInBounds_toArray, List.set_cons_zero, List.set_cons_succ])
 go_cut [3, 4] (fun v3 v4 wc => ∃ (kq : Nat) (g5 : Int) (hH : Bool), v3 = .int .i64 g5 ∧ v4 = .bool hH ∧ Aside0 (spec_l17Nodes.j0 kq g5 hH g0 g3 g1 = some r) ∧ Aside0 (kq ≤ k) ∧ Aside0 (wc.heap[hG]? = some (.cells #[.int .i64 g0, .int .i64 g3, (.slice gM g1.length gN)] 25 (0, 0))) ∧ Aside0 (Below w.heap.size w wc))
 case first =>
  have H := HC2.1
  clear HC2
  by_cases c5 : g0 = 0
  ·
   rw [if_pos c5] at H; have c5b0 : (g0 == 0) = true := beq_iff_eq.mpr c5; have c5b1 : (g0 != 0) = false := bne_eq_false_iff_eq.mpr c5; clear c5
   (first | rw [c5b0] | (simp only [i64_w, i32_w]; rw [c5b0]) | skip)
   have H' := am H
   clear H
   go_wp2
   go_meet
   case rel => exact ⟨_, (0), ((g3 == 0)), rq, rq, H', ⟨by first | omega | exact Nat.le_refl _⟩, kf g2, bw⟩
  ·
   rw [if_neg c5] at H; have c5b0 : (g0 == 0) = false := beq_eq_false_iff_ne.mpr c5; have c5b1 : (g0 != 0) = true := bne_iff_ne.mpr c5
   (first | rw [c5b0] | (simp only [i64_w, i32_w]; rw [c5b0]) | skip)
   by_cases c6 : g0 = 1
   ·
    rw [if_pos c6] at H; have c6b0 : (g0 == 1) = true := beq_iff_eq.mpr c6; have c6b1 : (g0 != 1) = false := bne_eq_false_iff_eq.mpr c6; clear c6
    replace H := Option.bind_eq_some_iff.mp H
    obtain ⟨hE, A70, H⟩ := H
    replace H : (spec_l17Nodes.j0 k 1 hE g0 g3 g1) = some r := H
    have A7 := am A70
    clear A70
    have H' := am H
    clear H; obtain ⟨gU, gV, gW, gX, gY, gZ⟩ := cs3 g2
    go_wp2_with (first | ((with_reducible refine gate_callee (f := 60) rfl ?_); refine gl (some 19) Try.func60 #[.int .i64 g3] ?_; (with_reducible refine (spec_ActOk.calls g3 hE _ A7.1).mono ?_); rintro e w' ⟨rfl, ⟨nd, rfl⟩⟩; refine ⟨_, rfl, ?_⟩))
    go_meet
    case rel => exact ⟨_, (1), (hE), rq, rq, H', ⟨by first | omega | exact Nat.le_refl _⟩, kf g2, bw⟩
   ·
    rw [if_neg c6] at H; have c6b0 : (g0 == 1) = false := beq_eq_false_iff_ne.mpr c6; have c6b1 : (g0 != 1) = true := bne_iff_ne.mpr c6
    by_cases c9 : g0 = 2
    ·
     rw [if_pos c9] at H; have c9b0 : (g0 == 2) = true := beq_iff_eq.mpr c9; have c9b1 : (g0 != 2) = false := bne_eq_false_iff_eq.mpr c9; clear c9
     replace H := Option.bind_eq_some_iff.mp H
     obtain ⟨hF, hO, H⟩ := H
     replace H : (spec_l17Nodes.j0 k 1 hF g0 g3 g1) = some r := H
     have A10 := am hO
     clear hO
     have H' := am H
     clear H; obtain ⟨gC, gD, gE, gF, gG, gH⟩ := cs3 g2
     go_wp2_with (first | ((with_reducible refine gate_callee (f := 41) rfl ?_); refine gl (some 24) Try.func41 #[.int .i64 g3, .int .i64 1, .int .i64 9] ?_; (with_reducible refine (spec_l6In.calls g3 1 9 hF _ A10.1).mono ?_); rintro e w' ⟨rfl, ⟨nd, rfl⟩⟩; refine ⟨_, rfl, ?_⟩))
     go_meet
     case rel => exact ⟨_, (1), (hF), rq, rq, H', ⟨by first | omega | exact Nat.le_refl _⟩, kf g2, bw⟩
    ·
     rw [if_neg c9] at H; have c9b0 : (g0 == 2) = false := beq_eq_false_iff_ne.mpr c9; have c9b1 : (g0 != 2) = true := bne_iff_ne.mpr c9
     by_cases c12 : g0 = 3
     ·
      rw [if_pos c12] at H; have c12b0 : (g0 == 3) = true := beq_iff_eq.mpr c12; have c12b1 : (g0 != 3) = false := bne_eq_false_iff_eq.mpr c12; clear c12
      have H' := am H
      clear H
      go_wp2
      go_meet
      case rel => exact ⟨_, (2), ((g3 == 0)), rq, rq, H', ⟨by first | omega | exact Nat.le_refl _⟩, kf g2, bw⟩
     ·
      rw [if_neg c12] at H; have c12b0 : (g0 == 3) = false := beq_eq_false_iff_ne.mpr c12; have c12b1 : (g0 != 3) = true := bne_iff_ne.mpr c12
      by_cases c13 : g0 = 4
      ·
       rw [if_pos c13] at H; have c13b0 : (g0 == 4) = true := beq_iff_eq.mpr c13; have c13b1 : (g0 != 4) = false := bne_eq_false_iff_eq.mpr c13; clear c13
       have H' := am H
       clear H
       go_wp2
       go_meet
       case rel => exact ⟨_, (2), ((g3 == 0)), rq, rq, H', ⟨by first | omega | exact Nat.le_refl _⟩, kf g2, bw⟩
      ·
       rw [if_neg c13] at H; have c13b0 : (g0 == 4) = false := beq_eq_false_iff_ne.mpr c13; have c13b1 : (g0 != 4) = true := bne_iff_ne.mpr c13
       obtain rfl := Option.some.inj H
       go_wp2
       go_ret
       exact ⟨by first | rfl | (simp [errW_none, errW_some] <;> rfl) | (simp [*, errW_none, errW_some] <;> rfl), by repeat (first | (with_reducible first | exact HB.1 | apply below_alloc | apply pw_below_drewN | apply below_drew1 | refine below_set ?_ h5.1) | exact HB.1)⟩
 case rest =>
  clear HC2; (try clear c1); (try clear p2); (try clear c4); (try clear c5); (try clear c5b0); (try clear c5b1); (try clear c6); (try clear c6b0); (try clear c6b1); (try clear c9); (try clear c9b0); (try clear c9b1); (try clear c12); (try clear c12b0); (try clear c12b1); (try clear c13); (try clear c13b0); (try clear c13b1); (try clear gC); (try clear gD); (try clear gE); (try clear gO); (try clear gP); (try clear gQ); (try clear gU); (try clear gV); (try clear gW); (try clear gF); (try clear gG); (try clear gH); (try clear gR); (try clear gS); (try clear gT); (try clear gX); (try clear gY); (try clear gZ)
  obtain ⟨kq, g5, hH, rfl, rfl, HA, HJ1, g2, HB⟩ := hcut
  cases kq with
  | zero => exact absurd HA.1 (by simp [spec_l17Nodes.j0])
  | succ kj1 =>
   have H := HA.1
   clear HA
   simp only [spec_l17Nodes.j0] at H
   have hK := am H; clear H
   go_upto_region 15 with (fail)
   go_cut [36] (fun v36 wc => ∃ (kq : Nat) (gI : Bool), v36 = .bool gI ∧ Aside0 (spec_l17Nodes.j1 kq g5 gI g0 g3 g1 = some r) ∧ Aside0 (kq ≤ kj1) ∧ Aside0 (wc.heap[hG]? = some (.cells #[.int .i64 g0, .int .i64 g3, (.slice gM g1.length gN)] 25 (0, 0))) ∧ Aside0 (Below w.heap.size w wc))
   case first =>
    have H := hK.1
    clear hK
    by_cases c15 : hH = true
    ·
     subst c15
     have H1 : (spec_l17Nodes.j1 kj1 g5 ((g1.length : Int) != g5) g0 g3 g1) = some r := by rw [if_pos rfl] at H; exact H
     clear H
     have H := H1
     clear H1
     have H' := am H
     clear H; obtain ⟨h6, h7, h8, h9, hA, hB⟩ := cs3 g2
     go_wp2
     go_meet
     case rel => exact ⟨_, (((g1.length : Int) != g5)), rq, H', ⟨by have := HJ1.1; first | omega | exact Nat.le_refl _⟩, kf g2, bw⟩
    ·
     replace c15 := Bool.eq_false_iff.mpr c15
     subst c15
     have H1 : (spec_l17Nodes.j1 kj1 g5 true g0 g3 g1) = some r := by rw [if_neg (show ¬ (false = true) by decide)] at H; exact H
     clear H
     have H := H1
     clear H1
     have H' := am H
     clear H
     go_wp2
     go_meet
     case rel => exact ⟨_, (true), rq, H', ⟨by have := HJ1.1; first | omega | exact Nat.le_refl _⟩, kf g2, bw⟩
   case rest =>
    clear hK; (try clear c1); (try clear p2); (try clear c4); (try clear c5); (try clear c5b0); (try clear c5b1); (try clear c6); (try clear c6b0); (try clear c6b1); (try clear c9); (try clear c9b0); (try clear c9b1); (try clear c12); (try clear c12b0); (try clear c12b1); (try clear c13); (try clear c13b0); (try clear c13b1); (try clear c15); (try clear gC); (try clear gD); (try clear gE); (try clear h6); (try clear h7); (try clear h8); (try clear gO); (try clear gP); (try clear gQ); (try clear gU); (try clear gV); (try clear gW); (try clear gF); (try clear gG); (try clear gH); (try clear h9); (try clear hA); (try clear hB); (try clear gR); (try clear gS); (try clear gT); (try clear gX); (try clear gY); (try clear gZ); (try clear p2)
    obtain ⟨kq, gI, rfl, HA, hI, g2, HB⟩ := hcut
    cases kq with
    | zero => exact absurd HA.1 (by simp [spec_l17Nodes.j1])
    | succ hL =>
     have H := HA.1
     clear HA
     simp only [spec_l17Nodes.j1] at H
     by_cases c17 : gI = true
     ·
      subst c17
      have H1 : (some 0) = some r := by rw [if_pos rfl] at H; exact H
      clear H
      have H := H1
      clear H1
      obtain rfl := Option.some.inj H
      go_wp2
      go_ret
      exact ⟨by first | rfl | (simp [errW_none, errW_some] <;> rfl) | (simp [*, errW_none, errW_some] <;> rfl), by repeat (first | (with_reducible first | exact HB.1 | apply below_alloc | apply pw_below_drewN | apply below_drew1 | refine below_set ?_ h5.1) | exact HB.1)⟩
     ·
      replace c17 := Bool.eq_false_iff.mpr c17
      subst c17
      have H1 : (spec_l17Nodes.l0 hL g5 1 0 g0 g3 g1) = some r := by rw [if_neg (show ¬ (false = true) by decide)] at H; exact H
      clear H
      have H := H1
      clear H1
      have H' := am H
      clear H
      go_wp2
      go_loopg [5, 6] hL (fun kq v5 v6 w' => ∃ (h0 : Int) (g4 : Int), v5 = .int .i64 h0 ∧ v6 = .int .i64 g4 ∧ Aside0 (spec_l17Nodes.l0 kq g5 h0 g4 g0 g3 g1 = some r) ∧ Aside0 (kq ≤ hL) ∧ Aside0 (w'.heap[hG]? = some (.cells #[.int .i64 g0, .int .i64 g3, (.slice gM g1.length gN)] 25 (0, 0))) ∧ Aside0 (Below w.heap.size w w'))
      case atStart => exact ⟨(1), (0), rq, rq, H', ⟨Nat.le_refl _⟩, kf g2, bw⟩
      case round =>
       clear H'; (try clear c1); (try clear p2); (try clear c4); (try clear c5); (try clear c5b0); (try clear c5b1); (try clear c6); (try clear c6b0); (try clear c6b1); (try clear c9); (try clear c9b0); (try clear c9b1); (try clear c12); (try clear c12b0); (try clear c12b1); (try clear c13); (try clear c13b0); (try clear c13b1); (try clear c15); (try clear c17); (try clear gC); (try clear gD); (try clear gE); (try clear h6); (try clear h7); (try clear h8); (try clear gO); (try clear gP); (try clear gQ); (try clear gU); (try clear gV); (try clear gW); (try clear gF); (try clear gG); (try clear gH); (try clear h9); (try clear hA); (try clear hB); (try clear gR); (try clear gS); (try clear gT); (try clear gX); (try clear gY); (try clear gZ); (try clear p2); (try clear g2); (try clear HB)
       obtain ⟨h0, g4, rfl, rfl, HA, HK3, g2, HB⟩ := hrel
       cases gk with
       | zero => exact absurd HA.1 (by simp [spec_l17Nodes.l0])
       | succ k3 =>
        have H := HA.1
        clear HA
        simp only [spec_l17Nodes.l0] at H
        by_cases c18 : g4 < g5
        ·
         rw [if_pos c18] at H; have c18b0 : decide (g4 < g5) = true := decide_eq_true c18; clear c18
         by_cases c19 : 0 ≤ g4
         ·
          rw [if_pos c19] at H; have c19b0 : decide (0 ≤ g4) = true := decide_eq_true c19; clear c19
          by_cases c20 : g4 < (g1.length : Int)
          ·
           rw [if_pos c20] at H; have c20b0 : decide (g4 < (g1.length : Int)) = true := decide_eq_true c20; clear c20
           replace H := Option.bind_eq_some_iff.mp H
           obtain ⟨gB, hP, H⟩ := H
           replace H : (if gB = 0 then (some 0) else (spec_l17Nodes.l0 k3 g5 (mn 1000 (wrap64 (h0 + gB))) (wrap64 (g4 + 1)) g0 g3 g1)) = some r := H
           have A21 := am hP
           clear hP
           by_cases c22 : gB = 0
           ·
            rw [if_pos c22] at H; have c22b0 : (gB == 0) = true := beq_iff_eq.mpr c22; have c22b1 : (gB != 0) = false := bne_eq_false_iff_eq.mpr c22; clear c22
            obtain rfl := Option.some.inj H
            obtain ⟨hR, hS, hT, hU, hV, hW⟩ := cs3 g2; have h1 : 0 ≤ (g4 : Int) := od; have h2 : g4 < (g1.length : Int) := od
            obtain ⟨hQ, h3, h4, hM, g6, g7, g8, g9, gA⟩ := at_T25 hJ.1 g4 h1 h2
            cases hM; replace g6 := hc HB g6; replace g7 := hc HB g7; replace g8 := hc HB g8; have gJ := am gA; have gK := am g9; clear gA g9; replace h1 := eq_true h1; replace h2 := eq_true h2
            go_wp2_with (first | ((with_reducible refine gate_callee (f := 42) rfl ?_); refine gl (some 47) Try.func42 #[.agg #[.int .i64 ((rd_T25 g1 g4).f0), .int .i64 ((rd_T25 g1 g4).f1), .slice h3 ((rd_T25 g1 g4).f2).length h4]] ?_; (with_reducible refine (ih k3 (by have := HJ1.1; have := hI.1; have := HK3.1; omega) ((rd_T25 g1 g4).f0) ((rd_T25 g1 g4).f1) _ _ ((rd_T25 g1 g4).f2) gB _ ?side1 ?side2 A21.1).mono ?_); (case side1 => exact cq (Kd.C_below gJ.1 HB.1)); (case side2 => exact gK.1); rintro e w24 ⟨rfl, hb⟩; refine ⟨_, rfl, ?_⟩; replace g2 := kb g2 hb; replace HB := bs HB hb; clear hb))
            go_ret
            exact ⟨by first | rfl | (simp [errW_none, errW_some] <;> rfl) | (simp [*, errW_none, errW_some] <;> rfl), by repeat (first | (with_reducible first | exact HB.1 | apply below_alloc | apply pw_below_drewN | apply below_drew1 | refine below_set ?_ h5.1) | exact HB.1)⟩
           ·
            rw [if_neg c22] at H; have c22b0 : (gB == 0) = false := beq_eq_false_iff_ne.mpr c22; have c22b1 : (gB != 0) = true := bne_iff_ne.mpr c22
            obtain ⟨hN, gL⟩ : ∃ j_ : Int, (mn 1000 (wrap64 (h0 + gB))) = j_ := ⟨_, rfl⟩
            replace H : (spec_l17Nodes.l0 k3 g5 hN (wrap64 (g4 + 1)) g0 g3 g1) = some r := by first | (rw [gL] at H; exact H) | (simp only [gL] at H ⊢; exact H)
            (try rw [gL] at A21)
            have i3 : (if (wrap64 (h0 + gB)) < 1000 then (wrap64 (h0 + gB)) else 1000) = hN := gL
            have H' := am H
            clear H; obtain ⟨hX, hY, hZ, i0, i1, i2⟩ := cs3 g2; have h1 : 0 ≤ (g4 : Int) := od; have h2 : g4 < (g1.length : Int) := od
            obtain ⟨hQ, h3, h4, hM, g6, g7, g8, g9, gA⟩ := at_T25 hJ.1 g4 h1 h2
            cases hM; replace g6 := hc HB g6; replace g7 := hc HB g7; replace g8 := hc HB g8; have gJ := am gA; have gK := am g9; clear gA g9; replace h1 := eq_true h1; replace h2 := eq_true h2
            go_wp2_with (first | ((with_reducible refine gate_callee (f := 42) rfl ?_); refine gl (some 47) Try.func42 #[.agg #[.int .i64 ((rd_T25 g1 g4).f0), .int .i64 ((rd_T25 g1 g4).f1), .slice h3 ((rd_T25 g1 g4).f2).length h4]] ?_; (with_reducible refine (ih k3 (by have := HJ1.1; have := hI.1; have := HK3.1; omega) ((rd_T25 g1 g4).f0) ((rd_T25 g1 g4).f1) _ _ ((rd_T25 g1 g4).f2) gB _ ?side1 ?side2 A21.1).mono ?_); (case side1 => exact cq (Kd.C_below gJ.1 HB.1)); (case side2 => exact gK.1); rintro e w27 ⟨rfl, hb⟩; refine ⟨_, rfl, ?_⟩; replace g2 := kb g2 hb; replace HB := bs HB hb; clear hb))
            go_roundg k3
            case measure => have := HJ1.1; have := hI.1; have := HK3.1; omega
            case rel => exact ⟨(hN), (wrap64 (g4 + 1)), (by first | rfl | (simp; done) | (simp only [← gL] <;> (first | rfl | simp)) | (simp [*]; done)), rq, H', ⟨by have := HJ1.1; have := hI.1; have := HK3.1; omega⟩, kf g2, bw⟩
          ·
           rw [if_neg c20] at H
           exact absurd H (by simp)
         ·
          rw [if_neg c19] at H
          exact absurd H (by simp)
        ·
         rw [if_neg c18] at H; have c18b0 : decide (g4 < g5) = false := decide_eq_false c18; clear c18
         obtain rfl := Option.some.inj H
         go_wp2
         go_ret
         exact ⟨by first | rfl | (simp [errW_none, errW_some] <;> rfl) | (simp [*, errW_none, errW_some] <;> rfl), by repeat (first | (with_reducible first | exact HB.1 | apply below_alloc | apply pw_below_drewN | apply below_drew1 | refine below_set ?_ h5.1) | exact HB.1)⟩


/-! ### spec_ClockOk: function 14 -/
def spec_ClockOk.f (k : Nat) (a0_0 : Int) (a0_1 : Int) (l0_2 : List (S25)) : Option (Bool) := (spec_l17Nodes.f k a0_0 a0_1 l0_2).bind fun t236 => ((spec_l6In.f t236 1 16).bind fun t237 => (some t237))
theorem spec_ClockOk.mono : ∀ a0 a1 a2 k, LeO (spec_ClockOk.f k a0 a1 a2) (spec_ClockOk.f (k + 1) a0 a1 a2) := by
 intro a0 a1 a2 k
 unfold spec_ClockOk.f
 repeat' first
   | (with_reducible exact spec_l17Nodes.mono _ _ _ _)
   | (with_reducible exact LeO.refl _)
   | (with_reducible exact LeO.none _)
   | (with_reducible refine LeO.ite ?_ ?_)
   | (with_reducible refine LeO.bind ?_ (fun _ => ?_))
   | exact spec_l17Nodes.mono _ _ _ _
   | exact LeO.none _
   | refine LeO.ite ?_ ?_
   | refine LeO.bind ?_ (fun _ => ?_)
set_option maxHeartbeats 8000000 in
set_option maxRecDepth 100000 in
theorem spec_ClockOk.calls (k : Nat) (g1 : Int) (g2 : Int) (g6 : Option Addr) (g7 : Nat) (g0 : List (S25)) (r : Bool) (w : World) (g8 : Kd.C k25 w g6 g0.length g0) (g9 : g0.length ≤ g7) (h : spec_ClockOk.f k g1 g2 g0 = some r) :
  Calls Try.prog 14 #[.agg #[.int .i64 g1, .int .i64 g2, .slice g6 g0.length g7]] w fun e w' => e = .returned (.bool r) ∧ Below w.heap.size w w' := by
 have gL := Try.underlying25
 have gA := am g8; have gB := am g9; clear g8 g9; have HB := am (Below.refl w.heap.size w)
 have H : ((spec_l17Nodes.f k g1 g2 g0).bind fun g3 => ((spec_l6In.f g3 1 16).bind fun g4 => (some g4))) = some r := h
 clear h
 replace H := Option.bind_eq_some_iff.mp H
 obtain ⟨g3, A20, H⟩ := H
 replace H : ((spec_l6In.f g3 1 16).bind fun g4 => (some g4)) = some r := H
 have A2 := am A20
 clear A20
 replace H := Option.bind_eq_some_iff.mp H
 obtain ⟨g4, A30, H⟩ := H
 replace H : (some g4) = some r := H
 have A3 := am A30
 clear A30
 obtain rfl := Option.some.inj H
 go_enter Try.func14, Try.ntmps14
 go_wp2_with (first | ((with_reducible refine gate_dst (N := 1) rfl ?_); refine bx (cs := #[.int .i64 g1, .int .i64 g2, .slice g6 g0.length g7]) (t := 25) fun gJ hg w4 hbox hb => ?_; have g5 := am (hbox); have gK := bz HB hg; have gC := bz HB hg; replace HB := bs HB hb; clear hb hbox hg; obtain ⟨gD, gE, gF, gG, gH, gI⟩ := cs3 g5) | ((with_reducible refine gate_callee (f := 42) rfl ?_); refine gl (some 4) Try.func42 #[.agg #[.int .i64 g1, .int .i64 g2, .slice g6 g0.length g7]] ?_; (with_reducible refine (spec_l17Nodes.calls k g1 g2 _ _ g0 g3 _ ?side1 ?side2 A2.1).mono ?_); (case side1 => exact cq (Kd.C_below gA.1 HB.1)); (case side2 => exact gB.1); rintro e w6 ⟨rfl, hb⟩; refine ⟨_, rfl, ?_⟩; replace g5 := kb g5 hb; replace HB := bs HB hb; clear hb) | ((with_reducible refine gate_callee (f := 41) rfl ?_); refine gl (some 5) Try.func41 #[.int .i64 g3, .int .i64 1, .int .i64 16] ?_; (with_reducible refine (spec_l6In.calls g3 1 16 g4 _ A3.1).mono ?_); rintro e w' ⟨rfl, ⟨nd, rfl⟩⟩; refine ⟨_, rfl, ?_⟩))
 go_ret
 exact ⟨by first | rfl | (simp [errW_none, errW_some] <;> rfl) | (simp [*, errW_none, errW_some] <;> rfl), by repeat (first | (with_reducible first | exact HB.1 | apply below_alloc | apply pw_below_drewN | apply below_drew1 | refine below_set ?_ gC.1) | exact HB.1)⟩


/-! ### spec_l17Two: function 65 -/
def spec_l17Two.f (a0 : Int) (a1_0 : Int) (a1_1 : Int) (l1_2 : List (S25)) (a2_0 : Int) (a2_1 : Int) (l2_2 : List (S25)) : Option (Int × Int × (List (S25))) := some (a0, 0, (([(⟨a1_0, a1_1, l1_2⟩ : S25), (⟨a2_0, a2_1, l2_2⟩ : S25)] : List (S25))))
set_option maxHeartbeats 8000000 in
set_option maxRecDepth 100000 in
theorem spec_l17Two.calls (a0 : Int) (gB : Int) (gC : Int) (g2 : Nat → Prop) (gI : Option Addr) (gJ : Nat) (g6 : List (S25)) (gD : Int) (gE : Int) (g3 : Nat → Prop) (gK : Option Addr) (gL : Nat) (g7 : List (S25)) (r1 : Int) (r2 : Int) (r3 : List (S25)) (w : World) (gV : Kd.V k25 25 w w.heap.size (fun k_ => g2 k_) (.slice gI g6.length gJ) g6) (gW : Kd.V k25 25 w w.heap.size (fun k_ => g3 k_) (.slice gK g7.length gL) g7) (h : spec_l17Two.f a0 gB gC g6 gD gE g7 = some (r1, r2, r3)) :
  Calls Try.prog 65 #[.int .i64 a0, .agg #[.int .i64 gB, .int .i64 gC, .slice gI g6.length gJ], .agg #[.int .i64 gD, .int .i64 gE, .slice gK g7.length gL]] w fun e w' => ∃ v2_ : Value, e = .returned (.agg #[.int .i64 r1, .int .i64 r2, v2_]) ∧ Kd.N k25 25 w' w.heap.size (fun k_ => ((g2 k_ ∨ g3 k_) ∨ w.heap.size ≤ k_)) v2_ r3 ∧ Below w.heap.size w w' := by
 have hP := Try.underlying25
 have g4 := am (show Kd.V k25 25 w w.heap.size (fun k_ => ((g2 k_ ∨ g3 k_) ∨ w.heap.size ≤ k_)) (.slice gI g6.length gJ) g6 from Kd.V_mono gV (fun k_ hk => .inl (.inl hk))); have g5 := am (show Kd.V k25 25 w w.heap.size (fun k_ => ((g2 k_ ∨ g3 k_) ∨ w.heap.size ≤ k_)) (.slice gK g7.length gL) g7 from Kd.V_mono gW (fun k_ hk => .inl (.inr hk))); have HB := am (Below.refl w.heap.size w)
 have H : (some (a0, 0, (([(⟨gB, gC, g6⟩ : S25), (⟨gD, gE, g7⟩ : S25)] : List (S25))))) = some (r1, r2, r3) := h
 clear h
 obtain ⟨gU, gG⟩ : ∃ y_ : List (S25), y_ = (([(⟨gB, gC, g6⟩ : S25), (⟨gD, gE, g7⟩ : S25)] : List (S25))) := ⟨_, rfl⟩
 replace H : (some (a0, 0, gU)) = some (r1, r2, r3) := by first | (rw [gG]; with_reducible exact H) | (have H2_ := (Option.bind_some _ _).symm.trans H; rw [gG]; with_reducible exact H2_) | (have H2_ := (Option.bind_some _ _).symm.trans H; with_reducible exact H2_) | with_reducible exact H | (rw [gG]; exact H) | exact H
 have gS := am gG
 clear gG
 simp only [Option.some.injEq, Prod.mk.injEq] at H
 obtain ⟨rfl, rfl, rfl⟩ := H
 go_enter Try.func65, Try.ntmps65
 go_wp2_with (first | ((with_reducible refine gate_dst (N := 4) rfl ?_); refine bx (cs := #[.int .i64 gB, .int .i64 gC, .slice gI g6.length gJ]) (t := 25) fun g8 hg w4 hbox hb => ?_; replace g4 := vb g4 hg hb; replace g5 := vb g5 hg hb; have g1 := am (hbox); have hK := bz HB hg; have gX := bz HB hg; replace HB := bs HB hb; clear hb hbox hg) | ((with_reducible refine gate_dst (N := 5) rfl ?_); refine bx (cs := #[.int .i64 gD, .int .i64 gE, .slice gK g7.length gL]) (t := 25) fun g9 hg w5 hbox hb => ?_; replace g4 := vb g4 hg hb; replace g5 := vb g5 hg hb; have gA := am (hbox); have hL := bz HB hg; have gY := bz HB hg; replace HB := bs HB hb; have gM := nl g1 hg; have gN := ng g1 hg; replace g1 := kb g1 hb; clear hb hbox hg) | ((with_reducible refine gate_dst (N := 6) rfl ?_); refine bx (cs := #[.int .i64 0, .int .i64 0, .slice none 0 0]) (t := 25) fun g0 hg w6 hbox hb => ?_; replace g4 := vb g4 hg hb; replace g5 := vb g5 hg hb; have gH := am (hbox); have hM := bz HB hg; have gZ := bz HB hg; replace HB := bs HB hb; have gO := nl g1 hg; have gP := ng g1 hg; replace g1 := kb g1 hb; have gQ := nl gA hg; have gR := ng gA hg; replace gA := kb gA hb; clear hb hbox hg; have hQ := gM.1; have hR := gN.1; have hS := gO.1; have hT := gP.1; obtain ⟨hE, hF, hG, hH, hI, hJ⟩ := cs3 g1; have hN := gQ.1; have hO := gR.1; obtain ⟨h2, h3, h4, h5, h6, h7⟩ := cs3 gA) | ((with_reducible refine gate_dst (N := 10) rfl ?_); refine Kd.N_lit k25 _ 25 ?hg (N' := 10) ?hd (xs := ([(⟨gB, gC, g6⟩ : S25), (⟨gD, gE, g7⟩ : S25)] : List (S25))) (inner := [.int .i64 gB, .int .i64 gC, .slice gI g6.length gJ, .int .i64 gD, .int .i64 gE, .slice gK g7.length gL]) (ok := (fun k_ => ((g2 k_ ∨ g3 k_) ∨ w.heap.size ≤ k_) ∧ k_ ≠ g8 ∧ k_ ≠ g9 ∧ k_ ≠ g0)) (okp := (fun k_ => ((g2 k_ ∨ g3 k_) ∨ w.heap.size ≤ k_) ∧ k_ ≠ g8 ∧ k_ ≠ g9 ∧ k_ ≠ g0)) ?hr ?hp (fun _ hk => hk) ((show ∀ k_, w6.heap.size ≤ k_ → (fun k_ => ((g2 k_ ∨ g3 k_) ∨ w.heap.size ≤ k_) ∧ k_ ≠ g8 ∧ k_ ≠ g9 ∧ k_ ≠ g0) k_ from fun k_ hk => ⟨(.inr (zt HB hk)), Kd.freshB (g := g8) (o := .cells #[.int .i64 gB, .int .i64 gC, .slice gI g6.length gJ] 25 (0, 0)) (kf g1).1 k_ hk, Kd.freshB (g := g9) (o := .cells #[.int .i64 gD, .int .i64 gE, .slice gK g7.length gL] 25 (0, 0)) (kf gA).1 k_ hk, Kd.freshB (g := g0) (o := .cells #[.int .i64 0, .int .i64 0, .slice none 0 0] 25 (0, 0)) (kf gH).1 k_ hk⟩) _ (Nat.le_refl _)) (Below.refl _ _) (Nat.le_refl _) (by simp) ?_; (case hd => rfl); (case hg => rfl); (case hr => first | (go_simp; done) | (go_simp; rfl)); (case hp => exact (Reps.c3 (show Kd.FK k25 _ _ (⟨gB, gC, g6⟩ : S25) [.int .i64 gB, .int .i64 gC, .slice gI g6.length gJ] from (k25_mkF _ _ (⟨gB, gC, g6⟩ : S25) (Kd.V_reads' (Kd.V_mono (ok' := (fun k_ => ((g2 k_ ∨ g3 k_) ∨ w.heap.size ≤ k_) ∧ k_ ≠ g8 ∧ k_ ≠ g9 ∧ k_ ≠ g0)) (g4.1) mq)).2.1 (Kd.V_F (Kd.V_mono (ok' := (fun k_ => ((g2 k_ ∨ g3 k_) ∨ w.heap.size ≤ k_) ∧ k_ ≠ g8 ∧ k_ ≠ g9 ∧ k_ ≠ g0)) (g4.1) mq)))) (Reps.c3 (show Kd.FK k25 _ _ (⟨gD, gE, g7⟩ : S25) [.int .i64 gD, .int .i64 gE, .slice gK g7.length gL] from (k25_mkF _ _ (⟨gD, gE, g7⟩ : S25) (Kd.V_reads' (Kd.V_mono (ok' := (fun k_ => ((g2 k_ ∨ g3 k_) ∨ w.heap.size ≤ k_) ∧ k_ ≠ g8 ∧ k_ ≠ g9 ∧ k_ ≠ g0)) (g5.1) mq)).2.1 (Kd.V_F (Kd.V_mono (ok' := (fun k_ => ((g2 k_ ∨ g3 k_) ∨ w.heap.size ≤ k_) ∧ k_ ≠ g8 ∧ k_ ≠ g9 ∧ k_ ≠ g0)) (g5.1) mq)))) (Reps.none _ _)))); intro hU w12 gF hb hg_ hnew_; clear hg_ hnew_; (first | rw [← gS.1] at gF | (simp only [Int.reduceToNat] at gF; rw [← gS.1] at gF)); replace g4 := ve g4 hb (by first | exact Kd.N_base gF | exact Kd.R_base gF); replace g5 := ve g5 hb (by first | exact Kd.N_base gF | exact Kd.R_base gF); have gT := am (Kd.N_lower gF (below_size bq)); replace g1 := kb g1 hb; replace gA := kb gA hb; replace gH := kb gH hb; replace HB := bs HB hb; clear hb gF; obtain ⟨h0, h1, rfl⟩ := Kd.N_slice gT.1; obtain ⟨h8, h9, hA, hB, hC, hD⟩ := cs3 gH))
 refine bodyPost_ret (results_cell_row rfl _ _ g0 25 #[.int .i64 a0, .int .i64 0, .slice h0 gU.length h1] (0, 0) _ rfl (kf gH).1 Try.underlying25 rfl (by kernel_rfl)) rfl ?_
 exact ⟨_, by first | rfl | (simp [errW_none, errW_some] <;> rfl) | (simp [*, errW_none, errW_some] <;> rfl), by (with_reducible repeat (first | apply Kd.N_alloc | apply Kd.N_drewN | apply Kd.N_drew)); exact Kd.N_mono (Kd.N_far (p := ⟨g0, 2, none⟩) (Kd.N_far (p := ⟨g0, 1, none⟩) (Kd.N_far (p := ⟨g0, 0, none⟩) (Kd.N_mono gT.1 (fun k_ hk => (⟨hk, hk.2.2.2⟩ : _ ∧ k_ ≠ g0))) mq (.int .i64 a0)) mq (.int .i64 0)) mq (.slice h0 gU.length h1)) mq, by repeat (first | (with_reducible first | exact HB.1 | apply below_alloc | apply pw_below_drewN | apply below_drew1 | refine below_set ?_ gX.1 | refine below_set ?_ gY.1 | refine below_set ?_ gZ.1) | exact HB.1)⟩
end Go.Proofs.Ytfnmjecofgeboaa.PAll
