-- Laid by a program of this session out of the translation's print
import Derived.Test.YtfnmjecofgeboaaPAll0
namespace Go.Proofs.Ytfnmjecofgeboaa.PAll
open Go.RowKit Go.Proofs.YtfnmjecofgeboaaW.PrintWords Go.Proofs.YtfnmjecofgeboaaW.PrintLast Go.Proofs.YtfnmjecofgeboaaW.PrintMore
attribute [local go_sem] max2_int min2_int max_two min_two max_three min_three max_four min_four   -- for this text's walks alone
set_option linter.unusedVariables false
set_option linter.unusedSimpArgs false

/-! ### spec_l6In: function 41 -/
def spec_l6In.f (a0 : Int) (a1 : Int) (a2 : Int) : Option (Bool) := if a0 ≥ a1 then (some (decide (a0 ≤ a2))) else (some false)
set_option maxHeartbeats 8000000 in
set_option maxRecDepth 100000 in
theorem spec_l6In.calls (a0 : Int) (a1 : Int) (a2 : Int) (r : Bool) (w : World) (h : spec_l6In.f a0 a1 a2 = some r) :
  Calls Try.prog 41 #[.int .i64 a0, .int .i64 a1, .int .i64 a2] w fun e w' => e = .returned (.bool r) ∧ Drawn0 w w' := by
 have H : (if a0 ≥ a1 then (some (decide (a0 ≤ a2))) else (some false)) = some r := h
 clear h
 by_cases c4 : a0 ≥ a1
 ·
  rw [if_pos c4] at H; have c4b0 : decide (a1 ≤ a0) = true := decide_eq_true c4; clear c4
  obtain rfl := Option.some.inj H
  go_enter Try.func41, Try.ntmps41
  go_wp2
  go_ret
  exact ⟨by first | rfl | (simp; done) | (simp [*]; done), by repeat (first | exact Drawn0.refl _ | apply Drawn0.step)⟩
 ·
  rw [if_neg c4] at H; have c4b0 : decide (a1 ≤ a0) = false := decide_eq_false c4; clear c4
  obtain rfl := Option.some.inj H
  go_enter Try.func41, Try.ntmps41
  go_wp2
  go_ret
  exact ⟨by first | rfl | (simp; done) | (simp [*]; done), by repeat (first | exact Drawn0.refl _ | apply Drawn0.step)⟩


/-! ### spec_ActOk: function 60 -/
def spec_ActOk.f (a0 : Int) : Option (Bool) := (spec_l6In.f a0 (-4) 4).bind fun t229 => (some t229)
set_option maxHeartbeats 8000000 in
set_option maxRecDepth 100000 in
theorem spec_ActOk.calls (a0 : Int) (r : Bool) (w : World) (h : spec_ActOk.f a0 = some r) :
  Calls Try.prog 60 #[.int .i64 a0] w fun e w' => e = .returned (.bool r) ∧ Drawn0 w w' := by
 have H : ((spec_l6In.f a0 (-4) 4).bind fun t229 => (some t229)) = some r := h
 clear h
 replace H := Option.bind_eq_some_iff.mp H
 obtain ⟨t229, A20, H⟩ := H
 replace H : (some t229) = some r := H
 have A2 := am A20
 clear A20
 obtain rfl := Option.some.inj H
 go_enter Try.func60, Try.ntmps60
 go_wp2_with (first | ((with_reducible refine gate_callee (f := 41) rfl ?_); refine goesL_ (some 4) rfl rfl Try.func41 (by kernel_rfl) rfl #[.int .i64 a0, .int .i64 (-4), .int .i64 4] rfl (by (try simp only [List.map_toArray, List.map_cons, List.map_nil]); first | done | rfl | (simp only [List.length_drop, List.length_take]; rfl)) ?_; (with_reducible refine (spec_l6In.calls a0 (-4) 4 t229 _ A2.out).mono ?_); rintro e w' ⟨rfl, ⟨nd, rfl⟩⟩; refine ⟨_, rfl, ?_⟩))
 go_ret
 exact ⟨by first | rfl | (simp; done) | (simp [*]; done), by repeat (first | exact Drawn0.refl _ | apply Drawn0.step)⟩


/-! ### spec_l17Nodes: function 42 -/
mutual
def spec_l17Nodes.j0 : Nat → Int → Bool → Int → Int → List (S25) → Option (Int)
 | 0, _, _, _, _, _ => none
 | k + 1, x3, x4, x231000, x231001, x231002 => if x4 = true then (spec_l17Nodes.j1 k x3 ((x231002.length : Int) != x3) x231000 x231001 x231002) else (spec_l17Nodes.j1 k x3 true x231000 x231001 x231002)
def spec_l17Nodes.j1 : Nat → Int → Bool → Int → Int → List (S25) → Option (Int)
 | 0, _, _, _, _, _ => none
 | k + 1, x3, x36, x231000, x231001, x231002 => if x36 = true then (some 0) else (spec_l17Nodes.l0 k x3 1 0 x231000 x231001 x231002)
def spec_l17Nodes.l0 : Nat → Int → Int → Int → Int → Int → List (S25) → Option (Int)
 | 0, _, _, _, _, _, _ => none
 | k + 1, x3, x5, x6, x231000, x231001, x231002 => if x6 < x3 then (if 0 ≤ x6 then (if x6 < (x231002.length : Int) then ((spec_l17Nodes.f k ((rd_T25 x231002 x6).f0) ((rd_T25 x231002 x6).f1) ((rd_T25 x231002 x6).f2)).bind fun t234 => (if t234 = 0 then (some 0) else (spec_l17Nodes.l0 k x3 (mn 1000 (wrap64 (x5 + t234))) (wrap64 (x6 + 1)) x231000 x231001 x231002))) else (none)) else (none)) else (some x5)
def spec_l17Nodes.f : Nat → Int → Int → List (S25) → Option (Int)
 | 0, _, _, _ => none
 | k + 1, a0_0, a0_1, l0_2 => if a0_0 = 0 then (spec_l17Nodes.j0 k 0 (a0_1 == 0) a0_0 a0_1 l0_2) else (if a0_0 = 1 then ((spec_ActOk.f a0_1).bind fun t231 => (spec_l17Nodes.j0 k 1 t231 a0_0 a0_1 l0_2)) else (if a0_0 = 2 then ((spec_l6In.f a0_1 1 9).bind fun t232 => (spec_l17Nodes.j0 k 1 t232 a0_0 a0_1 l0_2)) else (if a0_0 = 3 then (spec_l17Nodes.j0 k 2 (a0_1 == 0) a0_0 a0_1 l0_2) else (if a0_0 = 4 then (spec_l17Nodes.j0 k 2 (a0_1 == 0) a0_0 a0_1 l0_2) else (some 0)))))
end
theorem spec_l17Nodes.mono_l : ∀ k, (∀ y0 y1 y2, LeO (spec_l17Nodes.f k y0 y1 y2) (spec_l17Nodes.f (k + 1) y0 y1 y2)) ∧ (∀ y0 y1 y2 y3 y4, LeO (spec_l17Nodes.j0 k y0 y1 y2 y3 y4) (spec_l17Nodes.j0 (k + 1) y0 y1 y2 y3 y4)) ∧ (∀ y0 y1 y2 y3 y4, LeO (spec_l17Nodes.j1 k y0 y1 y2 y3 y4) (spec_l17Nodes.j1 (k + 1) y0 y1 y2 y3 y4)) ∧ (∀ y0 y1 y2 y3 y4 y5, LeO (spec_l17Nodes.l0 k y0 y1 y2 y3 y4 y5) (spec_l17Nodes.l0 (k + 1) y0 y1 y2 y3 y4 y5))
 | 0 => ⟨fun _ _ _ r h => by simp [spec_l17Nodes.f] at h, fun _ _ _ _ _ r h => by simp [spec_l17Nodes.j0] at h, fun _ _ _ _ _ r h => by simp [spec_l17Nodes.j1] at h, fun _ _ _ _ _ _ r h => by simp [spec_l17Nodes.l0] at h⟩
 | k + 1 => by
  obtain ⟨ih0, ih1, ih2, ih3⟩ := spec_l17Nodes.mono_l k
  refine ⟨?_, ?_, ?_, ?_⟩
  ·
   intro y0 y1 y2
   unfold spec_l17Nodes.f
   repeat' first
   | (with_reducible exact ih0 _ _ _)
   | (with_reducible exact ih1 _ _ _ _ _)
   | (with_reducible exact ih2 _ _ _ _ _)
   | (with_reducible exact ih3 _ _ _ _ _ _)
   | (with_reducible exact LeO.refl _)
   | (with_reducible exact LeO.none _)
   | (with_reducible refine LeO.ite ?_ ?_)
   | (with_reducible refine LeO.bind ?_ (fun _ => ?_))
   | exact ih0 _ _ _
   | exact ih1 _ _ _ _ _
   | exact ih2 _ _ _ _ _
   | exact ih3 _ _ _ _ _ _
   | exact LeO.none _
   | refine LeO.ite ?_ ?_
   | refine LeO.bind ?_ (fun _ => ?_)
  ·
   intro y0 y1 y2 y3 y4
   unfold spec_l17Nodes.j0
   repeat' first
   | (with_reducible exact ih0 _ _ _)
   | (with_reducible exact ih1 _ _ _ _ _)
   | (with_reducible exact ih2 _ _ _ _ _)
   | (with_reducible exact ih3 _ _ _ _ _ _)
   | (with_reducible exact LeO.refl _)
   | (with_reducible exact LeO.none _)
   | (with_reducible refine LeO.ite ?_ ?_)
   | (with_reducible refine LeO.bind ?_ (fun _ => ?_))
   | exact ih0 _ _ _
   | exact ih1 _ _ _ _ _
   | exact ih2 _ _ _ _ _
   | exact ih3 _ _ _ _ _ _
   | exact LeO.none _
   | refine LeO.ite ?_ ?_
   | refine LeO.bind ?_ (fun _ => ?_)
  ·
   intro y0 y1 y2 y3 y4
   unfold spec_l17Nodes.j1
   repeat' first
   | (with_reducible exact ih0 _ _ _)
   | (with_reducible exact ih1 _ _ _ _ _)
   | (with_reducible exact ih2 _ _ _ _ _)
   | (with_reducible exact ih3 _ _ _ _ _ _)
   | (with_reducible exact LeO.refl _)
   | (with_reducible exact LeO.none _)
   | (with_reducible refine LeO.ite ?_ ?_)
   | (with_reducible refine LeO.bind ?_ (fun _ => ?_))
   | exact ih0 _ _ _
   | exact ih1 _ _ _ _ _
   | exact ih2 _ _ _ _ _
   | exact ih3 _ _ _ _ _ _
   | exact LeO.none _
   | refine LeO.ite ?_ ?_
   | refine LeO.bind ?_ (fun _ => ?_)
  ·
   intro y0 y1 y2 y3 y4 y5
   unfold spec_l17Nodes.l0
   repeat' first
   | (with_reducible exact ih0 _ _ _)
   | (with_reducible exact ih1 _ _ _ _ _)
   | (with_reducible exact ih2 _ _ _ _ _)
   | (with_reducible exact ih3 _ _ _ _ _ _)
   | (with_reducible exact LeO.refl _)
   | (with_reducible exact LeO.none _)
   | (with_reducible refine LeO.ite ?_ ?_)
   | (with_reducible refine LeO.bind ?_ (fun _ => ?_))
   | exact ih0 _ _ _
   | exact ih1 _ _ _ _ _
   | exact ih2 _ _ _ _ _
   | exact ih3 _ _ _ _ _ _
   | exact LeO.none _
   | refine LeO.ite ?_ ?_
   | refine LeO.bind ?_ (fun _ => ?_)
theorem spec_l17Nodes.mono : ∀ a0 a1 a2 k, LeO (spec_l17Nodes.f k a0 a1 a2) (spec_l17Nodes.f (k + 1) a0 a1 a2) := by
 intro a0 a1 a2 k
 obtain ⟨ih0, ih1, ih2, ih3⟩ := spec_l17Nodes.mono_l k
 exact ih0 a0 a1 a2
set_option maxHeartbeats 8000000 in
set_option maxRecDepth 100000 in
theorem spec_l17Nodes.calls (k : Nat) : ∀ (g0 : Int) (g3 : Int) (g9 : Option Addr) (g6 : Nat) (g2 : List (S25)) (r : Int) (w : World) (gP : Kd.C k25 w g9 g2.length g2) (gQ : g2.length ≤ g6) (h : spec_l17Nodes.f k g0 g3 g2 = some r),
  Calls Try.prog 42 #[.agg #[.int .i64 g0, .int .i64 g3, .slice g9 g2.length g6]] w fun e w' => e = .returned (.int .i64 r) ∧ Below w.heap.size w w' := by
 induction k using Nat.strongRecOn with
 | _ k ih =>
 intro g0 g3 g9 g6 g2 r w gP gQ h
 cases k with
 | zero => exact absurd h (by simp [spec_l17Nodes.f])
 | succ k =>
 simp only [spec_l17Nodes.f] at h
 have hR := Try.underlying25
 have hI := am gP; have hS := am gQ; clear gP gQ; have HB := am (Below.refl w.heap.size w)
 have H : (if g0 = 0 then (spec_l17Nodes.j0 k 0 (g3 == 0) g0 g3 g2) else (if g0 = 1 then ((spec_ActOk.f g3).bind fun gH => (spec_l17Nodes.j0 k 1 gH g0 g3 g2)) else (if g0 = 2 then ((spec_l6In.f g3 1 9).bind fun gI => (spec_l17Nodes.j0 k 1 gI g0 g3 g2)) else (if g0 = 3 then (spec_l17Nodes.j0 k 2 (g3 == 0) g0 g3 g2) else (if g0 = 4 then (spec_l17Nodes.j0 k 2 (g3 == 0) g0 g3 g2) else (some 0)))))) = some r := h
 clear h; have HC2 := am H; clear H
 go_enter Try.func42, Try.ntmps42
 go_upto_block 0 with (first | ((with_reducible refine gate_dst (N := 1) rfl ?_); (try (refine gate_guard (by rfl) ?_; dsimp only)); refine box_event ?hg (N := 1) ?hd (cs := #[.int .i64 g0, .int .i64 g3, .slice g9 g2.length g6]) (t := 25) ?hr ?_; (case hd => rfl); (case hg => rfl); (case hr => first | (go_simp; done) | (go_simp; rfl)); intro g5 hg w3 hbox hb; have n0_ := am (below_step (by repeat (first | (with_reducible first | exact HB.out | apply below_alloc | apply pw_below_drewN | apply below_drew1) | exact HB.out)) hb); have n1_ := am (hbox); have n2_ := am ((by rw [hg]; exact (below_size (by repeat (first | (with_reducible first | exact HB.out | apply below_alloc | apply pw_below_drewN | apply below_drew1) | exact HB.out))) : w.heap.size ≤ g5)); have n3_ := am ((by rw [hg]; exact (below_size (by repeat (first | (with_reducible first | exact HB.out | apply below_alloc | apply pw_below_drewN | apply below_drew1) | exact HB.out))) : w.heap.size ≤ g5)); clear HB; have HB := n0_; have g1 := n1_; have hT := n2_; have g7 := n3_; clear n0_ n1_ n2_ n3_; clear hb hbox hg; have gR : w3.cell? ⟨g5, 0, none⟩ = some (.int .i64 g0) := (blk_cell g1.out 0).trans rfl; have gS : w3.cell? ⟨g5, 1, none⟩ = some (.int .i64 g3) := (blk_cell g1.out 1).trans rfl; have gT : w3.cell? ⟨g5, 2, none⟩ = some (.slice g9 g2.length g6) := (blk_cell g1.out 2).trans rfl; have gU := blk_frozen g1.out 0; have gV := blk_frozen g1.out 1; have gW := blk_frozen g1.out 2))
 (try simp only [Act.put, List.setIfInBounds_toArray, List.set_cons_zero, List.set_cons_succ])
 go_cut [3, 4] (fun v3 v4 wc => ∃ (kq : Nat) (g8 : Int) (gM : Bool), v3 = .int .i64 g8 ∧ v4 = .bool gM ∧ Aside0 (spec_l17Nodes.j0 kq g8 gM g0 g3 g2 = some r) ∧ Aside0 (kq ≤ k) ∧ Aside0 (wc.heap[g5]? = some (.cells #[.int .i64 g0, .int .i64 g3, (.slice g9 g2.length g6)] 25 (0, 0))) ∧ Aside0 (Below w.heap.size w wc))
 case first =>
  have H := HC2.out
  clear HC2
  by_cases c5 : g0 = 0
  ·
   rw [if_pos c5] at H; have c5b0 : (g0 == 0) = true := beq_iff_eq.mpr c5; have c5b1 : (g0 != 0) = false := bne_eq_false_iff_eq.mpr c5; clear c5
   (first | rw [c5b0] | (simp only [i64_w, i32_w]; rw [c5b0]) | skip)
   have H' := am H
   clear H
   go_wp2
   go_meet
   case rel => exact ⟨_, (0), ((g3 == 0)), (by first | rfl | (simp; done) | (simp [*]; done)), (by first | rfl | (simp; done) | (simp [*]; done)), H', ⟨by first | omega | exact Nat.le_refl _⟩, ⟨by (with_reducible repeat (first | apply bN | apply bD | apply bA)); exact g1.out⟩, ⟨by repeat (first | (with_reducible first | exact HB.out | apply below_alloc | apply pw_below_drewN | apply below_drew1 | refine below_set ?_ g7.out) | exact HB.out)⟩⟩
  ·
   rw [if_neg c5] at H; have c5b0 : (g0 == 0) = false := beq_eq_false_iff_ne.mpr c5; have c5b1 : (g0 != 0) = true := bne_iff_ne.mpr c5
   (first | rw [c5b0] | (simp only [i64_w, i32_w]; rw [c5b0]) | skip)
   by_cases c6 : g0 = 1
   ·
    rw [if_pos c6] at H; have c6b0 : (g0 == 1) = true := beq_iff_eq.mpr c6; have c6b1 : (g0 != 1) = false := bne_eq_false_iff_eq.mpr c6; clear c6
    replace H := Option.bind_eq_some_iff.mp H
    obtain ⟨gH, A70, H⟩ := H
    replace H : (spec_l17Nodes.j0 k 1 gH g0 g3 g2) = some r := H
    have A7 := am A70
    clear A70
    have H' := am H
    clear H; have gX : w3.cell? ⟨g5, 0, none⟩ = some (.int .i64 g0) := (blk_cell g1.out 0).trans rfl; have gY : w3.cell? ⟨g5, 1, none⟩ = some (.int .i64 g3) := (blk_cell g1.out 1).trans rfl; have gZ : w3.cell? ⟨g5, 2, none⟩ = some (.slice g9 g2.length g6) := (blk_cell g1.out 2).trans rfl; have h0 := blk_frozen g1.out 0; have h1 := blk_frozen g1.out 1; have h2 := blk_frozen g1.out 2
    go_wp2_with (first | ((with_reducible refine gate_callee (f := 60) rfl ?_); refine goesL_ (some 19) rfl rfl Try.func60 (by kernel_rfl) rfl #[.int .i64 g3] rfl (by (try simp only [List.map_toArray, List.map_cons, List.map_nil]); first | done | rfl | (simp only [List.length_drop, List.length_take]; rfl)) ?_; (with_reducible refine (spec_ActOk.calls g3 gH _ A7.out).mono ?_); rintro e w' ⟨rfl, ⟨nd, rfl⟩⟩; refine ⟨_, rfl, ?_⟩))
    go_meet
    case rel => exact ⟨_, (1), (gH), (by first | rfl | (simp; done) | (simp [*]; done)), (by first | rfl | (simp; done) | (simp [*]; done)), H', ⟨by first | omega | exact Nat.le_refl _⟩, ⟨by (with_reducible repeat (first | apply bN | apply bD | apply bA)); exact g1.out⟩, ⟨by repeat (first | (with_reducible first | exact HB.out | apply below_alloc | apply pw_below_drewN | apply below_drew1 | refine below_set ?_ g7.out) | exact HB.out)⟩⟩
   ·
    rw [if_neg c6] at H; have c6b0 : (g0 == 1) = false := beq_eq_false_iff_ne.mpr c6; have c6b1 : (g0 != 1) = true := bne_iff_ne.mpr c6
    by_cases c9 : g0 = 2
    ·
     rw [if_pos c9] at H; have c9b0 : (g0 == 2) = true := beq_iff_eq.mpr c9; have c9b1 : (g0 != 2) = false := bne_eq_false_iff_eq.mpr c9; clear c9
     replace H := Option.bind_eq_some_iff.mp H
     obtain ⟨gI, hJ, H⟩ := H
     replace H : (spec_l17Nodes.j0 k 1 gI g0 g3 g2) = some r := H
     have A10 := am hJ
     clear hJ
     have H' := am H
     clear H; have h3 : w3.cell? ⟨g5, 0, none⟩ = some (.int .i64 g0) := (blk_cell g1.out 0).trans rfl; have h4 : w3.cell? ⟨g5, 1, none⟩ = some (.int .i64 g3) := (blk_cell g1.out 1).trans rfl; have h5 : w3.cell? ⟨g5, 2, none⟩ = some (.slice g9 g2.length g6) := (blk_cell g1.out 2).trans rfl; have h6 := blk_frozen g1.out 0; have h7 := blk_frozen g1.out 1; have h8 := blk_frozen g1.out 2
     go_wp2_with (first | ((with_reducible refine gate_callee (f := 41) rfl ?_); refine goesL_ (some 24) rfl rfl Try.func41 (by kernel_rfl) rfl #[.int .i64 g3, .int .i64 1, .int .i64 9] rfl (by (try simp only [List.map_toArray, List.map_cons, List.map_nil]); first | done | rfl | (simp only [List.length_drop, List.length_take]; rfl)) ?_; (with_reducible refine (spec_l6In.calls g3 1 9 gI _ A10.out).mono ?_); rintro e w' ⟨rfl, ⟨nd, rfl⟩⟩; refine ⟨_, rfl, ?_⟩))
     go_meet
     case rel => exact ⟨_, (1), (gI), (by first | rfl | (simp; done) | (simp [*]; done)), (by first | rfl | (simp; done) | (simp [*]; done)), H', ⟨by first | omega | exact Nat.le_refl _⟩, ⟨by (with_reducible repeat (first | apply bN | apply bD | apply bA)); exact g1.out⟩, ⟨by repeat (first | (with_reducible first | exact HB.out | apply below_alloc | apply pw_below_drewN | apply below_drew1 | refine below_set ?_ g7.out) | exact HB.out)⟩⟩
    ·
     rw [if_neg c9] at H; have c9b0 : (g0 == 2) = false := beq_eq_false_iff_ne.mpr c9; have c9b1 : (g0 != 2) = true := bne_iff_ne.mpr c9
     by_cases c12 : g0 = 3
     ·
      rw [if_pos c12] at H; have c12b0 : (g0 == 3) = true := beq_iff_eq.mpr c12; have c12b1 : (g0 != 3) = false := bne_eq_false_iff_eq.mpr c12; clear c12
      have H' := am H
      clear H
      go_wp2
      go_meet
      case rel => exact ⟨_, (2), ((g3 == 0)), (by first | rfl | (simp; done) | (simp [*]; done)), (by first | rfl | (simp; done) | (simp [*]; done)), H', ⟨by first | omega | exact Nat.le_refl _⟩, ⟨by (with_reducible repeat (first | apply bN | apply bD | apply bA)); exact g1.out⟩, ⟨by repeat (first | (with_reducible first | exact HB.out | apply below_alloc | apply pw_below_drewN | apply below_drew1 | refine below_set ?_ g7.out) | exact HB.out)⟩⟩
     ·
      rw [if_neg c12] at H; have c12b0 : (g0 == 3) = false := beq_eq_false_iff_ne.mpr c12; have c12b1 : (g0 != 3) = true := bne_iff_ne.mpr c12
      by_cases c13 : g0 = 4
      ·
       rw [if_pos c13] at H; have c13b0 : (g0 == 4) = true := beq_iff_eq.mpr c13; have c13b1 : (g0 != 4) = false := bne_eq_false_iff_eq.mpr c13; clear c13
       have H' := am H
       clear H
       go_wp2
       go_meet
       case rel => exact ⟨_, (2), ((g3 == 0)), (by first | rfl | (simp; done) | (simp [*]; done)), (by first | rfl | (simp; done) | (simp [*]; done)), H', ⟨by first | omega | exact Nat.le_refl _⟩, ⟨by (with_reducible repeat (first | apply bN | apply bD | apply bA)); exact g1.out⟩, ⟨by repeat (first | (with_reducible first | exact HB.out | apply below_alloc | apply pw_below_drewN | apply below_drew1 | refine below_set ?_ g7.out) | exact HB.out)⟩⟩
      ·
       rw [if_neg c13] at H; have c13b0 : (g0 == 4) = false := beq_eq_false_iff_ne.mpr c13; have c13b1 : (g0 != 4) = true := bne_iff_ne.mpr c13
       obtain rfl := Option.some.inj H
       go_wp2
       go_ret
       exact ⟨by first | rfl | (simp [errW_none, errW_some] <;> rfl) | (simp [*, errW_none, errW_some] <;> rfl), by repeat (first | (with_reducible first | exact HB.out | apply below_alloc | apply pw_below_drewN | apply below_drew1 | refine below_set ?_ g7.out) | exact HB.out)⟩
 case rest =>
  clear HC2; (try clear c1); (try clear p2); (try clear c4); (try clear c5); (try clear c5b0); (try clear c5b1); (try clear c6); (try clear c6b0); (try clear c6b1); (try clear c9); (try clear c9b0); (try clear c9b1); (try clear c12); (try clear c12b0); (try clear c12b1); (try clear c13); (try clear c13b0); (try clear c13b1); (try clear h3); (try clear h4); (try clear h5); (try clear gR); (try clear gS); (try clear gT); (try clear gX); (try clear gY); (try clear gZ); (try clear h6); (try clear h7); (try clear h8); (try clear gU); (try clear gV); (try clear gW); (try clear h0); (try clear h1); (try clear h2)
  obtain ⟨kq, g8, gM, rfl, rfl, HA, HJ1, g1, HB⟩ := hcut
  cases kq with
  | zero => exact absurd HA.out (by simp [spec_l17Nodes.j0])
  | succ kj1 =>
   have H := HA.out
   clear HA
   simp only [spec_l17Nodes.j0] at H
   have h9 := am H; clear H
   go_upto_region 15 with (fail)
   go_cut [36] (fun v36 wc => ∃ (kq : Nat) (gN : Bool), v36 = .bool gN ∧ Aside0 (spec_l17Nodes.j1 kq g8 gN g0 g3 g2 = some r) ∧ Aside0 (kq ≤ kj1) ∧ Aside0 (wc.heap[g5]? = some (.cells #[.int .i64 g0, .int .i64 g3, (.slice g9 g2.length g6)] 25 (0, 0))) ∧ Aside0 (Below w.heap.size w wc))
   case first =>
    have H := h9.out
    clear h9
    by_cases c15 : gM = true
    ·
     subst c15
     have H1 : (spec_l17Nodes.j1 kj1 g8 ((g2.length : Int) != g8) g0 g3 g2) = some r := by rw [if_pos rfl] at H; exact H
     clear H
     have H := H1
     clear H1
     have H' := am H
     clear H; have hK : wc.cell? ⟨g5, 0, none⟩ = some (.int .i64 g0) := (blk_cell g1.out 0).trans rfl; have hL : wc.cell? ⟨g5, 1, none⟩ = some (.int .i64 g3) := (blk_cell g1.out 1).trans rfl; have hM : wc.cell? ⟨g5, 2, none⟩ = some (.slice g9 g2.length g6) := (blk_cell g1.out 2).trans rfl; have hN := blk_frozen g1.out 0; have hO := blk_frozen g1.out 1; have hP := blk_frozen g1.out 2
     go_wp2
     go_meet
     case rel => exact ⟨_, (((g2.length : Int) != g8)), (by first | rfl | (simp; done) | (simp [*]; done)), H', ⟨by have := HJ1.out; first | omega | exact Nat.le_refl _⟩, ⟨by (with_reducible repeat (first | apply bN | apply bD | apply bA)); exact g1.out⟩, ⟨by repeat (first | (with_reducible first | exact HB.out | apply below_alloc | apply pw_below_drewN | apply below_drew1 | refine below_set ?_ g7.out) | exact HB.out)⟩⟩
    ·
     replace c15 := Bool.eq_false_iff.mpr c15
     subst c15
     have H1 : (spec_l17Nodes.j1 kj1 g8 true g0 g3 g2) = some r := by rw [if_neg (show ¬ (false = true) by decide)] at H; exact H
     clear H
     have H := H1
     clear H1
     have H' := am H
     clear H
     go_wp2
     go_meet
     case rel => exact ⟨_, (true), (by first | rfl | (simp; done) | (simp [*]; done)), H', ⟨by have := HJ1.out; first | omega | exact Nat.le_refl _⟩, ⟨by (with_reducible repeat (first | apply bN | apply bD | apply bA)); exact g1.out⟩, ⟨by repeat (first | (with_reducible first | exact HB.out | apply below_alloc | apply pw_below_drewN | apply below_drew1 | refine below_set ?_ g7.out) | exact HB.out)⟩⟩
   case rest =>
    clear h9; (try clear c1); (try clear p2); (try clear c4); (try clear c5); (try clear c5b0); (try clear c5b1); (try clear c6); (try clear c6b0); (try clear c6b1); (try clear c9); (try clear c9b0); (try clear c9b1); (try clear c12); (try clear c12b0); (try clear c12b1); (try clear c13); (try clear c13b0); (try clear c13b1); (try clear c15); (try clear h3); (try clear h4); (try clear h5); (try clear hK); (try clear hL); (try clear hM); (try clear gR); (try clear gS); (try clear gT); (try clear gX); (try clear gY); (try clear gZ); (try clear h6); (try clear h7); (try clear h8); (try clear hN); (try clear hO); (try clear hP); (try clear gU); (try clear gV); (try clear gW); (try clear h0); (try clear h1); (try clear h2); (try clear p2)
    obtain ⟨kq, gN, rfl, HA, gO, g1, HB⟩ := hcut
    cases kq with
    | zero => exact absurd HA.out (by simp [spec_l17Nodes.j1])
    | succ hA =>
     have H := HA.out
     clear HA
     simp only [spec_l17Nodes.j1] at H
     by_cases c17 : gN = true
     ·
      subst c17
      have H1 : (some 0) = some r := by rw [if_pos rfl] at H; exact H
      clear H
      have H := H1
      clear H1
      obtain rfl := Option.some.inj H
      go_wp2
      go_ret
      exact ⟨by first | rfl | (simp [errW_none, errW_some] <;> rfl) | (simp [*, errW_none, errW_some] <;> rfl), by repeat (first | (with_reducible first | exact HB.out | apply below_alloc | apply pw_below_drewN | apply below_drew1 | refine below_set ?_ g7.out) | exact HB.out)⟩
     ·
      replace c17 := Bool.eq_false_iff.mpr c17
      subst c17
      have H1 : (spec_l17Nodes.l0 hA g8 1 0 g0 g3 g2) = some r := by rw [if_neg (show ¬ (false = true) by decide)] at H; exact H
      clear H
      have H := H1
      clear H1
      have H' := am H
      clear H
      go_wp2
      go_loopg [5, 6] hA (fun kq v5 v6 w' => ∃ (gB : Int) (g4 : Int), v5 = .int .i64 gB ∧ v6 = .int .i64 g4 ∧ Aside0 (spec_l17Nodes.l0 kq g8 gB g4 g0 g3 g2 = some r) ∧ Aside0 (kq ≤ hA) ∧ Aside0 (w'.heap[g5]? = some (.cells #[.int .i64 g0, .int .i64 g3, (.slice g9 g2.length g6)] 25 (0, 0))) ∧ Aside0 (Below w.heap.size w w'))
      case atStart => exact ⟨(1), (0), (by first | rfl | (simp; done) | (simp [*]; done)), (by first | rfl | (simp; done) | (simp [*]; done)), H', ⟨Nat.le_refl _⟩, ⟨by (with_reducible repeat (first | apply bN | apply bD | apply bA)); exact g1.out⟩, ⟨by repeat (first | (with_reducible first | exact HB.out | apply below_alloc | apply pw_below_drewN | apply below_drew1 | refine below_set ?_ g7.out) | exact HB.out)⟩⟩
      case round =>
       clear H'; (try clear c1); (try clear p2); (try clear c4); (try clear c5); (try clear c5b0); (try clear c5b1); (try clear c6); (try clear c6b0); (try clear c6b1); (try clear c9); (try clear c9b0); (try clear c9b1); (try clear c12); (try clear c12b0); (try clear c12b1); (try clear c13); (try clear c13b0); (try clear c13b1); (try clear c15); (try clear c17); (try clear h3); (try clear h4); (try clear h5); (try clear hK); (try clear hL); (try clear hM); (try clear gR); (try clear gS); (try clear gT); (try clear gX); (try clear gY); (try clear gZ); (try clear h6); (try clear h7); (try clear h8); (try clear hN); (try clear hO); (try clear hP); (try clear gU); (try clear gV); (try clear gW); (try clear h0); (try clear h1); (try clear h2); (try clear p2); (try clear g1); (try clear HB)
       obtain ⟨gB, g4, rfl, rfl, HA, HK3, g1, HB⟩ := hrel
       cases gk with
       | zero => exact absurd HA.out (by simp [spec_l17Nodes.l0])
       | succ k3 =>
        have H := HA.out
        clear HA
        simp only [spec_l17Nodes.l0] at H
        by_cases c18 : g4 < g8
        ·
         rw [if_pos c18] at H; have c18b0 : decide (g4 < g8) = true := decide_eq_true c18; clear c18
         by_cases c19 : 0 ≤ g4
         ·
          rw [if_pos c19] at H; have c19b0 : decide (0 ≤ g4) = true := decide_eq_true c19; clear c19
          by_cases c20 : g4 < (g2.length : Int)
          ·
           rw [if_pos c20] at H; have c20b0 : decide (g4 < (g2.length : Int)) = true := decide_eq_true c20; clear c20
           replace H := Option.bind_eq_some_iff.mp H
           obtain ⟨gA, hQ, H⟩ := H
           replace H : (if gA = 0 then (some 0) else (spec_l17Nodes.l0 k3 g8 (mn 1000 (wrap64 (gB + gA))) (wrap64 (g4 + 1)) g0 g3 g2)) = some r := H
           have A21 := am hQ
           clear hQ
           by_cases c22 : gA = 0
           ·
            rw [if_pos c22] at H; have c22b0 : (gA == 0) = true := beq_iff_eq.mpr c22; have c22b1 : (gA != 0) = false := bne_eq_false_iff_eq.mpr c22; clear c22
            obtain rfl := Option.some.inj H
            have hU : wr.cell? ⟨g5, 0, none⟩ = some (.int .i64 g0) := (blk_cell g1.out 0).trans rfl; have hV : wr.cell? ⟨g5, 1, none⟩ = some (.int .i64 g3) := (blk_cell g1.out 1).trans rfl; have hW : wr.cell? ⟨g5, 2, none⟩ = some (.slice g9 g2.length g6) := (blk_cell g1.out 2).trans rfl; have hX := blk_frozen g1.out 0; have hY := blk_frozen g1.out 1; have hZ := blk_frozen g1.out 2; have gC : 0 ≤ (g4 : Int) := of_decide_eq_true (by first | (with_reducible assumption) | assumption); have gD : g4 < (g2.length : Int) := of_decide_eq_true (by first | (with_reducible assumption) | assumption)
            obtain ⟨hB, hC, hD, hE, gE, gF, gG, gJ, gK⟩ := at_T25 hI.out g4 gC gD
            cases hE; replace gE := (HB.out.cell (World.block_lt_of_cell? w _ gE)).trans gE; replace gF := (HB.out.cell (World.block_lt_of_cell? w _ gF)).trans gF; replace gG := (HB.out.cell (World.block_lt_of_cell? w _ gG)).trans gG; have hF := am gK; have hG := am gJ; clear gK gJ; replace gC := eq_true gC; replace gD := eq_true gD
            go_wp2_with (first | ((with_reducible refine gate_callee (f := 42) rfl ?_); refine goesL_ (some 47) rfl rfl Try.func42 (by kernel_rfl) rfl #[.agg #[.int .i64 ((rd_T25 g2 g4).f0), .int .i64 ((rd_T25 g2 g4).f1), .slice hC ((rd_T25 g2 g4).f2).length hD]] rfl (by (try simp only [List.map_toArray, List.map_cons, List.map_nil]); first | done | rfl | (simp only [List.length_drop, List.length_take]; rfl)) ?_; (with_reducible refine (ih k3 (by have := HJ1.out; have := gO.out; have := HK3.out; omega) ((rd_T25 g2 g4).f0) ((rd_T25 g2 g4).f1) _ _ ((rd_T25 g2 g4).f2) gA _ ?side1 ?side2 A21.out).mono ?_); (case side1 => repeat (first | exact (Kd.C_below hF.out HB.out) | (with_reducible refine Kd.C_alloc ?_ _) | (with_reducible refine Kd.C_drewN ?_ _) | (with_reducible refine Kd.C_drew ?_))); (case side2 => exact hG.out); rintro e w24 ⟨rfl, hb⟩; refine ⟨_, rfl, ?_⟩; have n0_ := am (blk_below (g := g5) (o := .cells #[.int .i64 g0, .int .i64 g3, .slice (some hB) g2.length g6] 25 (0, 0)) (by (with_reducible repeat (first | apply bN | apply bD | apply bA)); exact g1.out) hb); have n1_ := am (below_step (by repeat (first | (with_reducible first | exact HB.out | apply below_alloc | apply pw_below_drewN | apply below_drew1 | refine below_set ?_ g7.out) | exact HB.out)) hb); clear g1; clear HB; have g1 := n0_; have HB := n1_; clear n0_ n1_; (try clear hb); (try clear hb2); (try clear hk); (try clear hi)))
            go_ret
            exact ⟨by first | rfl | (simp [errW_none, errW_some] <;> rfl) | (simp [*, errW_none, errW_some] <;> rfl), by repeat (first | (with_reducible first | exact HB.out | apply below_alloc | apply pw_below_drewN | apply below_drew1 | refine below_set ?_ g7.out) | exact HB.out)⟩
           ·
            rw [if_neg c22] at H; have c22b0 : (gA == 0) = false := beq_eq_false_iff_ne.mpr c22; have c22b1 : (gA != 0) = true := bne_iff_ne.mpr c22
            obtain ⟨hH, gL⟩ : ∃ j_ : Int, (mn 1000 (wrap64 (gB + gA))) = j_ := ⟨_, rfl⟩
            replace H : (spec_l17Nodes.l0 k3 g8 hH (wrap64 (g4 + 1)) g0 g3 g2) = some r := by first | (rw [gL] at H; exact H) | (simp only [gL] at H ⊢; exact H)
            (try rw [gL] at A21)
            have i0 : (if (wrap64 (gB + gA)) < 1000 then (wrap64 (gB + gA)) else 1000) = hH := gL
            have H' := am H
            clear H; have i1 : wr.cell? ⟨g5, 0, none⟩ = some (.int .i64 g0) := (blk_cell g1.out 0).trans rfl; have i2 : wr.cell? ⟨g5, 1, none⟩ = some (.int .i64 g3) := (blk_cell g1.out 1).trans rfl; have i3 : wr.cell? ⟨g5, 2, none⟩ = some (.slice g9 g2.length g6) := (blk_cell g1.out 2).trans rfl; have i4 := blk_frozen g1.out 0; have i5 := blk_frozen g1.out 1; have i6 := blk_frozen g1.out 2; have gC : 0 ≤ (g4 : Int) := of_decide_eq_true (by first | (with_reducible assumption) | assumption); have gD : g4 < (g2.length : Int) := of_decide_eq_true (by first | (with_reducible assumption) | assumption)
            obtain ⟨hB, hC, hD, hE, gE, gF, gG, gJ, gK⟩ := at_T25 hI.out g4 gC gD
            cases hE; replace gE := (HB.out.cell (World.block_lt_of_cell? w _ gE)).trans gE; replace gF := (HB.out.cell (World.block_lt_of_cell? w _ gF)).trans gF; replace gG := (HB.out.cell (World.block_lt_of_cell? w _ gG)).trans gG; have hF := am gK; have hG := am gJ; clear gK gJ; replace gC := eq_true gC; replace gD := eq_true gD
            go_wp2_with (first | ((with_reducible refine gate_callee (f := 42) rfl ?_); refine goesL_ (some 47) rfl rfl Try.func42 (by kernel_rfl) rfl #[.agg #[.int .i64 ((rd_T25 g2 g4).f0), .int .i64 ((rd_T25 g2 g4).f1), .slice hC ((rd_T25 g2 g4).f2).length hD]] rfl (by (try simp only [List.map_toArray, List.map_cons, List.map_nil]); first | done | rfl | (simp only [List.length_drop, List.length_take]; rfl)) ?_; (with_reducible refine (ih k3 (by have := HJ1.out; have := gO.out; have := HK3.out; omega) ((rd_T25 g2 g4).f0) ((rd_T25 g2 g4).f1) _ _ ((rd_T25 g2 g4).f2) gA _ ?side1 ?side2 A21.out).mono ?_); (case side1 => repeat (first | exact (Kd.C_below hF.out HB.out) | (with_reducible refine Kd.C_alloc ?_ _) | (with_reducible refine Kd.C_drewN ?_ _) | (with_reducible refine Kd.C_drew ?_))); (case side2 => exact hG.out); rintro e w27 ⟨rfl, hb⟩; refine ⟨_, rfl, ?_⟩; have n0_ := am (blk_below (g := g5) (o := .cells #[.int .i64 g0, .int .i64 g3, .slice (some hB) g2.length g6] 25 (0, 0)) (by (with_reducible repeat (first | apply bN | apply bD | apply bA)); exact g1.out) hb); have n1_ := am (below_step (by repeat (first | (with_reducible first | exact HB.out | apply below_alloc | apply pw_below_drewN | apply below_drew1 | refine below_set ?_ g7.out) | exact HB.out)) hb); clear g1; clear HB; have g1 := n0_; have HB := n1_; clear n0_ n1_; (try clear hb); (try clear hb2); (try clear hk); (try clear hi)))
            go_roundg k3
            case measure => have := HJ1.out; have := gO.out; have := HK3.out; omega
            case rel => exact ⟨(hH), (wrap64 (g4 + 1)), (by first | rfl | (simp; done) | (simp only [← gL] <;> (first | rfl | simp)) | (simp [*]; done)), (by first | rfl | (simp; done) | (simp [*]; done)), H', ⟨by have := HJ1.out; have := gO.out; have := HK3.out; omega⟩, ⟨by (with_reducible repeat (first | apply bN | apply bD | apply bA)); exact g1.out⟩, ⟨by repeat (first | (with_reducible first | exact HB.out | apply below_alloc | apply pw_below_drewN | apply below_drew1 | refine below_set ?_ g7.out) | exact HB.out)⟩⟩
          ·
           rw [if_neg c20] at H
           exact absurd H (by simp)
         ·
          rw [if_neg c19] at H
          exact absurd H (by simp)
        ·
         rw [if_neg c18] at H; have c18b0 : decide (g4 < g8) = false := decide_eq_false c18; clear c18
         obtain rfl := Option.some.inj H
         go_wp2
         go_ret
         exact ⟨by first | rfl | (simp [errW_none, errW_some] <;> rfl) | (simp [*, errW_none, errW_some] <;> rfl), by repeat (first | (with_reducible first | exact HB.out | apply below_alloc | apply pw_below_drewN | apply below_drew1 | refine below_set ?_ g7.out) | exact HB.out)⟩


/-! ### spec_ClockOk: function 14 -/
def spec_ClockOk.f (k : Nat) (a0_0 : Int) (a0_1 : Int) (l0_2 : List (S25)) : Option (Bool) := (spec_l17Nodes.f k a0_0 a0_1 l0_2).bind fun t236 => ((spec_l6In.f t236 1 16).bind fun t237 => (some t237))
theorem spec_ClockOk.mono : ∀ a0 a1 a2 k, LeO (spec_ClockOk.f k a0 a1 a2) (spec_ClockOk.f (k + 1) a0 a1 a2) := by
 intro a0 a1 a2 k
 unfold spec_ClockOk.f
 repeat' first
   | (with_reducible exact spec_l17Nodes.mono _ _ _ _)
   | (with_reducible exact LeO.refl _)
   | (with_reducible exact LeO.none _)
   | (with_reducible refine LeO.ite ?_ ?_)
   | (with_reducible refine LeO.bind ?_ (fun _ => ?_))
   | exact spec_l17Nodes.mono _ _ _ _
   | exact LeO.none _
   | refine LeO.ite ?_ ?_
   | refine LeO.bind ?_ (fun _ => ?_)
set_option maxHeartbeats 8000000 in
set_option maxRecDepth 100000 in
theorem spec_ClockOk.calls (k : Nat) (g2 : Int) (g3 : Int) (g4 : Option Addr) (g5 : Nat) (g0 : List (S25)) (r : Bool) (w : World) (g9 : Kd.C k25 w g4 g0.length g0) (gA : g0.length ≤ g5) (h : spec_ClockOk.f k g2 g3 g0 = some r) :
  Calls Try.prog 14 #[.agg #[.int .i64 g2, .int .i64 g3, .slice g4 g0.length g5]] w fun e w' => e = .returned (.bool r) ∧ Below w.heap.size w w' := by
 have gE := Try.underlying25
 have gC := am g9; have gD := am gA; clear g9 gA; have HB := am (Below.refl w.heap.size w)
 have H : ((spec_l17Nodes.f k g2 g3 g0).bind fun g6 => ((spec_l6In.f g6 1 16).bind fun g7 => (some g7))) = some r := h
 clear h
 replace H := Option.bind_eq_some_iff.mp H
 obtain ⟨g6, A20, H⟩ := H
 replace H : ((spec_l6In.f g6 1 16).bind fun g7 => (some g7)) = some r := H
 have A2 := am A20
 clear A20
 replace H := Option.bind_eq_some_iff.mp H
 obtain ⟨g7, A30, H⟩ := H
 replace H : (some g7) = some r := H
 have A3 := am A30
 clear A30
 obtain rfl := Option.some.inj H
 go_enter Try.func14, Try.ntmps14
 go_wp2_with (first | ((with_reducible refine gate_dst (N := 1) rfl ?_); refine box_event ?hg (N := 1) ?hd (cs := #[.int .i64 g2, .int .i64 g3, .slice g4 g0.length g5]) (t := 25) ?hr ?_; (case hd => rfl); (case hg => rfl); (case hr => first | (go_simp; done) | (go_simp; rfl)); intro g8 hg w4 hbox hb; have n0_ := am (below_step (by repeat (first | (with_reducible first | exact HB.out | apply below_alloc | apply pw_below_drewN | apply below_drew1) | exact HB.out)) hb); have n1_ := am (hbox); have n2_ := am ((by rw [hg]; exact (below_size (by repeat (first | (with_reducible first | exact HB.out | apply below_alloc | apply pw_below_drewN | apply below_drew1) | exact HB.out))) : w.heap.size ≤ g8)); have n3_ := am ((by rw [hg]; exact (below_size (by repeat (first | (with_reducible first | exact HB.out | apply below_alloc | apply pw_below_drewN | apply below_drew1) | exact HB.out))) : w.heap.size ≤ g8)); clear HB; have HB := n0_; have g1 := n1_; have gF := n2_; have gB := n3_; clear n0_ n1_ n2_ n3_; clear hb hbox hg; have gG : w4.cell? ⟨g8, 0, none⟩ = some (.int .i64 g2) := (blk_cell g1.out 0).trans rfl; have gH : w4.cell? ⟨g8, 1, none⟩ = some (.int .i64 g3) := (blk_cell g1.out 1).trans rfl; have gI : w4.cell? ⟨g8, 2, none⟩ = some (.slice g4 g0.length g5) := (blk_cell g1.out 2).trans rfl; have gJ := blk_frozen g1.out 0; have gK := blk_frozen g1.out 1; have gL := blk_frozen g1.out 2) | ((with_reducible refine gate_callee (f := 42) rfl ?_); refine goesL_ (some 4) rfl rfl Try.func42 (by kernel_rfl) rfl #[.agg #[.int .i64 g2, .int .i64 g3, .slice g4 g0.length g5]] rfl (by (try simp only [List.map_toArray, List.map_cons, List.map_nil]); first | done | rfl | (simp only [List.length_drop, List.length_take]; rfl)) ?_; (with_reducible refine (spec_l17Nodes.calls k g2 g3 _ _ g0 g6 _ ?side1 ?side2 A2.out).mono ?_); (case side1 => repeat (first | exact (Kd.C_below gC.out HB.out) | (with_reducible refine Kd.C_alloc ?_ _) | (with_reducible refine Kd.C_drewN ?_ _) | (with_reducible refine Kd.C_drew ?_))); (case side2 => exact gD.out); rintro e w6 ⟨rfl, hb⟩; refine ⟨_, rfl, ?_⟩; have n0_ := am (blk_below (g := g8) (o := .cells #[.int .i64 g2, .int .i64 g3, .slice g4 g0.length g5] 25 (0, 0)) (by (with_reducible repeat (first | apply bN | apply bD | apply bA)); exact g1.out) hb); have n1_ := am (below_step (by repeat (first | (with_reducible first | exact HB.out | apply below_alloc | apply pw_below_drewN | apply below_drew1 | refine below_set ?_ gB.out) | exact HB.out)) hb); clear g1; clear HB; have g1 := n0_; have HB := n1_; clear n0_ n1_; (try clear hb); (try clear hb2); (try clear hk); (try clear hi)) | ((with_reducible refine gate_callee (f := 41) rfl ?_); refine goesL_ (some 5) rfl rfl Try.func41 (by kernel_rfl) rfl #[.int .i64 g6, .int .i64 1, .int .i64 16] rfl (by (try simp only [List.map_toArray, List.map_cons, List.map_nil]); first | done | rfl | (simp only [List.length_drop, List.length_take]; rfl)) ?_; (with_reducible refine (spec_l6In.calls g6 1 16 g7 _ A3.out).mono ?_); rintro e w' ⟨rfl, ⟨nd, rfl⟩⟩; refine ⟨_, rfl, ?_⟩))
 go_ret
 exact ⟨by first | rfl | (simp [errW_none, errW_some] <;> rfl) | (simp [*, errW_none, errW_some] <;> rfl), by repeat (first | (with_reducible first | exact HB.out | apply below_alloc | apply pw_below_drewN | apply below_drew1 | refine below_set ?_ gB.out) | exact HB.out)⟩


/-! ### spec_l17Two: function 65 -/
def spec_l17Two.f (a0 : Int) (a1_0 : Int) (a1_1 : Int) (l1_2 : List (S25)) (a2_0 : Int) (a2_1 : Int) (l2_2 : List (S25)) : Option (Int × Int × (List (S25))) := some (a0, 0, (([(⟨a1_0, a1_1, l1_2⟩ : S25), (⟨a2_0, a2_1, l2_2⟩ : S25)] : List (S25))))
set_option maxHeartbeats 8000000 in
set_option maxRecDepth 100000 in
theorem spec_l17Two.calls (a0 : Int) (g6 : Int) (g7 : Int) (gH : Nat → Prop) (gA : Option Addr) (gB : Nat) (g2 : List (S25)) (g8 : Int) (g9 : Int) (gI : Nat → Prop) (gF : Option Addr) (gG : Nat) (g4 : List (S25)) (r1 : Int) (r2 : Int) (r3 : List (S25)) (w : World) (gW : Kd.V k25 25 w w.heap.size (fun k_ => gH k_) (.slice gA g2.length gB) g2) (gX : Kd.V k25 25 w w.heap.size (fun k_ => gI k_) (.slice gF g4.length gG) g4) (h : spec_l17Two.f a0 g6 g7 g2 g8 g9 g4 = some (r1, r2, r3)) :
  Calls Try.prog 65 #[.int .i64 a0, .agg #[.int .i64 g6, .int .i64 g7, .slice gA g2.length gB], .agg #[.int .i64 g8, .int .i64 g9, .slice gF g4.length gG]] w fun e w' => ∃ v2_ : Value, e = .returned (.agg #[.int .i64 r1, .int .i64 r2, v2_]) ∧ Kd.N k25 25 w' w.heap.size (fun k_ => ((gH k_ ∨ gI k_) ∨ w.heap.size ≤ k_)) v2_ r3 ∧ Below w.heap.size w w' := by
 have h5 := Try.underlying25
 have gD := am (show Kd.V k25 25 w w.heap.size (fun k_ => ((gH k_ ∨ gI k_) ∨ w.heap.size ≤ k_)) (.slice gA g2.length gB) g2 from Kd.V_mono gW (fun k_ hk => .inl (.inl hk))); have gE := am (show Kd.V k25 25 w w.heap.size (fun k_ => ((gH k_ ∨ gI k_) ∨ w.heap.size ≤ k_)) (.slice gF g4.length gG) g4 from Kd.V_mono gX (fun k_ hk => .inl (.inr hk))); have HB := am (Below.refl w.heap.size w)
 have H : (some (a0, 0, (([(⟨g6, g7, g2⟩ : S25), (⟨g8, g9, g4⟩ : S25)] : List (S25))))) = some (r1, r2, r3) := h
 clear h
 obtain ⟨gP, gN⟩ : ∃ y_ : List (S25), y_ = (([(⟨g6, g7, g2⟩ : S25), (⟨g8, g9, g4⟩ : S25)] : List (S25))) := ⟨_, rfl⟩
 replace H : (some (a0, 0, gP)) = some (r1, r2, r3) := by first | (rw [gN]; with_reducible exact H) | (have H2_ := (Option.bind_some _ _).symm.trans H; rw [gN]; with_reducible exact H2_) | (have H2_ := (Option.bind_some _ _).symm.trans H; with_reducible exact H2_) | with_reducible exact H | (rw [gN]; exact H) | exact H
 have gQ := am gN
 clear gN
 simp only [Option.some.injEq, Prod.mk.injEq] at H
 obtain ⟨rfl, rfl, rfl⟩ := H
 go_enter Try.func65, Try.ntmps65
 go_wp2_with (first | ((with_reducible refine gate_dst (N := 4) rfl ?_); refine box_event ?hg (N := 4) ?hd (cs := #[.int .i64 g6, .int .i64 g7, .slice gA g2.length gB]) (t := 25) ?hr ?_; (case hd => rfl); (case hg => rfl); (case hr => first | (go_simp; done) | (go_simp; rfl)); intro g0 hg w4 hbox hb; have n0_ := am (Kd.V_below (Kd.V_elderB (by (with_reducible repeat (first | apply Kd.V_alloc | apply Kd.V_drewN | apply Kd.V_drew)); exact gD.out) g0 (Nat.le_of_eq hg.symm)) hb); have n1_ := am (Kd.V_below (Kd.V_elderB (by (with_reducible repeat (first | apply Kd.V_alloc | apply Kd.V_drewN | apply Kd.V_drew)); exact gE.out) g0 (Nat.le_of_eq hg.symm)) hb); have n2_ := am (below_step (by repeat (first | (with_reducible first | exact HB.out | apply below_alloc | apply pw_below_drewN | apply below_drew1) | exact HB.out)) hb); have n3_ := am (hbox); have n4_ := am ((by rw [hg]; exact (below_size (by repeat (first | (with_reducible first | exact HB.out | apply below_alloc | apply pw_below_drewN | apply below_drew1) | exact HB.out))) : w.heap.size ≤ g0)); have n5_ := am ((by rw [hg]; exact (below_size (by repeat (first | (with_reducible first | exact HB.out | apply below_alloc | apply pw_below_drewN | apply below_drew1) | exact HB.out))) : w.heap.size ≤ g0)); clear gD; clear gE; clear HB; have gD := n0_; have gE := n1_; have HB := n2_; have g5 := n3_; have h6 := n4_; have gK := n5_; clear n0_ n1_ n2_ n3_ n4_ n5_; clear hb hbox hg) | ((with_reducible refine gate_dst (N := 5) rfl ?_); refine box_event ?hg (N := 5) ?hd (cs := #[.int .i64 g8, .int .i64 g9, .slice gF g4.length gG]) (t := 25) ?hr ?_; (case hd => rfl); (case hg => rfl); (case hr => first | (go_simp; done) | (go_simp; rfl)); intro g3 hg w5 hbox hb; have n0_ := am (Kd.V_below (Kd.V_elderB (by (with_reducible repeat (first | apply Kd.V_alloc | apply Kd.V_drewN | apply Kd.V_drew)); exact gD.out) g3 (Nat.le_of_eq hg.symm)) hb); have n1_ := am (Kd.V_below (Kd.V_elderB (by (with_reducible repeat (first | apply Kd.V_alloc | apply Kd.V_drewN | apply Kd.V_drew)); exact gE.out) g3 (Nat.le_of_eq hg.symm)) hb); have n2_ := am (blk_below (g := g0) (o := .cells #[.int .i64 g6, .int .i64 g7, .slice gA g2.length gB] 25 (0, 0)) (by (with_reducible repeat (first | apply bN | apply bD | apply bA)); exact g5.out) hb); have n3_ := am (below_step (by repeat (first | (with_reducible first | exact HB.out | apply below_alloc | apply pw_below_drewN | apply below_drew1 | refine below_set ?_ gK.out) | exact HB.out)) hb); have n4_ := am (hbox); have n5_ := am ((by rw [hg]; exact (below_size (by repeat (first | (with_reducible first | exact HB.out | apply below_alloc | apply pw_below_drewN | apply below_drew1 | refine below_set ?_ gK.out) | exact HB.out))) : w.heap.size ≤ g3)); have n6_ := am ((by rw [hg]; exact (below_size (by repeat (first | (with_reducible first | exact HB.out | apply below_alloc | apply pw_below_drewN | apply below_drew1 | refine below_set ?_ gK.out) | exact HB.out))) : w.heap.size ≤ g3)); have n7_ := am ((by rw [hg]; exact Nat.ne_of_lt (blk_lt (g := g0) (o := .cells #[.int .i64 g6, .int .i64 g7, .slice gA g2.length gB] 25 (0, 0)) (by (with_reducible repeat (first | apply bN | apply bD | apply bA)); exact g5.out)) : g0 ≠ g3)); have n8_ := am ((by rw [hg]; exact Nat.ne_of_gt (blk_lt (g := g0) (o := .cells #[.int .i64 g6, .int .i64 g7, .slice gA g2.length gB] 25 (0, 0)) (by (with_reducible repeat (first | apply bN | apply bD | apply bA)); exact g5.out)) : g3 ≠ g0)); clear gD; clear gE; clear g5; clear HB; have gD := n0_; have gE := n1_; have g5 := n2_; have HB := n3_; have gC := n4_; have h7 := n5_; have gM := n6_; have gY := n7_; have gZ := n8_; clear n0_ n1_ n2_ n3_ n4_ n5_ n6_ n7_ n8_; clear hb hbox hg) | ((with_reducible refine gate_dst (N := 6) rfl ?_); refine box_event ?hg (N := 6) ?hd (cs := #[.int .i64 0, .int .i64 0, .slice none 0 0]) (t := 25) ?hr ?_; (case hd => rfl); (case hg => rfl); (case hr => first | (go_simp; done) | (go_simp; rfl)); intro g1 hg w6 hbox hb; have n0_ := am (Kd.V_below (Kd.V_elderB (by (with_reducible repeat (first | apply Kd.V_alloc | apply Kd.V_drewN | apply Kd.V_drew)); exact gD.out) g1 (Nat.le_of_eq hg.symm)) hb); have n1_ := am (Kd.V_below (Kd.V_elderB (by (with_reducible repeat (first | apply Kd.V_alloc | apply Kd.V_drewN | apply Kd.V_drew)); exact gE.out) g1 (Nat.le_of_eq hg.symm)) hb); have n2_ := am (blk_below (g := g0) (o := .cells #[.int .i64 g6, .int .i64 g7, .slice gA g2.length gB] 25 (0, 0)) (by (with_reducible repeat (first | apply bN | apply bD | apply bA)); exact g5.out) hb); have n3_ := am (blk_below (g := g3) (o := .cells #[.int .i64 g8, .int .i64 g9, .slice gF g4.length gG] 25 (0, 0)) (by (with_reducible repeat (first | apply bN | apply bD | apply bA)); exact gC.out) hb); have n4_ := am (below_step (by repeat (first | (with_reducible first | exact HB.out | apply below_alloc | apply pw_below_drewN | apply below_drew1 | refine below_set ?_ gK.out | refine below_set ?_ gM.out) | exact HB.out)) hb); have n5_ := am (hbox); have n6_ := am ((by rw [hg]; exact (below_size (by repeat (first | (with_reducible first | exact HB.out | apply below_alloc | apply pw_below_drewN | apply below_drew1 | refine below_set ?_ gK.out | refine below_set ?_ gM.out) | exact HB.out))) : w.heap.size ≤ g1)); have n7_ := am ((by rw [hg]; exact (below_size (by repeat (first | (with_reducible first | exact HB.out | apply below_alloc | apply pw_below_drewN | apply below_drew1 | refine below_set ?_ gK.out | refine below_set ?_ gM.out) | exact HB.out))) : w.heap.size ≤ g1)); have n8_ := am ((by rw [hg]; exact Nat.ne_of_lt (blk_lt (g := g0) (o := .cells #[.int .i64 g6, .int .i64 g7, .slice gA g2.length gB] 25 (0, 0)) (by (with_reducible repeat (first | apply bN | apply bD | apply bA)); exact g5.out)) : g0 ≠ g1)); have n9_ := am ((by rw [hg]; exact Nat.ne_of_gt (blk_lt (g := g0) (o := .cells #[.int .i64 g6, .int .i64 g7, .slice gA g2.length gB] 25 (0, 0)) (by (with_reducible repeat (first | apply bN | apply bD | apply bA)); exact g5.out)) : g1 ≠ g0)); have gR := am ((by rw [hg]; exact Nat.ne_of_lt (blk_lt (g := g3) (o := .cells #[.int .i64 g8, .int .i64 g9, .slice gF g4.length gG] 25 (0, 0)) (by (with_reducible repeat (first | apply bN | apply bD | apply bA)); exact gC.out)) : g3 ≠ g1)); have gS := am ((by rw [hg]; exact Nat.ne_of_gt (blk_lt (g := g3) (o := .cells #[.int .i64 g8, .int .i64 g9, .slice gF g4.length gG] 25 (0, 0)) (by (with_reducible repeat (first | apply bN | apply bD | apply bA)); exact gC.out)) : g1 ≠ g3)); clear gD; clear gE; clear g5; clear gC; clear HB; have gD := n0_; have gE := n1_; have g5 := n2_; have gC := n3_; have HB := n4_; have gJ := n5_; have h8 := n6_; have gO := n7_; have h0 := n8_; have h1 := n9_; have h2 := gR; have h3 := gS; clear n0_ n1_ n2_ n3_ n4_ n5_ n6_ n7_ n8_ n9_ gR gS; clear hb hbox hg; have h9 := gY.out; have hA := gZ.out; have hB := h0.out; have hC := h1.out; have hD : w6.cell? ⟨g0, 0, none⟩ = some (.int .i64 g6) := (blk_cell g5.out 0).trans rfl; have hE : w6.cell? ⟨g0, 1, none⟩ = some (.int .i64 g7) := (blk_cell g5.out 1).trans rfl; have hF : w6.cell? ⟨g0, 2, none⟩ = some (.slice gA g2.length gB) := (blk_cell g5.out 2).trans rfl; have hG := blk_frozen g5.out 0; have hH := blk_frozen g5.out 1; have hI := blk_frozen g5.out 2; have hJ := h2.out; have hK := h3.out; have hL : w6.cell? ⟨g3, 0, none⟩ = some (.int .i64 g8) := (blk_cell gC.out 0).trans rfl; have hM : w6.cell? ⟨g3, 1, none⟩ = some (.int .i64 g9) := (blk_cell gC.out 1).trans rfl; have hN : w6.cell? ⟨g3, 2, none⟩ = some (.slice gF g4.length gG) := (blk_cell gC.out 2).trans rfl; have hO := blk_frozen gC.out 0; have hP := blk_frozen gC.out 1; have hQ := blk_frozen gC.out 2) | ((with_reducible refine gate_dst (N := 10) rfl ?_); refine Kd.N_lit k25 _ 25 ?hg (N' := 10) ?hd (xs := ([(⟨g6, g7, g2⟩ : S25), (⟨g8, g9, g4⟩ : S25)] : List (S25))) (inner := [.int .i64 g6, .int .i64 g7, .slice gA g2.length gB, .int .i64 g8, .int .i64 g9, .slice gF g4.length gG]) (ok := (fun k_ => ((gH k_ ∨ gI k_) ∨ w.heap.size ≤ k_) ∧ k_ ≠ g0 ∧ k_ ≠ g3 ∧ k_ ≠ g1)) (okp := (fun k_ => ((gH k_ ∨ gI k_) ∨ w.heap.size ≤ k_) ∧ k_ ≠ g0 ∧ k_ ≠ g3 ∧ k_ ≠ g1)) ?hr ?hp (fun _ hk => hk) ((show ∀ k_, w6.heap.size ≤ k_ → (fun k_ => ((gH k_ ∨ gI k_) ∨ w.heap.size ≤ k_) ∧ k_ ≠ g0 ∧ k_ ≠ g3 ∧ k_ ≠ g1) k_ from fun k_ hk => ⟨(.inr (Nat.le_trans (below_size (by repeat (first | (with_reducible first | exact HB.out | apply below_alloc | apply pw_below_drewN | apply below_drew1 | refine below_set ?_ gK.out | refine below_set ?_ gM.out | refine below_set ?_ gO.out) | exact HB.out))) hk)), Kd.freshB (g := g0) (o := .cells #[.int .i64 g6, .int .i64 g7, .slice gA g2.length gB] 25 (0, 0)) (by (with_reducible repeat (first | apply bN | apply bD | apply bA)); exact g5.out) k_ hk, Kd.freshB (g := g3) (o := .cells #[.int .i64 g8, .int .i64 g9, .slice gF g4.length gG] 25 (0, 0)) (by (with_reducible repeat (first | apply bN | apply bD | apply bA)); exact gC.out) k_ hk, Kd.freshB (g := g1) (o := .cells #[.int .i64 0, .int .i64 0, .slice none 0 0] 25 (0, 0)) (by (with_reducible repeat (first | apply bN | apply bD | apply bA)); exact gJ.out) k_ hk⟩) _ (Nat.le_refl _)) (Below.refl _ _) (Nat.le_refl _) (by simp) ?_; (case hd => rfl); (case hg => rfl); (case hr => first | (go_simp; done) | (go_simp; rfl)); (case hp => exact (Reps.c3 (show Kd.FK k25 _ _ (⟨g6, g7, g2⟩ : S25) [.int .i64 g6, .int .i64 g7, .slice gA g2.length gB] from (k25_mkF _ _ (⟨g6, g7, g2⟩ : S25) (Kd.V_reads' (Kd.V_mono (ok' := (fun k_ => ((gH k_ ∨ gI k_) ∨ w.heap.size ≤ k_) ∧ k_ ≠ g0 ∧ k_ ≠ g3 ∧ k_ ≠ g1)) (gD.out) (fun k_ hk => ⟨hk.1.1.1, ⟨hk.1.1.2, ⟨hk.1.2, hk.2⟩⟩⟩))).2.1 (Kd.V_F (Kd.V_mono (ok' := (fun k_ => ((gH k_ ∨ gI k_) ∨ w.heap.size ≤ k_) ∧ k_ ≠ g0 ∧ k_ ≠ g3 ∧ k_ ≠ g1)) (gD.out) (fun k_ hk => ⟨hk.1.1.1, ⟨hk.1.1.2, ⟨hk.1.2, hk.2⟩⟩⟩))))) (Reps.c3 (show Kd.FK k25 _ _ (⟨g8, g9, g4⟩ : S25) [.int .i64 g8, .int .i64 g9, .slice gF g4.length gG] from (k25_mkF _ _ (⟨g8, g9, g4⟩ : S25) (Kd.V_reads' (Kd.V_mono (ok' := (fun k_ => ((gH k_ ∨ gI k_) ∨ w.heap.size ≤ k_) ∧ k_ ≠ g0 ∧ k_ ≠ g3 ∧ k_ ≠ g1)) (gE.out) (fun k_ hk => ⟨hk.1.1.1, ⟨hk.1.1.2, ⟨hk.1.2, hk.2⟩⟩⟩))).2.1 (Kd.V_F (Kd.V_mono (ok' := (fun k_ => ((gH k_ ∨ gI k_) ∨ w.heap.size ≤ k_) ∧ k_ ≠ g0 ∧ k_ ≠ g3 ∧ k_ ≠ g1)) (gE.out) (fun k_ hk => ⟨hk.1.1.1, ⟨hk.1.1.2, ⟨hk.1.2, hk.2⟩⟩⟩))))) (Reps.none _ _)))); intro hR w12 gL hb hg_ hnew_; clear hg_ hnew_; (first | rw [← gQ.out] at gL | (simp only [Int.reduceToNat] at gL; rw [← gQ.out] at gL)); have n0_ := am (Kd.V_elder' (by (with_reducible repeat (first | apply Kd.V_alloc | apply Kd.V_drewN | apply Kd.V_drew)); exact gD.out) (by first | exact Kd.N_base gL | exact Kd.R_base gL) hb); have n1_ := am (Kd.V_elder' (by (with_reducible repeat (first | apply Kd.V_alloc | apply Kd.V_drewN | apply Kd.V_drew)); exact gE.out) (by first | exact Kd.N_base gL | exact Kd.R_base gL) hb); have n2_ := am (Kd.N_lower gL (below_size (by repeat (first | (with_reducible first | exact HB.out | apply below_alloc | apply pw_below_drewN | apply below_drew1 | refine below_set ?_ gK.out | refine below_set ?_ gM.out | refine below_set ?_ gO.out) | exact HB.out)))); have n3_ := am (blk_below (g := g0) (o := .cells #[.int .i64 g6, .int .i64 g7, .slice gA g2.length gB] 25 (0, 0)) (by (with_reducible repeat (first | apply bN | apply bD | apply bA)); exact g5.out) hb); have n4_ := am (blk_below (g := g3) (o := .cells #[.int .i64 g8, .int .i64 g9, .slice gF g4.length gG] 25 (0, 0)) (by (with_reducible repeat (first | apply bN | apply bD | apply bA)); exact gC.out) hb); have n5_ := am (blk_below (g := g1) (o := .cells #[.int .i64 0, .int .i64 0, .slice none 0 0] 25 (0, 0)) (by (with_reducible repeat (first | apply bN | apply bD | apply bA)); exact gJ.out) hb); have n6_ := am (below_step (by repeat (first | (with_reducible first | exact HB.out | apply below_alloc | apply pw_below_drewN | apply below_drew1 | refine below_set ?_ gK.out | refine below_set ?_ gM.out | refine below_set ?_ gO.out) | exact HB.out)) hb); clear gD; clear gE; clear g5; clear gC; clear gJ; clear HB; have gD := n0_; have gE := n1_; have gT := n2_; have g5 := n3_; have gC := n4_; have gJ := n5_; have HB := n6_; clear n0_ n1_ n2_ n3_ n4_ n5_ n6_; clear hb gL; obtain ⟨gU, gV, h4⟩ := Kd.N_slice gT.out; subst h4; have hS : w12.cell? ⟨g1, 0, none⟩ = some (.int .i64 0) := (blk_cell gJ.out 0).trans rfl; have hT : w12.cell? ⟨g1, 1, none⟩ = some (.int .i64 0) := (blk_cell gJ.out 1).trans rfl; have hU : w12.cell? ⟨g1, 2, none⟩ = some (.slice none 0 0) := (blk_cell gJ.out 2).trans rfl; have hV := blk_frozen gJ.out 0; have hW := blk_frozen gJ.out 1; have hX := blk_frozen gJ.out 2))
 refine bodyPost_ret (results_cell_row rfl _ _ g1 25 #[.int .i64 a0, .int .i64 0, .slice gU gP.length gV] (0, 0) _ rfl (by (with_reducible repeat (first | apply bN | apply bD | apply bA)); refine blk_put (cs := #[.int .i64 a0, .int .i64 0, .slice none 0 0]) ?_ 2 _ rfl; (with_reducible repeat (first | apply bN | apply bD | apply bA)); refine blk_put (cs := #[.int .i64 a0, .int .i64 0, .slice none 0 0]) ?_ 1 _ rfl; (with_reducible repeat (first | apply bN | apply bD | apply bA)); refine blk_put (cs := #[.int .i64 0, .int .i64 0, .slice none 0 0]) ?_ 0 _ rfl; (with_reducible repeat (first | apply bN | apply bD | apply bA)); exact gJ.out) Try.underlying25 rfl (by kernel_rfl)) rfl ?_
 exact ⟨_, by first | rfl | (simp [errW_none, errW_some] <;> rfl) | (simp [*, errW_none, errW_some] <;> rfl), by (with_reducible repeat (first | apply Kd.N_alloc | apply Kd.N_drewN | apply Kd.N_drew)); exact Kd.N_mono (Kd.N_far (p := ⟨g1, 2, none⟩) (Kd.N_far (p := ⟨g1, 1, none⟩) (Kd.N_far (p := ⟨g1, 0, none⟩) (Kd.N_mono gT.out (fun k_ hk => (⟨hk, hk.2.2.2⟩ : _ ∧ k_ ≠ g1))) (fun _ hk => hk.2) (.int .i64 a0)) (fun _ hk => hk.2) (.int .i64 0)) (fun _ hk => hk.2) (.slice gU gP.length gV)) (fun _ hk => hk.1.1), by repeat (first | (with_reducible first | exact HB.out | apply below_alloc | apply pw_below_drewN | apply below_drew1 | refine below_set ?_ gK.out | refine below_set ?_ gM.out | refine below_set ?_ gO.out) | exact HB.out)⟩
end Go.Proofs.Ytfnmjecofgeboaa.PAll
