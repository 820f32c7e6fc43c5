-- Laid by a program of this session out of the translation's print
import Derived.Test.YtfnmjecofgeboaaPAll0
namespace Go.Proofs.Ytfnmjecofgeboaa.PAll
open Go.RowKit Go.Proofs.YtfnmjecofgeboaaW.PrintWords Go.Proofs.YtfnmjecofgeboaaW.PrintLast Go.Proofs.YtfnmjecofgeboaaW.PrintMore
attribute [local go_sem] max2_int min2_int max_two min_two max_three min_three max_four min_four   -- for this text's walks alone
set_option linter.unusedVariables false
set_option linter.unusedSimpArgs false

/-! ### impl_clockNodes: function 39 -/
mutual
def impl_clockNodes.l0 : Nat → Int → Int → List (S25) → Int → Int → Option (Int)
 | 0, _, _, _, _, _ => none
 | k + 1, x1, x5, x9, x10, x11 => if x11 < x10 then (if 0 ≤ x11 then (if x11 < (x9.length : Int) then (if x5 > x1 then (some x5) else ((impl_clockNodes.f k ((rd_T25 x9 x11).f0) ((rd_T25 x9 x11).f1) ((rd_T25 x9 x11).f2) (wrap64 (x1 - x5))).bind fun t225 => (impl_clockNodes.l0 k x1 (wrap64 (x5 + t225)) x9 x10 (wrap64 (x11 + 1))))) else (none)) else (none)) else (some x5)
def impl_clockNodes.f : Nat → Int → Int → List (S25) → Int → Option (Int)
 | 0, _, _, _, _ => none
 | k + 1, a0_0, a0_1, l0_2, a1 => impl_clockNodes.l0 k a1 1 l0_2 (l0_2.length : Int) 0
end
theorem impl_clockNodes.mono_l : ∀ k, (∀ y0 y1 y2 y3, LeO (impl_clockNodes.f k y0 y1 y2 y3) (impl_clockNodes.f (k + 1) y0 y1 y2 y3)) ∧ (∀ y0 y1 y2 y3 y4, LeO (impl_clockNodes.l0 k y0 y1 y2 y3 y4) (impl_clockNodes.l0 (k + 1) y0 y1 y2 y3 y4))
 | 0 => ⟨fun _ _ _ _ r h => by simp [impl_clockNodes.f] at h, fun _ _ _ _ _ r h => by simp [impl_clockNodes.l0] at h⟩
 | k + 1 => by
  obtain ⟨ih0, ih1⟩ := impl_clockNodes.mono_l k
  refine ⟨?_, ?_⟩
  ·
   intro y0 y1 y2 y3
   unfold impl_clockNodes.f
   repeat' first
   | (with_reducible exact ih0 _ _ _ _)
   | (with_reducible exact ih1 _ _ _ _ _)
   | (with_reducible exact LeO.refl _)
   | (with_reducible exact LeO.none _)
   | (with_reducible refine LeO.ite ?_ ?_)
   | (with_reducible refine LeO.bind ?_ (fun _ => ?_))
   | exact ih0 _ _ _ _
   | exact ih1 _ _ _ _ _
   | exact LeO.none _
   | refine LeO.ite ?_ ?_
   | refine LeO.bind ?_ (fun _ => ?_)
  ·
   intro y0 y1 y2 y3 y4
   unfold impl_clockNodes.l0
   repeat' first
   | (with_reducible exact ih0 _ _ _ _)
   | (with_reducible exact ih1 _ _ _ _ _)
   | (with_reducible exact LeO.refl _)
   | (with_reducible exact LeO.none _)
   | (with_reducible refine LeO.ite ?_ ?_)
   | (with_reducible refine LeO.bind ?_ (fun _ => ?_))
   | exact ih0 _ _ _ _
   | exact ih1 _ _ _ _ _
   | exact LeO.none _
   | refine LeO.ite ?_ ?_
   | refine LeO.bind ?_ (fun _ => ?_)
theorem impl_clockNodes.mono : ∀ a0 a1 a2 a3 k, LeO (impl_clockNodes.f k a0 a1 a2 a3) (impl_clockNodes.f (k + 1) a0 a1 a2 a3) := by
 intro a0 a1 a2 a3 k
 obtain ⟨ih0, ih1⟩ := impl_clockNodes.mono_l k
 exact ih0 a0 a1 a2 a3
set_option maxHeartbeats 8000000 in
set_option maxRecDepth 100000 in
theorem impl_clockNodes.calls (k : Nat) : ∀ (g6 : Int) (g7 : Int) (gH : Option Addr) (g8 : Nat) (g0 : List (S25)) (a1 : Int) (r : Int) (w : World) (gM : Kd.C k25 w gH g0.length g0) (gN : g0.length ≤ g8) (h : impl_clockNodes.f k g6 g7 g0 a1 = some r),
  Calls Try.prog 39 #[.agg #[.int .i64 g6, .int .i64 g7, .slice gH g0.length g8], .int .i64 a1] w fun e w' => e = .returned (.int .i64 r) ∧ Below w.heap.size w w' := by
 induction k using Nat.strongRecOn with
 | _ k ih =>
 intro g6 g7 gH g8 g0 a1 r w gM gN h
 cases k with
 | zero => exact absurd h (by simp [impl_clockNodes.f])
 | succ k =>
 simp only [impl_clockNodes.f] at h
 have h4 := Try.underlying25
 have gT := am gM; have h5 := am gN; clear gM gN; have HB := am (Below.refl w.heap.size w)
 have H : (impl_clockNodes.l0 k a1 1 g0 (g0.length : Int) 0) = some r := h
 clear h
 have H' := am H
 clear H
 go_enter Try.func39, Try.ntmps39
 go_wp2_with (first | ((with_reducible refine gate_dst (N := 2) rfl ?_); refine box_event ?hg (N := 2) ?hd (cs := #[.int .i64 g6, .int .i64 g7, .slice gH g0.length g8]) (t := 25) ?hr ?_; (case hd => rfl); (case hg => rfl); (case hr => first | (go_simp; done) | (go_simp; rfl)); intro g3 hg w3 hbox hb; have n0_ := am (below_step (by repeat (first | (with_reducible first | exact HB.out | apply below_alloc | apply pw_below_drewN | apply below_drew1) | exact HB.out)) hb); have n1_ := am (hbox); have n2_ := am ((by rw [hg]; exact (below_size (by repeat (first | (with_reducible first | exact HB.out | apply below_alloc | apply pw_below_drewN | apply below_drew1) | exact HB.out))) : w.heap.size ≤ g3)); have n3_ := am ((by rw [hg]; exact (below_size (by repeat (first | (with_reducible first | exact HB.out | apply below_alloc | apply pw_below_drewN | apply below_drew1) | exact HB.out))) : w.heap.size ≤ g3)); clear HB; have HB := n0_; have g2 := n1_; have h6 := n2_; have g9 := n3_; clear n0_ n1_ n2_ n3_; clear hb hbox hg; have gX : w3.cell? ⟨g3, 0, none⟩ = some (.int .i64 g6) := (blk_cell g2.out 0).trans rfl; have gY : w3.cell? ⟨g3, 1, none⟩ = some (.int .i64 g7) := (blk_cell g2.out 1).trans rfl; have gZ : w3.cell? ⟨g3, 2, none⟩ = some (.slice gH g0.length g8) := (blk_cell g2.out 2).trans rfl; have h0 := blk_frozen g2.out 0; have h1 := blk_frozen g2.out 1; have h2 := blk_frozen g2.out 2))
 go_loopg [5, 11] k (fun kq v5 v11 w' => ∃ (gA : Int) (g1 : Int), v5 = .int .i64 gA ∧ v11 = .int .i64 g1 ∧ Aside0 (impl_clockNodes.l0 kq a1 gA g0 (g0.length : Int) g1 = some r) ∧ Aside0 (kq ≤ k) ∧ Aside0 (w'.heap[g3]? = some (.cells #[.int .i64 g6, .int .i64 g7, (.slice gH g0.length g8)] 25 (0, 0))) ∧ Aside0 (Below w.heap.size w w'))
 case atStart => exact ⟨(1), (0), (by first | rfl | (simp; done) | (simp [*]; done)), (by first | rfl | (simp; done) | (simp [*]; done)), H', ⟨Nat.le_refl _⟩, ⟨by (with_reducible repeat (first | apply bN | apply bD | apply bA)); exact g2.out⟩, ⟨by repeat (first | (with_reducible first | exact HB.out | apply below_alloc | apply pw_below_drewN | apply below_drew1 | refine below_set ?_ g9.out) | exact HB.out)⟩⟩
 case round =>
  clear H'; (try clear p2); (try clear c3); (try clear gX); (try clear gY); (try clear gZ); (try clear h0); (try clear h1); (try clear h2); (try clear g2); (try clear HB)
  obtain ⟨gA, g1, rfl, rfl, HA, HK1, g2, HB⟩ := hrel
  cases gk with
  | zero => exact absurd HA.out (by simp [impl_clockNodes.l0])
  | succ k1 =>
   have H := HA.out
   clear HA
   simp only [impl_clockNodes.l0] at H
   by_cases c5 : g1 < (g0.length : Int)
   ·
    rw [if_pos c5] at H; have c5b0 : decide (g1 < (g0.length : Int)) = true := decide_eq_true c5; clear c5
    by_cases c6 : 0 ≤ g1
    ·
     rw [if_pos c6] at H; have c6b0 : decide (0 ≤ g1) = true := decide_eq_true c6; clear c6
     by_cases c7 : g1 < (g0.length : Int)
     ·
      rw [if_pos c7] at H; have c7b0 : decide (g1 < (g0.length : Int)) = true := decide_eq_true c7; clear c7
      by_cases c8 : gA > a1
      ·
       rw [if_pos c8] at H; have c8b0 : decide (a1 < gA) = true := decide_eq_true c8; clear c8
       obtain rfl := Option.some.inj H
       have gC : 0 ≤ (g1 : Int) := of_decide_eq_true (by first | (with_reducible assumption) | assumption); have gD : g1 < (g0.length : Int) := of_decide_eq_true (by first | (with_reducible assumption) | assumption)
       obtain ⟨gB, gO, gP, gQ, gE, gF, gG, gJ, gK⟩ := at_T25 gT.out g1 gC gD
       cases gQ; replace gE := (HB.out.cell (World.block_lt_of_cell? w _ gE)).trans gE; replace gF := (HB.out.cell (World.block_lt_of_cell? w _ gF)).trans gF; replace gG := (HB.out.cell (World.block_lt_of_cell? w _ gG)).trans gG; have gU := am gK; have gV := am gJ; clear gK gJ; replace gC := eq_true gC; replace gD := eq_true gD
       go_wp2_with (first | ((with_reducible refine gate_dst (N := 7) rfl ?_); refine box_event ?hg (N := 7) ?hd (cs := #[.int .i64 0, .int .i64 0, .slice none 0 0]) (t := 25) ?hr ?_; (case hd => rfl); (case hg => rfl); (case hr => first | (go_simp; done) | (go_simp; rfl)); intro g4 hg w9 hbox hb; have n0_ := am (blk_below (g := g3) (o := .cells #[.int .i64 g6, .int .i64 g7, .slice (some gB) g0.length g8] 25 (0, 0)) (by (with_reducible repeat (first | apply bN | apply bD | apply bA)); exact g2.out) hb); have n1_ := am (below_step (by repeat (first | (with_reducible first | exact HB.out | apply below_alloc | apply pw_below_drewN | apply below_drew1 | refine below_set ?_ g9.out) | exact HB.out)) hb); have n2_ := am (hbox); have n3_ := am ((by rw [hg]; exact (below_size (by repeat (first | (with_reducible first | exact HB.out | apply below_alloc | apply pw_below_drewN | apply below_drew1 | refine below_set ?_ g9.out) | exact HB.out))) : w.heap.size ≤ g4)); have n4_ := am ((by rw [hg]; exact (below_size (by repeat (first | (with_reducible first | exact HB.out | apply below_alloc | apply pw_below_drewN | apply below_drew1 | refine below_set ?_ g9.out) | exact HB.out))) : w.heap.size ≤ g4)); have n5_ := am ((by rw [hg]; exact Nat.ne_of_lt (blk_lt (g := g3) (o := .cells #[.int .i64 g6, .int .i64 g7, .slice (some gB) g0.length g8] 25 (0, 0)) (by (with_reducible repeat (first | apply bN | apply bD | apply bA)); exact g2.out)) : g3 ≠ g4)); have n6_ := am ((by rw [hg]; exact Nat.ne_of_gt (blk_lt (g := g3) (o := .cells #[.int .i64 g6, .int .i64 g7, .slice (some gB) g0.length g8] 25 (0, 0)) (by (with_reducible repeat (first | apply bN | apply bD | apply bA)); exact g2.out)) : g4 ≠ g3)); clear g2; clear HB; have g2 := n0_; have HB := n1_; have g5 := n2_; have h3 := n3_; have gL := n4_; have gI := n5_; have gR := n6_; clear n0_ n1_ n2_ n3_ n4_ n5_ n6_; clear hb hbox hg; have h7 := gR.out; have h8 := gI.out; have h9 : w9.cell? ⟨g4, 0, none⟩ = some (.int .i64 0) := (blk_cell g5.out 0).trans rfl; have hA : w9.cell? ⟨g4, 1, none⟩ = some (.int .i64 0) := (blk_cell g5.out 1).trans rfl; have hB : w9.cell? ⟨g4, 2, none⟩ = some (.slice none 0 0) := (blk_cell g5.out 2).trans rfl; have hC := blk_frozen g5.out 0; have hD := blk_frozen g5.out 1; have hE := blk_frozen g5.out 2))
       go_ret
       exact ⟨by first | rfl | (simp [errW_none, errW_some] <;> rfl) | (simp [*, errW_none, errW_some] <;> rfl), by repeat (first | (with_reducible first | exact HB.out | apply below_alloc | apply pw_below_drewN | apply below_drew1 | refine below_set ?_ g9.out | refine below_set ?_ gL.out) | exact HB.out)⟩
      ·
       rw [if_neg c8] at H; have c8b0 : decide (a1 < gA) = false := decide_eq_false c8; clear c8
       replace H := Option.bind_eq_some_iff.mp H
       obtain ⟨gS, gW, H⟩ := H
       replace H : (impl_clockNodes.l0 k1 a1 (wrap64 (gA + gS)) g0 (g0.length : Int) (wrap64 (g1 + 1))) = some r := H
       have A12 := am gW
       clear gW
       have H' := am H
       clear H; have gC : 0 ≤ (g1 : Int) := of_decide_eq_true (by first | (with_reducible assumption) | assumption); have gD : g1 < (g0.length : Int) := of_decide_eq_true (by first | (with_reducible assumption) | assumption)
       obtain ⟨gB, gO, gP, gQ, gE, gF, gG, gJ, gK⟩ := at_T25 gT.out g1 gC gD
       cases gQ; replace gE := (HB.out.cell (World.block_lt_of_cell? w _ gE)).trans gE; replace gF := (HB.out.cell (World.block_lt_of_cell? w _ gF)).trans gF; replace gG := (HB.out.cell (World.block_lt_of_cell? w _ gG)).trans gG; have gU := am gK; have gV := am gJ; clear gK gJ; replace gC := eq_true gC; replace gD := eq_true gD
       go_wp2_with (first | ((with_reducible refine gate_dst (N := 7) rfl ?_); refine box_event ?hg (N := 7) ?hd (cs := #[.int .i64 0, .int .i64 0, .slice none 0 0]) (t := 25) ?hr ?_; (case hd => rfl); (case hg => rfl); (case hr => first | (go_simp; done) | (go_simp; rfl)); intro g4 hg w13 hbox hb; have n0_ := am (blk_below (g := g3) (o := .cells #[.int .i64 g6, .int .i64 g7, .slice (some gB) g0.length g8] 25 (0, 0)) (by (with_reducible repeat (first | apply bN | apply bD | apply bA)); exact g2.out) hb); have n1_ := am (below_step (by repeat (first | (with_reducible first | exact HB.out | apply below_alloc | apply pw_below_drewN | apply below_drew1 | refine below_set ?_ g9.out) | exact HB.out)) hb); have n2_ := am (hbox); have n3_ := am ((by rw [hg]; exact (below_size (by repeat (first | (with_reducible first | exact HB.out | apply below_alloc | apply pw_below_drewN | apply below_drew1 | refine below_set ?_ g9.out) | exact HB.out))) : w.heap.size ≤ g4)); have n4_ := am ((by rw [hg]; exact (below_size (by repeat (first | (with_reducible first | exact HB.out | apply below_alloc | apply pw_below_drewN | apply below_drew1 | refine below_set ?_ g9.out) | exact HB.out))) : w.heap.size ≤ g4)); have n5_ := am ((by rw [hg]; exact Nat.ne_of_lt (blk_lt (g := g3) (o := .cells #[.int .i64 g6, .int .i64 g7, .slice (some gB) g0.length g8] 25 (0, 0)) (by (with_reducible repeat (first | apply bN | apply bD | apply bA)); exact g2.out)) : g3 ≠ g4)); have n6_ := am ((by rw [hg]; exact Nat.ne_of_gt (blk_lt (g := g3) (o := .cells #[.int .i64 g6, .int .i64 g7, .slice (some gB) g0.length g8] 25 (0, 0)) (by (with_reducible repeat (first | apply bN | apply bD | apply bA)); exact g2.out)) : g4 ≠ g3)); clear g2; clear HB; have g2 := n0_; have HB := n1_; have g5 := n2_; have h3 := n3_; have gL := n4_; have gI := n5_; have gR := n6_; clear n0_ n1_ n2_ n3_ n4_ n5_ n6_; clear hb hbox hg; have hF := gR.out; have hG := gI.out; have hH : w13.cell? ⟨g4, 0, none⟩ = some (.int .i64 0) := (blk_cell g5.out 0).trans rfl; have hI : w13.cell? ⟨g4, 1, none⟩ = some (.int .i64 0) := (blk_cell g5.out 1).trans rfl; have hJ : w13.cell? ⟨g4, 2, none⟩ = some (.slice none 0 0) := (blk_cell g5.out 2).trans rfl; have hK := blk_frozen g5.out 0; have hL := blk_frozen g5.out 1; have hM := blk_frozen g5.out 2) | ((with_reducible refine gate_callee (f := 39) rfl ?_); refine goesL_ (some 24) rfl rfl Try.func39 (by kernel_rfl) rfl #[.agg #[.int .i64 ((rd_T25 g0 g1).f0), .int .i64 ((rd_T25 g0 g1).f1), .slice gO ((rd_T25 g0 g1).f2).length gP], .int .i64 (wrap64 (a1 - gA))] rfl (by (try simp only [List.map_toArray, List.map_cons, List.map_nil]); first | done | rfl | (simp only [List.length_drop, List.length_take]; rfl)) ?_; (with_reducible refine (ih k1 (by have := HK1.out; omega) ((rd_T25 g0 g1).f0) ((rd_T25 g0 g1).f1) _ _ ((rd_T25 g0 g1).f2) (wrap64 (a1 - gA)) gS _ ?side1 ?side2 A12.out).mono ?_); (case side1 => exact Kd.C_below gU.out (by repeat (first | (with_reducible first | exact HB.out | apply below_alloc | apply pw_below_drewN | apply below_drew1 | refine below_set ?_ g9.out | refine below_set ?_ gL.out) | exact HB.out))); (case side2 => exact gV.out); rintro e w16 ⟨rfl, hb⟩; refine ⟨_, rfl, ?_⟩; have n0_ := am (blk_below (g := g3) (o := .cells #[.int .i64 g6, .int .i64 g7, .slice (some gB) g0.length g8] 25 (0, 0)) (by (with_reducible repeat (first | apply bN | apply bD | apply bA)); refine blk_far ?_ gI.out _; (with_reducible repeat (first | apply bN | apply bD | apply bA)); refine blk_far ?_ gI.out _; (with_reducible repeat (first | apply bN | apply bD | apply bA)); refine blk_far ?_ gI.out _; (with_reducible repeat (first | apply bN | apply bD | apply bA)); exact g2.out) hb); have n1_ := am (blk_below (g := g4) (o := .cells #[.int .i64 ((rd_T25 g0 g1).f0), .int .i64 ((rd_T25 g0 g1).f1), .slice gO ((rd_T25 g0 g1).f2).length gP] 25 (0, 0)) (by (with_reducible repeat (first | apply bN | apply bD | apply bA)); refine blk_put (cs := #[.int .i64 ((rd_T25 g0 g1).f0), .int .i64 ((rd_T25 g0 g1).f1), .slice none 0 0]) ?_ 2 _ rfl; (with_reducible repeat (first | apply bN | apply bD | apply bA)); refine blk_put (cs := #[.int .i64 ((rd_T25 g0 g1).f0), .int .i64 0, .slice none 0 0]) ?_ 1 _ rfl; (with_reducible repeat (first | apply bN | apply bD | apply bA)); refine blk_put (cs := #[.int .i64 0, .int .i64 0, .slice none 0 0]) ?_ 0 _ rfl; (with_reducible repeat (first | apply bN | apply bD | apply bA)); exact g5.out) hb); have n2_ := am (below_step (by repeat (first | (with_reducible first | exact HB.out | apply below_alloc | apply pw_below_drewN | apply below_drew1 | refine below_set ?_ g9.out | refine below_set ?_ gL.out) | exact HB.out)) hb); clear g2; clear g5; clear HB; have g2 := n0_; have g5 := n1_; have HB := n2_; clear n0_ n1_ n2_; (try clear hb); (try clear hb2); (try clear hk); (try clear hi)))
       go_roundg k1
       case measure => have := HK1.out; omega
       case rel => exact ⟨(wrap64 (gA + gS)), (wrap64 (g1 + 1)), (by first | rfl | (simp; done) | (simp [*]; done)), (by first | rfl | (simp; done) | (simp [*]; done)), H', ⟨by have := HK1.out; omega⟩, ⟨by (with_reducible repeat (first | apply bN | apply bD | apply bA)); exact g2.out⟩, ⟨by repeat (first | (with_reducible first | exact HB.out | apply below_alloc | apply pw_below_drewN | apply below_drew1 | refine below_set ?_ g9.out | refine below_set ?_ gL.out) | exact HB.out)⟩⟩
     ·
      rw [if_neg c7] at H
      exact absurd H (by simp)
    ·
     rw [if_neg c6] at H
     exact absurd H (by simp)
   ·
    rw [if_neg c5] at H; have c5b0 : decide (g1 < (g0.length : Int)) = false := decide_eq_false c5; clear c5
    obtain rfl := Option.some.inj H
    go_wp2
    go_ret
    exact ⟨by first | rfl | (simp [errW_none, errW_some] <;> rfl) | (simp [*, errW_none, errW_some] <;> rfl), by repeat (first | (with_reducible first | exact HB.out | apply below_alloc | apply pw_below_drewN | apply below_drew1 | refine below_set ?_ g9.out) | exact HB.out)⟩


/-! ### impl_ActOk: function 57 -/
def impl_ActOk.f (a0 : Int) : Option (Bool) := if a0 ≥ (-4) then (some (decide (a0 ≤ 4))) else (some false)
set_option maxHeartbeats 8000000 in
set_option maxRecDepth 100000 in
theorem impl_ActOk.calls (a0 : Int) (r : Bool) (w : World) (h : impl_ActOk.f a0 = some r) :
  Calls Try.prog 57 #[.int .i64 a0] w fun e w' => e = .returned (.bool r) ∧ Drawn0 w w' := by
 have H : (if a0 ≥ (-4) then (some (decide (a0 ≤ 4))) else (some false)) = some r := h
 clear h
 by_cases c2 : a0 ≥ (-4)
 ·
  rw [if_pos c2] at H; have c2b0 : decide ((-4) ≤ a0) = true := decide_eq_true c2; clear c2
  obtain rfl := Option.some.inj H
  go_enter Try.func57, Try.ntmps57
  go_wp2
  go_ret
  exact ⟨by first | rfl | (simp; done) | (simp [*]; done), by repeat (first | exact Drawn0.refl _ | apply Drawn0.step)⟩
 ·
  rw [if_neg c2] at H; have c2b0 : decide ((-4) ≤ a0) = false := decide_eq_false c2; clear c2
  obtain rfl := Option.some.inj H
  go_enter Try.func57, Try.ntmps57
  go_wp2
  go_ret
  exact ⟨by first | rfl | (simp; done) | (simp [*]; done), by repeat (first | exact Drawn0.refl _ | apply Drawn0.step)⟩

-- NOT PRINTED: function 67 (impl_Clock_67)

-- NOT PRINTED: function 58 (impl_Clock_58)


/-! ### impl_beside: function 61 -/
def impl_beside.f (a0_0 : Int) (a0_1 : Int) (l0_2 : List (S25)) (a1_0 : Int) (a1_1 : Int) (l1_2 : List (S25)) : Option (Int × Int × (List (S25))) := some (4, 0, (([(⟨a0_0, a0_1, l0_2⟩ : S25), (⟨a1_0, a1_1, l1_2⟩ : S25)] : List (S25))))
set_option maxHeartbeats 8000000 in
set_option maxRecDepth 100000 in
theorem impl_beside.calls (g6 : Int) (g7 : Int) (gH : Nat → Prop) (gA : Option Addr) (gB : Nat) (g2 : List (S25)) (g8 : Int) (g9 : Int) (gI : Nat → Prop) (gF : Option Addr) (gG : Nat) (g4 : List (S25)) (r1 : Int) (r2 : Int) (r3 : List (S25)) (w : World) (gW : Kd.V k25 25 w w.heap.size (fun k_ => gH k_) (.slice gA g2.length gB) g2) (gX : Kd.V k25 25 w w.heap.size (fun k_ => gI k_) (.slice gF g4.length gG) g4) (h : impl_beside.f g6 g7 g2 g8 g9 g4 = some (r1, r2, r3)) :
  Calls Try.prog 61 #[.agg #[.int .i64 g6, .int .i64 g7, .slice gA g2.length gB], .agg #[.int .i64 g8, .int .i64 g9, .slice gF g4.length gG]] w fun e w' => ∃ v2_ : Value, e = .returned (.agg #[.int .i64 r1, .int .i64 r2, v2_]) ∧ Kd.N k25 25 w' w.heap.size (fun k_ => ((gH k_ ∨ gI k_) ∨ w.heap.size ≤ k_)) v2_ r3 ∧ Below w.heap.size w w' := by
 have h5 := Try.underlying25
 have gD := am (show Kd.V k25 25 w w.heap.size (fun k_ => ((gH k_ ∨ gI k_) ∨ w.heap.size ≤ k_)) (.slice gA g2.length gB) g2 from Kd.V_mono gW (fun k_ hk => .inl (.inl hk))); have gE := am (show Kd.V k25 25 w w.heap.size (fun k_ => ((gH k_ ∨ gI k_) ∨ w.heap.size ≤ k_)) (.slice gF g4.length gG) g4 from Kd.V_mono gX (fun k_ hk => .inl (.inr hk))); have HB := am (Below.refl w.heap.size w)
 have H : (some (4, 0, (([(⟨g6, g7, g2⟩ : S25), (⟨g8, g9, g4⟩ : S25)] : List (S25))))) = some (r1, r2, r3) := h
 clear h
 obtain ⟨gP, gN⟩ : ∃ y_ : List (S25), y_ = (([(⟨g6, g7, g2⟩ : S25), (⟨g8, g9, g4⟩ : S25)] : List (S25))) := ⟨_, rfl⟩
 replace H : (some (4, 0, gP)) = some (r1, r2, r3) := by first | (rw [gN]; with_reducible exact H) | (have H2_ := (Option.bind_some _ _).symm.trans H; rw [gN]; with_reducible exact H2_) | (have H2_ := (Option.bind_some _ _).symm.trans H; with_reducible exact H2_) | with_reducible exact H | (rw [gN]; exact H) | exact H
 have gQ := am gN
 clear gN
 simp only [Option.some.injEq, Prod.mk.injEq] at H
 obtain ⟨rfl, rfl, rfl⟩ := H
 go_enter Try.func61, Try.ntmps61
 go_wp2_with (first | ((with_reducible refine gate_dst (N := 2) rfl ?_); refine box_event ?hg (N := 2) ?hd (cs := #[.int .i64 g6, .int .i64 g7, .slice gA g2.length gB]) (t := 25) ?hr ?_; (case hd => rfl); (case hg => rfl); (case hr => first | (go_simp; done) | (go_simp; rfl)); intro g0 hg w3 hbox hb; have n0_ := am (Kd.V_below (Kd.V_elderB (by (with_reducible repeat (first | apply Kd.V_alloc | apply Kd.V_drewN | apply Kd.V_drew)); exact gD.out) g0 (Nat.le_of_eq hg.symm)) hb); have n1_ := am (Kd.V_below (Kd.V_elderB (by (with_reducible repeat (first | apply Kd.V_alloc | apply Kd.V_drewN | apply Kd.V_drew)); exact gE.out) g0 (Nat.le_of_eq hg.symm)) hb); have n2_ := am (below_step (by repeat (first | (with_reducible first | exact HB.out | apply below_alloc | apply pw_below_drewN | apply below_drew1) | exact HB.out)) hb); have n3_ := am (hbox); have n4_ := am ((by rw [hg]; exact (below_size (by repeat (first | (with_reducible first | exact HB.out | apply below_alloc | apply pw_below_drewN | apply below_drew1) | exact HB.out))) : w.heap.size ≤ g0)); have n5_ := am ((by rw [hg]; exact (below_size (by repeat (first | (with_reducible first | exact HB.out | apply below_alloc | apply pw_below_drewN | apply below_drew1) | exact HB.out))) : w.heap.size ≤ g0)); clear gD; clear gE; clear HB; have gD := n0_; have gE := n1_; have HB := n2_; have g5 := n3_; have h6 := n4_; have gK := n5_; clear n0_ n1_ n2_ n3_ n4_ n5_; clear hb hbox hg) | ((with_reducible refine gate_dst (N := 3) rfl ?_); refine box_event ?hg (N := 3) ?hd (cs := #[.int .i64 g8, .int .i64 g9, .slice gF g4.length gG]) (t := 25) ?hr ?_; (case hd => rfl); (case hg => rfl); (case hr => first | (go_simp; done) | (go_simp; rfl)); intro g3 hg w4 hbox hb; have n0_ := am (Kd.V_below (Kd.V_elderB (by (with_reducible repeat (first | apply Kd.V_alloc | apply Kd.V_drewN | apply Kd.V_drew)); exact gD.out) g3 (Nat.le_of_eq hg.symm)) hb); have n1_ := am (Kd.V_below (Kd.V_elderB (by (with_reducible repeat (first | apply Kd.V_alloc | apply Kd.V_drewN | apply Kd.V_drew)); exact gE.out) g3 (Nat.le_of_eq hg.symm)) hb); have n2_ := am (blk_below (g := g0) (o := .cells #[.int .i64 g6, .int .i64 g7, .slice gA g2.length gB] 25 (0, 0)) (by (with_reducible repeat (first | apply bN | apply bD | apply bA)); exact g5.out) hb); have n3_ := am (below_step (by repeat (first | (with_reducible first | exact HB.out | apply below_alloc | apply pw_below_drewN | apply below_drew1 | refine below_set ?_ gK.out) | exact HB.out)) hb); have n4_ := am (hbox); have n5_ := am ((by rw [hg]; exact (below_size (by repeat (first | (with_reducible first | exact HB.out | apply below_alloc | apply pw_below_drewN | apply below_drew1 | refine below_set ?_ gK.out) | exact HB.out))) : w.heap.size ≤ g3)); have n6_ := am ((by rw [hg]; exact (below_size (by repeat (first | (with_reducible first | exact HB.out | apply below_alloc | apply pw_below_drewN | apply below_drew1 | refine below_set ?_ gK.out) | exact HB.out))) : w.heap.size ≤ g3)); have n7_ := am ((by rw [hg]; exact Nat.ne_of_lt (blk_lt (g := g0) (o := .cells #[.int .i64 g6, .int .i64 g7, .slice gA g2.length gB] 25 (0, 0)) (by (with_reducible repeat (first | apply bN | apply bD | apply bA)); exact g5.out)) : g0 ≠ g3)); have n8_ := am ((by rw [hg]; exact Nat.ne_of_gt (blk_lt (g := g0) (o := .cells #[.int .i64 g6, .int .i64 g7, .slice gA g2.length gB] 25 (0, 0)) (by (with_reducible repeat (first | apply bN | apply bD | apply bA)); exact g5.out)) : g3 ≠ g0)); clear gD; clear gE; clear g5; clear HB; have gD := n0_; have gE := n1_; have g5 := n2_; have HB := n3_; have gC := n4_; have h7 := n5_; have gM := n6_; have gY := n7_; have gZ := n8_; clear n0_ n1_ n2_ n3_ n4_ n5_ n6_ n7_ n8_; clear hb hbox hg) | ((with_reducible refine gate_dst (N := 4) rfl ?_); refine box_event ?hg (N := 4) ?hd (cs := #[.int .i64 0, .int .i64 0, .slice none 0 0]) (t := 25) ?hr ?_; (case hd => rfl); (case hg => rfl); (case hr => first | (go_simp; done) | (go_simp; rfl)); intro g1 hg w5 hbox hb; have n0_ := am (Kd.V_below (Kd.V_elderB (by (with_reducible repeat (first | apply Kd.V_alloc | apply Kd.V_drewN | apply Kd.V_drew)); exact gD.out) g1 (Nat.le_of_eq hg.symm)) hb); have n1_ := am (Kd.V_below (Kd.V_elderB (by (with_reducible repeat (first | apply Kd.V_alloc | apply Kd.V_drewN | apply Kd.V_drew)); exact gE.out) g1 (Nat.le_of_eq hg.symm)) hb); have n2_ := am (blk_below (g := g0) (o := .cells #[.int .i64 g6, .int .i64 g7, .slice gA g2.length gB] 25 (0, 0)) (by (with_reducible repeat (first | apply bN | apply bD | apply bA)); exact g5.out) hb); have n3_ := am (blk_below (g := g3) (o := .cells #[.int .i64 g8, .int .i64 g9, .slice gF g4.length gG] 25 (0, 0)) (by (with_reducible repeat (first | apply bN | apply bD | apply bA)); exact gC.out) hb); have n4_ := am (below_step (by repeat (first | (with_reducible first | exact HB.out | apply below_alloc | apply pw_below_drewN | apply below_drew1 | refine below_set ?_ gK.out | refine below_set ?_ gM.out) | exact HB.out)) hb); have n5_ := am (hbox); have n6_ := am ((by rw [hg]; exact (below_size (by repeat (first | (with_reducible first | exact HB.out | apply below_alloc | apply pw_below_drewN | apply below_drew1 | refine below_set ?_ gK.out | refine below_set ?_ gM.out) | exact HB.out))) : w.heap.size ≤ g1)); have n7_ := am ((by rw [hg]; exact (below_size (by repeat (first | (with_reducible first | exact HB.out | apply below_alloc | apply pw_below_drewN | apply below_drew1 | refine below_set ?_ gK.out | refine below_set ?_ gM.out) | exact HB.out))) : w.heap.size ≤ g1)); have n8_ := am ((by rw [hg]; exact Nat.ne_of_lt (blk_lt (g := g0) (o := .cells #[.int .i64 g6, .int .i64 g7, .slice gA g2.length gB] 25 (0, 0)) (by (with_reducible repeat (first | apply bN | apply bD | apply bA)); exact g5.out)) : g0 ≠ g1)); have n9_ := am ((by rw [hg]; exact Nat.ne_of_gt (blk_lt (g := g0) (o := .cells #[.int .i64 g6, .int .i64 g7, .slice gA g2.length gB] 25 (0, 0)) (by (with_reducible repeat (first | apply bN | apply bD | apply bA)); exact g5.out)) : g1 ≠ g0)); have gR := am ((by rw [hg]; exact Nat.ne_of_lt (blk_lt (g := g3) (o := .cells #[.int .i64 g8, .int .i64 g9, .slice gF g4.length gG] 25 (0, 0)) (by (with_reducible repeat (first | apply bN | apply bD | apply bA)); exact gC.out)) : g3 ≠ g1)); have gS := am ((by rw [hg]; exact Nat.ne_of_gt (blk_lt (g := g3) (o := .cells #[.int .i64 g8, .int .i64 g9, .slice gF g4.length gG] 25 (0, 0)) (by (with_reducible repeat (first | apply bN | apply bD | apply bA)); exact gC.out)) : g1 ≠ g3)); clear gD; clear gE; clear g5; clear gC; clear HB; have gD := n0_; have gE := n1_; have g5 := n2_; have gC := n3_; have HB := n4_; have gJ := n5_; have h8 := n6_; have gO := n7_; have h0 := n8_; have h1 := n9_; have h2 := gR; have h3 := gS; clear n0_ n1_ n2_ n3_ n4_ n5_ n6_ n7_ n8_ n9_ gR gS; clear hb hbox hg; have h9 := gY.out; have hA := gZ.out; have hB := h0.out; have hC := h1.out; have hD : w5.cell? ⟨g0, 0, none⟩ = some (.int .i64 g6) := (blk_cell g5.out 0).trans rfl; have hE : w5.cell? ⟨g0, 1, none⟩ = some (.int .i64 g7) := (blk_cell g5.out 1).trans rfl; have hF : w5.cell? ⟨g0, 2, none⟩ = some (.slice gA g2.length gB) := (blk_cell g5.out 2).trans rfl; have hG := blk_frozen g5.out 0; have hH := blk_frozen g5.out 1; have hI := blk_frozen g5.out 2; have hJ := h2.out; have hK := h3.out; have hL : w5.cell? ⟨g3, 0, none⟩ = some (.int .i64 g8) := (blk_cell gC.out 0).trans rfl; have hM : w5.cell? ⟨g3, 1, none⟩ = some (.int .i64 g9) := (blk_cell gC.out 1).trans rfl; have hN : w5.cell? ⟨g3, 2, none⟩ = some (.slice gF g4.length gG) := (blk_cell gC.out 2).trans rfl; have hO := blk_frozen gC.out 0; have hP := blk_frozen gC.out 1; have hQ := blk_frozen gC.out 2) | ((with_reducible refine gate_dst (N := 7) rfl ?_); refine Kd.N_lit k25 _ 25 ?hg (N' := 7) ?hd (xs := ([(⟨g6, g7, g2⟩ : S25), (⟨g8, g9, g4⟩ : S25)] : List (S25))) (inner := [.int .i64 g6, .int .i64 g7, .slice gA g2.length gB, .int .i64 g8, .int .i64 g9, .slice gF g4.length gG]) (ok := (fun k_ => ((gH k_ ∨ gI k_) ∨ w.heap.size ≤ k_) ∧ k_ ≠ g0 ∧ k_ ≠ g3 ∧ k_ ≠ g1)) (okp := (fun k_ => ((gH k_ ∨ gI k_) ∨ w.heap.size ≤ k_) ∧ k_ ≠ g0 ∧ k_ ≠ g3 ∧ k_ ≠ g1)) ?hr ?hp (fun _ hk => hk) ((show ∀ k_, w5.heap.size ≤ k_ → (fun k_ => ((gH k_ ∨ gI k_) ∨ w.heap.size ≤ k_) ∧ k_ ≠ g0 ∧ k_ ≠ g3 ∧ k_ ≠ g1) k_ from fun k_ hk => ⟨(.inr (Nat.le_trans (below_size (by repeat (first | (with_reducible first | exact HB.out | apply below_alloc | apply pw_below_drewN | apply below_drew1 | refine below_set ?_ gK.out | refine below_set ?_ gM.out | refine below_set ?_ gO.out) | exact HB.out))) hk)), Kd.freshB (g := g0) (o := .cells #[.int .i64 g6, .int .i64 g7, .slice gA g2.length gB] 25 (0, 0)) (by (with_reducible repeat (first | apply bN | apply bD | apply bA)); exact g5.out) k_ hk, Kd.freshB (g := g3) (o := .cells #[.int .i64 g8, .int .i64 g9, .slice gF g4.length gG] 25 (0, 0)) (by (with_reducible repeat (first | apply bN | apply bD | apply bA)); exact gC.out) k_ hk, Kd.freshB (g := g1) (o := .cells #[.int .i64 0, .int .i64 0, .slice none 0 0] 25 (0, 0)) (by (with_reducible repeat (first | apply bN | apply bD | apply bA)); exact gJ.out) k_ hk⟩) _ (Nat.le_refl _)) (Below.refl _ _) (Nat.le_refl _) (by simp) ?_; (case hd => rfl); (case hg => rfl); (case hr => first | (go_simp; done) | (go_simp; rfl)); (case hp => exact (Reps.c3 (show Kd.FK k25 _ _ (⟨g6, g7, g2⟩ : S25) [.int .i64 g6, .int .i64 g7, .slice gA g2.length gB] from (k25_mkF _ _ (⟨g6, g7, g2⟩ : S25) (Kd.V_reads' (Kd.V_mono (ok' := (fun k_ => ((gH k_ ∨ gI k_) ∨ w.heap.size ≤ k_) ∧ k_ ≠ g0 ∧ k_ ≠ g3 ∧ k_ ≠ g1)) (gD.out) (fun k_ hk => ⟨hk.1.1.1, ⟨hk.1.1.2, ⟨hk.1.2, hk.2⟩⟩⟩))).2.1 (Kd.V_F (Kd.V_mono (ok' := (fun k_ => ((gH k_ ∨ gI k_) ∨ w.heap.size ≤ k_) ∧ k_ ≠ g0 ∧ k_ ≠ g3 ∧ k_ ≠ g1)) (gD.out) (fun k_ hk => ⟨hk.1.1.1, ⟨hk.1.1.2, ⟨hk.1.2, hk.2⟩⟩⟩))))) (Reps.c3 (show Kd.FK k25 _ _ (⟨g8, g9, g4⟩ : S25) [.int .i64 g8, .int .i64 g9, .slice gF g4.length gG] from (k25_mkF _ _ (⟨g8, g9, g4⟩ : S25) (Kd.V_reads' (Kd.V_mono (ok' := (fun k_ => ((gH k_ ∨ gI k_) ∨ w.heap.size ≤ k_) ∧ k_ ≠ g0 ∧ k_ ≠ g3 ∧ k_ ≠ g1)) (gE.out) (fun k_ hk => ⟨hk.1.1.1, ⟨hk.1.1.2, ⟨hk.1.2, hk.2⟩⟩⟩))).2.1 (Kd.V_F (Kd.V_mono (ok' := (fun k_ => ((gH k_ ∨ gI k_) ∨ w.heap.size ≤ k_) ∧ k_ ≠ g0 ∧ k_ ≠ g3 ∧ k_ ≠ g1)) (gE.out) (fun k_ hk => ⟨hk.1.1.1, ⟨hk.1.1.2, ⟨hk.1.2, hk.2⟩⟩⟩))))) (Reps.none _ _)))); intro hR w11 gL hb hg_ hnew_; clear hg_ hnew_; (first | rw [← gQ.out] at gL | (simp only [Int.reduceToNat] at gL; rw [← gQ.out] at gL)); have n0_ := am (Kd.V_elder' (by (with_reducible repeat (first | apply Kd.V_alloc | apply Kd.V_drewN | apply Kd.V_drew)); exact gD.out) (by first | exact Kd.N_base gL | exact Kd.R_base gL) hb); have n1_ := am (Kd.V_elder' (by (with_reducible repeat (first | apply Kd.V_alloc | apply Kd.V_drewN | apply Kd.V_drew)); exact gE.out) (by first | exact Kd.N_base gL | exact Kd.R_base gL) hb); have n2_ := am (Kd.N_lower gL (below_size (by repeat (first | (with_reducible first | exact HB.out | apply below_alloc | apply pw_below_drewN | apply below_drew1 | refine below_set ?_ gK.out | refine below_set ?_ gM.out | refine below_set ?_ gO.out) | exact HB.out)))); have n3_ := am (blk_below (g := g0) (o := .cells #[.int .i64 g6, .int .i64 g7, .slice gA g2.length gB] 25 (0, 0)) (by (with_reducible repeat (first | apply bN | apply bD | apply bA)); exact g5.out) hb); have n4_ := am (blk_below (g := g3) (o := .cells #[.int .i64 g8, .int .i64 g9, .slice gF g4.length gG] 25 (0, 0)) (by (with_reducible repeat (first | apply bN | apply bD | apply bA)); exact gC.out) hb); have n5_ := am (blk_below (g := g1) (o := .cells #[.int .i64 0, .int .i64 0, .slice none 0 0] 25 (0, 0)) (by (with_reducible repeat (first | apply bN | apply bD | apply bA)); exact gJ.out) hb); have n6_ := am (below_step (by repeat (first | (with_reducible first | exact HB.out | apply below_alloc | apply pw_below_drewN | apply below_drew1 | refine below_set ?_ gK.out | refine below_set ?_ gM.out | refine below_set ?_ gO.out) | exact HB.out)) hb); clear gD; clear gE; clear g5; clear gC; clear gJ; clear HB; have gD := n0_; have gE := n1_; have gT := n2_; have g5 := n3_; have gC := n4_; have gJ := n5_; have HB := n6_; clear n0_ n1_ n2_ n3_ n4_ n5_ n6_; clear hb gL; obtain ⟨gU, gV, h4⟩ := Kd.N_slice gT.out; subst h4; have hS : w11.cell? ⟨g1, 0, none⟩ = some (.int .i64 0) := (blk_cell gJ.out 0).trans rfl; have hT : w11.cell? ⟨g1, 1, none⟩ = some (.int .i64 0) := (blk_cell gJ.out 1).trans rfl; have hU : w11.cell? ⟨g1, 2, none⟩ = some (.slice none 0 0) := (blk_cell gJ.out 2).trans rfl; have hV := blk_frozen gJ.out 0; have hW := blk_frozen gJ.out 1; have hX := blk_frozen gJ.out 2))
 refine bodyPost_ret (results_cell_row rfl _ _ g1 25 #[.int .i64 4, .int .i64 0, .slice gU gP.length gV] (0, 0) _ rfl (by (with_reducible repeat (first | apply bN | apply bD | apply bA)); refine blk_put (cs := #[.int .i64 4, .int .i64 0, .slice none 0 0]) ?_ 2 _ rfl; (with_reducible repeat (first | apply bN | apply bD | apply bA)); refine blk_put (cs := #[.int .i64 4, .int .i64 0, .slice none 0 0]) ?_ 1 _ rfl; (with_reducible repeat (first | apply bN | apply bD | apply bA)); refine blk_put (cs := #[.int .i64 0, .int .i64 0, .slice none 0 0]) ?_ 0 _ rfl; (with_reducible repeat (first | apply bN | apply bD | apply bA)); exact gJ.out) Try.underlying25 rfl (by kernel_rfl)) rfl ?_
 exact ⟨_, by first | rfl | (simp [errW_none, errW_some] <;> rfl) | (simp [*, errW_none, errW_some] <;> rfl), by (with_reducible repeat (first | apply Kd.N_alloc | apply Kd.N_drewN | apply Kd.N_drew)); exact Kd.N_mono (Kd.N_far (p := ⟨g1, 2, none⟩) (Kd.N_far (p := ⟨g1, 1, none⟩) (Kd.N_far (p := ⟨g1, 0, none⟩) (Kd.N_mono gT.out (fun k_ hk => (⟨hk, hk.2.2.2⟩ : _ ∧ k_ ≠ g1))) (fun _ hk => hk.2) (.int .i64 4)) (fun _ hk => hk.2) (.int .i64 0)) (fun _ hk => hk.2) (.slice gU gP.length gV)) (fun _ hk => hk.1.1), by repeat (first | (with_reducible first | exact HB.out | apply below_alloc | apply pw_below_drewN | apply below_drew1 | refine below_set ?_ gK.out | refine below_set ?_ gM.out | refine below_set ?_ gO.out) | exact HB.out)⟩


/-! ### impl_copyClock: function 44 -/
mutual
def impl_copyClock.l0 : Nat → List (S25) → Int → Int → Int → Int → List (S25) → Option (Int × Int × (List (S25)))
 | 0, _, _, _, _, _, _ => none
 | k + 1, x12, x13, x14, x308000, x308001, x308002 => if x14 < x13 then (if 0 ≤ x14 then (if x14 < (x12.length : Int) then ((impl_copyClock.f k ((rd_T25 x12 x14).f0) ((rd_T25 x12 x14).f1) ((rd_T25 x12 x14).f2)).bind fun bt310 => (if x308002.length < 3518437208883 then (impl_copyClock.l0 k x12 x13 (wrap64 (x14 + 1)) x308000 x308001 (x308002 ++ [(⟨bt310.1, bt310.2.1, bt310.2.2⟩ : S25)])) else (none))) else (none)) else (none)) else (some (x308000, x308001, x308002))
def impl_copyClock.f : Nat → Int → Int → List (S25) → Option (Int × Int × (List (S25)))
 | 0, _, _, _ => none
 | k + 1, a0_0, a0_1, l0_2 => impl_copyClock.l0 k l0_2 (l0_2.length : Int) 0 a0_0 a0_1 ([] : List (S25))
end
theorem impl_copyClock.mono_l : ∀ k, (∀ y0 y1 y2, LeO (impl_copyClock.f k y0 y1 y2) (impl_copyClock.f (k + 1) y0 y1 y2)) ∧ (∀ y0 y1 y2 y3 y4 y5, LeO (impl_copyClock.l0 k y0 y1 y2 y3 y4 y5) (impl_copyClock.l0 (k + 1) y0 y1 y2 y3 y4 y5))
 | 0 => ⟨fun _ _ _ r h => by simp [impl_copyClock.f] at h, fun _ _ _ _ _ _ r h => by simp [impl_copyClock.l0] at h⟩
 | k + 1 => by
  obtain ⟨ih0, ih1⟩ := impl_copyClock.mono_l k
  refine ⟨?_, ?_⟩
  ·
   intro y0 y1 y2
   unfold impl_copyClock.f
   repeat' first
   | (with_reducible exact ih0 _ _ _)
   | (with_reducible exact ih1 _ _ _ _ _ _)
   | (with_reducible exact LeO.refl _)
   | (with_reducible exact LeO.none _)
   | (with_reducible refine LeO.ite ?_ ?_)
   | (with_reducible refine LeO.bind ?_ (fun _ => ?_))
   | exact ih0 _ _ _
   | exact ih1 _ _ _ _ _ _
   | exact LeO.none _
   | refine LeO.ite ?_ ?_
   | refine LeO.bind ?_ (fun _ => ?_)
  ·
   intro y0 y1 y2 y3 y4 y5
   unfold impl_copyClock.l0
   repeat' first
   | (with_reducible exact ih0 _ _ _)
   | (with_reducible exact ih1 _ _ _ _ _ _)
   | (with_reducible exact LeO.refl _)
   | (with_reducible exact LeO.none _)
   | (with_reducible refine LeO.ite ?_ ?_)
   | (with_reducible refine LeO.bind ?_ (fun _ => ?_))
   | exact ih0 _ _ _
   | exact ih1 _ _ _ _ _ _
   | exact LeO.none _
   | refine LeO.ite ?_ ?_
   | refine LeO.bind ?_ (fun _ => ?_)
theorem impl_copyClock.mono : ∀ a0 a1 a2 k, LeO (impl_copyClock.f k a0 a1 a2) (impl_copyClock.f (k + 1) a0 a1 a2) := by
 intro a0 a1 a2 k
 obtain ⟨ih0, ih1⟩ := impl_copyClock.mono_l k
 exact ih0 a0 a1 a2
def impl_copyClock.T5 : Bool × List (List Nat × List Nat) := (true, [([], []), ([0], [0]), ([], []), ([2], [2]), ([3], [3]), ([1, 4, 3], [1, 4]), ([0, 1, 2, 3, 4, 5], []), ([6, 5, 5, 0, 1, 2, 3, 4, 5], [5, 6])])
def impl_copyClock.B5 : List Nat := [0, 1, 0, 4, 12, 31, 63, 127]
theorem impl_copyClock.tab5 : rtab .any (opsOf Try.f44 5) = impl_copyClock.T5 := by kernel_rfl
theorem impl_copyClock.bits5 : waitsOk impl_copyClock.T5.2 impl_copyClock.B5 = true := by kernel_rfl
set_option maxHeartbeats 8000000 in
set_option maxRecDepth 100000 in
theorem impl_copyClock.calls (k : Nat) : ∀ (g5 : Int) (g6 : Int) (gJ : Option Addr) (gD : Nat) (g0 : List (S25)) (r1 : Int) (r2 : Int) (r3 : List (S25)) (w : World) (gY : Kd.C k25 w gJ g0.length g0) (gZ : g0.length ≤ gD) (h : impl_copyClock.f k g5 g6 g0 = some (r1, r2, r3)),
  Calls Try.prog 44 #[.agg #[.int .i64 g5, .int .i64 g6, .slice gJ g0.length gD]] w fun e w' => ∃ v2_ : Value, e = .returned (.agg #[.int .i64 r1, .int .i64 r2, v2_]) ∧ Kd.R k25 25 w' w.heap.size (fun _ => True) v2_ r3 ∧ Below w.heap.size w w' := by
 induction k using Nat.strongRecOn with
 | _ k ih =>
 intro g5 g6 gJ gD g0 r1 r2 r3 w gY gZ h
 cases k with
 | zero => exact absurd h (by simp [impl_copyClock.f])
 | succ k =>
 simp only [impl_copyClock.f] at h
 have iJ := Try.underlying25
 have hQ := am gY; have iK := am gZ; clear gY gZ; have HB := am (Below.refl w.heap.size w)
 have H : (impl_copyClock.l0 k g0 (g0.length : Int) 0 g5 g6 ([] : List (S25))) = some (r1, r2, r3) := h
 clear h
 have H' := am H
 clear H
 go_enter Try.func44, Try.ntmps44
 go_wp2_with (first | ((with_reducible refine gate_dst (N := 1) rfl ?_); refine box_event ?hg (N := 1) ?hd (cs := #[.int .i64 g5, .int .i64 g6, .slice gJ g0.length gD]) (t := 25) ?hr ?_; (case hd => rfl); (case hg => rfl); (case hr => first | (go_simp; done) | (go_simp; rfl)); intro g8 hg w2 hbox hb; have n0_ := am (below_step (by repeat (first | (with_reducible first | exact HB.out | apply below_alloc | apply pw_below_drewN | apply below_drew1) | exact HB.out)) hb); have n1_ := am (hbox); have n2_ := am ((by rw [hg]; exact (below_size (by repeat (first | (with_reducible first | exact HB.out | apply below_alloc | apply pw_below_drewN | apply below_drew1) | exact HB.out))) : w.heap.size ≤ g8)); have n3_ := am ((by rw [hg]; exact (below_size (by repeat (first | (with_reducible first | exact HB.out | apply below_alloc | apply pw_below_drewN | apply below_drew1) | exact HB.out))) : w.heap.size ≤ g8)); clear HB; have HB := n0_; have g4 := n1_; have iL := n2_; have gF := n3_; clear n0_ n1_ n2_ n3_; clear hb hbox hg) | ((with_reducible refine gate_dst (N := 2) rfl ?_); refine box_event ?hg (N := 2) ?hd (cs := #[.int .i64 0, .int .i64 0, .slice none 0 0]) (t := 25) ?hr ?_; (case hd => rfl); (case hg => rfl); (case hr => first | (go_simp; done) | (go_simp; rfl)); intro gB hg w3 hbox hb; have n0_ := am (blk_below (g := g8) (o := .cells #[.int .i64 g5, .int .i64 g6, .slice gJ g0.length gD] 25 (0, 0)) (by (with_reducible repeat (first | apply bN | apply bD | apply bA)); exact g4.out) hb); have n1_ := am (below_step (by repeat (first | (with_reducible first | exact HB.out | apply below_alloc | apply pw_below_drewN | apply below_drew1 | refine below_set ?_ gF.out) | exact HB.out)) hb); have n2_ := am (hbox); have n3_ := am ((by rw [hg]; exact (below_size (by repeat (first | (with_reducible first | exact HB.out | apply below_alloc | apply pw_below_drewN | apply below_drew1 | refine below_set ?_ gF.out) | exact HB.out))) : w.heap.size ≤ gB)); have n4_ := am ((by rw [hg]; exact (below_size (by repeat (first | (with_reducible first | exact HB.out | apply below_alloc | apply pw_below_drewN | apply below_drew1 | refine below_set ?_ gF.out) | exact HB.out))) : w.heap.size ≤ gB)); have n5_ := am ((by rw [hg]; exact Nat.ne_of_lt (blk_lt (g := g8) (o := .cells #[.int .i64 g5, .int .i64 g6, .slice gJ g0.length gD] 25 (0, 0)) (by (with_reducible repeat (first | apply bN | apply bD | apply bA)); exact g4.out)) : g8 ≠ gB)); have n6_ := am ((by rw [hg]; exact Nat.ne_of_gt (blk_lt (g := g8) (o := .cells #[.int .i64 g5, .int .i64 g6, .slice gJ g0.length gD] 25 (0, 0)) (by (with_reducible repeat (first | apply bN | apply bD | apply bA)); exact g4.out)) : gB ≠ g8)); clear g4; clear HB; have g4 := n0_; have HB := n1_; have g7 := n2_; have iM := n3_; have gI := n4_; have h8 := n5_; have h9 := n6_; clear n0_ n1_ n2_ n3_ n4_ n5_ n6_; clear hb hbox hg; have iN := h8.out; have iO := h9.out; have hR : w3.cell? ⟨g8, 0, none⟩ = some (.int .i64 g5) := (blk_cell g4.out 0).trans rfl; have hS : w3.cell? ⟨g8, 1, none⟩ = some (.int .i64 g6) := (blk_cell g4.out 1).trans rfl; have hT : w3.cell? ⟨g8, 2, none⟩ = some (.slice gJ g0.length gD) := (blk_cell g4.out 2).trans rfl; have hU := blk_frozen g4.out 0; have hV := blk_frozen g4.out 1; have hW := blk_frozen g4.out 2) | ((with_reducible refine gate_dst (N := 3) rfl ?_); refine box_event ?hg (N := 3) ?hd (cs := #[.int .i64 0, .int .i64 0, .slice none 0 0]) (t := 25) ?hr ?_; (case hd => rfl); (case hg => rfl); (case hr => first | (go_simp; done) | (go_simp; rfl)); intro g9 hg w6 hbox hb; have n0_ := am (blk_below (g := g8) (o := .cells #[.int .i64 g5, .int .i64 g6, .slice gJ g0.length gD] 25 (0, 0)) (by (with_reducible repeat (first | apply bN | apply bD | apply bA)); exact g4.out) hb); have n1_ := am (blk_below (g := gB) (o := .cells #[.int .i64 0, .int .i64 0, .slice none 0 0] 25 (0, 0)) (by (with_reducible repeat (first | apply bN | apply bD | apply bA)); exact g7.out) hb); have n2_ := am (below_step (by repeat (first | (with_reducible first | exact HB.out | apply below_alloc | apply pw_below_drewN | apply below_drew1 | refine below_set ?_ gF.out | refine below_set ?_ gI.out) | exact HB.out)) hb); have n3_ := am (hbox); have n4_ := am ((by rw [hg]; exact (below_size (by repeat (first | (with_reducible first | exact HB.out | apply below_alloc | apply pw_below_drewN | apply below_drew1 | refine below_set ?_ gF.out | refine below_set ?_ gI.out) | exact HB.out))) : w.heap.size ≤ g9)); have n5_ := am ((by rw [hg]; exact (below_size (by repeat (first | (with_reducible first | exact HB.out | apply below_alloc | apply pw_below_drewN | apply below_drew1 | refine below_set ?_ gF.out | refine below_set ?_ gI.out) | exact HB.out))) : w.heap.size ≤ g9)); have n6_ := am ((by rw [hg]; exact Nat.ne_of_lt (blk_lt (g := g8) (o := .cells #[.int .i64 g5, .int .i64 g6, .slice gJ g0.length gD] 25 (0, 0)) (by (with_reducible repeat (first | apply bN | apply bD | apply bA)); exact g4.out)) : g8 ≠ g9)); have n7_ := am ((by rw [hg]; exact Nat.ne_of_gt (blk_lt (g := g8) (o := .cells #[.int .i64 g5, .int .i64 g6, .slice gJ g0.length gD] 25 (0, 0)) (by (with_reducible repeat (first | apply bN | apply bD | apply bA)); exact g4.out)) : g9 ≠ g8)); have n8_ := am ((by rw [hg]; exact Nat.ne_of_lt (blk_lt (g := gB) (o := .cells #[.int .i64 0, .int .i64 0, .slice none 0 0] 25 (0, 0)) (by (with_reducible repeat (first | apply bN | apply bD | apply bA)); exact g7.out)) : gB ≠ g9)); have n9_ := am ((by rw [hg]; exact Nat.ne_of_gt (blk_lt (g := gB) (o := .cells #[.int .i64 0, .int .i64 0, .slice none 0 0] 25 (0, 0)) (by (with_reducible repeat (first | apply bN | apply bD | apply bA)); exact g7.out)) : g9 ≠ gB)); clear g4; clear g7; clear HB; have g4 := n0_; have g7 := n1_; have HB := n2_; have g2 := n3_; have iP := n4_; have gK := n5_; have gN := n6_; have h0 := n7_; have gO := n8_; have h1 := n9_; clear n0_ n1_ n2_ n3_ n4_ n5_ n6_ n7_ n8_ n9_; clear hb hbox hg; have iQ := h0.out; have iR := gN.out; have iS := h1.out; have iT := gO.out; have hX : w6.cell? ⟨g9, 0, none⟩ = some (.int .i64 0) := (blk_cell g2.out 0).trans rfl; have hY : w6.cell? ⟨g9, 1, none⟩ = some (.int .i64 0) := (blk_cell g2.out 1).trans rfl; have hZ : w6.cell? ⟨g9, 2, none⟩ = some (.slice none 0 0) := (blk_cell g2.out 2).trans rfl; have i0 := blk_frozen g2.out 0; have i1 := blk_frozen g2.out 1; have i2 := blk_frozen g2.out 2; have i3 : w6.cell? ⟨g8, 0, none⟩ = some (.int .i64 g5) := (blk_cell g4.out 0).trans rfl; have i4 : w6.cell? ⟨g8, 1, none⟩ = some (.int .i64 g6) := (blk_cell g4.out 1).trans rfl; have i5 : w6.cell? ⟨g8, 2, none⟩ = some (.slice gJ g0.length gD) := (blk_cell g4.out 2).trans rfl; have i6 := blk_frozen g4.out 0; have i7 := blk_frozen g4.out 1; have i8 := blk_frozen g4.out 2))
 go_loopg [14] k (fun kq v14 w' => ∃ (g1 : Int) (gL : List (S25)) (gE : Value), v14 = .int .i64 g1 ∧ Aside0 (impl_copyClock.l0 kq g0 (g0.length : Int) g1 g5 g6 gL = some (r1, r2, r3)) ∧ Aside0 (kq ≤ k) ∧ Aside0 (Kd.R k25 25 w' w.heap.size (fun k_ => k_ ≠ g8 ∧ k_ ≠ gB ∧ k_ ≠ g9) gE gL) ∧ Aside0 (w'.heap[g8]? = some (.cells #[.int .i64 g5, .int .i64 g6, (.slice gJ g0.length gD)] 25 (0, 0))) ∧ Aside0 (w'.heap[gB]? = some (.cells #[.int .i64 0, .int .i64 0, (.slice none 0 0)] 25 (0, 0))) ∧ Aside0 (w'.heap[g9]? = some (.cells #[.int .i64 g5, .int .i64 g6, gE] 25 (0, 0))) ∧ Aside0 (Below w.heap.size w w'))
 case atStart => exact ⟨(0), (([] : List (S25))), (.slice none 0 0), (by first | rfl | (simp; done) | (simp [*]; done)), H', ⟨Nat.le_refl _⟩, ⟨by first | exact Kd.R_nil _ _ _ _ _ | exact Kd.N_nil _ _ _ _ _ | exact Kd.V_nil _ _ _ _ _ | exact Kd.Q_nil _ _ _ _ _ | exact Kd.S_nil _ _ _ _ _⟩, ⟨by (with_reducible repeat (first | apply bN | apply bD | apply bA)); refine blk_far ?_ gN.out _; (with_reducible repeat (first | apply bN | apply bD | apply bA)); refine blk_far ?_ gN.out _; (with_reducible repeat (first | apply bN | apply bD | apply bA)); refine blk_far ?_ gN.out _; (with_reducible repeat (first | apply bN | apply bD | apply bA)); exact g4.out⟩, ⟨by (with_reducible repeat (first | apply bN | apply bD | apply bA)); refine blk_far ?_ gO.out _; (with_reducible repeat (first | apply bN | apply bD | apply bA)); refine blk_far ?_ gO.out _; (with_reducible repeat (first | apply bN | apply bD | apply bA)); refine blk_far ?_ gO.out _; (with_reducible repeat (first | apply bN | apply bD | apply bA)); exact g7.out⟩, ⟨by (with_reducible repeat (first | apply bN | apply bD | apply bA)); refine blk_put (cs := #[.int .i64 g5, .int .i64 g6, .slice none 0 0]) ?_ 2 _ rfl; (with_reducible repeat (first | apply bN | apply bD | apply bA)); refine blk_put (cs := #[.int .i64 g5, .int .i64 0, .slice none 0 0]) ?_ 1 _ rfl; (with_reducible repeat (first | apply bN | apply bD | apply bA)); refine blk_put (cs := #[.int .i64 0, .int .i64 0, .slice none 0 0]) ?_ 0 _ rfl; (with_reducible repeat (first | apply bN | apply bD | apply bA)); exact g2.out⟩, ⟨by repeat (first | (with_reducible first | exact HB.out | apply below_alloc | apply pw_below_drewN | apply below_drew1 | refine below_set ?_ gF.out | refine below_set ?_ gI.out | refine below_set ?_ gK.out) | exact HB.out)⟩⟩
 case round =>
  clear H'; (try clear p2); (try clear c4); (try clear c7); (try clear c8); (try clear i3); (try clear i4); (try clear i5); (try clear hR); (try clear hS); (try clear hT); (try clear hX); (try clear hY); (try clear hZ); (try clear i6); (try clear i7); (try clear i8); (try clear hU); (try clear hV); (try clear hW); (try clear i0); (try clear i1); (try clear i2); (try clear gC); (try clear g4); (try clear g7); (try clear g2); (try clear HB)
  obtain ⟨g1, gL, gE, rfl, HA, HK1, gC, g4, g7, g2, HB⟩ := hrel
  cases gk with
  | zero => exact absurd HA.out (by simp [impl_copyClock.l0])
  | succ k1 =>
   have H := HA.out
   clear HA
   simp only [impl_copyClock.l0] at H
   by_cases c11 : g1 < (g0.length : Int)
   ·
    rw [if_pos c11] at H; have c11b0 : decide (g1 < (g0.length : Int)) = true := decide_eq_true c11; clear c11
    by_cases c12 : 0 ≤ g1
    ·
     rw [if_pos c12] at H; have c12b0 : decide (0 ≤ g1) = true := decide_eq_true c12; clear c12
     by_cases c13 : g1 < (g0.length : Int)
     ·
      rw [if_pos c13] at H; have c13b0 : decide (g1 < (g0.length : Int)) = true := decide_eq_true c13; clear c13
      replace H := Option.bind_eq_some_iff.mp H
      obtain ⟨⟨gP, gQ, gR⟩, hA, H⟩ := H
      replace H : (if gL.length < 3518437208883 then (impl_copyClock.l0 k1 g0 (g0.length : Int) (wrap64 (g1 + 1)) g5 g6 (gL ++ [(⟨gP, gQ, gR⟩ : S25)])) else (none)) = some (r1, r2, r3) := H
      have A14 := am hA
      clear hA
      by_cases c15 : gL.length < 3518437208883
      ·
       rw [if_pos c15] at H
       have i9 := am c15
       clear c15
       obtain ⟨gV, gT⟩ : ∃ y_ : List (S25), y_ = (gL ++ [(⟨gP, gQ, gR⟩ : S25)]) := ⟨_, rfl⟩
       replace H : (impl_copyClock.l0 k1 g0 (g0.length : Int) (wrap64 (g1 + 1)) g5 g6 gV) = some (r1, r2, r3) := by first | (rw [gT]; with_reducible exact H) | (have H2_ := (Option.bind_some _ _).symm.trans H; rw [gT]; with_reducible exact H2_) | (have H2_ := (Option.bind_some _ _).symm.trans H; with_reducible exact H2_) | with_reducible exact H | (rw [gT]; exact H) | exact H
       have iA := am gT
       clear gT
       have H' := am H
       clear H; have h2 : 0 ≤ (g1 : Int) := of_decide_eq_true (by first | (with_reducible assumption) | assumption); have h3 : g1 < (g0.length : Int) := of_decide_eq_true (by first | (with_reducible assumption) | assumption)
       obtain ⟨gM, gG, gH, iB, h4, h5, h6, hB, hC⟩ := at_T25 hQ.out g1 h2 h3
       cases iB; replace h4 := (HB.out.cell (World.block_lt_of_cell? w _ h4)).trans h4; replace h5 := (HB.out.cell (World.block_lt_of_cell? w _ h5)).trans h5; replace h6 := (HB.out.cell (World.block_lt_of_cell? w _ h6)).trans h6; have iC := am hC; have iD := am hB; clear hC hB; replace h2 := eq_true h2; replace h3 := eq_true h3
       try go_wp2_with (first | ((with_reducible refine gate_dst (N := 5) rfl ?_); refine box_event ?hg (N := 5) ?hd (cs := #[.int .i64 0, .int .i64 0, .slice none 0 0]) (t := 25) ?hr ?_; (case hd => rfl); (case hg => rfl); (case hr => first | (go_simp; done) | (go_simp; rfl)); intro g3 hg w16 hbox hb; have n0_ := am (Kd.R_below (Kd.R_elderB (by (with_reducible repeat (first | apply Kd.R_alloc | apply Kd.R_drewN | apply Kd.R_drew)); exact gC.out) g3 (Nat.le_of_eq hg.symm)) hb); have n1_ := am (blk_below (g := g8) (o := .cells #[.int .i64 g5, .int .i64 g6, .slice (some gM) g0.length gD] 25 (0, 0)) (by (with_reducible repeat (first | apply bN | apply bD | apply bA)); exact g4.out) hb); have n2_ := am (blk_below (g := gB) (o := .cells #[.int .i64 0, .int .i64 0, .slice none 0 0] 25 (0, 0)) (by (with_reducible repeat (first | apply bN | apply bD | apply bA)); exact g7.out) hb); have n3_ := am (blk_below (g := g9) (o := .cells #[.int .i64 g5, .int .i64 g6, gE] 25 (0, 0)) (by (with_reducible repeat (first | apply bN | apply bD | apply bA)); exact g2.out) hb); have n4_ := am (below_step (by repeat (first | (with_reducible first | exact HB.out | apply below_alloc | apply pw_below_drewN | apply below_drew1 | refine below_set ?_ gF.out | refine below_set ?_ gI.out | refine below_set ?_ gK.out) | exact HB.out)) hb); have n5_ := am (hbox); have n6_ := am ((by rw [hg]; exact (below_size (by repeat (first | (with_reducible first | exact HB.out | apply below_alloc | apply pw_below_drewN | apply below_drew1 | refine below_set ?_ gF.out | refine below_set ?_ gI.out | refine below_set ?_ gK.out) | exact HB.out))) : w.heap.size ≤ g3)); have n7_ := am ((by rw [hg]; exact (below_size (by repeat (first | (with_reducible first | exact HB.out | apply below_alloc | apply pw_below_drewN | apply below_drew1 | refine below_set ?_ gF.out | refine below_set ?_ gI.out | refine below_set ?_ gK.out) | exact HB.out))) : w.heap.size ≤ g3)); have n8_ := am ((by rw [hg]; exact Nat.ne_of_lt (blk_lt (g := g8) (o := .cells #[.int .i64 g5, .int .i64 g6, .slice (some gM) g0.length gD] 25 (0, 0)) (by (with_reducible repeat (first | apply bN | apply bD | apply bA)); exact g4.out)) : g8 ≠ g3)); have n9_ := am ((by rw [hg]; exact Nat.ne_of_gt (blk_lt (g := g8) (o := .cells #[.int .i64 g5, .int .i64 g6, .slice (some gM) g0.length gD] 25 (0, 0)) (by (with_reducible repeat (first | apply bN | apply bD | apply bA)); exact g4.out)) : g3 ≠ g8)); have hD := am ((by rw [hg]; exact Nat.ne_of_lt (blk_lt (g := gB) (o := .cells #[.int .i64 0, .int .i64 0, .slice none 0 0] 25 (0, 0)) (by (with_reducible repeat (first | apply bN | apply bD | apply bA)); exact g7.out)) : gB ≠ g3)); have hE := am ((by rw [hg]; exact Nat.ne_of_gt (blk_lt (g := gB) (o := .cells #[.int .i64 0, .int .i64 0, .slice none 0 0] 25 (0, 0)) (by (with_reducible repeat (first | apply bN | apply bD | apply bA)); exact g7.out)) : g3 ≠ gB)); have hF := am ((by rw [hg]; exact Nat.ne_of_lt (blk_lt (g := g9) (o := .cells #[.int .i64 g5, .int .i64 g6, gE] 25 (0, 0)) (by (with_reducible repeat (first | apply bN | apply bD | apply bA)); exact g2.out)) : g9 ≠ g3)); have hG := am ((by rw [hg]; exact Nat.ne_of_gt (blk_lt (g := g9) (o := .cells #[.int .i64 g5, .int .i64 g6, gE] 25 (0, 0)) (by (with_reducible repeat (first | apply bN | apply bD | apply bA)); exact g2.out)) : g3 ≠ g9)); clear gC; clear g4; clear g7; clear g2; clear HB; have gC := n0_; have g4 := n1_; have g7 := n2_; have g2 := n3_; have HB := n4_; have gA := n5_; have iU := n6_; have gS := n7_; have gW := n8_; have iE := n9_; have gX := hD; have iF := hE; have gU := hF; have hH := hG; clear n0_ n1_ n2_ n3_ n4_ n5_ n6_ n7_ n8_ n9_ hD hE hF hG; clear hb hbox hg; have iV := iE.out; have iW := gW.out; have iX := iF.out; have iY := gX.out; have iZ := hH.out; have j0 := gU.out; have j1 : w16.cell? ⟨g3, 0, none⟩ = some (.int .i64 0) := (blk_cell gA.out 0).trans rfl; have j2 : w16.cell? ⟨g3, 1, none⟩ = some (.int .i64 0) := (blk_cell gA.out 1).trans rfl; have j3 : w16.cell? ⟨g3, 2, none⟩ = some (.slice none 0 0) := (blk_cell gA.out 2).trans rfl; have j4 := blk_frozen gA.out 0; have j5 := blk_frozen gA.out 1; have j6 := blk_frozen gA.out 2))
       have n0_ : Aside0 (Kd.R k25 25 (((w16.setCell ⟨g3, 0, none⟩ (.int .i64 ((rd_T25 g0 g1).f0))).setCell ⟨g3, 1, none⟩ (.int .i64 ((rd_T25 g0 g1).f1))).setCell ⟨g3, 2, none⟩ (.slice gG ((rd_T25 g0 g1).f2).length gH)) w.heap.size (fun k_ => k_ ≠ g8 ∧ k_ ≠ gB ∧ k_ ≠ g9 ∧ k_ ≠ g3) gE gL) := ⟨by (with_reducible repeat (first | apply Kd.R_alloc | apply Kd.R_drewN | apply Kd.R_drew)); exact Kd.R_mono (Kd.R_far (p := ⟨g3, 2, none⟩) (Kd.R_far (p := ⟨g3, 1, none⟩) (Kd.R_far (p := ⟨g3, 0, none⟩) (Kd.R_mono gC.out (fun k_ hk => (⟨hk, hk.2⟩ : _ ∧ k_ ≠ g3))) (fun _ hk => hk.2) (.int .i64 ((rd_T25 g0 g1).f0))) (fun _ hk => hk.2) (.int .i64 ((rd_T25 g0 g1).f1))) (fun _ hk => hk.2) (.slice gG ((rd_T25 g0 g1).f2).length gH)) (fun _ hk => ⟨hk.1.1.1, ⟨hk.1.1.2.1, ⟨hk.1.1.2.2, hk.1.2⟩⟩⟩)⟩; have n1_ : Aside0 ((((w16.setCell ⟨g3, 0, none⟩ (.int .i64 ((rd_T25 g0 g1).f0))).setCell ⟨g3, 1, none⟩ (.int .i64 ((rd_T25 g0 g1).f1))).setCell ⟨g3, 2, none⟩ (.slice gG ((rd_T25 g0 g1).f2).length gH)).heap[g8]? = some (.cells #[.int .i64 g5, .int .i64 g6, .slice (some gM) g0.length gD] 25 (0, 0))) := ⟨by (with_reducible repeat (first | apply bN | apply bD | apply bA)); refine blk_far ?_ gW.out _; (with_reducible repeat (first | apply bN | apply bD | apply bA)); refine blk_far ?_ gW.out _; (with_reducible repeat (first | apply bN | apply bD | apply bA)); refine blk_far ?_ gW.out _; (with_reducible repeat (first | apply bN | apply bD | apply bA)); exact g4.out⟩; have n2_ : Aside0 ((((w16.setCell ⟨g3, 0, none⟩ (.int .i64 ((rd_T25 g0 g1).f0))).setCell ⟨g3, 1, none⟩ (.int .i64 ((rd_T25 g0 g1).f1))).setCell ⟨g3, 2, none⟩ (.slice gG ((rd_T25 g0 g1).f2).length gH)).heap[gB]? = some (.cells #[.int .i64 0, .int .i64 0, .slice none 0 0] 25 (0, 0))) := ⟨by (with_reducible repeat (first | apply bN | apply bD | apply bA)); refine blk_far ?_ gX.out _; (with_reducible repeat (first | apply bN | apply bD | apply bA)); refine blk_far ?_ gX.out _; (with_reducible repeat (first | apply bN | apply bD | apply bA)); refine blk_far ?_ gX.out _; (with_reducible repeat (first | apply bN | apply bD | apply bA)); exact g7.out⟩; have n3_ : Aside0 ((((w16.setCell ⟨g3, 0, none⟩ (.int .i64 ((rd_T25 g0 g1).f0))).setCell ⟨g3, 1, none⟩ (.int .i64 ((rd_T25 g0 g1).f1))).setCell ⟨g3, 2, none⟩ (.slice gG ((rd_T25 g0 g1).f2).length gH)).heap[g9]? = some (.cells #[.int .i64 g5, .int .i64 g6, gE] 25 (0, 0))) := ⟨by (with_reducible repeat (first | apply bN | apply bD | apply bA)); refine blk_far ?_ gU.out _; (with_reducible repeat (first | apply bN | apply bD | apply bA)); refine blk_far ?_ gU.out _; (with_reducible repeat (first | apply bN | apply bD | apply bA)); refine blk_far ?_ gU.out _; (with_reducible repeat (first | apply bN | apply bD | apply bA)); exact g2.out⟩; have n4_ : Aside0 ((((w16.setCell ⟨g3, 0, none⟩ (.int .i64 ((rd_T25 g0 g1).f0))).setCell ⟨g3, 1, none⟩ (.int .i64 ((rd_T25 g0 g1).f1))).setCell ⟨g3, 2, none⟩ (.slice gG ((rd_T25 g0 g1).f2).length gH)).heap[g3]? = some (.cells #[.int .i64 ((rd_T25 g0 g1).f0), .int .i64 ((rd_T25 g0 g1).f1), .slice gG ((rd_T25 g0 g1).f2).length gH] 25 (0, 0))) := ⟨by (with_reducible repeat (first | apply bN | apply bD | apply bA)); refine blk_put (cs := #[.int .i64 ((rd_T25 g0 g1).f0), .int .i64 ((rd_T25 g0 g1).f1), .slice none 0 0]) ?_ 2 _ rfl; (with_reducible repeat (first | apply bN | apply bD | apply bA)); refine blk_put (cs := #[.int .i64 ((rd_T25 g0 g1).f0), .int .i64 0, .slice none 0 0]) ?_ 1 _ rfl; (with_reducible repeat (first | apply bN | apply bD | apply bA)); refine blk_put (cs := #[.int .i64 0, .int .i64 0, .slice none 0 0]) ?_ 0 _ rfl; (with_reducible repeat (first | apply bN | apply bD | apply bA)); exact gA.out⟩; have n5_ : Aside0 (Below w.heap.size w (((w16.setCell ⟨g3, 0, none⟩ (.int .i64 ((rd_T25 g0 g1).f0))).setCell ⟨g3, 1, none⟩ (.int .i64 ((rd_T25 g0 g1).f1))).setCell ⟨g3, 2, none⟩ (.slice gG ((rd_T25 g0 g1).f2).length gH))) := ⟨by repeat (first | (with_reducible first | exact HB.out | apply below_alloc | apply pw_below_drewN | apply below_drew1 | refine below_set ?_ gF.out | refine below_set ?_ gI.out | refine below_set ?_ gK.out | refine below_set ?_ gS.out) | exact HB.out)⟩; (try clear gC); (try clear g4); (try clear g7); (try clear g2); (try clear gA); (try clear HB)
       generalize (((w16.setCell ⟨g3, 0, none⟩ (.int .i64 ((rd_T25 g0 g1).f0))).setCell ⟨g3, 1, none⟩ (.int .i64 ((rd_T25 g0 g1).f1))).setCell ⟨g3, 2, none⟩ (.slice gG ((rd_T25 g0 g1).f2).length gH)) = w21 at n0_ n1_ n2_ n3_ n4_ n5_ ⊢
       have gC := n0_; have g4 := n1_; have g7 := n2_; have g2 := n3_; have gA := n4_; have HB := n5_; clear n0_ n1_ n2_ n3_ n4_ n5_; have n0_ := am (Kd.R_drew gC.out); have n1_ := am (blk_drew g4.out); have n2_ := am (blk_drew g7.out); have n3_ := am (blk_drew g2.out); have n4_ := am (blk_drew gA.out); have n5_ := am (below_drew1 HB.out); clear gC g4 g7 g2 gA HB; have gC := n0_; have g4 := n1_; have g7 := n2_; have g2 := n3_; have gA := n4_; have HB := n5_; clear n0_ n1_ n2_ n3_ n4_ n5_
       refine start_ (n := 8) (S := fun w' => w'.cell? ⟨g9, 0, none⟩ = some (.int .i64 g5) ∧ w'.cell? ⟨g9, 1, none⟩ = some (.int .i64 g6) ∧ w'.cell? ⟨g9, 2, none⟩ = some (gE) ∧ w'.cell? ⟨g3, 0, none⟩ = some (.int .i64 ((rd_T25 g0 g1).f0)) ∧ w'.cell? ⟨g3, 1, none⟩ = some (.int .i64 ((rd_T25 g0 g1).f1)) ∧ w'.cell? ⟨g3, 2, none⟩ = some (.slice gG ((rd_T25 g0 g1).f2).length gH)) (ds := [7]) #[false, false, false, false, false, false, false, false] (by kernel_rfl) rfl rfl ⟨(blk_cell g2.out 0).trans rfl, (blk_cell g2.out 1).trans rfl, (blk_cell g2.out 2).trans rfl, (blk_cell gA.out 0).trans rfl, (blk_cell gA.out 1).trans rfl, (blk_cell gA.out 2).trans rfl⟩ (fun hHeld => ?_); refine with_tabW impl_copyClock.tab5 impl_copyClock.bits5 (fun HT_ HW_ => ?_)
       generalize w21.drew = w22 at gC g4 g7 g2 gA HB hHeld ⊢
       refine pure_ (i := 0) (N := some 18) (v := ?_) (a' := ?_) #[true, false, false, false, false, false, false, false] rfl rfl (any_of HT_.out (by kernel_rfl)) (fun _ _ _ h => h) (Or.inl ⟨by rfl, ?_⟩) ?_ ?_
       rotate_left
       ·
        intro w'
        go_simp
        with_reducible rfl
       rotate_left
       ·
        simp only [Act.put, List.setIfInBounds_toArray, List.set_cons_zero, List.set_cons_succ, i64_w, i32_w]
        rfl
       refine take_ (i := 1) (N := some 19) (v := ?_) (a' := ?_) #[true, true, false, false, false, false, false, false] rfl rfl (take_ofW HT_.out HW_.out (by kernel_rfl)) (fun _ _ _ h => h) (Or.inl ⟨by rfl, ?_⟩) hHeld ?_ ?_
       rotate_left
       ·
        rintro w' ⟨s0, s1, s2, s3, s4, s5⟩
        go_simp
        with_reducible rfl
       rotate_left
       ·
        simp only [Act.put, List.setIfInBounds_toArray, List.set_cons_zero, List.set_cons_succ, i64_w, i32_w]
        rfl
       refine take_ (i := 2) (N := some 20) (v := ?_) (a' := ?_) #[true, true, true, false, false, false, false, false] rfl rfl (take_ofW HT_.out HW_.out (by kernel_rfl)) (fun _ _ _ h => h) (Or.inl ⟨by rfl, ?_⟩) hHeld ?_ ?_
       rotate_left
       ·
        rintro w' ⟨s0, s1, s2, s3, s4, s5⟩
        go_simp
        with_reducible rfl
       rotate_left
       ·
        simp only [Act.put, List.setIfInBounds_toArray, List.set_cons_zero, List.set_cons_succ, i64_w, i32_w]
        rfl
       refine one_ (i := 3) (N := some 21) #[true, true, true, true, false, false, false, false] rfl rfl (one_of HT_.out (by kernel_rfl)) (by decide) (fun K hK => ?_)
       refine goes_ Try.func44 (by kernel_rfl) rfl #[.agg #[.int .i64 ((rd_T25 g0 g1).f0), .int .i64 ((rd_T25 g0 g1).f1), .slice gG ((rd_T25 g0 g1).f2).length gH]] (by rfl) rfl rfl (by (try simp only [List.map_toArray, List.map_cons, List.map_nil]); first | done | rfl | (simp only [List.length_drop, List.length_take]; rfl)) ?_
       with_reducible refine (ih k1 (by have := HK1.out; omega) ((rd_T25 g0 g1).f0) ((rd_T25 g0 g1).f1) _ _ ((rd_T25 g0 g1).f2) gP gQ gR _ ?side1 ?side2 A14.out).mono ?_
       (case side1 => repeat (first | exact (Kd.C_below iC.out HB.out) | (with_reducible refine Kd.C_alloc ?_ _) | (with_reducible refine Kd.C_drewN ?_ _) | (with_reducible refine Kd.C_drew ?_)))
       (case side2 => exact iD.out)
       rintro e w23 ⟨j7, rfl, ho0, hb⟩
       refine ⟨_, rfl, ?_⟩
       have n0_ := am (Kd.R_elder' (by (with_reducible repeat (first | apply Kd.R_alloc | apply Kd.R_drewN | apply Kd.R_drew)); exact gC.out) (Kd.R_base ho0) hb); have n1_ := am (Kd.R_lower (Kd.R_newB (Kd.R_newB (Kd.R_newB (Kd.R_newB (Kd.R_new' ho0 (Kd.R_lt (by (with_reducible repeat (first | apply Kd.R_alloc | apply Kd.R_drewN | apply Kd.R_drew)); exact gC.out))) (g := g8) (o := .cells #[.int .i64 g5, .int .i64 g6, .slice (some gM) g0.length gD] 25 (0, 0)) (by (with_reducible repeat (first | apply bN | apply bD | apply bA)); exact g4.out)) (g := gB) (o := .cells #[.int .i64 0, .int .i64 0, .slice none 0 0] 25 (0, 0)) (by (with_reducible repeat (first | apply bN | apply bD | apply bA)); exact g7.out)) (g := g9) (o := .cells #[.int .i64 g5, .int .i64 g6, gE] 25 (0, 0)) (by (with_reducible repeat (first | apply bN | apply bD | apply bA)); exact g2.out)) (g := g3) (o := .cells #[.int .i64 ((rd_T25 g0 g1).f0), .int .i64 ((rd_T25 g0 g1).f1), .slice gG ((rd_T25 g0 g1).f2).length gH] 25 (0, 0)) (by (with_reducible repeat (first | apply bN | apply bD | apply bA)); exact gA.out)) (below_size (by repeat (first | (with_reducible first | exact HB.out | apply below_alloc | apply pw_below_drewN | apply below_drew1 | refine below_set ?_ gF.out | refine below_set ?_ gI.out | refine below_set ?_ gK.out | refine below_set ?_ gS.out) | exact HB.out)))); have n2_ := am (blk_below (g := g8) (o := .cells #[.int .i64 g5, .int .i64 g6, .slice (some gM) g0.length gD] 25 (0, 0)) (by (with_reducible repeat (first | apply bN | apply bD | apply bA)); exact g4.out) hb); have n3_ := am (blk_below (g := gB) (o := .cells #[.int .i64 0, .int .i64 0, .slice none 0 0] 25 (0, 0)) (by (with_reducible repeat (first | apply bN | apply bD | apply bA)); exact g7.out) hb); have n4_ := am (blk_below (g := g9) (o := .cells #[.int .i64 g5, .int .i64 g6, gE] 25 (0, 0)) (by (with_reducible repeat (first | apply bN | apply bD | apply bA)); exact g2.out) hb); have n5_ := am (blk_below (g := g3) (o := .cells #[.int .i64 ((rd_T25 g0 g1).f0), .int .i64 ((rd_T25 g0 g1).f1), .slice gG ((rd_T25 g0 g1).f2).length gH] 25 (0, 0)) (by (with_reducible repeat (first | apply bN | apply bD | apply bA)); exact gA.out) hb); have n6_ := am (below_step (by repeat (first | (with_reducible first | exact HB.out | apply below_alloc | apply pw_below_drewN | apply below_drew1 | refine below_set ?_ gF.out | refine below_set ?_ gI.out | refine below_set ?_ gK.out | refine below_set ?_ gS.out) | exact HB.out)) hb); clear gC g4 g7 g2 gA HB; have gC := n0_; have h7 := n1_; have g4 := n2_; have g7 := n3_; have g2 := n4_; have gA := n5_; have HB := n6_; clear n0_ n1_ n2_ n3_ n4_ n5_ n6_; (try clear hb); (try clear hb2); (try clear hk); (try clear hi); (try clear ho0)
       obtain ⟨iG, iH, hI⟩ := Kd.R_slice h7.out
       (first | subst hI | (injection hI with f1_ f2_ f3_; have f4_ := f1_.symm; have f5_ := f3_.symm; clear f1_ f2_ f3_; subst f4_; subst f5_))
       refine hK.out _ _ ⟨(blk_cell g2.out 0).trans rfl, (blk_cell g2.out 1).trans rfl, (blk_cell g2.out 2).trans rfl, (blk_cell gA.out 0).trans rfl, (blk_cell gA.out 1).trans rfl, (blk_cell gA.out 2).trans rfl⟩ (fun hHeld => ?_)
       clear hK K
       refine norm_ (a' := ?_) ?_ ?_
       rotate_left
       ·
        show Act.put _ (some 21) _ = _
        simp only [Act.put, List.setIfInBounds_toArray, List.set_cons_zero, List.set_cons_succ, i64_w, i32_w]
        rfl
       refine one_ (i := 4) (N := some 22) #[true, true, true, true, true, false, false, false] rfl rfl (one_of HT_.out (by kernel_rfl)) (by decide) (fun K hK => ?_)
       refine value_ (w1 := ?_) (v := ?_) (by rfl) rfl ?_ ?_
       rotate_left 2
       ·
        go_simp
        constructor
        ·
         rfl
        ·
         rfl
       refine hK.out _ _ ⟨(blk_cell (blk_alloc g2.out _) 0).trans rfl, (blk_cell (blk_alloc g2.out _) 1).trans rfl, (blk_cell (blk_alloc g2.out _) 2).trans rfl, (blk_cell (blk_alloc gA.out _) 0).trans rfl, (blk_cell (blk_alloc gA.out _) 1).trans rfl, (blk_cell (blk_alloc gA.out _) 2).trans rfl⟩ (fun hHeld => ?_)
       clear hK K
       refine norm_ (a' := ?_) ?_ ?_
       rotate_left
       ·
        show Act.put _ (some 22) _ = _
        simp only [Act.put, List.setIfInBounds_toArray, List.set_cons_zero, List.set_cons_succ, i64_w, i32_w]
        rfl
       refine one_ (i := 5) (N := some 23) #[true, true, true, true, true, true, false, false] rfl rfl (one_of HT_.out (by kernel_rfl)) (by decide) (fun K hK => ?_)
       refine Kd.R_append_step k25 (w0 := w) w.heap.size (by rfl) (.tmp 19) (.tmp 22) 23 25 (.agg #[(.int .i64 0), (.int .i64 0), (.slice none 0 0)]) 40 rfl Try.underlying23 info25 rfl (by decide) (by omega) gE gL (⟨gP, gQ, gR⟩ : S25) [.int .i64 gP, .int .i64 gQ, .slice iG gR.length iH] (fun k_ => k_ ≠ g8 ∧ k_ ≠ gB ∧ k_ ≠ g9 ∧ k_ ≠ g3) (fun k_ => ((fun k_ => k_ ≠ g8 ∧ k_ ≠ gB ∧ k_ ≠ g9 ∧ k_ ≠ g3)) k_ ∧ some k_ ≠ (gE : Value).ownBlock) rfl rfl ?aP (fun _ hk => hk) ?aF ?aO ?aB ?aS ?aL ?_
       (case aP => exact k25_mkM _ _ _ (⟨gP, gQ, gR⟩ : S25) (Kd.R_mono (h7.out) (fun k_ hk => ⟨⟨hk.1.1.1.2, ⟨hk.1.1.2, ⟨hk.1.2, hk.2⟩⟩⟩, hk.1.1.1.1.2⟩)))
       (case aB => exact (by repeat (first | (with_reducible first | exact HB.out | apply below_alloc | apply pw_below_drewN | apply below_drew1 | refine below_set ?_ gF.out | refine below_set ?_ gI.out | refine below_set ?_ gK.out | refine below_set ?_ gS.out) | exact HB.out)))
       (case aF => exact (fun k_ hk => ⟨Kd.freshB (g := g8) (o := .cells #[.int .i64 g5, .int .i64 g6, .slice (some gM) g0.length gD] 25 (0, 0)) (by (with_reducible repeat (first | apply bN | apply bD | apply bA)); exact g4.out) k_ hk, Kd.freshB (g := gB) (o := .cells #[.int .i64 0, .int .i64 0, .slice none 0 0] 25 (0, 0)) (by (with_reducible repeat (first | apply bN | apply bD | apply bA)); exact g7.out) k_ hk, Kd.freshB (g := g9) (o := .cells #[.int .i64 g5, .int .i64 g6, gE] 25 (0, 0)) (by (with_reducible repeat (first | apply bN | apply bD | apply bA)); exact g2.out) k_ hk, Kd.freshB (g := g3) (o := .cells #[.int .i64 ((rd_T25 g0 g1).f0), .int .i64 ((rd_T25 g0 g1).f1), .slice gG ((rd_T25 g0 g1).f2).length gH] 25 (0, 0)) (by (with_reducible repeat (first | apply bN | apply bD | apply bA)); exact gA.out) k_ hk⟩))
       (case aO => exact (by (with_reducible repeat (first | apply Kd.R_alloc | apply Kd.R_drewN | apply Kd.R_drew)); exact Kd.R_mono gC.out (fun _ hk => ⟨hk.1.1, ⟨hk.1.2.1, ⟨hk.1.2.2.1, hk.1.2.2.2⟩⟩⟩)))
       (case aS => exact (below_size (by repeat (first | (with_reducible first | exact HB.out | apply below_alloc | apply pw_below_drewN | apply below_drew1 | refine below_set ?_ gF.out | refine below_set ?_ gI.out | refine below_set ?_ gK.out | refine below_set ?_ gS.out) | exact HB.out))))
       (case aL => have := i9.out; omega)
       intro j8 w24 ho hb hg hat
       rw [← iA.out] at ho; have n0_ := am (blk_grown (g := g8) (o := .cells #[.int .i64 g5, .int .i64 g6, .slice (some gM) g0.length gD] 25 (0, 0)) (by (with_reducible repeat (first | apply bN | apply bD | apply bA)); exact g4.out) hg (Kd.R_away gC.out (fun _ hk => hk.1.1))); have n1_ := am (blk_grown (g := gB) (o := .cells #[.int .i64 0, .int .i64 0, .slice none 0 0] 25 (0, 0)) (by (with_reducible repeat (first | apply bN | apply bD | apply bA)); exact g7.out) hg (Kd.R_away gC.out (fun _ hk => hk.1.2.1))); have n2_ := am (blk_grown (g := g9) (o := .cells #[.int .i64 g5, .int .i64 g6, gE] 25 (0, 0)) (by (with_reducible repeat (first | apply bN | apply bD | apply bA)); exact g2.out) hg (Kd.R_away gC.out (fun _ hk => hk.1.2.2.1))); have n3_ := am (blk_grown (g := g3) (o := .cells #[.int .i64 ((rd_T25 g0 g1).f0), .int .i64 ((rd_T25 g0 g1).f1), .slice gG ((rd_T25 g0 g1).f2).length gH] 25 (0, 0)) (by (with_reducible repeat (first | apply bN | apply bD | apply bA)); exact gA.out) hg (Kd.R_away gC.out (fun _ hk => hk.1.2.2.2))); have n4_ := am (hb); have n5_ := am (ho); clear g4 g7 g2 gA HB gC h7; have g4 := n0_; have g7 := n1_; have g2 := n2_; have gA := n3_; have HB := n4_; have hJ := n5_; clear n0_ n1_ n2_ n3_ n4_ n5_ ho hb hg hat
       obtain ⟨hL, hM, hN⟩ := Kd.R_slice hJ.out
       (first | subst hN | (injection hN with f1_ f2_ f3_; have f4_ := f1_.symm; have f5_ := f3_.symm; clear f1_ f2_ f3_; subst f4_; subst f5_))
       refine hK.out _ _ ⟨(blk_cell g2.out 0).trans rfl, (blk_cell g2.out 1).trans rfl, (blk_cell g2.out 2).trans rfl, (blk_cell gA.out 0).trans rfl, (blk_cell gA.out 1).trans rfl, (blk_cell gA.out 2).trans rfl⟩ (fun hHeld => ?_)
       clear hK K
       refine norm_ (a' := ?_) ?_ ?_
       rotate_left
       ·
        show Act.put _ (some 23) _ = _
        simp only [Act.put, List.setIfInBounds_toArray, List.set_cons_zero, List.set_cons_succ, i64_w, i32_w]
        rfl
       refine pure_ (i := 6) (N := some 24) (v := ?_) (a' := ?_) #[true, true, true, true, true, true, true, false] rfl rfl (any_of HT_.out (by kernel_rfl)) (fun _ _ _ h => h) (Or.inl ⟨by rfl, ?_⟩) ?_ ?_
       rotate_left
       ·
        intro w'
        go_simp
        with_reducible rfl
       rotate_left
       ·
        simp only [Act.put, List.setIfInBounds_toArray, List.set_cons_zero, List.set_cons_succ, i64_w, i32_w]
        rfl
       refine last_ (i := 7) (N := none) #[true, true, true, true, true, true, true, true] rfl rfl (one_of HT_.out (by kernel_rfl)) (by decide) (fun K hK => ?_)
       have j9 : w24.cell? ⟨g9, 2, none⟩ = some (gE) := (blk_cell g2.out 2).trans rfl
       have jA := blk_frozen g2.out 2
       have jB := gN.out
       have jC := gO.out
       have jD := hH.out
       have jE := h0.out
       have jF := h1.out
       have jG := gU.out
       refine skip_ (w1 := ?_) (by rfl) rfl ?_ ?_
       rotate_left
       ·
        go_simp
        rfl
       refine hK.out _ _ ?_
       clear hK K
       refine done_ (done_of HT_.out (by kernel_rfl)) ?_
       try go_wp2
       go_roundg k1
       case measure => have := HK1.out; omega
       case rel => exact ⟨(wrap64 (g1 + 1)), (gV), (.slice hL gV.length hM), (by first | rfl | (simp; done) | (simp [*]; done)), H', ⟨by have := HK1.out; omega⟩, ⟨by (with_reducible repeat (first | apply Kd.R_alloc | apply Kd.R_drewN | apply Kd.R_drew)); exact Kd.R_mono (Kd.R_far (p := ⟨g9, 2, none⟩) (Kd.R_mono hJ.out (fun k_ hk => (⟨hk, hk.2.2.1⟩ : _ ∧ k_ ≠ g9))) (fun _ hk => hk.2) (.slice hL gV.length hM)) (fun _ hk => ⟨hk.1.1, ⟨hk.1.2.1, hk.1.2.2.1⟩⟩)⟩, ⟨by (with_reducible repeat (first | apply bN | apply bD | apply bA)); refine blk_far ?_ gN.out _; (with_reducible repeat (first | apply bN | apply bD | apply bA)); exact g4.out⟩, ⟨by (with_reducible repeat (first | apply bN | apply bD | apply bA)); refine blk_far ?_ gO.out _; (with_reducible repeat (first | apply bN | apply bD | apply bA)); exact g7.out⟩, ⟨by (with_reducible repeat (first | apply bN | apply bD | apply bA)); refine blk_put (cs := #[.int .i64 g5, .int .i64 g6, gE]) ?_ 2 _ rfl; (with_reducible repeat (first | apply bN | apply bD | apply bA)); exact g2.out⟩, ⟨by repeat (first | (with_reducible first | exact HB.out | apply below_alloc | apply pw_below_drewN | apply below_drew1 | refine below_set ?_ gF.out | refine below_set ?_ gI.out | refine below_set ?_ gK.out | refine below_set ?_ gS.out) | exact HB.out)⟩⟩
      ·
       rw [if_neg c15] at H
       exact absurd H (by simp)
     ·
      rw [if_neg c13] at H
      exact absurd H (by simp)
    ·
     rw [if_neg c12] at H
     exact absurd H (by simp)
   ·
    rw [if_neg c11] at H; have c11b0 : decide (g1 < (g0.length : Int)) = false := decide_eq_false c11; clear c11
    simp only [Option.some.injEq, Prod.mk.injEq] at H
    obtain ⟨rfl, rfl, rfl⟩ := H
    have jH := h0.out; have jI := gN.out; have jJ := h1.out; have jK := gO.out; have jL : wr.cell? ⟨g9, 0, none⟩ = some (.int .i64 g5) := (blk_cell g2.out 0).trans rfl; have jM : wr.cell? ⟨g9, 1, none⟩ = some (.int .i64 g6) := (blk_cell g2.out 1).trans rfl; have jN : wr.cell? ⟨g9, 2, none⟩ = some (gE) := (blk_cell g2.out 2).trans rfl; have jO := blk_frozen g2.out 0; have jP := blk_frozen g2.out 1; have jQ := blk_frozen g2.out 2; have jR := h9.out; have jS := h8.out; have jT : wr.cell? ⟨gB, 0, none⟩ = some (.int .i64 0) := (blk_cell g7.out 0).trans rfl; have jU : wr.cell? ⟨gB, 1, none⟩ = some (.int .i64 0) := (blk_cell g7.out 1).trans rfl; have jV : wr.cell? ⟨gB, 2, none⟩ = some (.slice none 0 0) := (blk_cell g7.out 2).trans rfl; have jW := blk_frozen g7.out 0; have jX := blk_frozen g7.out 1; have jY := blk_frozen g7.out 2
    obtain ⟨hO, hP, iI⟩ := Kd.R_slice gC.out
    subst iI
    go_wp2
    refine bodyPost_ret (results_cell_row rfl _ _ gB 25 #[.int .i64 g5, .int .i64 g6, .slice hO gL.length hP] (0, 0) _ rfl (by (with_reducible repeat (first | apply bN | apply bD | apply bA)); refine blk_put (cs := #[.int .i64 g5, .int .i64 g6, .slice none 0 0]) ?_ 2 _ rfl; (with_reducible repeat (first | apply bN | apply bD | apply bA)); refine blk_put (cs := #[.int .i64 g5, .int .i64 0, .slice none 0 0]) ?_ 1 _ rfl; (with_reducible repeat (first | apply bN | apply bD | apply bA)); refine blk_put (cs := #[.int .i64 0, .int .i64 0, .slice none 0 0]) ?_ 0 _ rfl; (with_reducible repeat (first | apply bN | apply bD | apply bA)); exact g7.out) Try.underlying25 rfl (by kernel_rfl)) rfl ?_
    exact ⟨_, by first | rfl | (simp [errW_none, errW_some] <;> rfl) | (simp [*, errW_none, errW_some] <;> rfl), by (with_reducible repeat (first | apply Kd.R_alloc | apply Kd.R_drewN | apply Kd.R_drew)); exact Kd.R_mono (Kd.R_far (p := ⟨gB, 2, none⟩) (Kd.R_far (p := ⟨gB, 1, none⟩) (Kd.R_far (p := ⟨gB, 0, none⟩) (Kd.R_mono gC.out (fun k_ hk => (⟨hk, hk.2.1⟩ : _ ∧ k_ ≠ gB))) (fun _ hk => hk.2) (.int .i64 g5)) (fun _ hk => hk.2) (.int .i64 g6)) (fun _ hk => hk.2) (.slice hO gL.length hP)) (fun _ hk => trivial), by repeat (first | (with_reducible first | exact HB.out | apply below_alloc | apply pw_below_drewN | apply below_drew1 | refine below_set ?_ gF.out | refine below_set ?_ gI.out | refine below_set ?_ gK.out) | exact HB.out)⟩
end Go.Proofs.Ytfnmjecofgeboaa.PAll
