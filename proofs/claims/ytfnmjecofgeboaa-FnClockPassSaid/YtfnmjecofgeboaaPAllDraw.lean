-- Laid by a program of this session out of the translation's print
import Derived.Test.YtfnmjecofgeboaaPAll0
import Derived.Test.YtfnmjecofgeboaaPAllAb
namespace Go.Proofs.Ytfnmjecofgeboaa.PAll
open Go.RowKit Go.Proofs.YtfnmjecofgeboaaW.PrintWords Go.Proofs.YtfnmjecofgeboaaW.PrintLast Go.Proofs.YtfnmjecofgeboaaW.PrintMore
attribute [local go_sem] max2_int min2_int max_two min_two max_three min_three max_four min_four   -- for this text's walks alone
set_option linter.unusedVariables false
set_option linter.unusedSimpArgs false

/-- A state of type 65 at block g of W; what its slices lead to came in by w0. -/
def IsS65 (w0 W : World) (g : Nat) (f0 : List Int) (f1 : Int) : Prop := ∃ A0 c0, W.heap[g]? = some (.cells #[.slice A0 f0.length c0, .int .i64 f1] 65 (0, 0)) ∧ w0.heap.size ≤ g ∧ Kd.C (Kd.int .u8) w0 A0 f0.length f0
theorem IsS65.grown {w0 W : World} {g : Nat} {f0 : List Int} {f1 : Int} {W1 : World} {row : Option Nat} (h : IsS65 w0 W g f0 f1) (hw : W.grownBy W1 row) (hne : some g ≠ row) : IsS65 w0 W1 g f0 f1 := by
 obtain ⟨A0, c0, hb, hg, hr0⟩ := h
 exact ⟨A0, c0, blk_grown hb hw hne, hg, hr0⟩
theorem IsS65.own_neN {w0 W : World} {g : Nat} {f0 : List Int} {f1 : Int} {α : Type} {d : Kd α} {e : Nat} {base : Nat} {ok : Nat → Prop} {v : Value} {xs : List α} (h : IsS65 w0 W g f0 f1) (ho : Kd.N d e W base ok v xs) (ht : e ≠ 65) : some g ≠ v.ownBlock := by
 obtain ⟨A0, c0, hb, hg, hr0⟩ := h
 exact Kd.N_ne ho hb ht
theorem IsS65.fresh {w0 W : World} {g : Nat} {f0 : List Int} {f1 : Int} (h : IsS65 w0 W g f0 f1) : ∀ k, W.heap.size ≤ k → k ≠ g := by
 obtain ⟨A0, c0, hb, hg, hr0⟩ := h
 exact Kd.freshB hb
theorem IsS65.kept {w0 W : World} {g : Nat} {f0 : List Int} {f1 : Int} {W1 : World} {S : Nat → Prop} (h : IsS65 w0 W g f0 f1) (hk : Kept W W1 S) (hne : ¬ S g) : IsS65 w0 W1 g f0 f1 := by
 obtain ⟨A0, c0, hb, hg, hr0⟩ := h
 exact ⟨A0, c0, blk_kept hb hk hne, hg, hr0⟩
theorem IsS65.below {w0 W : World} {g : Nat} {f0 : List Int} {f1 : Int} {W1 : World} (h : IsS65 w0 W g f0 f1) (hw : Below W.heap.size W W1) : IsS65 w0 W1 g f0 f1 := h.grown (grown_of_below hw none) (by simp)
theorem IsS65.alloc {w0 W : World} {g : Nat} {f0 : List Int} {f1 : Int} (h : IsS65 w0 W g f0 f1) (o : Obj) : IsS65 w0 (W.alloc o) g f0 f1 := h.below (below_alloc (Below.refl _ _) o)
theorem IsS65.drewN {w0 W : World} {g : Nat} {f0 : List Int} {f1 : Int} (h : IsS65 w0 W g f0 f1) (m : Nat) : IsS65 w0 (W.drewN m) g f0 f1 := h
theorem IsS65.drew {w0 W : World} {g : Nat} {f0 : List Int} {f1 : Int} (h : IsS65 w0 W g f0 f1) : IsS65 w0 W.drew g f0 f1 := h
theorem IsS65.at_ {w0 W : World} {g : Nat} {f0 : List Int} {f1 : Int} {w' : World} {m : Nat} (hq : W.drewN m = w') (h : IsS65 w0 W g f0 f1) : IsS65 w0 w' g f0 f1 := by subst hq; exact IsS65.drewN h m
theorem IsS65.apart {w0 W : World} {g : Nat} {f0 : List Int} {f1 : Int} {α : Type} {d : Kd α} {e : Nat} {base : Nat} {ok : Nat → Prop} {v : Value} {xs : List α} (h : IsS65 w0 W g f0 f1) (ho : d.R e W base ok v xs) (ht : ∀ q, q ∈ e :: d.E → q ≠ 65) : d.R e W base (fun k => ok k ∧ k ≠ g) v xs := by
 obtain ⟨A0, c0, hb, hg, hr0⟩ := h
 exact Kd.R_types ho hb ht
theorem IsS65.own_ne {w0 W : World} {g : Nat} {f0 : List Int} {f1 : Int} {α : Type} {d : Kd α} {e : Nat} {base : Nat} {ok : Nat → Prop} {v : Value} {xs : List α} (h : IsS65 w0 W g f0 f1) (ho : d.R e W base ok v xs) (ht : e ≠ 65) : some g ≠ v.ownBlock := by
 obtain ⟨A0, c0, hb, hg, hr0⟩ := h
 exact Kd.R_ne ho hb ht
theorem IsS65.apartQ {w0 W : World} {g : Nat} {f0 : List Int} {f1 : Int} {α : Type} {d : Kd α} {e : Nat} {base : Nat} {ok : Nat → Prop} {v : Value} {xs : List α} (h : IsS65 w0 W g f0 f1) (ho : d.Q e W base ok v xs) (ht : ∀ q, q ∈ e :: d.E → q ≠ 65) : d.Q e W base (fun k => ok k ∧ k ≠ g) v xs := by
 obtain ⟨A0, c0, hb, hg, hr0⟩ := h
 exact Kd.Q_types ho hb ht
theorem IsS65.own_neQ {w0 W : World} {g : Nat} {f0 : List Int} {f1 : Int} {α : Type} {d : Kd α} {e : Nat} {base : Nat} {ok : Nat → Prop} {v : Value} {xs : List α} (h : IsS65 w0 W g f0 f1) (ho : d.Q e W base ok v xs) (ht : e ≠ 65) : some g ≠ v.ownBlock := by
 obtain ⟨A0, c0, hb, hg, hr0⟩ := h
 exact Kd.Q_ne ho hb ht
theorem IsS65.apartS {w0 W : World} {g : Nat} {f0 : List Int} {f1 : Int} {α : Type} {d : Kd α} {e : Nat} {base : Nat} {ok : Nat → Prop} {v : Value} {xs : List α} (h : IsS65 w0 W g f0 f1) (ho : d.S e W base ok v xs) (ht : ∀ q, q ∈ e :: d.E → q ≠ 65) : d.S e W base (fun k => ok k ∧ k ≠ g) v xs := by
 obtain ⟨A0, c0, hb, hg, hr0⟩ := h
 exact Kd.S_types ho hb ht
theorem IsS65.own_neS {w0 W : World} {g : Nat} {f0 : List Int} {f1 : Int} {α : Type} {d : Kd α} {e : Nat} {base : Nat} {ok : Nat → Prop} {v : Value} {xs : List α} (h : IsS65 w0 W g f0 f1) (ho : d.S e W base ok v xs) (ht : e ≠ 65) : some g ≠ v.ownBlock := by
 obtain ⟨A0, c0, hb, hg, hr0⟩ := h
 exact Kd.S_ne ho hb ht
theorem IsS65.lt {w0 W : World} {g : Nat} {f0 : List Int} {f1 : Int} (h : IsS65 w0 W g f0 f1) : g < W.heap.size := by
 obtain ⟨A0, c0, hb, hg, hr0⟩ := h
 exact blk_lt hb
theorem IsS65.ge {w0 W : World} {g : Nat} {f0 : List Int} {f1 : Int} (h : IsS65 w0 W g f0 f1) : w0.heap.size ≤ g := by
 obtain ⟨A0, c0, hb, hg, hr0⟩ := h
 exact hg
theorem IsS65.ne_blk {w0 W : World} {g : Nat} {f0 : List Int} {f1 : Int} {a : Nat} {cs : Array Value} {t : TypeId} {fr : Nat × Nat} (h : IsS65 w0 W g f0 f1) (hb2 : W.heap[a]? = some (.cells cs t fr)) (ht : t ≠ 65) : g ≠ a := by
 obtain ⟨A0, c0, hb, hg, hr0⟩ := h
 rintro rfl
 rw [hb] at hb2; injection hb2 with hb2; injection hb2 with _ ht2
 exact ht ht2.symm
theorem IsS65.far {w0 W : World} {g : Nat} {f0 : List Int} {f1 : Int} {p : Addr} (h : IsS65 w0 W g f0 f1) (hne : g ≠ p.block) (u : Value) : IsS65 w0 (W.setCell p u) g f0 f1 := by
 obtain ⟨A0, c0, hb, hg, hr0⟩ := h
 exact ⟨A0, c0, blk_far hb hne u, hg, hr0⟩
theorem cellS65_0 {W : World} {g : Nat} {A0 : Option Addr} {c0 : Nat} {f0 : List Int} {f1 : Int} (h : W.heap[g]? = some (.cells #[.slice A0 f0.length c0, .int .i64 f1] 65 (0, 0))) : W.cell? ⟨g, 0, none⟩ = some (.slice A0 f0.length c0) := (blk_cell h 0).trans rfl
theorem cellS65_1 {W : World} {g : Nat} {A0 : Option Addr} {c0 : Nat} {f0 : List Int} {f1 : Int} (h : W.heap[g]? = some (.cells #[.slice A0 f0.length c0, .int .i64 f1] 65 (0, 0))) : W.cell? ⟨g, 1, none⟩ = some (.int .i64 f1) := (blk_cell h 1).trans rfl
theorem IsS65.set_1 {w0 W : World} {g : Nat} {f0 : List Int} {f1 : Int} (h : IsS65 w0 W g f0 f1) (x : Int) : IsS65 w0 (W.setCell ⟨g, 1, none⟩ (.int .i64 x)) g f0 x := by
 obtain ⟨A0, c0, hb, hg, hr0⟩ := h
 exact ⟨A0, c0, by simpa using blk_set hb 1 (.int .i64 x), hg, hr0⟩
theorem IsS65.new (w0 W : World) (A0 : Option Addr) (c0 : Nat) (f0 : List Int) (f1 : Int) (hB : Below w0.heap.size w0 W) (hr0 : Kd.C (Kd.int .u8) w0 A0 f0.length f0) : IsS65 w0 (W.alloc (.cells #[.slice A0 f0.length c0, .int .i64 f1] 65)) W.heap.size f0 f1 := ⟨A0, c0, by simpa using heap_alloc_new W _, hB.size, hr0⟩

/-! ### spec_l6Open: function 37 -/
def spec_l6Open.f (l0 : List Int) : Option (List Int × Int) := if (l0.length : Int) > 2000 then (if 2000 ≤ (l0.length : Int) then (some (l0.take 2000, 0)) else (none)) else (some (l0, 0))
set_option maxHeartbeats 8000000 in
set_option maxRecDepth 100000 in
theorem spec_l6Open.calls (A0 : Option Addr) (c0 : Nat) (l0 : List Int) (r1 : List Int) (r2 : Int) (w0 w : World) (hB : Below w0.heap.size w0 w) (hr0 : Kd.C (Kd.int .u8) w0 A0 l0.length l0) (hc0 : l0.length ≤ c0) (h : spec_l6Open.f l0 = some (r1, r2)) :
  Calls Try.prog 37 #[.slice A0 l0.length c0] w fun e w' => ∃ g_ : Nat, e = .returned (.pointer (some ⟨g_, 0, none⟩)) ∧ IsS65 w0 w' g_ r1 r2 ∧ Below w0.heap.size w0 w' ∧ Below w.heap.size w w' := by
 have gC := Try.underlying65
 have HR0 := am hr0; have HC0 := am hc0; clear hr0 hc0; have HBW := am (Below.refl w.heap.size w)
 have HW0 := am hB.size
 have HB := am hB; clear hB
 have H : (if (l0.length : Int) > 2000 then (if 2000 ≤ (l0.length : Int) then (some (l0.take 2000, 0)) else (none)) else (some (l0, 0))) = some (r1, r2) := h
 clear h
 by_cases c2 : (l0.length : Int) > 2000
 ·
  rw [if_pos c2] at H; have c2b0 : decide (2000 < (l0.length : Int)) = true := decide_eq_true c2; have c2b1 : decide (2000 < l0.length) = true := decide_eq_true (by omega); clear c2
  by_cases c3 : 2000 ≤ (l0.length : Int)
  ·
   rw [if_pos c3] at H; have c3b0 := eq_true c3; have c3b1 : decide (2000 ≤ (l0.length : Int)) = true := decide_eq_true c3; clear c3
   simp only [Option.some.injEq, Prod.mk.injEq] at H
   obtain ⟨rfl, rfl⟩ := H
   obtain ⟨i04, g4, _, g5, _⟩ := info_parts info5
   obtain ⟨hcut4, hA4, hC4⟩ := print_take_of (P := Try.prog) (Value.int .u8) 0 22 5 .i64 Try.underlying22 g4 g5 A0 c0 l0 2000 (by omega) (od) HC0.1
   have g6 := am (Kd.C_of_reads (h1 := fun _ => rfl) (hA4 _ (Kd.reads_of_C HR0.1))); have gB := am hC4; clear hA4 hC4 g4 g5
   go_enter Try.func37, Try.ntmps37
   go_wp2_with (first | ((with_reducible refine gate_dst (N := 10) rfl ?_); refine bx (cs := #[.slice A0 (l0.take 2000).length c0, .int .i64 0]) (t := 65) fun g0 hg w5 hbox hb => ?_; replace HB := bs HB hb; have g7 := am (hbox); have g8 := am ((by rw [hg]; exact (below_size (by repeat (first | (with_reducible first | exact HBW.1 | apply below_alloc | apply pw_below_drewN | apply below_drew1) | exact HBW.1))) : w.heap.size ≤ g0)); have g2 := am ((Nat.le_trans HW0.1 (by rw [hg]; exact (below_size (by repeat (first | (with_reducible first | exact HBW.1 | apply below_alloc | apply pw_below_drewN | apply below_drew1) | exact HBW.1))) : w.heap.size ≤ g0) : w0.heap.size ≤ g0)); replace HBW := am (below_step HBW.1 hb); clear hb hbox hg))
   go_ret
   exact ⟨_, rfl, (show IsS65 w0 _ g0 (l0.take 2000) 0 from ⟨_, _, by (with_reducible repeat (first | refine blk_drewN ?_ _ | refine blk_drew ?_ | refine blk_alloc ?_ _)); exact g7.1, g2.1, g6.1⟩), by repeat (first | (with_reducible first | exact HB.1 | apply below_alloc | apply pw_below_drewN | apply below_drew1 | refine below_set ?_ g2.1) | exact HB.1), by repeat (first | (with_reducible first | exact HBW.1 | apply below_alloc | apply pw_below_drewN | apply below_drew1 | refine below_set ?_ g8.1) | exact HBW.1)⟩
  ·
   rw [if_neg c3] at H
   exact absurd H (by simp)
 ·
  rw [if_neg c2] at H; have c2b0 : decide (2000 < (l0.length : Int)) = false := decide_eq_false c2; have c2b1 : decide (2000 < l0.length) = false := decide_eq_false (by omega); clear c2
  simp only [Option.some.injEq, Prod.mk.injEq] at H
  obtain ⟨rfl, rfl⟩ := H
  go_enter Try.func37, Try.ntmps37
  go_wp2_with (first | ((with_reducible refine gate_dst (N := 10) rfl ?_); refine bx (cs := #[.slice A0 l0.length c0, .int .i64 0]) (t := 65) fun g1 hg w6 hbox hb => ?_; replace HB := bs HB hb; have g9 := am (hbox); have gA := am ((by rw [hg]; exact (below_size (by repeat (first | (with_reducible first | exact HBW.1 | apply below_alloc | apply pw_below_drewN | apply below_drew1) | exact HBW.1))) : w.heap.size ≤ g1)); have g3 := am ((Nat.le_trans HW0.1 (by rw [hg]; exact (below_size (by repeat (first | (with_reducible first | exact HBW.1 | apply below_alloc | apply pw_below_drewN | apply below_drew1) | exact HBW.1))) : w.heap.size ≤ g1) : w0.heap.size ≤ g1)); replace HBW := am (below_step HBW.1 hb); clear hb hbox hg))
  go_ret
  exact ⟨_, rfl, (show IsS65 w0 _ g1 l0 0 from ⟨_, _, by (with_reducible repeat (first | refine blk_drewN ?_ _ | refine blk_drew ?_ | refine blk_alloc ?_ _)); exact g9.1, g3.1, HR0.1⟩), by repeat (first | (with_reducible first | exact HB.1 | apply below_alloc | apply pw_below_drewN | apply below_drew1 | refine below_set ?_ g3.1) | exact HB.1), by repeat (first | (with_reducible first | exact HBW.1 | apply below_alloc | apply pw_below_drewN | apply below_drew1 | refine below_set ?_ gA.1) | exact HBW.1)⟩


/-! ### spec_l6Rd_pick: function 55 -/
def spec_l6Rd_pick.j0 : Nat → Int → Bool → List Int → Int → Option (Int × Int)
 | 0, _, _, _, _ => none
 | k + 1, x1, x24, x1000, x1001 => if x24 = true then (some (0, x1001)) else (if (wrap64 (x1001 - 1)) < (x1000.length : Int) then (if 0 ≤ (wrap64 (x1001 - 1)) then (if x1 = 0 then (none) else (some (Int.tmod (wrap64 (rd x1000 (wrap64 (x1001 - 1)))) x1, x1001))) else (none)) else (if (x1000.length : Int) = 0 then (none) else (if 0 ≤ (Int.tmod (wrap64 (x1001 - 1)) (x1000.length : Int)) then (if (Int.tmod (wrap64 (x1001 - 1)) (x1000.length : Int)) < (x1000.length : Int) then (if 0 ≤ (Int.tmod (wrap64 ((wrap64 ((wrap64 (x1001 - 1)) * 7)) + 3)) (x1000.length : Int)) then (if (Int.tmod (wrap64 ((wrap64 ((wrap64 (x1001 - 1)) * 7)) + 3)) (x1000.length : Int)) < (x1000.length : Int) then (if x1 = 0 then (none) else (some (Int.tmod (Go.bits .xor .i64 (wrap64 ((wrap64 ((wrap64 ((wrap64 ((wrap64 (rd x1000 (Int.tmod (wrap64 (x1001 - 1)) (x1000.length : Int)))) * 131)) + (wrap64 ((wrap64 (rd x1000 (Int.tmod (wrap64 ((wrap64 ((wrap64 (x1001 - 1)) * 7)) + 3)) (x1000.length : Int)))) * 1117)))) + (wrap64 ((wrap64 (x1001 - 1)) * 29)))) + (wrap64 ((wrap64 (Int.tdiv (wrap64 (x1001 - 1)) (x1000.length : Int))) * 53)))) (wrap64 (Int.tdiv (wrap64 ((wrap64 ((wrap64 ((wrap64 ((wrap64 (rd x1000 (Int.tmod (wrap64 (x1001 - 1)) (x1000.length : Int)))) * 131)) + (wrap64 ((wrap64 (rd x1000 (Int.tmod (wrap64 ((wrap64 ((wrap64 (x1001 - 1)) * 7)) + 3)) (x1000.length : Int)))) * 1117)))) + (wrap64 ((wrap64 (x1001 - 1)) * 29)))) + (wrap64 ((wrap64 (Int.tdiv (wrap64 (x1001 - 1)) (x1000.length : Int))) * 53)))) 64))) x1, x1001))) else (none)) else (none)) else (none)) else (none))))
def spec_l6Rd_pick.f (k : Nat) (s0_0 : List Int) (s0_1 : Int) (a1 : Int) : Option (Int × Int) := if a1 < 1 then (spec_l6Rd_pick.j0 k a1 true s0_0 (wrap64 (s0_1 + 1))) else (spec_l6Rd_pick.j0 k a1 ((s0_0.length : Int) == 0) s0_0 (wrap64 (s0_1 + 1)))
theorem spec_l6Rd_pick.mono_l : ∀ k, (∀ y0 y1 y2 y3, LeO (spec_l6Rd_pick.j0 k y0 y1 y2 y3) (spec_l6Rd_pick.j0 (k + 1) y0 y1 y2 y3))
 | 0 => fun _ _ _ _ r h => by simp [spec_l6Rd_pick.j0] at h
 | k + 1 => by
  have ih0 := spec_l6Rd_pick.mono_l k
  ·
   intro y0 y1 y2 y3
   unfold spec_l6Rd_pick.j0
   repeat' first
   | (with_reducible exact ih0 _ _ _ _)
   | (with_reducible exact LeO.refl _)
   | (with_reducible exact LeO.none _)
   | (with_reducible refine LeO.ite ?_ ?_)
   | (with_reducible refine LeO.bind ?_ (fun _ => ?_))
   | exact ih0 _ _ _ _
   | exact LeO.none _
   | refine LeO.ite ?_ ?_
   | refine LeO.bind ?_ (fun _ => ?_)
theorem spec_l6Rd_pick.mono : ∀ a0 a1 a2 k, LeO (spec_l6Rd_pick.f k a0 a1 a2) (spec_l6Rd_pick.f (k + 1) a0 a1 a2) := by
 intro a0 a1 a2 k
 have ih0 := spec_l6Rd_pick.mono_l k
 unfold spec_l6Rd_pick.f
 repeat' first
   | (with_reducible exact ih0 _ _ _ _)
   | (with_reducible exact LeO.refl _)
   | (with_reducible exact LeO.none _)
   | (with_reducible refine LeO.ite ?_ ?_)
   | (with_reducible refine LeO.bind ?_ (fun _ => ?_))
   | exact ih0 _ _ _ _
   | exact LeO.none _
   | refine LeO.ite ?_ ?_
   | refine LeO.bind ?_ (fun _ => ?_)
set_option maxHeartbeats 8000000 in
set_option maxRecDepth 100000 in
theorem spec_l6Rd_pick.calls (k : Nat) (g : Nat) (g0 : List Int) (g1 : Int) (a1 : Int) (r1 : Int) (r2 : Int) (w0 w : World) (hI : IsS65 w0 w g g0 g1) (hB : Below w0.heap.size w0 w) (h : spec_l6Rd_pick.f k g0 g1 a1 = some (r1, r2)) :
  Calls Try.prog 55 #[.pointer (some ⟨g, 0, none⟩), .int .i64 a1] w fun e w' => e = .returned (.int .i64 r1) ∧ IsS65 w0 w' g g0 r2 ∧ Below w0.heap.size w0 w' ∧ KeepBut w w' g none := by
 have HI0 := am hI
 have HK := am (KeepBut.refl w g none)
 have HL := am hB.size; clear hI
 have HW0 := am hB.size
 have HB := am hB; clear hB
 have H : (if a1 < 1 then (spec_l6Rd_pick.j0 k a1 true g0 (wrap64 (g1 + 1))) else (spec_l6Rd_pick.j0 k a1 ((g0.length : Int) == 0) g0 (wrap64 (g1 + 1)))) = some (r1, r2) := h
 clear h; have HC3 := am H; clear H
 obtain ⟨h7, h8, gE, h9, hA⟩ := HI0.1
 have gH := cellS65_0 gE; have gI := cellS65_1 gE; have gJ := blk_frozen gE 1; clear gE h9
 go_enter Try.func55, Try.ntmps55
 go_upto_region 2 with (fail)
 repeat (go_quiet (fail); go_upto_region 2 with (fail))
 go_cut [24] (fun v24 wc => ∃ (kq : Nat) (g4 : Bool), v24 = .bool g4 ∧ Aside0 (spec_l6Rd_pick.j0 kq a1 g4 g0 (wrap64 (g1 + 1)) = some (r1, r2)) ∧ Aside0 (kq ≤ k) ∧ Aside0 (IsS65 w0 wc g g0 (wrap64 (g1 + 1))) ∧ Aside0 (KeepBut w wc g none) ∧ Aside0 (Below w0.heap.size w0 wc))
 case first =>
  have H := HC3.1
  clear HC3
  by_cases c5 : a1 < 1
  ·
   rw [if_pos c5] at H; have c5b0 : decide (a1 < 1) = true := decide_eq_true c5; clear c5
   (first | rw [c5b0] | (simp only [i64_w, i32_w]; rw [c5b0]) | skip)
   have H' := am H
   clear H
   go_wp2
   repeat (go_quiet (fail); try go_wp2)
   go_meet
   case rel => exact ⟨_, (true), rq, H', ⟨by first | omega | exact Nat.le_refl _⟩, ⟨ip⟩, ⟨kq⟩, bw⟩
  ·
   rw [if_neg c5] at H; have c5b0 : decide (a1 < 1) = false := decide_eq_false c5; clear c5
   (first | rw [c5b0] | (simp only [i64_w, i32_w]; rw [c5b0]) | skip)
   have H' := am H
   clear H
   obtain ⟨hC, hD, gF, hE, hF⟩ := HI0.1
   have gK := cellS65_0 gF; have gL := cellS65_1 gF; have gM := blk_frozen gF 1; clear gF hE
   go_wp2
   repeat (go_quiet (fail); try go_wp2)
   go_meet
   case rel => exact ⟨_, (((g0.length : Int) == 0)), rq, H', ⟨by first | omega | exact Nat.le_refl _⟩, ⟨ip⟩, ⟨kq⟩, bw⟩
 case rest =>
  clear HC3; (try clear p2); (try clear c5); (try clear c5b0); (try clear p6); (try clear gH); (try clear gI); (try clear gK); (try clear gL); (try clear gJ); (try clear gM)
  obtain ⟨kq, g4, rfl, HA, HJ2, HI0, HK, HB⟩ := hcut
  cases kq with
  | zero => exact absurd HA.1 (by simp [spec_l6Rd_pick.j0])
  | succ kj2 =>
   have H := HA.1
   clear HA
   simp only [spec_l6Rd_pick.j0] at H
   by_cases c7 : g4 = true
   ·
    subst c7
    have H1 : (some (0, (wrap64 (g1 + 1)))) = some (r1, r2) := by rw [if_pos rfl] at H; exact H
    clear H
    have H := H1
    clear H1
    simp only [Option.some.injEq, Prod.mk.injEq] at H
    obtain ⟨rfl, rfl⟩ := H
    go_wp2
    repeat (go_quiet (fail); try go_wp2)
    go_ret
    exact ⟨by first | rfl | (simp [errW_none, errW_some] <;> rfl) | (simp [*, errW_none, errW_some] <;> rfl), by repeat (first | (with_reducible first | exact HI0.1 | apply IsS65.alloc | apply IsS65.drewN | apply IsS65.drew | apply IsS65.set_1) | exact HI0.1), by repeat (first | (with_reducible first | exact HB.1 | apply below_alloc | apply pw_below_drewN | apply below_drew1 | refine below_set ?_ (IsS65.ge HI0.1)) | exact HB.1), by repeat (first | (with_reducible first | exact HK.1 | apply KeepBut.set_ | apply keep_drewN | apply keep_drew | apply keep_alloc) | exact HK.1)⟩
   ·
    replace c7 := Bool.eq_false_iff.mpr c7
    subst c7
    have H1 : (if (wrap64 ((wrap64 (g1 + 1)) - 1)) < (g0.length : Int) then (if 0 ≤ (wrap64 ((wrap64 (g1 + 1)) - 1)) then (if a1 = 0 then (none) else (some (Int.tmod (wrap64 (rd g0 (wrap64 ((wrap64 (g1 + 1)) - 1)))) a1, (wrap64 (g1 + 1))))) else (none)) else (if (g0.length : Int) = 0 then (none) else (if 0 ≤ (Int.tmod (wrap64 ((wrap64 (g1 + 1)) - 1)) (g0.length : Int)) then (if (Int.tmod (wrap64 ((wrap64 (g1 + 1)) - 1)) (g0.length : Int)) < (g0.length : Int) then (if 0 ≤ (Int.tmod (wrap64 ((wrap64 ((wrap64 ((wrap64 (g1 + 1)) - 1)) * 7)) + 3)) (g0.length : Int)) then (if (Int.tmod (wrap64 ((wrap64 ((wrap64 ((wrap64 (g1 + 1)) - 1)) * 7)) + 3)) (g0.length : Int)) < (g0.length : Int) then (if a1 = 0 then (none) else (some (Int.tmod (Go.bits .xor .i64 (wrap64 ((wrap64 ((wrap64 ((wrap64 ((wrap64 (rd g0 (Int.tmod (wrap64 ((wrap64 (g1 + 1)) - 1)) (g0.length : Int)))) * 131)) + (wrap64 ((wrap64 (rd g0 (Int.tmod (wrap64 ((wrap64 ((wrap64 ((wrap64 (g1 + 1)) - 1)) * 7)) + 3)) (g0.length : Int)))) * 1117)))) + (wrap64 ((wrap64 ((wrap64 (g1 + 1)) - 1)) * 29)))) + (wrap64 ((wrap64 (Int.tdiv (wrap64 ((wrap64 (g1 + 1)) - 1)) (g0.length : Int))) * 53)))) (wrap64 (Int.tdiv (wrap64 ((wrap64 ((wrap64 ((wrap64 ((wrap64 (rd g0 (Int.tmod (wrap64 ((wrap64 (g1 + 1)) - 1)) (g0.length : Int)))) * 131)) + (wrap64 ((wrap64 (rd g0 (Int.tmod (wrap64 ((wrap64 ((wrap64 ((wrap64 (g1 + 1)) - 1)) * 7)) + 3)) (g0.length : Int)))) * 1117)))) + (wrap64 ((wrap64 ((wrap64 (g1 + 1)) - 1)) * 29)))) + (wrap64 ((wrap64 (Int.tdiv (wrap64 ((wrap64 (g1 + 1)) - 1)) (g0.length : Int))) * 53)))) 64))) a1, (wrap64 (g1 + 1))))) else (none)) else (none)) else (none)) else (none)))) = some (r1, r2) := by rw [if_neg (show ¬ (false = true) by decide)] at H; exact H
    clear H
    have H := H1
    clear H1
    by_cases c8 : (wrap64 ((wrap64 (g1 + 1)) - 1)) < (g0.length : Int)
    ·
     rw [if_pos c8] at H; have c8b0 : decide ((wrap64 ((wrap64 (g1 + 1)) - 1)) < (g0.length : Int)) = true := decide_eq_true c8; clear c8
     obtain ⟨ji9, gB⟩ : ∃ j_ : Int, (wrap64 ((wrap64 (g1 + 1)) - 1)) = j_ := ⟨_, rfl⟩
     replace H : (if 0 ≤ (ji9) then (if a1 = 0 then (none) else (some (Int.tmod (wrap64 (rd g0 (ji9))) a1, (wrap64 (g1 + 1))))) else (none)) = some (r1, r2) := by first | (rw [gB] at H; exact H) | (simp only [gB] at H ⊢; exact H)
     (try rw [gB] at c8b0)
     have hji9w : (IntKind.i64.wrap ((wrap64 (g1 + 1)) - 1)) = ji9 := (i64_w _).trans gB
     by_cases c10 : 0 ≤ (ji9)
     ·
      rw [if_pos c10] at H; have c10b0 : decide (0 ≤ (ji9)) = true := decide_eq_true c10; clear c10
      by_cases c11 : a1 = 0
      ·
       rw [if_pos c11] at H
       exact absurd H (by simp)
      ·
       rw [if_neg c11] at H; have c11b0 : (a1 == 0) = false := beq_eq_false_iff_ne.mpr c11; have c11b1 : (a1 != 0) = true := bne_iff_ne.mpr c11
       simp only [Option.some.injEq, Prod.mk.injEq] at H
       obtain ⟨rfl, rfl⟩ := H
       obtain ⟨gX, gY, g5, gT, gG⟩ := HI0.1
       have gZ := cellS65_0 g5; have h0 := cellS65_1 g5; have h1 := blk_frozen g5 1; clear g5 gT; have gN : 0 ≤ ((ji9) : Int) := od; have gO : (ji9) < (g0.length : Int) := od
       obtain ⟨hK, hG, g6⟩ := Kd.at_int gG (ji9) gN gO
       cases hG; replace g6 := pw_cell_below HB.1 g6; replace gN := eq_true gN; replace gO := eq_true gO
       go_wp2
       repeat (go_quiet (fail); try go_wp2)
       go_ret
       exact ⟨by first | rfl | (simp [errW_none, errW_some] <;> rfl) | (simp only [← gB]; first | rfl | (simp [errW_none, errW_some] <;> rfl)) | (simp [*, errW_none, errW_some] <;> rfl), by repeat (first | (with_reducible first | exact HI0.1 | apply IsS65.alloc | apply IsS65.drewN | apply IsS65.drew | apply IsS65.set_1) | exact HI0.1), by repeat (first | (with_reducible first | exact HB.1 | apply below_alloc | apply pw_below_drewN | apply below_drew1 | refine below_set ?_ (IsS65.ge HI0.1)) | exact HB.1), by repeat (first | (with_reducible first | exact HK.1 | apply KeepBut.set_ | apply keep_drewN | apply keep_drew | apply keep_alloc) | exact HK.1)⟩
     ·
      rw [if_neg c10] at H
      exact absurd H (by simp)
    ·
     rw [if_neg c8] at H; have c8b0 : decide ((wrap64 ((wrap64 (g1 + 1)) - 1)) < (g0.length : Int)) = false := decide_eq_false c8; clear c8
     by_cases c13 : (g0.length : Int) = 0
     ·
      rw [if_pos c13] at H
      exact absurd H (by simp)
     ·
      rw [if_neg c13] at H; have c13b0 : ((g0.length : Int) == 0) = false := beq_eq_false_iff_ne.mpr c13; have c13b1 : ((g0.length : Int) != 0) = true := bne_iff_ne.mpr c13
      have c13b2 : ¬ (g0 = []) := fun h_ => c13 (by rw [h_]; rfl)
      obtain ⟨g2, gC⟩ : ∃ j_ : Int, (Int.tmod (wrap64 ((wrap64 (g1 + 1)) - 1)) (g0.length : Int)) = j_ := ⟨_, rfl⟩
      replace H : (if 0 ≤ (g2) then (if (g2) < (g0.length : Int) then (if 0 ≤ (Int.tmod (wrap64 ((wrap64 ((wrap64 ((wrap64 (g1 + 1)) - 1)) * 7)) + 3)) (g0.length : Int)) then (if (Int.tmod (wrap64 ((wrap64 ((wrap64 ((wrap64 (g1 + 1)) - 1)) * 7)) + 3)) (g0.length : Int)) < (g0.length : Int) then (if a1 = 0 then (none) else (some (Int.tmod (Go.bits .xor .i64 (wrap64 ((wrap64 ((wrap64 ((wrap64 ((wrap64 (rd g0 (g2))) * 131)) + (wrap64 ((wrap64 (rd g0 (Int.tmod (wrap64 ((wrap64 ((wrap64 ((wrap64 (g1 + 1)) - 1)) * 7)) + 3)) (g0.length : Int)))) * 1117)))) + (wrap64 ((wrap64 ((wrap64 (g1 + 1)) - 1)) * 29)))) + (wrap64 ((wrap64 (Int.tdiv (wrap64 ((wrap64 (g1 + 1)) - 1)) (g0.length : Int))) * 53)))) (wrap64 (Int.tdiv (wrap64 ((wrap64 ((wrap64 ((wrap64 ((wrap64 (rd g0 (g2))) * 131)) + (wrap64 ((wrap64 (rd g0 (Int.tmod (wrap64 ((wrap64 ((wrap64 ((wrap64 (g1 + 1)) - 1)) * 7)) + 3)) (g0.length : Int)))) * 1117)))) + (wrap64 ((wrap64 ((wrap64 (g1 + 1)) - 1)) * 29)))) + (wrap64 ((wrap64 (Int.tdiv (wrap64 ((wrap64 (g1 + 1)) - 1)) (g0.length : Int))) * 53)))) 64))) a1, (wrap64 (g1 + 1))))) else (none)) else (none)) else (none)) else (none)) = some (r1, r2) := by first | (rw [gC] at H; exact H) | (simp only [gC] at H ⊢; exact H)
      by_cases c15 : 0 ≤ (g2)
      ·
       rw [if_pos c15] at H; have c15b0 : decide (0 ≤ (g2)) = true := decide_eq_true c15; clear c15
       by_cases c16 : (g2) < (g0.length : Int)
       ·
        rw [if_pos c16] at H; have c16b0 : decide ((g2) < (g0.length : Int)) = true := decide_eq_true c16; clear c16
        obtain ⟨g3, gD⟩ : ∃ j_ : Int, (Int.tmod (wrap64 ((wrap64 ((wrap64 ((wrap64 (g1 + 1)) - 1)) * 7)) + 3)) (g0.length : Int)) = j_ := ⟨_, rfl⟩
        replace H : (if 0 ≤ (g3) then (if (g3) < (g0.length : Int) then (if a1 = 0 then (none) else (some (Int.tmod (Go.bits .xor .i64 (wrap64 ((wrap64 ((wrap64 ((wrap64 ((wrap64 (rd g0 (g2))) * 131)) + (wrap64 ((wrap64 (rd g0 (g3))) * 1117)))) + (wrap64 ((wrap64 ((wrap64 (g1 + 1)) - 1)) * 29)))) + (wrap64 ((wrap64 (Int.tdiv (wrap64 ((wrap64 (g1 + 1)) - 1)) (g0.length : Int))) * 53)))) (wrap64 (Int.tdiv (wrap64 ((wrap64 ((wrap64 ((wrap64 ((wrap64 (rd g0 (g2))) * 131)) + (wrap64 ((wrap64 (rd g0 (g3))) * 1117)))) + (wrap64 ((wrap64 ((wrap64 (g1 + 1)) - 1)) * 29)))) + (wrap64 ((wrap64 (Int.tdiv (wrap64 ((wrap64 (g1 + 1)) - 1)) (g0.length : Int))) * 53)))) 64))) a1, (wrap64 (g1 + 1))))) else (none)) else (none)) = some (r1, r2) := by first | (rw [gD] at H; exact H) | (simp only [gD] at H ⊢; exact H)
        by_cases c18 : 0 ≤ (g3)
        ·
         rw [if_pos c18] at H; have c18b0 : decide (0 ≤ (g3)) = true := decide_eq_true c18; clear c18
         by_cases c19 : (g3) < (g0.length : Int)
         ·
          rw [if_pos c19] at H; have c19b0 : decide ((g3) < (g0.length : Int)) = true := decide_eq_true c19; clear c19
          by_cases c20 : a1 = 0
          ·
           rw [if_pos c20] at H
           exact absurd H (by simp)
          ·
           rw [if_neg c20] at H; have c20b0 : (a1 == 0) = false := beq_eq_false_iff_ne.mpr c20; have c20b1 : (a1 != 0) = true := bne_iff_ne.mpr c20
           simp only [Option.some.injEq, Prod.mk.injEq] at H
           obtain ⟨rfl, rfl⟩ := H
           obtain ⟨h2, h3, g7, gU, g8⟩ := HI0.1
           have h4 := cellS65_0 g7; have h5 := cellS65_1 g7; have h6 := blk_frozen g7 1; clear g7 gU; have gP : 0 ≤ ((g2) : Int) := od; have gQ : (g2) < (g0.length : Int) := od
           obtain ⟨gV, hH, g9⟩ := Kd.at_int g8 (g2) gP gQ
           cases hH; replace g9 := pw_cell_below HB.1 g9; replace gP := eq_true gP; replace gQ := eq_true gQ; have gR : 0 ≤ ((g3) : Int) := od; have gS : (g3) < (g0.length : Int) := od
           obtain ⟨gW, hJ, gA⟩ := Kd.at_int g8 (g3) gR gS
           obtain rfl : gV = gW := (by injection hJ)
           replace gA := pw_cell_below HB.1 gA; replace gR := eq_true gR; replace gS := eq_true gS
           go_wp2
           repeat (go_quiet (fail); try go_wp2)
           go_ret
           exact ⟨by first | rfl | (simp [errW_none, errW_some] <;> rfl) | (simp only [← gC, ← gD]; first | rfl | (simp [errW_none, errW_some] <;> rfl)) | (simp [*, errW_none, errW_some] <;> rfl), by repeat (first | (with_reducible first | exact HI0.1 | apply IsS65.alloc | apply IsS65.drewN | apply IsS65.drew | apply IsS65.set_1) | exact HI0.1), by repeat (first | (with_reducible first | exact HB.1 | apply below_alloc | apply pw_below_drewN | apply below_drew1 | refine below_set ?_ (IsS65.ge HI0.1)) | exact HB.1), by repeat (first | (with_reducible first | exact HK.1 | apply KeepBut.set_ | apply keep_drewN | apply keep_drew | apply keep_alloc) | exact HK.1)⟩
         ·
          rw [if_neg c19] at H
          exact absurd H (by simp)
        ·
         rw [if_neg c18] at H
         exact absurd H (by simp)
       ·
        rw [if_neg c16] at H
        exact absurd H (by simp)
      ·
       rw [if_neg c15] at H
       exact absurd H (by simp)


/-! ### spec_l91Do: function 69 -/
def spec_l91Do.f (k : Nat) (s0_0 : List Int) (s0_1 : Int) : Option (Int × Int) := (spec_l6Rd_pick.f k s0_0 s0_1 3).bind fun bt107 => (if bt107.1 > 0 then ((spec_l6Rd_pick.f k s0_0 bt107.2 5).bind fun bt109 => (some (wrap64 (bt109.1 - 2), bt109.2))) else ((spec_l6Rd_pick.f k s0_0 bt107.2 9).bind fun bt111 => (some (wrap64 (bt111.1 - 4), bt111.2))))
theorem spec_l91Do.mono : ∀ a0 a1 k, LeO (spec_l91Do.f k a0 a1) (spec_l91Do.f (k + 1) a0 a1) := by
 intro a0 a1 k
 unfold spec_l91Do.f
 repeat' first
   | (with_reducible exact spec_l6Rd_pick.mono _ _ _ _)
   | (with_reducible exact LeO.refl _)
   | (with_reducible exact LeO.none _)
   | (with_reducible refine LeO.ite ?_ ?_)
   | (with_reducible refine LeO.bind ?_ (fun _ => ?_))
   | exact spec_l6Rd_pick.mono _ _ _ _
   | exact LeO.none _
   | refine LeO.ite ?_ ?_
   | refine LeO.bind ?_ (fun _ => ?_)
set_option maxHeartbeats 8000000 in
set_option maxRecDepth 100000 in
theorem spec_l91Do.calls (k : Nat) (g : Nat) (g0 : List Int) (g5 : Int) (r1 : Int) (r2 : Int) (w0 w : World) (hI : IsS65 w0 w g g0 g5) (hB : Below w0.heap.size w0 w) (h : spec_l91Do.f k g0 g5 = some (r1, r2)) :
  Calls Try.prog 69 #[.pointer (some ⟨g, 0, none⟩)] w fun e w' => e = .returned (.int .i64 r1) ∧ IsS65 w0 w' g g0 r2 ∧ Below w0.heap.size w0 w' ∧ KeepBut w w' g none := by
 have HI0 := am hI
 have HK := am (KeepBut.refl w g none)
 have HL := am hB.size; clear hI
 have HW0 := am hB.size
 have HB := am hB; clear hB
 have H : ((spec_l6Rd_pick.f k g0 g5 3).bind fun g6 => (if g6.1 > 0 then ((spec_l6Rd_pick.f k g0 g6.2 5).bind fun g1 => (some (wrap64 (g1.1 - 2), g1.2))) else ((spec_l6Rd_pick.f k g0 g6.2 9).bind fun g2 => (some (wrap64 (g2.1 - 4), g2.2))))) = some (r1, r2) := h
 clear h
 replace H := Option.bind_eq_some_iff.mp H
 obtain ⟨⟨g3, g4⟩, A20, H⟩ := H
 replace H : (if g3 > 0 then ((spec_l6Rd_pick.f k g0 g4 5).bind fun g1 => (some (wrap64 (g1.1 - 2), g1.2))) else ((spec_l6Rd_pick.f k g0 g4 9).bind fun g2 => (some (wrap64 (g2.1 - 4), g2.2)))) = some (r1, r2) := H
 have A2 := am A20
 clear A20
 by_cases c3 : g3 > 0
 ·
  rw [if_pos c3] at H; have c3b0 : decide (0 < g3) = true := decide_eq_true c3; clear c3
  replace H := Option.bind_eq_some_iff.mp H
  obtain ⟨⟨g7, g8⟩, A40, H⟩ := H
  replace H : (some (wrap64 (g7 - 2), g8)) = some (r1, r2) := H
  have A4 := am A40
  clear A40
  simp only [Option.some.injEq, Prod.mk.injEq] at H
  obtain ⟨rfl, rfl⟩ := H
  go_enter Try.func69, Try.ntmps69
  go_wp2_with (first | ((with_reducible refine gate_callee (f := 55) rfl ?_); refine gl (some 4) Try.func55 #[.pointer (some ⟨g, 0, none⟩), .int .i64 3] ?_; (with_reducible refine (spec_l6Rd_pick.calls k g g0 g5 3 g3 g4 w0 _ ?side1 ?side2 A2.1).mono ?_); (case side1 => exact ip); (case side2 => exact bq); rintro e w5 ⟨rfl, hi, hb, hk⟩; refine ⟨_, rfl, ?_⟩; replace HK := kt HK hk; replace HB := am (hb); replace HI0 := am (hi); clear hb hk hi) | ((with_reducible refine gate_callee (f := 55) rfl ?_); refine gl (some 7) Try.func55 #[.pointer (some ⟨g, 0, none⟩), .int .i64 5] ?_; (with_reducible refine (spec_l6Rd_pick.calls k g g0 g4 5 g7 g8 w0 _ ?side1 ?side2 A4.1).mono ?_); (case side1 => exact ip); (case side2 => exact bq); rintro e w6 ⟨rfl, hi, hb, hk⟩; refine ⟨_, rfl, ?_⟩; replace HK := kt HK hk; replace HB := am (hb); replace HI0 := am (hi); clear hb hk hi))
  go_ret
  exact ⟨by first | rfl | (simp [errW_none, errW_some] <;> rfl) | (simp [*, errW_none, errW_some] <;> rfl), by repeat (first | (with_reducible first | exact HI0.1 | apply IsS65.alloc | apply IsS65.drewN | apply IsS65.drew | apply IsS65.set_1) | exact HI0.1), by repeat (first | (with_reducible first | exact HB.1 | apply below_alloc | apply pw_below_drewN | apply below_drew1 | refine below_set ?_ (IsS65.ge HI0.1)) | exact HB.1), by repeat (first | (with_reducible first | exact HK.1 | apply KeepBut.set_ | apply keep_drewN | apply keep_drew | apply keep_alloc) | exact HK.1)⟩
 ·
  rw [if_neg c3] at H; have c3b0 : decide (0 < g3) = false := decide_eq_false c3; clear c3
  replace H := Option.bind_eq_some_iff.mp H
  obtain ⟨⟨g9, gA⟩, A70, H⟩ := H
  replace H : (some (wrap64 (g9 - 4), gA)) = some (r1, r2) := H
  have A7 := am A70
  clear A70
  simp only [Option.some.injEq, Prod.mk.injEq] at H
  obtain ⟨rfl, rfl⟩ := H
  go_enter Try.func69, Try.ntmps69
  go_wp2_with (first | ((with_reducible refine gate_callee (f := 55) rfl ?_); refine gl (some 4) Try.func55 #[.pointer (some ⟨g, 0, none⟩), .int .i64 3] ?_; (with_reducible refine (spec_l6Rd_pick.calls k g g0 g5 3 g3 g4 w0 _ ?side1 ?side2 A2.1).mono ?_); (case side1 => exact ip); (case side2 => exact bq); rintro e w8 ⟨rfl, hi, hb, hk⟩; refine ⟨_, rfl, ?_⟩; replace HK := kt HK hk; replace HB := am (hb); replace HI0 := am (hi); clear hb hk hi) | ((with_reducible refine gate_callee (f := 55) rfl ?_); refine gl (some 10) Try.func55 #[.pointer (some ⟨g, 0, none⟩), .int .i64 9] ?_; (with_reducible refine (spec_l6Rd_pick.calls k g g0 g4 9 g9 gA w0 _ ?side1 ?side2 A7.1).mono ?_); (case side1 => exact ip); (case side2 => exact bq); rintro e w9 ⟨rfl, hi, hb, hk⟩; refine ⟨_, rfl, ?_⟩; replace HK := kt HK hk; replace HB := am (hb); replace HI0 := am (hi); clear hb hk hi))
  go_ret
  exact ⟨by first | rfl | (simp [errW_none, errW_some] <;> rfl) | (simp [*, errW_none, errW_some] <;> rfl), by repeat (first | (with_reducible first | exact HI0.1 | apply IsS65.alloc | apply IsS65.drewN | apply IsS65.drew | apply IsS65.set_1) | exact HI0.1), by repeat (first | (with_reducible first | exact HB.1 | apply below_alloc | apply pw_below_drewN | apply below_drew1 | refine below_set ?_ (IsS65.ge HI0.1)) | exact HB.1), by repeat (first | (with_reducible first | exact HK.1 | apply KeepBut.set_ | apply keep_drewN | apply keep_drew | apply keep_alloc) | exact HK.1)⟩


/-! ### spec_l91Act: function 66 -/
def spec_l91Act.f (k : Nat) (s0_0 : List Int) (s0_1 : Int) : Option (Int × Int) := (spec_l6Rd_pick.f k s0_0 s0_1 30).bind fun bt113 => (if bt113.1 = 0 then ((some (([5, (-5), 4611686018427387904] : List Int) : List Int)).bind fun y115 => ((spec_l6Rd_pick.f k s0_0 bt113.2 3).bind fun bt118 => (if 0 ≤ bt118.1 then (if bt118.1 < (y115.length : Int) then (some (rd y115 bt118.1, bt118.2)) else (none)) else (none)))) else ((spec_l91Do.f k s0_0 bt113.2).bind fun bt121 => (some (bt121.1, bt121.2))))
theorem spec_l91Act.mono : ∀ a0 a1 k, LeO (spec_l91Act.f k a0 a1) (spec_l91Act.f (k + 1) a0 a1) := by
 intro a0 a1 k
 unfold spec_l91Act.f
 repeat' first
   | (with_reducible exact spec_l6Rd_pick.mono _ _ _ _)
   | (with_reducible exact spec_l91Do.mono _ _ _)
   | (with_reducible exact LeO.refl _)
   | (with_reducible exact LeO.none _)
   | (with_reducible refine LeO.ite ?_ ?_)
   | (with_reducible refine LeO.bind ?_ (fun _ => ?_))
   | exact spec_l6Rd_pick.mono _ _ _ _
   | exact spec_l91Do.mono _ _ _
   | exact LeO.none _
   | refine LeO.ite ?_ ?_
   | refine LeO.bind ?_ (fun _ => ?_)
set_option maxHeartbeats 8000000 in
set_option maxRecDepth 100000 in
theorem spec_l91Act.calls (k : Nat) (g : Nat) (g1 : List Int) (g9 : Int) (r1 : Int) (r2 : Int) (w0 w : World) (hI : IsS65 w0 w g g1 g9) (hB : Below w0.heap.size w0 w) (h : spec_l91Act.f k g1 g9 = some (r1, r2)) :
  Calls Try.prog 66 #[.pointer (some ⟨g, 0, none⟩)] w fun e w' => e = .returned (.int .i64 r1) ∧ IsS65 w0 w' g g1 r2 ∧ Below w0.heap.size w0 w' ∧ KeepBut w w' g none := by
 have HI0 := am hI
 have HK := am (KeepBut.refl w g none)
 have HL := am hB.size; clear hI
 have HW0 := am hB.size
 have HB := am hB; clear hB
 have H : ((spec_l6Rd_pick.f k g1 g9 30).bind fun gA => (if gA.1 = 0 then ((some (([5, (-5), 4611686018427387904] : List Int) : List Int)).bind fun g2 => ((spec_l6Rd_pick.f k g1 gA.2 3).bind fun g0 => (if 0 ≤ g0.1 then (if g0.1 < (g2.length : Int) then (some (rd g2 g0.1, g0.2)) else (none)) else (none)))) else ((spec_l91Do.f k g1 gA.2).bind fun g4 => (some (g4.1, g4.2))))) = some (r1, r2) := h
 clear h
 replace H := Option.bind_eq_some_iff.mp H
 obtain ⟨⟨g5, g6⟩, A20, H⟩ := H
 replace H : (if g5 = 0 then ((some (([5, (-5), 4611686018427387904] : List Int) : List Int)).bind fun g2 => ((spec_l6Rd_pick.f k g1 g6 3).bind fun g0 => (if 0 ≤ g0.1 then (if g0.1 < (g2.length : Int) then (some (rd g2 g0.1, g0.2)) else (none)) else (none)))) else ((spec_l91Do.f k g1 g6).bind fun g4 => (some (g4.1, g4.2)))) = some (r1, r2) := H
 have A2 := am A20
 clear A20
 by_cases c3 : g5 = 0
 ·
  rw [if_pos c3] at H; have c3b0 : (g5 == 0) = true := beq_iff_eq.mpr c3; have c3b1 : (g5 != 0) = false := bne_eq_false_iff_eq.mpr c3; clear c3
  obtain ⟨g2, g7⟩ : ∃ y_ : List Int, y_ = (([5, (-5), 4611686018427387904] : List Int)) := ⟨_, rfl⟩
  replace H : ((spec_l6Rd_pick.f k g1 g6 3).bind fun g0 => (if 0 ≤ g0.1 then (if g0.1 < (g2.length : Int) then (some (rd g2 g0.1, g0.2)) else (none)) else (none))) = some (r1, r2) := by first | (rw [g7]; with_reducible exact H) | (have H2_ := (Option.bind_some _ _).symm.trans H; rw [g7]; with_reducible exact H2_) | (have H2_ := (Option.bind_some _ _).symm.trans H; with_reducible exact H2_) | with_reducible exact H | (rw [g7]; exact H) | exact H
  have gB := am g7
  clear g7
  replace H := Option.bind_eq_some_iff.mp H
  obtain ⟨⟨g3, gE⟩, A40, H⟩ := H
  replace H : (if 0 ≤ g3 then (if g3 < (g2.length : Int) then (some (rd g2 g3, gE)) else (none)) else (none)) = some (r1, r2) := H
  have A4 := am A40
  clear A40
  by_cases c5 : 0 ≤ g3
  ·
   rw [if_pos c5] at H; have c5b0 : decide (0 ≤ g3) = true := decide_eq_true c5; clear c5
   by_cases c6 : g3 < (g2.length : Int)
   ·
    rw [if_pos c6] at H; have c6b0 : decide (g3 < (g2.length : Int)) = true := decide_eq_true c6; clear c6
    simp only [Option.some.injEq, Prod.mk.injEq] at H
    obtain ⟨rfl, rfl⟩ := H
    go_enter Try.func66, Try.ntmps66
    go_wp2_with (first | ((with_reducible refine gate_callee (f := 55) rfl ?_); refine gl (some 4) Try.func55 #[.pointer (some ⟨g, 0, none⟩), .int .i64 30] ?_; (with_reducible refine (spec_l6Rd_pick.calls k g g1 g9 30 g5 g6 w0 _ ?side1 ?side2 A2.1).mono ?_); (case side1 => exact ip); (case side2 => exact bq); rintro e w7 ⟨rfl, hi, hb, hk⟩; refine ⟨_, rfl, ?_⟩; replace HK := kt HK hk; replace HB := am (hb); replace HI0 := am (hi); clear hb hk hi) | ((with_reducible refine gate_dst (N := 6) rfl ?_); refine Kd.R_lit (Kd.int .i64) _ 3 ?hg (N := 6) ?hd (xs := ([5, (-5), 4611686018427387904] : List Int)) (inner := [.int .i64 5, .int .i64 (-5), .int .i64 4611686018427387904]) (ok := fun _ => True) (okp := fun _ => True) ?hr ?hp (fun _ hk => hk) trivial (Below.refl _ _) (Nat.le_refl _) (by simp) ?_; (case hd => rfl); (case hg => rfl); (case hr => first | (go_simp; done) | (go_simp; rfl)); (case hp => exact (Reps.one (show Kd.M (Kd.int .i64) _ _ _ 5 [.int .i64 5] from rfl) (Reps.one (show Kd.M (Kd.int .i64) _ _ _ (-5) [.int .i64 (-5)] from rfl) (Reps.one (show Kd.M (Kd.int .i64) _ _ _ 4611686018427387904 [.int .i64 4611686018427387904] from rfl) (Reps.none _ _))))); intro gL w8 ho9 hb hg_ hnew_; clear hg_ hnew_; (first | rw [← gB.1] at ho9 | (simp only [Int.reduceToNat] at ho9; rw [← gB.1] at ho9)); have g8 := am (Kd.R_lower ho9 (keep_size (w := w) (g := g) (row := none) kq)); replace HI0 := am (IsS65.below ip hb); replace HK := kt HK (KeepBut.of_below hb g none); replace HB := bs HB hb; clear hb ho9) | ((with_reducible refine gate_callee (f := 55) rfl ?_); refine gl (some 8) Try.func55 #[.pointer (some ⟨g, 0, none⟩), .int .i64 3] ?_; (with_reducible refine (spec_l6Rd_pick.calls k g g1 g6 3 g3 gE w0 _ ?side1 ?side2 A4.1).mono ?_); (case side1 => exact ip); (case side2 => exact bq); rintro e w10 ⟨rfl, hi, hb, hk⟩; refine ⟨_, rfl, ?_⟩; replace g8 := am (Kd.R_mono (Kd.R_keep (IsS65.apart (show IsS65 w0 _ g g1 g6 from by repeat (first | (with_reducible first | exact HI0.1 | apply IsS65.alloc | apply IsS65.drewN | apply IsS65.drew | apply IsS65.set_1) | exact HI0.1)) (by (with_reducible repeat (first | apply Kd.R_alloc | apply Kd.R_drewN | apply Kd.R_drew)); exact g8.1) (by decide)) hk (fun _ h => h.2)) (fun _ h => h.1)); replace HK := kt HK hk; replace HB := am (hb); replace HI0 := am (hi); clear hb hk hi; obtain ⟨gM, gN, rfl⟩ := Kd.R_slice g8.1; have gC : 0 ≤ (g3 : Int) := od; have gD : g3 < (g2.length : Int) := od; obtain ⟨gK, gJ, gI⟩ := Kd.at_int (Kd.R_reads' g8.1).2.2 g3 gC gD; cases gJ; replace gC := eq_true gC; replace gD := eq_true gD))
    go_ret
    exact ⟨by first | rfl | (simp [errW_none, errW_some] <;> rfl) | (simp [*, errW_none, errW_some] <;> rfl), by repeat (first | (with_reducible first | exact HI0.1 | apply IsS65.alloc | apply IsS65.drewN | apply IsS65.drew | apply IsS65.set_1) | exact HI0.1), by repeat (first | (with_reducible first | exact HB.1 | apply below_alloc | apply pw_below_drewN | apply below_drew1 | refine below_set ?_ (IsS65.ge HI0.1)) | exact HB.1), by repeat (first | (with_reducible first | exact HK.1 | apply KeepBut.set_ | apply keep_drewN | apply keep_drew | apply keep_alloc) | exact HK.1)⟩
   ·
    rw [if_neg c6] at H
    exact absurd H (by simp)
  ·
   rw [if_neg c5] at H
   exact absurd H (by simp)
 ·
  rw [if_neg c3] at H; have c3b0 : (g5 == 0) = false := beq_eq_false_iff_ne.mpr c3; have c3b1 : (g5 != 0) = true := bne_iff_ne.mpr c3
  replace H := Option.bind_eq_some_iff.mp H
  obtain ⟨⟨gF, gG⟩, gH, H⟩ := H
  replace H : (some (gF, gG)) = some (r1, r2) := H
  have A12 := am gH
  clear gH
  simp only [Option.some.injEq, Prod.mk.injEq] at H
  obtain ⟨rfl, rfl⟩ := H
  go_enter Try.func66, Try.ntmps66
  go_wp2_with (first | ((with_reducible refine gate_callee (f := 55) rfl ?_); refine gl (some 4) Try.func55 #[.pointer (some ⟨g, 0, none⟩), .int .i64 30] ?_; (with_reducible refine (spec_l6Rd_pick.calls k g g1 g9 30 g5 g6 w0 _ ?side1 ?side2 A2.1).mono ?_); (case side1 => exact ip); (case side2 => exact bq); rintro e w13 ⟨rfl, hi, hb, hk⟩; refine ⟨_, rfl, ?_⟩; replace HK := kt HK hk; replace HB := am (hb); replace HI0 := am (hi); clear hb hk hi) | ((with_reducible refine gate_callee (f := 69) rfl ?_); refine gl (some 12) Try.func69 #[.pointer (some ⟨g, 0, none⟩)] ?_; (with_reducible refine (spec_l91Do.calls k g g1 g6 gF gG w0 _ ?side1 ?side2 A12.1).mono ?_); (case side1 => exact ip); (case side2 => exact bq); rintro e w14 ⟨rfl, hi, hb, hk⟩; refine ⟨_, rfl, ?_⟩; replace HK := kt HK hk; replace HB := am (hb); replace HI0 := am (hi); clear hb hk hi))
  go_ret
  exact ⟨by first | rfl | (simp [errW_none, errW_some] <;> rfl) | (simp [*, errW_none, errW_some] <;> rfl), by repeat (first | (with_reducible first | exact HI0.1 | apply IsS65.alloc | apply IsS65.drewN | apply IsS65.drew | apply IsS65.set_1) | exact HI0.1), by repeat (first | (with_reducible first | exact HB.1 | apply below_alloc | apply pw_below_drewN | apply below_drew1 | refine below_set ?_ (IsS65.ge HI0.1)) | exact HB.1), by repeat (first | (with_reducible first | exact HK.1 | apply KeepBut.set_ | apply keep_drewN | apply keep_drew | apply keep_alloc) | exact HK.1)⟩
end Go.Proofs.Ytfnmjecofgeboaa.PAll
