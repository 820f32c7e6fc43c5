/- SHORT WORDS FOR THE WALKS: facts about a world, carried over boxes, draws and stores. -/
import Derived.Test.YtfnmjecofgeboaaPAll0
namespace Go.Proofs.Ytfnmjecofgeboaa.PAll
open Go.RowKit Go.Proofs.YtfnmjecofgeboaaW.PrintWords Go.Proofs.YtfnmjecofgeboaaW.PrintLast Go.Proofs.YtfnmjecofgeboaaW.PrintMore
set_option linter.unusedVariables false
theorem am {p : Prop} (h : p) : Aside0 p := ⟨h⟩
/-- What became of the blocks that a set names. -/
structure St (ok : Nat → Prop) (w0 W : World) : Prop where
  le : w0.heap.size ≤ W.heap.size
  eq : ∀ k, ok k → k < w0.heap.size → W.heap[k]? = w0.heap[k]?
/-- What became of the cells of one block. -/
def Bk (g : Nat) (t : TypeId) (w0 W : World) (cs cs' : Array Value) : Prop := w0.heap.size ≤ W.heap.size ∧ (w0.heap[g]? = some (.cells cs t (0, 0)) → W.heap[g]? = some (.cells cs' t (0, 0)))
section
variable {w w0 w1 w2 W B_ : World} {g g' g2 i n : Nat} {o : Obj} {t : TypeId} {a b c f x z : Value} {ok ok' : Nat → Prop} {cs cs' c1 : Array Value}
theorem St.refl : St ok w w := ⟨Nat.le_refl _, fun _ _ _ => rfl⟩
theorem St.below (h : St ok w0 W) (hb : Below W.heap.size W w2) : St ok w0 w2 := ⟨Nat.le_trans h.le hb.size, fun k hk hl => (hb.block k (Nat.lt_of_lt_of_le hl h.le)).trans (h.eq k hk hl)⟩
theorem St.alloc (h : St ok w0 W) : St ok w0 (W.alloc o) := h.below (below_alloc (Below.refl _ _) o)
theorem St.drew (h : St ok w0 W) : St ok w0 W.drew := ⟨h.le, h.eq⟩
theorem St.drewN (h : St ok w0 W) : St ok w0 (W.drewN n) := ⟨h.le, h.eq⟩
theorem St.set (h : St ok w0 W) (hne : ∀ k, ok k → k ≠ g) : St ok w0 (W.setCell ⟨g, i, none⟩ z) := ⟨by have := h.le; simpa using this, fun k hk hl => (Below.heap_setCell W _ z k (hne k hk)).trans (h.eq k hk hl)⟩
theorem Bk.refl : Bk g t w w cs cs := ⟨Nat.le_refl _, fun h => h⟩
theorem Bk.alloc (h : Bk g t w0 W cs cs') : Bk g t w0 (W.alloc o) cs cs' := ⟨by have := h.1; simp; omega, fun k => blk_alloc (h.2 k) o⟩
theorem Bk.drew (h : Bk g t w0 W cs cs') : Bk g t w0 W.drew cs cs' := h
theorem Bk.drewN (h : Bk g t w0 W cs cs') : Bk g t w0 (W.drewN n) cs cs' := h
theorem Bk.far (h : Bk g t w0 W cs cs') (hne : g ≠ g') : Bk g t w0 (W.setCell ⟨g', i, none⟩ z) cs cs' := ⟨by have := h.1; simpa using this, fun k => blk_far (h.2 k) hne z⟩
theorem Bk.put (h : Bk g t w0 W cs c1) (e : c1.setIfInBounds i z = cs') : Bk g t w0 (W.setCell ⟨g, i, none⟩ z) cs cs' := ⟨by have := h.1; simpa using this, fun k => blk_put (h.2 k) i z e⟩
-- the world behind all: what was older is as it was
theorem bq {p : Prop} (h : p := by repeat (first | (with_reducible first | exact HB.out | apply below_alloc | apply pw_below_drewN | apply below_drew1 | refine below_set ?_ (Aside0.out (by assumption)) | refine below_set ?_ (IsS65.ge (Aside0.out (by assumption)))) | exact HB.out)) : p := h
theorem bw (h : Below w.heap.size w W := by exact bq) : Aside0 (Below w.heap.size w W) := ⟨h⟩
theorem bh (B : Aside0 (Below w.heap.size w B_)) (hw : w1 = W) (h : Below w.heap.size w W := by exact bq) : Aside0 (Below w.heap.size w w1) := ⟨hw ▸ h⟩
theorem bs (B : Aside0 (Below w.heap.size w B_)) (hb : Below W.heap.size W w2) (h : Below w.heap.size w W := by exact bq) : Aside0 (Below w.heap.size w w2) := ⟨below_step h hb⟩
theorem bz (B : Aside0 (Below w.heap.size w B_)) (hg : g = W.heap.size) (h : Below w.heap.size w W := by exact bq) : Aside0 (w.heap.size ≤ g) := ⟨by rw [hg]; exact below_size h⟩
theorem zt (B : Aside0 (Below w.heap.size w B_)) (hk : W.heap.size ≤ g) (h : Below w.heap.size w W := by exact bq) : w.heap.size ≤ g := Nat.le_trans (below_size h) hk
-- but for one block
theorem kq {p : Prop} (h : p := by repeat (first | (with_reducible first | exact HK.out | apply KeepBut.set_ | apply keep_drewN | apply keep_drew | apply keep_alloc | refine keep_far ?_ (Aside0.out (by assumption)) _) | exact HK.out)) : p := h
theorem kt (B : Aside0 (KeepBut w B_ g none)) (hk : KeepBut W w2 g none) (h : KeepBut w W g none := by exact kq) : Aside0 (KeepBut w w2 g none) := ⟨h.trans hk (.inl rfl)⟩
theorem zk (B : Aside0 (KeepBut w B_ g none)) (hk : W.heap.size ≤ g') (h : KeepBut w W g none := by exact kq) : w.heap.size ≤ g' := Nat.le_trans (keep_size h) hk
-- the reader
theorem ip {p : Prop} (h : p := by repeat (first | (with_reducible first | exact Aside0.out (by assumption) | apply IsS65.alloc | apply IsS65.drewN | apply IsS65.drew | apply IsS65.set_1 | refine IsS65.far ?_ (Aside0.out (by assumption)) _))) : p := h
-- blocks
theorem sq {p : Prop} (h : p := by repeat (first | (with_reducible first | exact St.refl | apply St.alloc | apply St.drewN | apply St.drew | refine St.set ?_ (by intro _ h_; first | exact h_.elim | simp only [h_, ne_eq, not_false_eq_true])) | exact St.refl)) : p := h
theorem gq {p : Prop} (h : p := by (repeat (first | (with_reducible first | exact Bk.refl | apply Bk.alloc | apply Bk.drewN | apply Bk.drew | apply Bk.put | apply Bk.far) | exact Bk.refl)) <;> (first | exact Aside0.out (by assumption) | rfl)) : p := h
theorem kf (F : Aside0 (w0.heap[g]? = some (.cells cs t (0, 0)))) (s : Bk g t w0 W cs cs' := by exact gq) : Aside0 (W.heap[g]? = some (.cells cs' t (0, 0))) := ⟨s.2 F.out⟩
theorem kh (F : Aside0 (w0.heap[g]? = some (.cells cs t (0, 0)))) (hw : w1 = W) (s : Bk g t w0 W cs cs := by exact gq) : Aside0 (w1.heap[g]? = some (.cells cs t (0, 0))) := ⟨hw ▸ s.2 F.out⟩
theorem kp (F : Aside0 (w0.heap[g]? = some (.cells cs t (0, 0)))) (hw : w1 = W) (cs' : Array Value) (s : Bk g t w0 W cs cs' := by exact gq) : Aside0 (w1.heap[g]? = some (.cells cs' t (0, 0))) := ⟨hw ▸ s.2 F.out⟩
theorem kb (F : Aside0 (w0.heap[g]? = some (.cells cs t (0, 0)))) (hb : Below W.heap.size W w2) (s : Bk g t w0 W cs cs := by exact gq) : Aside0 (w2.heap[g]? = some (.cells cs t (0, 0))) := ⟨blk_below (s.2 F.out) hb⟩
theorem kc (F : Aside0 (w0.heap[g]? = some (.cells cs t (0, 0)))) (hb : Below W.heap.size W w2) (cs' : Array Value) (s : Bk g t w0 W cs cs' := by exact gq) : Aside0 (w2.heap[g]? = some (.cells cs' t (0, 0))) := ⟨blk_below (s.2 F.out) hb⟩
theorem kk (F : Aside0 (w0.heap[g]? = some (.cells cs t (0, 0)))) (hn : Aside0 (g ≠ g')) (hk : KeepBut W w2 g' none) (s : Bk g t w0 W cs cs := by exact gq) : Aside0 (w2.heap[g]? = some (.cells cs t (0, 0))) := ⟨hk.blk (s.2 F.out) hn.out (by simp)⟩
theorem kg (F : Aside0 (w0.heap[g]? = some (.cells cs t (0, 0)))) {r : Option Nat} (hg : W.grownBy w2 r) (hn : some g ≠ r) (s : Bk g t w0 W cs cs := by exact gq) : Aside0 (w2.heap[g]? = some (.cells cs t (0, 0))) := ⟨blk_grown (s.2 F.out) hg hn⟩
theorem nl (F : Aside0 (w0.heap[g]? = some (.cells cs t (0, 0)))) (hg : g' = W.heap.size) (s : Bk g t w0 W cs cs' := by exact gq) : Aside0 (g ≠ g') := ⟨by rw [hg]; exact Nat.ne_of_lt (blk_lt (s.2 F.out))⟩
theorem ng (F : Aside0 (w0.heap[g]? = some (.cells cs t (0, 0)))) (hg : g' = W.heap.size) (s : Bk g t w0 W cs cs' := by exact gq) : Aside0 (g' ≠ g) := ⟨by rw [hg]; exact Nat.ne_of_gt (blk_lt (s.2 F.out))⟩
theorem fb (F : Aside0 (w0.heap[g]? = some o)) (k : Nat) (hk : W.heap.size ≤ k) (s : St (fun _ => False) w0 W := by exact sq) : k ≠ g := fun h => by have := blk_lt F.out; have := s.le; omega
theorem cs1 (F : Aside0 (w.heap[g]? = some (.cells #[a] t (0, 0)))) : w.cell? ⟨g, 0, none⟩ = some a ∧ w.frozen? ⟨g, 0, none⟩ = false := ⟨(blk_cell F.out 0).trans rfl, blk_frozen F.out 0⟩
theorem cs2 (F : Aside0 (w.heap[g]? = some (.cells #[a, b] t (0, 0)))) : w.cell? ⟨g, 0, none⟩ = some a ∧ w.cell? ⟨g, 1, none⟩ = some b ∧ w.frozen? ⟨g, 0, none⟩ = false ∧ w.frozen? ⟨g, 1, none⟩ = false := ⟨(blk_cell F.out 0).trans rfl, (blk_cell F.out 1).trans rfl, blk_frozen F.out 0, blk_frozen F.out 1⟩
theorem cs3 (F : Aside0 (w.heap[g]? = some (.cells #[a, b, c] t (0, 0)))) : w.cell? ⟨g, 0, none⟩ = some a ∧ w.cell? ⟨g, 1, none⟩ = some b ∧ w.cell? ⟨g, 2, none⟩ = some c ∧ w.frozen? ⟨g, 0, none⟩ = false ∧ w.frozen? ⟨g, 1, none⟩ = false ∧ w.frozen? ⟨g, 2, none⟩ = false := ⟨(blk_cell F.out 0).trans rfl, (blk_cell F.out 1).trans rfl, (blk_cell F.out 2).trans rfl, blk_frozen F.out 0, blk_frozen F.out 1, blk_frozen F.out 2⟩
theorem cs4 (F : Aside0 (w.heap[g]? = some (.cells #[a, b, c, f] t (0, 0)))) : w.cell? ⟨g, 0, none⟩ = some a ∧ w.cell? ⟨g, 1, none⟩ = some b ∧ w.cell? ⟨g, 2, none⟩ = some c ∧ w.cell? ⟨g, 3, none⟩ = some f ∧ w.frozen? ⟨g, 0, none⟩ = false ∧ w.frozen? ⟨g, 1, none⟩ = false ∧ w.frozen? ⟨g, 2, none⟩ = false ∧ w.frozen? ⟨g, 3, none⟩ = false := ⟨(blk_cell F.out 0).trans rfl, (blk_cell F.out 1).trans rfl, (blk_cell F.out 2).trans rfl, (blk_cell F.out 3).trans rfl, blk_frozen F.out 0, blk_frozen F.out 1, blk_frozen F.out 2, blk_frozen F.out 3⟩
end
section
variable {α β : Type} {d : Kd α} {e base : Nat} {v u vv : Value} {xs : List α} {ys : List β} {w w0 w1 w2 W : World} {g g' n : Nat} {A : Option Addr} {ok ok' okT : Nat → Prop}
theorem mq {p : Prop} (h : p := by intro _ h_; simp only [h_, ne_eq, not_false_eq_true, and_self, true_or, or_true]) : p := h
theorem nf (F : Aside0 (Kd.N d e w0 base ok v xs)) (s : St ok w0 W := by exact sq) (m : ∀ k, ok k → ok' k := by exact mq) : Aside0 (Kd.N d e W base ok' v xs) := ⟨Kd.N_mono (Kd.N_step F.out s.eq) m⟩
theorem n1 (F : Aside0 (Kd.N d e w0 base ok v xs)) (s : St ok w0 W := by exact sq) : Aside0 (Kd.N d e W base ok v xs) := ⟨Kd.N_step F.out s.eq⟩
theorem v1 (F : Aside0 (Kd.V d e w0 base ok v xs)) (s : St ok w0 W := by exact sq) : Aside0 (Kd.V d e W base ok v xs) := ⟨Kd.V_map F.out (fun _ hf => Kd.F_step hf s.eq)⟩
theorem nh (F : Aside0 (Kd.N d e w0 base ok v xs)) (hw : w1 = W) (s : St ok w0 W := by exact sq) : Aside0 (Kd.N d e w1 base ok v xs) := ⟨hw ▸ Kd.N_step F.out s.eq⟩
theorem nw (F : Aside0 (Kd.N d e w0 base ok v xs)) (hb : Below W.heap.size W w2) (s : St ok w0 W := by exact sq) : Aside0 (Kd.N d e w2 base ok v xs) := ⟨Kd.N_below (Kd.N_step F.out s.eq) hb⟩
theorem nb (F : Aside0 (Kd.N d e w0 base ok v xs)) (hg : g = W.heap.size) (hb : Below W.heap.size W w2) (s : St ok w0 W := by exact sq) : Aside0 (Kd.N d e w2 base (fun k => ok k ∧ k ≠ g) v xs) := ⟨Kd.N_below (Kd.N_elderB (Kd.N_step F.out s.eq) g (Nat.le_of_eq hg.symm)) hb⟩
theorem ne (F : Aside0 (Kd.N d e w0 base ok v xs)) (hb : Below W.heap.size W w2) (hu : ∀ k, u.ownBlock = some k → W.heap.size ≤ k := by first | exact Kd.N_base ho0 | exact Kd.R_base ho0) (s : St ok w0 W := by exact sq) : Aside0 (Kd.N d e w2 base (fun k => ok k ∧ some k ≠ u.ownBlock) v xs) := ⟨Kd.N_elder' (Kd.N_step F.out s.eq) hu hb⟩
theorem na (F : Aside0 (Kd.N d e w0 base ok v xs)) (hg : W.grownBy w2 u.ownBlock) (hat : vv.ownBlock = u.ownBlock ∨ ∃ b, vv.ownBlock = some b ∧ W.heap.size ≤ b) (okT : Nat → Prop) (s : St ok w0 W := by exact sq) (m : ∀ k, ok k → okT k ∧ some k ≠ u.ownBlock := by exact mq) : Aside0 (Kd.N d e w2 base (fun k => okT k ∧ some k ≠ vv.ownBlock) v xs) := ⟨Kd.N_afterv (Kd.N_mono (Kd.N_step F.out s.eq) m) hg hat⟩
theorem vg {b' : Nat} (F : Aside0 (Kd.V d e w0 base ok v xs)) (s : St ok w0 W := by exact sq) (m : ∀ k, ok k → ok' k := by exact mq) : Aside0 (Kd.V d e W b' ok' v xs) := ⟨Kd.V_mono (Kd.V_map F.out (fun _ hf => Kd.F_step hf s.eq)) m⟩
theorem vf (F : Aside0 (Kd.V d e w0 base ok v xs)) (s : St ok w0 W := by exact sq) (m : ∀ k, ok k → ok' k := by exact mq) : Aside0 (Kd.V d e W base ok' v xs) := ⟨Kd.V_mono (Kd.V_map F.out (fun _ hf => Kd.F_step hf s.eq)) m⟩
theorem vh (F : Aside0 (Kd.V d e w0 base ok v xs)) (hw : w1 = W) (s : St ok w0 W := by exact sq) : Aside0 (Kd.V d e w1 base ok v xs) := ⟨hw ▸ Kd.V_map F.out (fun _ hf => Kd.F_step hf s.eq)⟩
theorem vw (F : Aside0 (Kd.V d e w0 base ok v xs)) (hb : Below W.heap.size W w2) (s : St ok w0 W := by exact sq) : Aside0 (Kd.V d e w2 base ok v xs) := ⟨Kd.V_below (Kd.V_map F.out (fun _ hf => Kd.F_step hf s.eq)) hb⟩
theorem vb (F : Aside0 (Kd.V d e w0 base ok v xs)) (hg : g = W.heap.size) (hb : Below W.heap.size W w2) (s : St ok w0 W := by exact sq) : Aside0 (Kd.V d e w2 base (fun k => ok k ∧ k ≠ g) v xs) := ⟨Kd.V_below (Kd.V_elderB (Kd.V_map F.out (fun _ hf => Kd.F_step hf s.eq)) g (Nat.le_of_eq hg.symm)) hb⟩
theorem ve (F : Aside0 (Kd.V d e w0 base ok v xs)) (hb : Below W.heap.size W w2) (hu : ∀ k, u.ownBlock = some k → W.heap.size ≤ k := by first | exact Kd.N_base ho0 | exact Kd.R_base ho0) (s : St ok w0 W := by exact sq) : Aside0 (Kd.V d e w2 base (fun k => ok k ∧ some k ≠ u.ownBlock) v xs) := ⟨Kd.V_elder' (Kd.V_map F.out (fun _ hf => Kd.F_step hf s.eq)) hu hb⟩
theorem va (F : Aside0 (Kd.V d e w0 base ok v xs)) (hg : W.grownBy w2 u.ownBlock) (hat : vv.ownBlock = u.ownBlock ∨ ∃ b, vv.ownBlock = some b ∧ W.heap.size ≤ b) (okT : Nat → Prop) (s : St ok w0 W := by exact sq) (m : ∀ k, ok k → okT k ∧ some k ≠ u.ownBlock := by exact mq) : Aside0 (Kd.V d e w2 base (fun k => okT k ∧ some k ≠ vv.ownBlock) v xs) := ⟨Kd.V_afterv (Kd.V_mono (Kd.V_map F.out (fun _ hf => Kd.F_step hf s.eq)) m) hg hat⟩
theorem kn (F : Aside0 (Kd.N d e w0 base ok v xs)) (hk : KeepBut W w2 g none) (s : St ok w0 W := by exact sq) (m : ∀ k, ok k → k ≠ g := by exact mq) : Aside0 (Kd.N d e w2 base ok v xs) := ⟨Kd.N_keep (Kd.N_step F.out s.eq) hk m⟩
theorem kv (F : Aside0 (Kd.V d e w0 base ok v xs)) (hk : KeepBut W w2 g none) (s : St ok w0 W := by exact sq) (m : ∀ k, ok k → k ≠ g := by exact mq) : Aside0 (Kd.V d e w2 base ok v xs) := ⟨Kd.V_keep (Kd.V_step F.out s.eq) hk m⟩
theorem fr (F : Aside0 (Kd.N d e w0 base ok v xs)) (k : Nat) (hk : W.heap.size ≤ k) (s : St (fun _ => False) w0 W := by exact sq) : some k ≠ v.ownBlock := fun h => by have := Kd.N_lt F.out k h.symm; have := s.le; omega
theorem cb (F : Aside0 (d.C w0 A n xs)) (hb : Below W.heap.size W w2) (s : Below w0.heap.size w0 W := by repeat (first | (with_reducible first | exact Below.refl _ _ | apply below_alloc | apply pw_below_drewN | apply below_drew1) | exact Below.refl _ _)) : Aside0 (d.C w2 A n xs) := ⟨Kd.C_below (Kd.C_below F.out s) hb⟩
theorem cq (F : d.C w0 A n xs) (s : Below w0.heap.size w0 W := by repeat (first | (with_reducible first | exact Below.refl _ _ | apply below_alloc | apply pw_below_drewN | apply below_drew1) | exact Below.refl _ _)) : d.C W A n xs := Kd.C_below F s
end
abbrev tt : Bool := true
abbrev ff : Bool := false
theorem rq {p : Prop} (h : p := by first | rfl | (simp; done) | (simp [*]; done)) : p := h
theorem od {p : Prop} [Decidable p] (h : decide p = true := by first | (with_reducible assumption) | assumption) : p := of_decide_eq_true h
theorem km {a b : Nat} (h : a ≤ b := by (try have := HK1.out); (try have := HK2.out); (try have := HK3.out); (try have := HK4.out); (try have := HK5.out); (try have := HK6.out); omega) : Aside0 (a ≤ b) := ⟨h⟩
theorem hc {w W : World} {a : Addr} {v : Value} (B : Aside0 (Below w.heap.size w W)) (h : w.cell? a = some v) : W.cell? a = some v := (B.out.cell (World.block_lt_of_cell? w _ h)).trans h
theorem tz : ((0 : Int)).toNat = 0 := rfl
theorem z3 : 0 * 3 = 0 := rfl
theorem z4 : 0 * 4 = 0 := rfl
theorem zq {w W : World} {b : Nat} (h : w.heap.size ≤ b := by first | exact below_size bq | exact keep_size kq) : w.heap.size ≤ b := h
theorem nm {α : Type} {d : Kd α} {e b : Nat} {v : Value} {xs : List α} {w w2 B_ : World} {ok : Nat → Prop} (B : Aside0 (Below w.heap.size w B_)) (ho : Kd.N d e w2 b ok v xs) (ok' : Nat → Prop) (m : ∀ k, ok k → ok' k) (hz : w.heap.size ≤ b := by exact below_size bq) : Aside0 (Kd.N d e w2 w.heap.size ok' v xs) := ⟨Kd.N_lower (Kd.N_mono ho m) hz⟩
theorem nk {α : Type} {d : Kd α} {e b : Nat} {v : Value} {xs : List α} {w w2 B_ : World} {g : Nat} {ok : Nat → Prop} (B : Aside0 (KeepBut w B_ g none)) (ho : Kd.N d e w2 b ok v xs) (ok' : Nat → Prop) (m : ∀ k, ok k → ok' k) (hz : w.heap.size ≤ b := by exact keep_size kq) : Aside0 (Kd.N d e w2 w.heap.size ok' v xs) := ⟨Kd.N_lower (Kd.N_mono ho m) hz⟩
section
variable {P : Program} {ops : Array Oper} {Q : Exit → Act → World → Prop} {md : Region.Mode} {S : World → Prop} {ds : List Nat} {i fuel n : Nat} {N : Option Tmp} {oi : Oper} {v : Value} {l : Array Bool} {a a' : Act} {w w1 : World} {T : Bool × List (List Nat × List Nat)} {B : List Nat}
theorem pu (l' : Array Bool) (hT : Aside0 (rtab md ops = T)) (h : wpAnyLast P md ops Q S ds fuel l' a' w) (hi : ops[i]? = some oi := by exact rfl) (hN : oi.dst = N := by exact rfl) (hc : anyT T l.toList l'.toList i = true := by kernel_rfl)
    (hQ : ∀ c a w, Q (.panic c) (a.put oi.dst v) w → Q (.panic c) a w := by exact fun _ _ _ h => h) (hy : Yields P ops oi v a := by refine Or.inl ⟨by rfl, ?_⟩; intro w'; go_simp; with_reducible rfl)
    (ha : a.put N v = a' := by simp only [Act.put, List.setIfInBounds_toArray, List.set_cons_zero, List.set_cons_succ, i64_w, i32_w]; rfl) : wpAnyLast P md ops Q S ds (fuel + 1) l a w := pure_ l' hi hN (any_of hT.out hc) hQ hy ha h
theorem pr (l' : Array Bool) (hT : Aside0 (rtab md ops = T)) (h : wpAnyLast P md ops Q S ds fuel l' a' w) (hi : ops[i]? = some oi := by exact rfl) (hN : oi.dst = N := by exact rfl) (hc : anyT T l.toList l'.toList i = true := by kernel_rfl)
    (hQ : ∀ c a w, Q (.panic c) (a.put oi.dst undef) w → Q (.panic c) a w := by exact fun _ _ _ h => h) (hy : Yields P ops oi undef a := by exact Or.inr ⟨by rfl, rfl⟩)
    (ha : a.put N undef = a' := by simp only [Act.put, List.setIfInBounds_toArray, List.set_cons_zero, List.set_cons_succ, i64_w, i32_w]; rfl) : wpAnyLast P md ops Q S ds (fuel + 1) l a w := pure_ l' hi hN (any_of hT.out hc) hQ hy ha h
theorem tk (l' : Array Bool) (hT : Aside0 (rtab md ops = T)) (hB : Aside0 (waitsOk T.2 B = true)) (hS : S w) (h : wpAnyLast P md ops Q S ds fuel l' a' w) (hi : ops[i]? = some oi := by exact rfl) (hN : oi.dst = N := by exact rfl) (hc : takeW T B ds l.toList l'.toList i = true := by kernel_rfl)
    (hQ : ∀ c a w, Q (.panic c) (a.put oi.dst v) w → Q (.panic c) a w := by exact fun _ _ _ h => h) (hy : YieldsIf P ops S oi v a := by refine Or.inl ⟨by rfl, ?_⟩; intro w' hS_; (repeat (obtain ⟨_, hS_⟩ := hS_)); go_simp; with_reducible rfl)
    (ha : a.put N v = a' := by simp only [Act.put, List.setIfInBounds_toArray, List.set_cons_zero, List.set_cons_succ, i64_w, i32_w]; rfl) : wpAnyLast P md ops Q S ds (fuel + 1) l a w := take_ l' hi hN (take_ofW hT.out hB.out hc) hQ hy hS ha h
theorem on (l' : Array Bool) (hT : Aside0 (rtab md ops = T)) (h : ∀ K : Act → World → Prop, Shut (∀ a' w', S w' → (S w' → wpAnyLast P md ops Q S ds fuel l' a' w') → K a' w') → if Region.wanted oi (yielded ops a.tmps) = true then Oper.wp P oi a w K Q else K (a.put N undef) w) (hi : ops[i]? = some oi := by exact rfl) (hN : oi.dst = N := by exact rfl) (hc : (readyT T.2 l.toList == [i] && l.toList.set i true == l'.toList) = true := by kernel_rfl) (hd : i ∉ ds := by decide) : wpAnyLast P md ops Q S ds (fuel + 1) l a w := one_ l' hi hN (one_of hT.out hc) hd h
theorem la (l' : Array Bool) (hT : Aside0 (rtab md ops = T)) (h : ∀ K : Act → World → Prop, Shut (∀ a' w', wpAnyLast P md ops Q S ds fuel l' a' w' → K a' w') → if Region.wanted oi (yielded ops a.tmps) = true then Oper.wp P oi a w K Q else K (a.put N undef) w) (hi : ops[i]? = some oi := by exact rfl) (hN : oi.dst = N := by exact rfl) (hc : (readyT T.2 l.toList == [i] && l.toList.set i true == l'.toList) = true := by kernel_rfl) (hd : i ∈ ds := by decide) : wpAnyLast P md ops Q S ds (fuel + 1) l a w := last_ l' hi hN (one_of hT.out hc) hd h
theorem gl {rest : List Oper} (N : Option Tmp) {f : FuncId} {fn : Func} (hf : P.funcs[f]? = some fn) {os : Array Operand} {ts : Array TypeId} (args : Array Value) (h : Calls P f args w fun e w' => ∃ v, e = .returned v ∧ wpList P ops Q rest (a.put N v) w') (hd : oi.dst = N := by exact rfl) (hg : oi.guard = none := by exact rfl) (hop : oi.op = .call { callee := .value (.func f), args := os, argTypes := ts } := by exact rfl)
    (hname : (fn.name == "runtime.NumGoroutine") = false := by kernel_rfl) (hb : fn.body.isSome = true := by exact rfl) (hargs : os.map a.eval = args := by (try simp only [List.map_toArray, List.map_cons, List.map_nil]); first | done | rfl | (simp only [List.length_drop, List.length_take]; rfl)) : wpList P ops Q (oi :: rest) a w := goesL_ N hd hg hf hname hb args hop hargs h
theorem bx {rest : List Oper} {cs : Array Value} {t : TypeId} (h : ∀ g, g = w.heap.size → ∀ w1, w1.heap[g]? = some (.cells cs t (0, 0)) → Below w.heap.size w w1 → wpList P ops Q rest (a.put oi.dst (.pointer (some ⟨g, 0, none⟩))) w1) (hgd : oi.guard = none := by exact rfl)
    (hrun : (execOp a.eval oi).run P w = .ok (.value (.pointer (some ⟨w.heap.size, 0, none⟩))) (w.alloc (.cells cs t (0, 0))) := by first | (go_simp; done) | (go_simp; rfl)) : wpList P ops Q (oi :: rest) a w :=
  Kd.event_run hgd hrun (h _ rfl _ (blk_new w _) (below_alloc (Below.refl _ _) _))
theorem se {rest : List Oper} (w1 : World) (h : ∀ w', w' = w1 → wpList P ops Q rest a w') (hgd : oi.guard = none := by exact rfl) (hN : oi.dst = none := by exact rfl) (hrun : (execOp a.eval oi).run P w = .ok .skip w1 := by first | (go_simp; done) | (go_simp; rfl)) : wpList P ops Q (oi :: rest) a w := by
  refine wpList_plain hgd fun K hK => ?_
  unfold Oper.wp
  rw [hrun]
  show K (a.put oi.dst undef) w1
  rw [hN]
  exact hK _ _ (h _ rfl)
end
end Go.Proofs.Ytfnmjecofgeboaa.PAll
