/- PLAIN LAWS OF MESSAGES, 1: nodes and shape: what both programs call a message. -/
import Derived.Test.YtlcladalpjcegaaDoorPAllx2
import Derived.Test.YtlcladalpjcegaaDoorPAllx3
import Derived.Test.YtlcladalpjcegaaDoorHa2
namespace Go.Proofs.YtlcladalpjcegaaDoor.PAll
set_option linter.unusedVariables false
open Go.RowKit Go.Proofs.YtlcladalpjcegaaDoorW.PrintWords Go.Proofs.YtlcladalpjcegaaDoorW.PrintLast Go.Proofs.YtlcladalpjcegaaDoorW.PrintMore

mutual
def nodes : S25 → Nat
  | ⟨_, _, l⟩ => 1 + nodesL l
def nodesL : List S25 → Nat
  | [] => 0
  | x :: xs => nodes x + nodesL xs
end
theorem nodes_eq (t : S25) : nodes t = 1 + nodesL t.f2 := by cases t; simp [nodes]
theorem nodes_pos (t : S25) : 1 ≤ nodes t := by rw [nodes_eq]; omega
theorem nodesL_drop : ∀ (l : List S25) (i : Nat) (h : i < l.length), nodesL (l.drop i) = nodes l[i] + nodesL (l.drop (i + 1))
  | x :: xs, 0, _ => by simp [nodesL]
  | x :: xs, i + 1, h => by simpa using nodesL_drop xs i (by simpa using h)
theorem nodesL_get : ∀ (l : List S25) (i : Nat) (h : i < l.length), nodes l[i] ≤ nodesL l
  | x :: xs, 0, _ => by simp [nodesL]
  | x :: xs, i + 1, h => by have := nodesL_get xs i (by simpa using h); simp [nodesL]; omega
theorem nodesL_len : ∀ l : List S25, l.length ≤ nodesL l
  | [] => by simp [nodesL]
  | x :: xs => by have := nodesL_len xs; have := nodes_pos x; simp [nodesL]; omega
theorem nodes_mem {x : S25} : ∀ {l : List S25}, x ∈ l → nodes x ≤ nodesL l
  | y :: ys, h => by
    rcases List.mem_cons.1 h with rfl | h
    · simp [nodesL]
    · have := nodes_mem h; simp [nodesL]; omega
theorem rd25 (l : List S25) (i : Nat) (h : i < l.length) : rd_T25 l (i : Int) = l[i] := by
  simp [rd_T25, List.getD_eq_getElem?_getD, h]
theorem wr {x : Int} (h0 : -9223372036854775808 ≤ x) (h1 : x ≤ 9223372036854775807) : wrap64 x = x := by unfold wrap64; omega

/-! ### impl.sealNodes: the nodes, as far as they are not too many -/
theorem ev_nodes_l (N : Nat) (ih : ∀ t : S25, nodes t ≤ N → ∀ most : Int, 0 ≤ most → most ≤ 1099511627776 → nodes t ≤ 1099511627776 →
      ∃ r : Int, Ev (fun k => impl_sealNodes.f k t.f0 t.f1 t.f2 most) r ∧ 1 ≤ r ∧ r ≤ nodes t ∧ ((nodes t : Int) ≤ most → r = nodes t) ∧ (most < nodes t → most < r))
    (l : List S25) (hl : nodesL l ≤ N) (most : Int) (h0 : 0 ≤ most) (hm : most ≤ 1099511627776) (hL : nodesL l ≤ 1099511627776) : ∀ (d i : Nat) (n : Int), l.length - i = d → i ≤ l.length → 1 ≤ n → n + nodesL (l.drop i) ≤ 2199023255552 →
    ∃ r : Int, Ev (fun k => impl_sealNodes.l0 k most n l (l.length : Int) (i : Int)) r ∧ n ≤ r ∧ r ≤ n + nodesL (l.drop i) ∧ (n + nodesL (l.drop i) ≤ most → r = n + nodesL (l.drop i)) ∧ (most < n + nodesL (l.drop i) → most < r) := by
  have hlen := nodesL_len l
  intro d
  induction d with
  | zero =>
    intro i n hd hi hn hb
    have hil : i = l.length := by omega
    subst hil
    refine ⟨n, Ev.step (f := fun _ => some n) (fun k => by simp only [impl_sealNodes.l0]; rw [if_neg (by omega)]) (Ev.now _), ?_⟩
    simp [List.drop_length, nodesL]
  | succ d ihd =>
    intro i n hd hi hn hb
    have hlt : i < l.length := by omega
    have hdr := nodesL_drop l i hlt
    have hge := nodesL_get l i hlt
    by_cases hgt : n > most
    · refine ⟨n, Ev.step (f := fun _ => some n) (fun k => by simp only [impl_sealNodes.l0]; rw [if_pos (by omega), if_pos (by omega), if_pos (by omega), if_pos hgt]) (Ev.now _), by omega, by omega, by omega, by omega⟩
    · obtain ⟨r1, e1, a1, a2, a3, a4⟩ := ih l[i] (by omega) (most - n) (by omega) (by omega) (by omega)
      obtain ⟨r, e, b1, b2, b3, b4⟩ := ihd (i + 1) (n + r1) (by omega) (by omega) (by omega) (by omega)
      refine ⟨r, ?_, by omega, by omega, ?_, ?_⟩
      · refine Ev.step (f := fun k => (impl_sealNodes.f k l[i].f0 l[i].f1 l[i].f2 (most - n)).bind fun t => impl_sealNodes.l0 k most (wrap64 (n + t)) l (l.length : Int) ((i + 1 : Nat) : Int)) (fun k => ?_) (Ev.bind e1 ?_)
        · simp only [impl_sealNodes.l0]
          rw [if_pos (by omega), if_pos (by omega), if_pos (by omega), if_neg hgt, rd25 l i hlt, wr (by omega) (by omega), wr (x := (i : Int) + 1) (by omega) (by omega)]
          rfl
        · rw [wr (by omega) (by omega)]; exact e
      · intro h; omega
      · intro h; omega
theorem ev_nodes : ∀ (N : Nat) (t : S25), nodes t ≤ N → ∀ most : Int, 0 ≤ most → most ≤ 1099511627776 → nodes t ≤ 1099511627776 →
      ∃ r : Int, Ev (fun k => impl_sealNodes.f k t.f0 t.f1 t.f2 most) r ∧ 1 ≤ r ∧ r ≤ nodes t ∧ ((nodes t : Int) ≤ most → r = nodes t) ∧ (most < nodes t → most < r) := by
  intro N
  induction N with
  | zero => intro t h; have := nodes_pos t; omega
  | succ N ih =>
    intro t ht most h0 hm hL
    rw [nodes_eq] at ht hL ⊢
    obtain ⟨r, e, h1, h2, h3, h4⟩ := ev_nodes_l N ih t.f2 (by omega) most h0 hm (by omega) t.f2.length 0 1 (by omega) (by omega) (by omega) (by simp; omega)
    refine ⟨r, Ev.step (fun k => rfl) e, by omega, ?_, ?_, ?_⟩
    · simp at h2; omega
    · intro h; simp at h3; have := h3 (by omega); omega
    · intro h; simp at h4; exact h4 (by omega)

/-! ### the shape -/
/-- A message: a name, or two messages, together or one shut with the other. -/
inductive Msg where
  | nm (n : Nat)
  | pr (a b : Msg)
  | sh (a b : Msg)
deriving DecidableEq
def Msg.tree : Msg → S25
  | .nm n => ⟨0, n, []⟩
  | .pr a b => ⟨1, 0, [a.tree, b.tree]⟩
  | .sh a b => ⟨2, 0, [a.tree, b.tree]⟩
def Msg.fits : Msg → Prop
  | .nm n => n ≤ 9
  | .pr a b => a.fits ∧ b.fits
  | .sh a b => a.fits ∧ b.fits
mutual
def shp : S25 → Bool
  | ⟨op, n, l⟩ => if op = 0 then decide (0 ≤ n) && decide (n ≤ 9) && l.length == 0 else if op = 1 ∨ op = 2 then n == 0 && l.length == 2 && shpL l else false
def shpL : List S25 → Bool
  | [] => true
  | x :: xs => shp x && shpL xs
end
theorem shp_eq (t : S25) : shp t = if t.f0 = 0 then decide (0 ≤ t.f1) && decide (t.f1 ≤ 9) && t.f2.length == 0 else if t.f0 = 1 ∨ t.f0 = 2 then t.f1 == 0 && t.f2.length == 2 && shpL t.f2 else false := by cases t; simp [shp]
theorem shpL_drop : ∀ (l : List S25) (i : Nat) (h : i < l.length), shpL (l.drop i) = (shp l[i] && shpL (l.drop (i + 1)))
  | x :: xs, 0, _ => by simp [shpL]
  | x :: xs, i + 1, h => by simpa using shpL_drop xs i (by simpa using h)
theorem shp_tree : ∀ m : Msg, m.fits → shp m.tree = true
  | .nm n, h => by have : n ≤ 9 := h; simp [shp_eq, Msg.tree]; omega
  | .pr a b, h => by simp [Msg.tree, shp, shpL, shp_tree a h.1, shp_tree b h.2]
  | .sh a b, h => by simp [Msg.tree, shp, shpL, shp_tree a h.1, shp_tree b h.2]
theorem of_shp : ∀ (N : Nat) (t : S25), nodes t ≤ N → shp t = true → ∃ m : Msg, m.fits ∧ m.tree = t := by
  intro N
  induction N with
  | zero => intro t h; have := nodes_pos t; omega
  | succ N ih =>
    intro t ht hs
    rw [nodes_eq] at ht
    obtain ⟨op, n, l⟩ := t
    rw [shp_eq] at hs
    simp only at hs ht
    by_cases h0 : op = 0
    · subst h0
      simp only [if_true, Bool.and_eq_true, decide_eq_true_eq, beq_iff_eq, List.length_eq_zero_iff] at hs
      obtain ⟨⟨h1, h2⟩, rfl⟩ := hs
      refine ⟨.nm n.toNat, ?_, ?_⟩
      · show n.toNat ≤ 9; omega
      · simp only [Msg.tree]; congr 1; omega
    · rw [if_neg h0] at hs
      split at hs
      · rename_i h12
        simp only [Bool.and_eq_true, beq_iff_eq] at hs
        obtain ⟨⟨rfl, h2⟩, hl⟩ := hs
        obtain ⟨x, y, rfl⟩ : ∃ x y, l = [x, y] := by
          match l, h2 with
          | [x, y], _ => exact ⟨x, y, rfl⟩
        simp only [shpL, Bool.and_true, Bool.and_eq_true] at hl
        simp only [nodesL] at ht
        have hpx := nodes_pos x
        obtain ⟨a, ha, rfl⟩ := ih x (by omega) hl.1
        obtain ⟨b, hb, rfl⟩ := ih y (by omega) hl.2
        rcases h12 with rfl | rfl
        · exact ⟨.pr a b, ⟨ha, hb⟩, rfl⟩
        · exact ⟨.sh a b, ⟨ha, hb⟩, rfl⟩
      · exact absurd hs (by simp)

theorem ev_shape : ∀ (N : Nat) (t : S25), nodes t ≤ N → Ev (fun k => impl_sealShape.f k t.f0 t.f1 t.f2) (shp t) := by
  intro N
  induction N with
  | zero => intro t h; have := nodes_pos t; omega
  | succ N ih =>
    intro t ht
    rw [nodes_eq] at ht
    obtain ⟨op, n, l⟩ := t
    simp only at ht ⊢
    have hj : ∀ b : Bool, Ev (fun k => impl_sealShape.j0 k b op n l) (b && (n == 0 && l.length == 2 && shpL l)) := by
      intro b
      cases b with
      | false => exact Ev.step (f := fun _ => some false) (fun k => by simp only [impl_sealShape.j0]; rfl) (by simpa using Ev.now false)
      | true =>
        by_cases hn : n = 0
        · by_cases hl : (l.length : Int) = 2
          · obtain ⟨x, y, rfl⟩ : ∃ x y, l = [x, y] := by
              match l, (show l.length = 2 by omega) with
              | [x, y], _ => exact ⟨x, y, rfl⟩
            simp only [nodesL] at ht
            have hx := ih x (by omega)
            have hy := ih y (by have := nodes_pos x; omega)
            refine Ev.step (f := fun k => (impl_sealShape.f k x.f0 x.f1 x.f2).bind fun t151 => (if t151 = true then ((impl_sealShape.f k y.f0 y.f1 y.f2).bind fun t153 => (some t153)) else (some false))) (fun k => by
              simp only [impl_sealShape.j0]
              rw [if_pos trivial, if_pos hn, if_pos hl, if_pos (by omega)]
              simp only [show rd_T25 [x, y] 0 = x from rfl, show rd_T25 [x, y] 1 = y from rfl, if_pos (show (1 : Int) < (([x, y] : List S25).length : Int) by simp)]) ?_
            have he : (true && (n == 0 && ([x, y] : List S25).length == 2 && shpL [x, y])) = (shp x && shp y) := by simp [hn, shpL]
            rw [he]
            refine Ev.bind (f := fun k t151 => (if t151 = true then ((impl_sealShape.f k y.f0 y.f1 y.f2).bind fun t153 => (some t153)) else (some false))) hx ?_
            cases hsx : shp x with
            | false => exact Ev.congr (f := fun _ => some false) (fun k => by rw [if_neg (by simp)]) (by simpa using Ev.now false)
            | true =>
              refine Ev.congr (f := fun k => (impl_sealShape.f k y.f0 y.f1 y.f2).bind fun t153 => some t153) (fun k => by rw [if_pos rfl]) ?_
              rw [Bool.true_and]
              exact Ev.bind (f := fun _ b => some b) hy (Ev.now _)
          · refine Ev.step (f := fun _ => some false) (fun k => by simp only [impl_sealShape.j0]; rw [if_pos trivial, if_pos hn, if_neg hl]) ?_
            have : (true && (n == 0 && l.length == 2 && shpL l)) = false := by simp; intro _ h; omega
            rw [this]; exact Ev.now _
        · refine Ev.step (f := fun _ => some false) (fun k => by simp only [impl_sealShape.j0]; rw [if_pos trivial, if_neg hn]) ?_
          have : (true && (n == 0 && l.length == 2 && shpL l)) = false := by simp [hn]
          rw [this]; exact Ev.now _
    rw [shp_eq]
    simp only
    by_cases h0 : op = 0
    · rw [if_pos h0]
      by_cases h1 : n ≥ 0
      · by_cases h9 : n ≤ 9
        · refine Ev.step (f := fun _ => some ((l.length : Int) == 0)) (fun k => by simp only [impl_sealShape.f]; rw [if_pos h0, if_pos h1, if_pos h9]) ?_
          have : (decide (0 ≤ n) && decide (n ≤ 9) && l.length == 0) = ((l.length : Int) == 0) := by
            rw [decide_eq_true (show 0 ≤ n from h1), decide_eq_true h9]
            cases l <;> simp
            omega
          rw [this]; exact Ev.now _
        · refine Ev.step (f := fun _ => some false) (fun k => by simp only [impl_sealShape.f]; rw [if_pos h0, if_pos h1, if_neg h9]) ?_
          simpa [h9] using Ev.now false
      · refine Ev.step (f := fun _ => some false) (fun k => by simp only [impl_sealShape.f]; rw [if_pos h0, if_neg h1]) ?_
        have : ¬ 0 ≤ n := h1
        simpa [this] using Ev.now false
    · rw [if_neg h0]
      by_cases h1 : op = 1
      · refine Ev.step (f := fun k => impl_sealShape.j0 k (op == 1) op n l) (fun k => by simp only [impl_sealShape.f]; rw [if_neg h0, if_pos h1]) ?_
        have := hj (op == 1)
        rw [if_pos (Or.inl h1)]
        simpa [h1] using this
      · refine Ev.step (f := fun k => impl_sealShape.j0 k (op == 2) op n l) (fun k => by simp only [impl_sealShape.f]; rw [if_neg h0, if_neg h1]) ?_
        have := hj (op == 2)
        by_cases h2 : op = 2
        · rw [if_pos (Or.inr h2)]; simpa [h2] using this
        · rw [if_neg (by omega)]; rw [beq_eq_false_iff_ne.mpr h2] at this ⊢; simpa using this

/-! ### spec.l20Nodes -/
def l20 (t : S25) : Int := if shp t = true then min 1000 (nodes t) else 0
theorem l20_nn (t : S25) : l20 t = 0 ∨ (1 ≤ l20 t ∧ l20 t ≤ 1000) := by
  unfold l20
  have := nodes_pos t
  split
  · right; omega
  · left; rfl
theorem ev_l20_l (a b : Int) (l : List S25) (hlen : l.length ≤ 2) (ih : ∀ x ∈ l, Ev (fun k => spec_l20Nodes.f k x.f0 x.f1 x.f2) (l20 x)) : ∀ (d i : Nat) (n : Int), l.length - i = d → i ≤ l.length → 1 ≤ n → n ≤ 1000 →
    Ev (fun k => spec_l20Nodes.l0 k (l.length : Int) n (i : Int) a b l) (if shpL (l.drop i) = true then min 1000 (n + nodesL (l.drop i)) else 0) := by
  intro d
  induction d with
  | zero =>
    intro i n hd hi h1 h2
    have hil : i = l.length := by omega
    subst hil
    refine Ev.step (f := fun _ => some n) (fun k => by simp only [spec_l20Nodes.l0]; rw [if_neg (by omega)]) ?_
    rw [List.drop_length]
    simp only [shpL, nodesL, if_true]
    rw [show min (1000 : Int) (n + ((0 : Nat) : Int)) = n by omega]
    exact Ev.now _
  | succ d ihd =>
    intro i n hd hi h1 h2
    have hlt : i < l.length := by omega
    have hx := ih l[i] (List.getElem_mem hlt)
    refine Ev.step (f := fun k => (spec_l20Nodes.f k l[i].f0 l[i].f1 l[i].f2).bind fun t => if t = 0 then some 0 else spec_l20Nodes.l0 k (l.length : Int) (mn 1000 (wrap64 (n + t))) ((i + 1 : Nat) : Int) a b l) (fun k => by
      simp only [spec_l20Nodes.l0]
      rw [if_pos (by omega), if_pos (by omega), if_pos (by omega), rd25 l i hlt, wr (x := (i : Int) + 1) (by omega) (by omega)]
      rfl) ?_
    refine Ev.bind (f := fun k t => if t = 0 then some 0 else spec_l20Nodes.l0 k (l.length : Int) (mn 1000 (wrap64 (n + t))) ((i + 1 : Nat) : Int) a b l) hx ?_
    rw [shpL_drop l i hlt, nodesL_drop l i hlt]
    have hp := nodes_pos l[i]
    by_cases hs : shp l[i] = true
    · have h17 : l20 l[i] = min 1000 (nodes l[i] : Int) := by unfold l20; rw [if_pos hs]
      rw [h17]
      have hm : mn 1000 (n + min 1000 (nodes l[i] : Int)) = min 1000 (n + nodes l[i]) := by unfold mn; split <;> omega
      refine Ev.congr (f := fun k => spec_l20Nodes.l0 k (l.length : Int) (min 1000 (n + nodes l[i])) ((i + 1 : Nat) : Int) a b l) (fun k => by rw [if_neg (by omega), wr (by omega) (by omega), hm]) ?_
      have := ihd (i + 1) (min 1000 (n + nodes l[i])) (by omega) (by omega) (by omega) (by omega)
      rw [hs, Bool.true_and]
      have he : (min 1000 (min 1000 (n + (nodes l[i] : Int)) + (nodesL (l.drop (i + 1)) : Int))) = min 1000 (n + ((nodes l[i] + nodesL (l.drop (i + 1)) : Nat) : Int)) := by omega
      rw [he] at this
      exact this
    · have h17 : l20 l[i] = 0 := by unfold l20; rw [if_neg hs]
      rw [h17, Bool.eq_false_iff.mpr hs]
      refine Ev.congr (f := fun k => some 0) (fun k => by rw [if_pos rfl]) ?_
      simpa using Ev.now (0 : Int)
theorem ev_l20 : ∀ (N : Nat) (t : S25), nodes t ≤ N → Ev (fun k => spec_l20Nodes.f k t.f0 t.f1 t.f2) (l20 t) := by
  intro N
  induction N with
  | zero => intro t h; have := nodes_pos t; omega
  | succ N ih =>
    intro t ht
    rw [nodes_eq] at ht
    have hih : ∀ x ∈ t.f2, Ev (fun k => spec_l20Nodes.f k x.f0 x.f1 x.f2) (l20 x) := fun x hx => ih x (by have := nodes_mem hx; omega)
    have key : ∀ (m : Int) (b : Bool), 0 ≤ m → m ≤ 2 → shp t = (decide (0 ≤ t.f0 ∧ t.f0 ≤ 2) && b && (t.f2.length : Int) == m && shpL t.f2) → Ev (fun k => spec_l20Nodes.j0 k m b t.f0 t.f1 t.f2) (l20 t) := by
      intro m b hm0 hm2 hw
      unfold l20
      rw [hw]
      have hin : spec_l6In.f t.f0 0 2 = some (decide (0 ≤ t.f0 ∧ t.f0 ≤ 2)) := by
        unfold spec_l6In.f
        by_cases h4 : 0 ≤ t.f0 <;> simp [h4]
      have hno : Ev (fun k => spec_l20Nodes.j1 k m true t.f0 t.f1 t.f2) (0 : Int) :=
        Ev.step (f := fun _ => some 0) (fun k => by simp only [spec_l20Nodes.j1]; rfl) (Ev.now _)
      by_cases hop : 0 ≤ t.f0 ∧ t.f0 ≤ 2
      · rw [decide_eq_true hop] at hin ⊢
        cases b with
        | false =>
          refine Ev.step (f := fun k => spec_l20Nodes.j1 k m true t.f0 t.f1 t.f2) (fun k => by simp only [spec_l20Nodes.j0, hin]; rfl) ?_
          simpa using hno
        | true =>
          refine Ev.step (f := fun k => spec_l20Nodes.j1 k m ((t.f2.length : Int) != m) t.f0 t.f1 t.f2) (fun k => by simp only [spec_l20Nodes.j0, hin]; rfl) ?_
          by_cases hl : (t.f2.length : Int) = m
          · subst hl
            refine Ev.step (f := fun k => spec_l20Nodes.l0 k (t.f2.length : Int) 1 0 t.f0 t.f1 t.f2) (fun k => by simp only [spec_l20Nodes.j1]; rw [bne_self_eq_false]; rfl) ?_
            have := ev_l20_l t.f0 t.f1 t.f2 (by omega) hih t.f2.length 0 1 (by omega) (by omega) (by omega) (by omega)
            simp only [List.drop_zero, beq_self_eq_true, Bool.true_and, Bool.and_true] at this ⊢
            rw [nodes_eq]
            simpa using this
          · rw [bne_iff_ne.mpr hl]
            simp only [beq_eq_false_iff_ne.mpr hl, Bool.and_false, Bool.false_and]
            simpa using hno
      · rw [decide_eq_false hop] at hin ⊢
        refine Ev.step (f := fun k => spec_l20Nodes.j1 k m true t.f0 t.f1 t.f2) (fun k => by simp only [spec_l20Nodes.j0, hin]; rfl) ?_
        simpa using hno
    by_cases h0 : t.f0 = 0
    · refine Ev.step (f := fun k => (spec_l6In.f t.f1 0 9).bind fun b => spec_l20Nodes.j0 k 0 b t.f0 t.f1 t.f2) (fun k => by simp only [spec_l20Nodes.f]; rw [if_pos h0]) ?_
      have hb : spec_l6In.f t.f1 0 9 = some (decide (0 ≤ t.f1 ∧ t.f1 ≤ 9)) := by
        unfold spec_l6In.f
        by_cases h4 : 0 ≤ t.f1 <;> simp [h4]
      rw [hb]
      simp only [Option.bind_some]
      refine key 0 _ (by omega) (by omega) ?_
      rw [shp_eq, if_pos h0, h0]
      cases hl : t.f2 with
      | nil => simp [shpL]
      | cons x xs => simp; omega
    · refine Ev.step (f := fun k => spec_l20Nodes.j0 k 2 (t.f1 == 0) t.f0 t.f1 t.f2) (fun k => by simp only [spec_l20Nodes.f]; rw [if_neg h0]) (key 2 _ (by omega) (by omega) ?_)
      rw [shp_eq, if_neg h0]
      have hlen : ((t.f2.length : Int) == 2) = (t.f2.length == 2) := by
        rw [Bool.eq_iff_iff, beq_iff_eq, beq_iff_eq]; omega
      rw [hlen]
      by_cases h12 : t.f0 = 1 ∨ t.f0 = 2
      · rw [if_pos h12, decide_eq_true (show 0 ≤ t.f0 ∧ t.f0 ≤ 2 by omega)]; simp
      · rw [if_neg h12, decide_eq_false (show ¬ (0 ≤ t.f0 ∧ t.f0 ≤ 2) by omega)]; simp

/-! ### what both programs call a message -/
def okM (t : S25) : Bool := shp t && decide (nodes t ≤ 12)
theorem ev_specOk (t : S25) : Ev (fun k => spec_SealOk.f k t.f0 t.f1 t.f2) (okM t) := by
  refine Ev.bind (f := fun _ n => (spec_l6In.f n 1 12).bind fun b => some b) (ev_l20 _ t (Nat.le_refl _)) ?_
  have hp := nodes_pos t
  have : ((spec_l6In.f (l20 t) 1 12).bind fun b => some b) = some (okM t) := by
    unfold spec_l6In.f okM l20
    cases hs : shp t with
    | false => simp
    | true =>
      simp only [if_true, Bool.true_and]
      rw [if_pos (by omega)]
      simp only [Option.bind_some]
      congr 1
      rw [decide_eq_decide]
      omega
  rw [this]; exact Ev.now _
theorem ev_implOk (t : S25) (hN : nodes t ≤ 1099511627776) : Ev (fun k => impl_SealOk.f k t.f0 t.f1 t.f2) (okM t) := by
  obtain ⟨r, e, h1, h2, h3, h4⟩ := ev_nodes _ t (Nat.le_refl _) 12 (by omega) (by omega) hN
  refine Ev.bind (f := fun k n => if n ≤ 12 then (impl_sealShape.f k t.f0 t.f1 t.f2).bind fun b => some b else some false) e ?_
  unfold okM
  by_cases hn : nodes t ≤ 12
  · have hr := h3 (by omega)
    rw [show decide (nodes t ≤ 12) = true by simpa using hn, Bool.and_true]
    refine Ev.congr (f := fun k => (impl_sealShape.f k t.f0 t.f1 t.f2).bind fun b => some b) (fun k => by rw [if_pos (by omega)]) ?_
    exact Ev.bind (f := fun _ b => some b) (ev_shape _ t (Nat.le_refl _)) (Ev.now _)
  · have hr := h4 (by omega)
    rw [show decide (nodes t ≤ 12) = false by simpa using hn, Bool.and_false]
    exact Ev.congr (f := fun _ => some false) (fun k => by rw [if_neg (by omega)]) (Ev.now _)
end Go.Proofs.YtlcladalpjcegaaDoor.PAll
