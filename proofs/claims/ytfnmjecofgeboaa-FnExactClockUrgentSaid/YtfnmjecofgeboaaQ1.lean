/- PLAIN LAWS OF TERMS WITH TIME, 1: nodes and shape: what both programs call a term with time. -/
import Derived.Test.YtfnmjecofgeboaaPAllSmall
import Derived.Test.YtfnmjecofgeboaaPAllSOk
import Derived.Test.YtfnmjecofgeboaaHa2
import Derived.Test.YtfnmjecofgeboaaPAllIOk
namespace Go.Proofs.Ytfnmjecofgeboaa.PAll
set_option linter.unusedVariables false
open Go.RowKit Go.Proofs.YtfnmjecofgeboaaW.PrintWords Go.Proofs.YtfnmjecofgeboaaW.PrintLast Go.Proofs.YtfnmjecofgeboaaW.PrintMore

mutual
def nodes : S25 → Nat
  | ⟨_, _, l⟩ => 1 + nodesL l
def nodesL : List S25 → Nat
  | [] => 0
  | x :: xs => nodes x + nodesL xs
end
theorem nodes_eq (t : S25) : nodes t = 1 + nodesL t.f2 := by cases t; simp [nodes]
theorem nodes_pos (t : S25) : 1 ≤ nodes t := by rw [nodes_eq]; omega
theorem nodesL_drop : ∀ (l : List S25) (i : Nat) (h : i < l.length), nodesL (l.drop i) = nodes l[i] + nodesL (l.drop (i + 1))
  | x :: xs, 0, _ => by simp [nodesL]
  | x :: xs, i + 1, h => by simpa using nodesL_drop xs i (by simpa using h)
theorem nodesL_get : ∀ (l : List S25) (i : Nat) (h : i < l.length), nodes l[i] ≤ nodesL l
  | x :: xs, 0, _ => by simp [nodesL]
  | x :: xs, i + 1, h => by have := nodesL_get xs i (by simpa using h); simp [nodesL]; omega
theorem nodesL_len : ∀ l : List S25, l.length ≤ nodesL l
  | [] => by simp [nodesL]
  | x :: xs => by have := nodesL_len xs; have := nodes_pos x; simp [nodesL]; omega
theorem nodes_mem {x : S25} : ∀ {l : List S25}, x ∈ l → nodes x ≤ nodesL l
  | y :: ys, h => by
    rcases List.mem_cons.1 h with rfl | h
    · simp [nodesL]
    · have := nodes_mem h; simp [nodesL]; omega
theorem rd25 (l : List S25) (i : Nat) (h : i < l.length) : rd_T25 l (i : Int) = l[i] := by
  simp [rd_T25, List.getD_eq_getElem?_getD, h]
theorem wr {x : Int} (h0 : -9223372036854775808 ≤ x) (h1 : x ≤ 9223372036854775807) : wrap64 x = x := by unfold wrap64; omega

/-! ### impl.clockNodes: the nodes, as far as they are not too many -/
theorem ev_nodes_l (N : Nat) (ih : ∀ t : S25, nodes t ≤ N → ∀ most : Int, 0 ≤ most → most ≤ 1099511627776 → nodes t ≤ 1099511627776 →
      ∃ r : Int, Ev (fun k => impl_clockNodes.f k t.f0 t.f1 t.f2 most) r ∧ 1 ≤ r ∧ r ≤ nodes t ∧ ((nodes t : Int) ≤ most → r = nodes t) ∧ (most < nodes t → most < r))
    (l : List S25) (hl : nodesL l ≤ N) (most : Int) (h0 : 0 ≤ most) (hm : most ≤ 1099511627776) (hL : nodesL l ≤ 1099511627776) : ∀ (d i : Nat) (n : Int), l.length - i = d → i ≤ l.length → 1 ≤ n → n + nodesL (l.drop i) ≤ 2199023255552 →
    ∃ r : Int, Ev (fun k => impl_clockNodes.l0 k most n l (l.length : Int) (i : Int)) r ∧ n ≤ r ∧ r ≤ n + nodesL (l.drop i) ∧ (n + nodesL (l.drop i) ≤ most → r = n + nodesL (l.drop i)) ∧ (most < n + nodesL (l.drop i) → most < r) := by
  have hlen := nodesL_len l
  intro d
  induction d with
  | zero =>
    intro i n hd hi hn hb
    have hil : i = l.length := by omega
    subst hil
    refine ⟨n, Ev.step (f := fun _ => some n) (fun k => by simp only [impl_clockNodes.l0]; rw [if_neg (by omega)]) (Ev.now _), ?_⟩
    simp [List.drop_length, nodesL]
  | succ d ihd =>
    intro i n hd hi hn hb
    have hlt : i < l.length := by omega
    have hdr := nodesL_drop l i hlt
    have hge := nodesL_get l i hlt
    by_cases hgt : n > most
    · refine ⟨n, Ev.step (f := fun _ => some n) (fun k => by simp only [impl_clockNodes.l0]; rw [if_pos (by omega), if_pos (by omega), if_pos (by omega), if_pos hgt]) (Ev.now _), by omega, by omega, by omega, by omega⟩
    · obtain ⟨r1, e1, a1, a2, a3, a4⟩ := ih l[i] (by omega) (most - n) (by omega) (by omega) (by omega)
      obtain ⟨r, e, b1, b2, b3, b4⟩ := ihd (i + 1) (n + r1) (by omega) (by omega) (by omega) (by omega)
      refine ⟨r, ?_, by omega, by omega, ?_, ?_⟩
      · refine Ev.step (f := fun k => (impl_clockNodes.f k l[i].f0 l[i].f1 l[i].f2 (most - n)).bind fun t => impl_clockNodes.l0 k most (wrap64 (n + t)) l (l.length : Int) ((i + 1 : Nat) : Int)) (fun k => ?_) (Ev.bind e1 ?_)
        · simp only [impl_clockNodes.l0]
          rw [if_pos (by omega), if_pos (by omega), if_pos (by omega), if_neg hgt, rd25 l i hlt, wr (by omega) (by omega), wr (x := (i : Int) + 1) (by omega) (by omega)]
          rfl
        · rw [wr (by omega) (by omega)]; exact e
      · intro h; omega
      · intro h; omega
theorem ev_nodes : ∀ (N : Nat) (t : S25), nodes t ≤ N → ∀ most : Int, 0 ≤ most → most ≤ 1099511627776 → nodes t ≤ 1099511627776 →
      ∃ r : Int, Ev (fun k => impl_clockNodes.f k t.f0 t.f1 t.f2 most) r ∧ 1 ≤ r ∧ r ≤ nodes t ∧ ((nodes t : Int) ≤ most → r = nodes t) ∧ (most < nodes t → most < r) := by
  intro N
  induction N with
  | zero => intro t h; have := nodes_pos t; omega
  | succ N ih =>
    intro t ht most h0 hm hL
    rw [nodes_eq] at ht hL ⊢
    obtain ⟨r, e, h1, h2, h3, h4⟩ := ev_nodes_l N ih t.f2 (by omega) most h0 hm (by omega) t.f2.length 0 1 (by omega) (by omega) (by omega) (by simp; omega)
    refine ⟨r, Ev.step (fun k => rfl) e, by omega, ?_, ?_, ?_⟩
    · simp at h2; omega
    · intro h; simp at h3; have := h3 (by omega); omega
    · intro h; simp at h4; exact h4 (by omega)

/-! ### the shape -/
mutual
def shp : S25 → Bool
  | ⟨op, n, l⟩ => match shapeWant op n with
    | none => false
    | some m => (l.length : Int) == m && shpL l
def shpL : List S25 → Bool
  | [] => true
  | x :: xs => shp x && shpL xs
end
theorem shp_eq (t : S25) : shp t = match shapeWant t.f0 t.f1 with
    | none => false
    | some m => (t.f2.length : Int) == m && shpL t.f2 := by cases t; simp [shp]
theorem shpL_drop : ∀ (l : List S25) (i : Nat) (h : i < l.length), shpL (l.drop i) = (shp l[i] && shpL (l.drop (i + 1)))
  | x :: xs, 0, _ => by simp [shpL]
  | x :: xs, i + 1, h => by simpa using shpL_drop xs i (by simpa using h)
theorem ev_anyO {α : Type} (p : Nat → α → Option Bool) (q : α → Bool) : ∀ l : List α, (∀ x ∈ l, Ev (fun k => p k x) (q x)) → Ev (fun k => anyO (p k) l) (l.any q)
  | [], _ => Ev.now _
  | x :: xs, h => by
    have h1 := h x (List.mem_cons_self ..)
    have h2 := ev_anyO p q xs (fun y hy => h y (List.mem_cons_of_mem _ hy))
    simp only [anyO, List.any_cons]
    refine Ev.bind (f := fun k b => if b = true then some true else anyO (p k) xs) h1 ?_
    cases q x with
    | true => exact Ev.now _
    | false => simpa using h2
theorem any_shp : ∀ l : List S25, l.any (fun x => !shp x) = !shpL l
  | [] => rfl
  | x :: xs => by simp [shpL, any_shp xs]
theorem ev_shape : ∀ (N : Nat) (t : S25), nodes t ≤ N → Ev (fun k => impl_clockShape.f k t.f0 t.f1 t.f2) (shp t) := by
  intro N
  induction N with
  | zero => intro t h; have := nodes_pos t; omega
  | succ N ih =>
    intro t ht
    rw [nodes_eq] at ht
    rw [shp_eq]
    cases hw : shapeWant t.f0 t.f1 with
    | none => exact Ev.step (f := fun _ => some false) (fun k => by simp only [impl_clockShape.f, hw]) (Ev.now _)
    | some m =>
      dsimp only
      by_cases hl : (t.f2.length : Int) = m
      · refine Ev.step (f := fun k => (anyO (fun x => (impl_clockShape.f k x.f0 x.f1 x.f2).bind fun b => some (!b)) t.f2).bind fun r => some (!r)) (fun k => by simp only [impl_clockShape.f, hw]; rw [if_pos hl]) ?_
        have h1 := ev_anyO (fun k x => (impl_clockShape.f k x.f0 x.f1 x.f2).bind fun b => some (!b)) (fun x => !shp x) t.f2 (fun x hx => Ev.bind (f := fun _ b => some (!b)) (ih x (by have := nodes_mem hx; omega)) (Ev.now _))
        rw [any_shp] at h1
        refine Ev.bind (f := fun _ r => some (!r)) h1 ?_
        rw [beq_iff_eq.mpr hl]
        simpa using Ev.now (shpL t.f2)
      · rw [beq_eq_false_iff_ne.mpr hl]
        exact Ev.step (f := fun _ => some false) (fun k => by simp only [impl_clockShape.f, hw]; rw [if_neg hl]) (Ev.now _)

/-! ### spec.l17Nodes -/
def l17 (t : S25) : Int := if shp t = true then min 1000 (nodes t) else 0
theorem l17_nn (t : S25) : l17 t = 0 ∨ (1 ≤ l17 t ∧ l17 t ≤ 1000) := by
  unfold l17
  have := nodes_pos t
  split
  · right; omega
  · left; rfl
theorem ev_l17_l (a b : Int) (l : List S25) (hlen : l.length ≤ 2) (ih : ∀ x ∈ l, Ev (fun k => spec_l17Nodes.f k x.f0 x.f1 x.f2) (l17 x)) : ∀ (d i : Nat) (n : Int), l.length - i = d → i ≤ l.length → 1 ≤ n → n ≤ 1000 →
    Ev (fun k => spec_l17Nodes.l0 k (l.length : Int) n (i : Int) a b l) (if shpL (l.drop i) = true then min 1000 (n + nodesL (l.drop i)) else 0) := by
  intro d
  induction d with
  | zero =>
    intro i n hd hi h1 h2
    have hil : i = l.length := by omega
    subst hil
    refine Ev.step (f := fun _ => some n) (fun k => by simp only [spec_l17Nodes.l0]; rw [if_neg (by omega)]) ?_
    rw [List.drop_length]
    simp only [shpL, nodesL, if_true]
    rw [show min (1000 : Int) (n + ((0 : Nat) : Int)) = n by omega]
    exact Ev.now _
  | succ d ihd =>
    intro i n hd hi h1 h2
    have hlt : i < l.length := by omega
    have hx := ih l[i] (List.getElem_mem hlt)
    refine Ev.step (f := fun k => (spec_l17Nodes.f k l[i].f0 l[i].f1 l[i].f2).bind fun t => if t = 0 then some 0 else spec_l17Nodes.l0 k (l.length : Int) (mn 1000 (wrap64 (n + t))) ((i + 1 : Nat) : Int) a b l) (fun k => by
      simp only [spec_l17Nodes.l0]
      rw [if_pos (by omega), if_pos (by omega), if_pos (by omega), rd25 l i hlt, wr (x := (i : Int) + 1) (by omega) (by omega)]
      rfl) ?_
    refine Ev.bind (f := fun k t => if t = 0 then some 0 else spec_l17Nodes.l0 k (l.length : Int) (mn 1000 (wrap64 (n + t))) ((i + 1 : Nat) : Int) a b l) hx ?_
    rw [shpL_drop l i hlt, nodesL_drop l i hlt]
    have hp := nodes_pos l[i]
    by_cases hs : shp l[i] = true
    · have h17 : l17 l[i] = min 1000 (nodes l[i] : Int) := by unfold l17; rw [if_pos hs]
      rw [h17]
      have hm : mn 1000 (n + min 1000 (nodes l[i] : Int)) = min 1000 (n + nodes l[i]) := by unfold mn; split <;> omega
      refine Ev.congr (f := fun k => spec_l17Nodes.l0 k (l.length : Int) (min 1000 (n + nodes l[i])) ((i + 1 : Nat) : Int) a b l) (fun k => by rw [if_neg (by omega), wr (by omega) (by omega), hm]) ?_
      have := ihd (i + 1) (min 1000 (n + nodes l[i])) (by omega) (by omega) (by omega) (by omega)
      rw [hs, Bool.true_and]
      have he : (min 1000 (min 1000 (n + (nodes l[i] : Int)) + (nodesL (l.drop (i + 1)) : Int))) = min 1000 (n + ((nodes l[i] + nodesL (l.drop (i + 1)) : Nat) : Int)) := by omega
      rw [he] at this
      exact this
    · have h17 : l17 l[i] = 0 := by unfold l17; rw [if_neg hs]
      rw [h17, Bool.eq_false_iff.mpr hs]
      refine Ev.congr (f := fun k => some 0) (fun k => by rw [if_pos rfl]) ?_
      simpa using Ev.now (0 : Int)
theorem ev_l17 : ∀ (N : Nat) (t : S25), nodes t ≤ N → Ev (fun k => spec_l17Nodes.f k t.f0 t.f1 t.f2) (l17 t) := by
  intro N
  induction N with
  | zero => intro t h; have := nodes_pos t; omega
  | succ N ih =>
    intro t ht
    rw [nodes_eq] at ht
    have hih : ∀ x ∈ t.f2, Ev (fun k => spec_l17Nodes.f k x.f0 x.f1 x.f2) (l17 x) := fun x hx => ih x (by have := nodes_mem hx; omega)
    -- with so many parts wanted, if the number fits
    have key : ∀ (m : Int) (b : Bool), 0 ≤ m → m ≤ 2 → shapeWant t.f0 t.f1 = (if b = true then some m else none) → Ev (fun k => spec_l17Nodes.j0 k m b t.f0 t.f1 t.f2) (l17 t) := by
      intro m b hm0 hm2 hw
      unfold l17
      rw [shp_eq, hw]
      cases b with
      | false =>
        refine Ev.step (f := fun k => spec_l17Nodes.j1 k m true t.f0 t.f1 t.f2) (fun k => by simp only [spec_l17Nodes.j0]; rfl) ?_
        refine Ev.step (f := fun _ => some 0) (fun k => by simp only [spec_l17Nodes.j1]; rfl) ?_
        simpa using Ev.now (0 : Int)
      | true =>
        refine Ev.step (f := fun k => spec_l17Nodes.j1 k m ((t.f2.length : Int) != m) t.f0 t.f1 t.f2) (fun k => by simp only [spec_l17Nodes.j0]; rfl) ?_
        by_cases hl : (t.f2.length : Int) = m
        · subst hl
          refine Ev.step (f := fun k => spec_l17Nodes.l0 k (t.f2.length : Int) 1 0 t.f0 t.f1 t.f2) (fun k => by simp only [spec_l17Nodes.j1]; rw [bne_self_eq_false]; rfl) ?_
          have := ev_l17_l t.f0 t.f1 t.f2 (by omega) hih t.f2.length 0 1 (by omega) (by omega) (by omega) (by omega)
          simp only [List.drop_zero, if_true, beq_self_eq_true, Bool.true_and] at this ⊢
          rw [nodes_eq]
          simpa using this
        · refine Ev.step (f := fun _ => some 0) (fun k => by simp only [spec_l17Nodes.j1]; rw [bne_iff_ne.mpr hl]; rfl) ?_
          simp only [if_true, beq_eq_false_iff_ne.mpr hl, Bool.false_and]
          simpa using Ev.now (0 : Int)
    by_cases h0 : t.f0 = 0
    · refine Ev.step (f := fun k => spec_l17Nodes.j0 k 0 (t.f1 == 0) t.f0 t.f1 t.f2) (fun k => by simp only [spec_l17Nodes.f]; rw [if_pos h0]) (key 0 _ (by omega) (by omega) ?_)
      simp [shapeWant, h0]
    · by_cases h1 : t.f0 = 1
      · refine Ev.step (f := fun k => (spec_ActOk.f t.f1).bind fun b => spec_l17Nodes.j0 k 1 b t.f0 t.f1 t.f2) (fun k => by simp only [spec_l17Nodes.f]; rw [if_neg h0, if_pos h1]) ?_
        have hb : spec_ActOk.f t.f1 = some (decide (-4 ≤ t.f1 ∧ t.f1 ≤ 4)) := by
          unfold spec_ActOk.f spec_l6In.f
          by_cases h4 : -4 ≤ t.f1 <;> simp [h4]
        rw [hb]
        simp only [Option.bind_some]
        refine key 1 _ (by omega) (by omega) ?_
        simp [shapeWant, h1]
      · by_cases h2 : t.f0 = 2
        · refine Ev.step (f := fun k => (spec_l6In.f t.f1 1 9).bind fun b => spec_l17Nodes.j0 k 1 b t.f0 t.f1 t.f2) (fun k => by simp only [spec_l17Nodes.f]; rw [if_neg h0, if_neg h1, if_pos h2]) ?_
          have hb : spec_l6In.f t.f1 1 9 = some (decide (1 ≤ t.f1 ∧ t.f1 ≤ 9)) := by
            unfold spec_l6In.f
            by_cases h4 : 1 ≤ t.f1 <;> simp [h4]
          rw [hb]
          simp only [Option.bind_some]
          refine key 1 _ (by omega) (by omega) ?_
          simp [shapeWant, h2]
        · by_cases h3 : t.f0 = 3
          · refine Ev.step (f := fun k => spec_l17Nodes.j0 k 2 (t.f1 == 0) t.f0 t.f1 t.f2) (fun k => by simp only [spec_l17Nodes.f]; rw [if_neg h0, if_neg h1, if_neg h2, if_pos h3]) (key 2 _ (by omega) (by omega) ?_)
            simp [shapeWant, h3]
          · by_cases h4 : t.f0 = 4
            · refine Ev.step (f := fun k => spec_l17Nodes.j0 k 2 (t.f1 == 0) t.f0 t.f1 t.f2) (fun k => by simp only [spec_l17Nodes.f]; rw [if_neg h0, if_neg h1, if_neg h2, if_neg h3, if_pos h4]) (key 2 _ (by omega) (by omega) ?_)
              simp [shapeWant, h4]
            · refine Ev.step (f := fun _ => some 0) (fun k => by simp only [spec_l17Nodes.f]; rw [if_neg h0, if_neg h1, if_neg h2, if_neg h3, if_neg h4]) ?_
              have : l17 t = 0 := by unfold l17; rw [shp_eq]; simp [shapeWant, h0, h1, h2, h3, h4]
              rw [this]; exact Ev.now _

/-! ### what both programs call a term with time -/
def okC (t : S25) : Bool := shp t && decide (nodes t ≤ 16)
theorem ev_specOk (t : S25) : Ev (fun k => spec_ClockOk.f k t.f0 t.f1 t.f2) (okC t) := by
  refine Ev.bind (f := fun _ n => (spec_l6In.f n 1 16).bind fun b => some b) (ev_l17 _ t (Nat.le_refl _)) ?_
  have hp := nodes_pos t
  have : ((spec_l6In.f (l17 t) 1 16).bind fun b => some b) = some (okC t) := by
    unfold spec_l6In.f okC l17
    cases hs : shp t with
    | false => simp
    | true =>
      simp only [if_true, Bool.true_and]
      rw [if_pos (by omega)]
      simp only [Option.bind_some]
      congr 1
      rw [decide_eq_decide]
      omega
  rw [this]; exact Ev.now _
theorem ev_implOk (t : S25) (hN : nodes t ≤ 1099511627776) : Ev (fun k => impl_ClockOk.f k t.f0 t.f1 t.f2) (okC t) := by
  obtain ⟨r, e, h1, h2, h3, h4⟩ := ev_nodes _ t (Nat.le_refl _) 16 (by omega) (by omega) hN
  refine Ev.bind (f := fun k n => if n ≤ 16 then (impl_clockShape.f k t.f0 t.f1 t.f2).bind fun b => some b else some false) e ?_
  unfold okC
  by_cases hn : nodes t ≤ 16
  · have hr := h3 (by omega)
    rw [show decide (nodes t ≤ 16) = true by simpa using hn, Bool.and_true]
    refine Ev.congr (f := fun k => (impl_clockShape.f k t.f0 t.f1 t.f2).bind fun b => some b) (fun k => by rw [if_pos (by omega)]) ?_
    exact Ev.bind (f := fun _ b => some b) (ev_shape _ t (Nat.le_refl _)) (Ev.now _)
  · have hr := h4 (by omega)
    rw [show decide (nodes t ≤ 16) = false by simpa using hn, Bool.and_false]
    exact Ev.congr (f := fun _ => some false) (fun k => by rw [if_neg (by omega)]) (Ev.now _)
end Go.Proofs.Ytfnmjecofgeboaa.PAll
