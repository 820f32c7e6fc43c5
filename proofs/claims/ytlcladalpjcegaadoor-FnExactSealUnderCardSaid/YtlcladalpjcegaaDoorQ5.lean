/- PLAIN LAWS OF MESSAGES, 5: whether a message stands in another one, in the program and in the specification. -/
import Derived.Test.YtlcladalpjcegaaDoorQ4
import Derived.Test.YtlcladalpjcegaaDoorPAllSUnder
namespace Go.Proofs.YtlcladalpjcegaaDoor.PAll
set_option linter.unusedVariables false
set_option linter.unusedSimpArgs false
open Go.RowKit Go.Proofs.YtlcladalpjcegaaDoorW.PrintWords Go.Proofs.YtlcladalpjcegaaDoorW.PrintLast Go.Proofs.YtlcladalpjcegaaDoorW.PrintMore

/-- The texts are alike. -/
def alike (m x : Msg) : Bool := m.btxt.toList == x.btxt.toList
/-- A message stands in another one: it is it, or it stands in a part. -/
def stands (m : Msg) : Msg → Bool
  | .nm n => alike m (.nm n)
  | .pr a b => alike m (.pr a b) || stands m a || stands m b
  | .sh a b => alike m (.sh a b) || stands m a || stands m b

theorem ev_any2 (p : Nat → S25 → Option Bool) (x y : S25) (a b : Bool) (hx : Ev (fun k => p k x) a) (hy : Ev (fun k => p k y) b) : Ev (fun k => anyO (p k) [x, y]) (a || b) := by
  refine Ev.congr (f := fun k => (p k x).bind fun c => if c = true then some true else (p k y).bind fun d => if d = true then some true else some false) (fun k => rfl) (Ev.bind hx ?_)
  cases a with
  | true => exact Ev.congr (f := fun _ => some true) (fun k => by rw [if_pos rfl]) (Ev.now _)
  | false =>
    refine Ev.congr (f := fun k => (p k y).bind fun d => if d = true then some true else some false) (fun k => by rw [if_neg (by simp)]) (Ev.bind (f := fun _ d => if d = true then some true else some false) hy ?_)
    cases b with
    | true => exact Ev.now _
    | false => exact Ev.now _
theorem ev_under {m : Msg} (hm : m.fits) (hmN : nodes m.tree ≤ 1099511627776) : ∀ x : Msg, x.fits → nodes x.tree ≤ 1099511627776 → Ev (fun k => impl_under.f k m.tree.f0 m.tree.f1 m.tree.f2 x.tree.f0 x.tree.f1 x.tree.f2) (stands m x) := by
  have ht := ev_text m hm hmN
  -- the first line, and what the parts come to
  have key : ∀ (x : Msg) (r : Bool), x.fits → nodes x.tree ≤ 1099511627776 → Ev (fun k => anyO (fun y => impl_under.f k m.tree.f0 m.tree.f1 m.tree.f2 y.f0 y.f1 y.f2) x.tree.f2) r → Ev (fun k => impl_under.f k m.tree.f0 m.tree.f1 m.tree.f2 x.tree.f0 x.tree.f1 x.tree.f2) (alike m x || r) := by
    intro x r hx hN hr
    refine Ev.step (fun k => by rw [impl_under.f]) (Ev.bind ht (Ev.bind (ev_text x hx hN) ?_))
    by_cases h : m.btxt.toList = x.btxt.toList
    · have : alike m x = true := beq_iff_eq.mpr h
      rw [this, Bool.true_or]
      exact Ev.congr (fun k => by rw [if_pos h]) (Ev.now _)
    · have : alike m x = false := beq_eq_false_iff_ne.mpr h
      rw [this, Bool.false_or]
      exact Ev.congr (f := fun k => (anyO (fun y => impl_under.f k m.tree.f0 m.tree.f1 m.tree.f2 y.f0 y.f1 y.f2) x.tree.f2).bind fun b => some b) (fun k => by rw [if_neg h]) (Ev.bind (f := fun _ b => some b) hr (Ev.now _))
  intro x
  induction x with
  | nm n =>
    intro hx hN
    have := key (.nm n) false hx hN (Ev.congr (f := fun _ => some false) (fun k => rfl) (Ev.now _))
    rw [Bool.or_false] at this
    exact this
  | pr a b ia ib =>
    intro hx hN
    have hN2 := hN
    rw [nodes_pr] at hN2
    have := key (.pr a b) (stands m a || stands m b) hx hN (ev_any2 _ a.tree b.tree _ _ (ia hx.1 (by omega)) (ib hx.2 (by omega)))
    rw [← Bool.or_assoc] at this
    exact this
  | sh a b ia ib =>
    intro hx hN
    have hN2 := hN
    rw [nodes_sh] at hN2
    have := key (.sh a b) (stands m a || stands m b) hx hN (ev_any2 _ a.tree b.tree _ _ (ia hx.1 (by omega)) (ib hx.2 (by omega)))
    rw [← Bool.or_assoc] at this
    exact this

/-- In the specification the parts come first. -/
theorem ev_under2 {m : Msg} (hm : m.fits) (hmN : nodes m.tree ≤ 1099511627776) : ∀ x : Msg, x.fits → nodes x.tree ≤ 1099511627776 → Ev (fun k => spec_l20Under.f k m.tree.f0 m.tree.f1 m.tree.f2 x.tree.f0 x.tree.f1 x.tree.f2) (stands m x) := by
  have ht := ev_text2 m hm hmN
  have fin : ∀ (x : Msg), x.fits → nodes x.tree ≤ 1099511627776 → ∀ i : Int, i = (x.tree.f2.length : Int) → Ev (fun k => spec_l20Under.l0 k i m.tree.f0 m.tree.f1 m.tree.f2 x.tree.f0 x.tree.f1 x.tree.f2) (alike m x) := by
    intro x hx hN i hi
    refine Ev.step (f := fun k => (spec_l20Text.f k m.tree.f0 m.tree.f1 m.tree.f2).bind fun t260 => ((spec_l20Text.f k x.tree.f0 x.tree.f1 x.tree.f2).bind fun t261 => (some (t260.toList == t261.toList)))) (fun k => by rw [spec_l20Under.l0, if_neg (by omega)]) (Ev.bind ht (Ev.bind (f := fun _ t261 => some (m.btxt.toList == t261.toList)) (ev_text2 x hx hN) (Ev.now _)))
  have two : ∀ (x a b : Msg), x.tree.f2 = [a.tree, b.tree] → x.fits → nodes x.tree ≤ 1099511627776 → Ev (fun k => spec_l20Under.f k m.tree.f0 m.tree.f1 m.tree.f2 a.tree.f0 a.tree.f1 a.tree.f2) (stands m a) → Ev (fun k => spec_l20Under.f k m.tree.f0 m.tree.f1 m.tree.f2 b.tree.f0 b.tree.f1 b.tree.f2) (stands m b) →
      Ev (fun k => spec_l20Under.f k m.tree.f0 m.tree.f1 m.tree.f2 x.tree.f0 x.tree.f1 x.tree.f2) (alike m x || stands m a || stands m b) := by
    intro x a b hab hx hN ha hb
    have hf := fin x hx hN 2 (by rw [hab]; rfl)
    refine Ev.step (f := fun k => spec_l20Under.l0 k 0 m.tree.f0 m.tree.f1 m.tree.f2 x.tree.f0 x.tree.f1 x.tree.f2) (fun k => by rw [spec_l20Under.f]) ?_
    have l0 : (0 : Int) < (x.tree.f2.length : Int) := by rw [hab]; simp
    have l1 : (1 : Int) < (x.tree.f2.length : Int) := by rw [hab]; simp
    have g0 : rd_T25 x.tree.f2 0 = a.tree := by rw [hab]; rfl
    have g1 : rd_T25 x.tree.f2 1 = b.tree := by rw [hab]; rfl
    refine Ev.step (f := fun k => (spec_l20Under.f k m.tree.f0 m.tree.f1 m.tree.f2 a.tree.f0 a.tree.f1 a.tree.f2).bind fun t => if t = true then some true else spec_l20Under.l0 k 1 m.tree.f0 m.tree.f1 m.tree.f2 x.tree.f0 x.tree.f1 x.tree.f2) (fun k => by
      rw [spec_l20Under.l0, if_pos l0, if_pos (by omega), g0, show wrap64 (0 + 1) = 1 from (wr (by omega) (by omega)).trans rfl]) (Ev.bind ha ?_)
    cases hsa : stands m a with
    | true => rw [Bool.or_true, Bool.true_or]; exact Ev.congr (fun k => by rw [if_pos rfl]) (Ev.now _)
    | false =>
      rw [Bool.or_false]
      refine Ev.congr (f := fun k => spec_l20Under.l0 k 1 m.tree.f0 m.tree.f1 m.tree.f2 x.tree.f0 x.tree.f1 x.tree.f2) (fun k => by rw [if_neg (by simp)]) ?_
      refine Ev.step (f := fun k => (spec_l20Under.f k m.tree.f0 m.tree.f1 m.tree.f2 b.tree.f0 b.tree.f1 b.tree.f2).bind fun t => if t = true then some true else spec_l20Under.l0 k 2 m.tree.f0 m.tree.f1 m.tree.f2 x.tree.f0 x.tree.f1 x.tree.f2) (fun k => by
        rw [spec_l20Under.l0, if_pos l1, if_pos (by omega), g1, show wrap64 (1 + 1) = 2 from (wr (by omega) (by omega)).trans rfl]) (Ev.bind hb ?_)
      cases hsb : stands m b with
      | true => rw [Bool.or_true]; exact Ev.congr (fun k => by rw [if_pos rfl]) (Ev.now _)
      | false =>
        rw [Bool.or_false]
        exact Ev.congr (f := fun k => spec_l20Under.l0 k 2 m.tree.f0 m.tree.f1 m.tree.f2 x.tree.f0 x.tree.f1 x.tree.f2) (fun k => by rw [if_neg (by simp)]) hf
  intro x
  induction x with
  | nm n =>
    intro hx hN
    exact Ev.step (f := fun k => spec_l20Under.l0 k 0 m.tree.f0 m.tree.f1 m.tree.f2 (Msg.nm n).tree.f0 (Msg.nm n).tree.f1 (Msg.nm n).tree.f2) (fun k => by rw [spec_l20Under.f]) (fin (.nm n) hx hN 0 rfl)
  | pr a b ia ib =>
    intro hx hN
    have hN2 := hN
    rw [nodes_pr] at hN2
    exact two (.pr a b) a b rfl hx hN (ia hx.1 (by omega)) (ib hx.2 (by omega))
  | sh a b ia ib =>
    intro hx hN
    have hN2 := hN
    rw [nodes_sh] at hN2
    exact two (.sh a b) a b rfl hx hN (ia hx.1 (by omega)) (ib hx.2 (by omega))

/-- What both programs answer of any two trees. -/
def undOf (t u : S25) (b : Bool) : Prop := (∃ m x : Msg, m.fits ∧ x.fits ∧ m.tree = t ∧ x.tree = u ∧ nodes t ≤ 12 ∧ nodes u ≤ 12 ∧ b = stands m x) ∨ ((okM t = false ∨ okM u = false) ∧ b = false)
theorem ev_und (t u : S25) (hT : nodes t ≤ 1099511627776) (hU : nodes u ≤ 1099511627776) : ∃ b, undOf t u b ∧ Ev (fun k => impl_SealUnder.f k t.f0 t.f1 t.f2 u.f0 u.f1 u.f2) b ∧ Ev (fun k => spec_SealUnder.f k t.f0 t.f1 t.f2 u.f0 u.f1 u.f2) b := by
  have i1 := ev_implOk t hT
  have i2 := ev_implOk u hU
  have s1 := ev_specOk t
  have s2 := ev_specOk u
  cases ht : okM t with
  | false =>
    rw [ht] at i1 s1
    exact ⟨false, .inr ⟨.inl ht, rfl⟩, Ev.bind i1 (Ev.congr (fun k => by rw [if_neg (by simp)]) (Ev.now _)), Ev.bind s1 (Ev.congr (fun k => by rw [if_neg (by simp)]) (Ev.now _))⟩
  | true =>
    rw [ht] at i1 s1
    cases hu : okM u with
    | false =>
      rw [hu] at i2 s2
      refine ⟨false, .inr ⟨.inr hu, rfl⟩, Ev.bind i1 ?_, Ev.bind s1 ?_⟩
      · exact Ev.congr (f := fun k => (impl_SealOk.f k u.f0 u.f1 u.f2).bind fun t200 => (if t200 = true then ((impl_under.f k t.f0 t.f1 t.f2 u.f0 u.f1 u.f2).bind fun t201 => (some t201)) else (some false))) (fun k => by rw [if_pos rfl]) (Ev.bind i2 (Ev.congr (fun k => by rw [if_neg (by simp)]) (Ev.now _)))
      · exact Ev.congr (f := fun k => (spec_SealOk.f k u.f0 u.f1 u.f2).bind fun t200 => (if t200 = true then ((spec_l20Under.f k t.f0 t.f1 t.f2 u.f0 u.f1 u.f2).bind fun t201 => (some t201)) else (some false))) (fun k => by rw [if_pos rfl]) (Ev.bind s2 (Ev.congr (fun k => by rw [if_neg (by simp)]) (Ev.now _)))
    | true =>
      rw [hu] at i2 s2
      obtain ⟨m, hm, rfl, hn⟩ := of_okM ht
      obtain ⟨x, hx, rfl, hnx⟩ := of_okM hu
      refine ⟨stands m x, .inl ⟨m, x, hm, hx, rfl, rfl, hn, hnx, rfl⟩, Ev.bind i1 ?_, Ev.bind s1 ?_⟩
      · exact Ev.congr (f := fun k => (impl_SealOk.f k x.tree.f0 x.tree.f1 x.tree.f2).bind fun t200 => (if t200 = true then ((impl_under.f k m.tree.f0 m.tree.f1 m.tree.f2 x.tree.f0 x.tree.f1 x.tree.f2).bind fun t201 => (some t201)) else (some false))) (fun k => by rw [if_pos rfl]) (Ev.bind i2 (Ev.congr (f := fun k => (impl_under.f k m.tree.f0 m.tree.f1 m.tree.f2 x.tree.f0 x.tree.f1 x.tree.f2).bind fun t201 => (some t201)) (fun k => by rw [if_pos rfl]) (Ev.bind (f := fun _ b => some b) (ev_under hm (by omega) x hx (by omega)) (Ev.now _))))
      · exact Ev.congr (f := fun k => (spec_SealOk.f k x.tree.f0 x.tree.f1 x.tree.f2).bind fun t200 => (if t200 = true then ((spec_l20Under.f k m.tree.f0 m.tree.f1 m.tree.f2 x.tree.f0 x.tree.f1 x.tree.f2).bind fun t201 => (some t201)) else (some false))) (fun k => by rw [if_pos rfl]) (Ev.bind s2 (Ev.congr (f := fun k => (spec_l20Under.f k m.tree.f0 m.tree.f1 m.tree.f2 x.tree.f0 x.tree.f1 x.tree.f2).bind fun t201 => (some t201)) (fun k => by rw [if_pos rfl]) (Ev.bind (f := fun _ b => some b) (ev_under2 hm (by omega) x hx (by omega)) (Ev.now _))))
end Go.Proofs.YtlcladalpjcegaaDoor.PAll
