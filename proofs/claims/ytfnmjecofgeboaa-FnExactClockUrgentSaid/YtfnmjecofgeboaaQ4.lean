/- PLAIN LAWS OF TERMS WITH TIME, 4: what ClockSteps tells; how time passes; how much can pass. -/
import Derived.Test.YtfnmjecofgeboaaQ3
import Derived.Test.YtfnmjecofgeboaaPAllIPass
namespace Go.Proofs.Ytfnmjecofgeboaa.PAll
set_option linter.unusedVariables false
open Go.RowKit Go.Proofs.YtfnmjecofgeboaaW.PrintWords Go.Proofs.YtfnmjecofgeboaaW.PrintLast Go.Proofs.YtfnmjecofgeboaaW.PrintMore

/-! ### impl.ClockSteps -/
theorem set_same {α : Type} (l : List α) (i : Nat) (h : i < l.length) : l.set i l[i] = l := by simp
theorem eta44 (x : S44) : (⟨x.f0, ⟨x.f1.f0, x.f1.f1, x.f1.f2⟩⟩ : S44) = x := by cases x; simp only [eta25]
theorem ev_steps_l (l : List S44) (hl : l.length ≤ 1099511627776) (hc : ∀ x ∈ l, nodes x.f1 ≤ 1099511627776) : ∀ (d i : Nat), l.length - i = d → i ≤ l.length →
    Ev (fun k => impl_ClockSteps.l0 k l (l.length : Int) (i : Int)) (l, true) := by
  intro d
  induction d with
  | zero =>
    intro i hd hi
    have hil : i = l.length := by omega
    subst hil
    exact Ev.step (f := fun _ => some (l, true)) (fun k => by simp only [impl_ClockSteps.l0]; rw [if_neg (by omega)]) (Ev.now _)
  | succ d ihd =>
    intro i hd hi
    have hlt : i < l.length := by omega
    refine Ev.step (f := fun k => (impl_copyClock.f k l[i].f1.f0 l[i].f1.f1 l[i].f1.f2).bind fun t => impl_ClockSteps.l0 k (l.set i ⟨l[i].f0, ⟨t.1, t.2.1, t.2.2⟩⟩) (l.length : Int) ((i + 1 : Nat) : Int)) (fun k => by
      simp only [impl_ClockSteps.l0]
      rw [if_pos (by omega), if_pos (by omega), if_pos (by omega), rd44 l i hlt, wr (x := (i : Int) + 1) (by omega) (by omega)]
      rfl) ?_
    refine Ev.bind (f := fun k t => impl_ClockSteps.l0 k (l.set i ⟨l[i].f0, ⟨t.1, t.2.1, t.2.2⟩⟩) (l.length : Int) ((i + 1 : Nat) : Int)) (ev_copy _ l[i].f1 (Nat.le_refl _) (hc _ (List.getElem_mem hlt))) ?_
    dsimp only
    rw [eta44, set_same l i hlt]
    exact ihd (i + 1) (by omega) (by omega)
namespace Clk
theorem ev_ClockSteps {c : Clk} (h : ok c) (hs : sz c ≤ 16) : Ev (fun k => impl_ClockSteps.f k (enc c).f0 (enc c).f1 (enc c).f2) (stepsE c, true) := by
  have hN : nodes (enc c) ≤ 16 := by rw [nodes_enc]; exact hs
  have h1 := ev_implOk (enc c) (by omega)
  rw [okC_enc h hs] at h1
  refine Ev.bind (f := fun k b => if b = true then (impl_ticksOf.f k (enc c).f0 (enc c).f1 (enc c).f2).bind fun t => impl_ClockSteps.l0 k t (t.length : Int) 0 else some ([], false)) h1 ?_
  refine Ev.congr (f := fun k => (impl_ticksOf.f k (enc c).f0 (enc c).f1 (enc c).f2).bind fun t => impl_ClockSteps.l0 k t (t.length : Int) 0) (fun k => by rw [if_pos rfl]) ?_
  refine Ev.bind (f := fun k t => impl_ClockSteps.l0 k t (t.length : Int) 0) (ev_ticks c h (by omega)) ?_
  have hl := stepsE_len c (by omega)
  exact ev_steps_l (stepsE c) (by omega) (fun x hx => by
    unfold stepsE at hx
    obtain ⟨y, hy, rfl⟩ := List.mem_map.1 hx
    show nodes (enc y.2) ≤ _
    rw [nodes_enc]
    have := (steps_ok c h y hy).2.2
    omega) (stepsE c).length 0 (by omega) (by omega)
end Clk
theorem ev_ClockSteps_no (t : S25) (hN : nodes t ≤ 1099511627776) (h : okC t = false) : Ev (fun k => impl_ClockSteps.f k t.f0 t.f1 t.f2) ([], false) := by
  have h1 := ev_implOk t hN
  rw [h] at h1
  refine Ev.bind (f := fun k b => if b = true then (impl_ticksOf.f k t.f0 t.f1 t.f2).bind fun s => impl_ClockSteps.l0 k s (s.length : Int) 0 else some ([], false)) h1 ?_
  exact Ev.congr (f := fun k => some ([], false)) (fun k => by rw [if_neg (by simp)]) (Ev.now _)

/-! ### how time passes -/
namespace Clk
def meets (a b : Clk) : Bool := (steps a).any fun x => (steps b).any fun y => decide (x.1 ≠ 0 ∧ x.1 = -y.1)
def pass : Clk → Option Clk
  | nil => some nil
  | act n p => if n = 0 then none else some (act n p)
  | wait n p => if n = 1 then some p else some (wait (n - 1) p)
  | sum a b => (pass a).bind fun a' => (pass b).bind fun b' => some (sum a' b')
  | par a b => (pass a).bind fun a' => (pass b).bind fun b' => if meets a b = true then none else some (par a' b')
theorem pass_ok : ∀ (c c' : Clk), ok c → pass c = some c' → ok c' ∧ sz c' ≤ sz c
  | nil, c', _, h => by simp only [pass] at h; obtain rfl := Option.some.inj h; exact ⟨trivial, Nat.le_refl _⟩
  | act n p, c', hk, h => by
    simp only [pass] at h
    split at h
    · cases h
    · obtain rfl := Option.some.inj h; exact ⟨hk, Nat.le_refl _⟩
  | wait n p, c', hk, h => by
    simp only [pass] at h
    split at h
    · obtain rfl := Option.some.inj h; exact ⟨hk.2, by simp [sz]⟩
    · obtain rfl := Option.some.inj h; exact ⟨⟨by have := hk.1; omega, hk.2⟩, by simp [sz]⟩
  | sum a b, c', hk, h => by
    simp only [pass] at h
    obtain ⟨a', ha, h⟩ := Option.bind_eq_some_iff.1 h
    obtain ⟨b', hb, h⟩ := Option.bind_eq_some_iff.1 h
    obtain rfl := Option.some.inj h
    obtain ⟨h1, h2⟩ := pass_ok a a' hk.1 ha
    obtain ⟨h3, h4⟩ := pass_ok b b' hk.2 hb
    exact ⟨⟨h1, h3⟩, by simp [sz]; omega⟩
  | par a b, c', hk, h => by
    simp only [pass] at h
    obtain ⟨a', ha, h⟩ := Option.bind_eq_some_iff.1 h
    obtain ⟨b', hb, h⟩ := Option.bind_eq_some_iff.1 h
    split at h
    · cases h
    · obtain rfl := Option.some.inj h
      obtain ⟨h1, h2⟩ := pass_ok a a' hk.1 ha
      obtain ⟨h3, h4⟩ := pass_ok b b' hk.2 hb
      exact ⟨⟨h1, h3⟩, by simp [sz]; omega⟩
/-- What a call that lets one unit pass comes to. -/
def Told (c : Clk) (r : Int × Int × List S25 × Bool) : Prop :=
  match pass c with
  | some c' => r = ((enc c').f0, (enc c').f1, (enc c').f2, true)
  | none => r.2.2.2 = false
theorem anyO_total {α : Type} (q : α → Bool) : ∀ l : List α, anyO (fun y => some (q y)) l = some (l.any q)
  | [] => rfl
  | x :: xs => by
    simp only [anyO, Option.bind_some, List.any_cons, anyO_total q xs]
    cases q x <;> simp
theorem any63_eq (b : Clk) (hb : ok b) (x : Int) (hx : x ≠ 0) : any63.f (stepsE b) x = some ((steps b).any fun y => decide (x ≠ 0 ∧ x = -y.1)) := by
  unfold any63.f
  rw [anyO_total (fun y : S44 => decide (x = wrap64 (-y.f0)))]
  congr 1
  unfold stepsE
  rw [List.any_map]
  apply Bool.eq_iff_iff.mpr
  rw [List.any_eq_true, List.any_eq_true]
  constructor
  · rintro ⟨y, hy, h⟩
    have hr := (steps_ok b hb y hy).1
    have h2 : x = wrap64 (-y.1) := of_decide_eq_true h
    rw [wr (by omega) (by omega)] at h2
    exact ⟨y, hy, decide_eq_true ⟨hx, h2⟩⟩
  · rintro ⟨y, hy, h⟩
    have hr := (steps_ok b hb y hy).1
    have h2 : x ≠ 0 ∧ x = -y.1 := of_decide_eq_true h
    refine ⟨y, hy, ?_⟩
    show decide (x = wrap64 (-y.1)) = true
    exact decide_eq_true (by rw [wr (by omega) (by omega)]; exact h2.2)
theorem ev_pass_l (a b : Clk) (ha : ok a) (hb : ok b) (hs : sz b ≤ 18) (la : sz a ≤ 18) (p0 p1 : Int) (p2 : List S25) (q0 q1 : Int) (q2 : List S25) : ∀ (d i : Nat), (stepsE a).length - i = d → i ≤ (stepsE a).length →
    Ev (fun k => impl_pass.l0 k (stepsE a) ((stepsE a).length : Int) (i : Int) 4 0 [enc a, enc b] p0 p1 p2 q0 q1 q2)
      (if ((steps a).drop i).any (fun x => (steps b).any fun y => decide (x.1 ≠ 0 ∧ x.1 = -y.1)) = true then (0, 0, [], false) else (4, 0, [⟨p0, p1, p2⟩, ⟨q0, q1, q2⟩], true)) := by
  have hl := stepsE_len a la
  have hle : (stepsE a).length = (steps a).length := by simp [stepsE]
  intro d
  induction d with
  | zero =>
    intro i hd hi
    have hil : i = (stepsE a).length := by omega
    subst hil
    rw [hle, List.drop_length]
    simp only [List.any_nil, Bool.false_eq_true, if_false]
    exact Ev.step (f := fun _ => some (4, 0, [⟨p0, p1, p2⟩, ⟨q0, q1, q2⟩], true)) (fun k => by simp only [impl_pass.l0]; rw [if_neg (by omega)]) (Ev.now _)
  | succ d ihd =>
    intro i hd hi
    have hlt : i < (stepsE a).length := by omega
    have hlt2 : i < (steps a).length := by omega
    have hget : (stepsE a)[i].f0 = (steps a)[i].1 := by simp [stepsE, encT]
    rw [List.drop_eq_getElem_cons hlt2, List.any_cons]
    by_cases h0 : (steps a)[i].1 = 0
    · have hz : ((steps b).any fun y => decide ((steps a)[i].1 ≠ 0 ∧ (steps a)[i].1 = -y.1)) = false := by rw [List.any_eq_false]; intro y hy; simp [h0]
      rw [hz, Bool.false_or]
      refine Ev.step (fun k => ?_) (ihd (i + 1) (by omega) (by omega))
      simp only [impl_pass.l0]
      rw [if_pos (by omega), if_pos (by omega), if_pos (by omega), rd44 _ i hlt, hget, if_pos h0, wr (x := (i : Int) + 1) (by omega) (by omega)]
      rfl
    · refine Ev.step (f := fun k => (impl_ticksOf.f k (enc b).f0 (enc b).f1 (enc b).f2).bind fun t => (any63.f t (steps a)[i].1).bind fun z => if z = true then some (0, 0, [], false) else impl_pass.l0 k (stepsE a) ((stepsE a).length : Int) ((i + 1 : Nat) : Int) 4 0 [enc a, enc b] p0 p1 p2 q0 q1 q2) (fun k => by
        simp only [impl_pass.l0]
        rw [if_pos (by omega), if_pos (by omega), if_pos (by omega), rd44 _ i hlt, hget, if_neg h0, if_pos (by simp), wr (x := (i : Int) + 1) (by omega) (by omega)]
        rfl) ?_
      refine Ev.bind (f := fun k t => (any63.f t (steps a)[i].1).bind fun z => if z = true then some (0, 0, [], false) else impl_pass.l0 k (stepsE a) ((stepsE a).length : Int) ((i + 1 : Nat) : Int) 4 0 [enc a, enc b] p0 p1 p2 q0 q1 q2) (ev_ticks b hb hs) ?_
      rw [any63_eq b hb _ h0]
      simp only [Option.bind_some]
      by_cases hz : ((steps b).any fun y => decide ((steps a)[i].1 ≠ 0 ∧ (steps a)[i].1 = -y.1)) = true
      · rw [hz]
        simpa using Ev.now ((0, 0, [], false) : Int × Int × List S25 × Bool)
      · rw [Bool.eq_false_iff.mpr hz, Bool.false_or]
        simpa using ihd (i + 1) (by omega) (by omega)
theorem pass_wait (k : Nat) (n : Int) (l : List S25) (hn : ¬ n = 1) : impl_pass.f (k + 1) 2 n l = (impl_copyClock.f k 2 n l).bind fun t => some (t.1, wrap64 (t.2.1 - 1), t.2.2, true) := by
  simp only [impl_pass.f]
  rw [if_neg (by decide), if_pos trivial, if_neg hn]
theorem ev_pass : ∀ c : Clk, ok c → sz c ≤ 18 → ∃ r, Ev (fun k => impl_pass.f k (enc c).f0 (enc c).f1 (enc c).f2) r ∧ Told c r
  | nil, h, hs => by
    refine ⟨(0, 0, [], true), ?_, by simp [Told, pass, enc]⟩
    refine Ev.step (f := fun k => impl_pass.j0 k false 0 0 []) (fun k => by simp only [impl_pass.f, enc]; rfl) ?_
    refine Ev.step (f := fun k => (impl_copyClock.f k 0 0 []).bind fun t => some (t.1, t.2.1, t.2.2, true)) (fun k => by simp only [impl_pass.j0]; rfl) ?_
    exact Ev.bind (f := fun _ t => some (t.1, t.2.1, t.2.2, true)) (ev_copy 1 (enc nil) (by simp [enc, nodes, nodesL]) (by simp [enc, nodes, nodesL])) (Ev.now _)
  | act n p, h, hs => by
    have hN : nodes (enc (act n p)) ≤ 1099511627776 := by rw [nodes_enc]; omega
    refine ⟨(1, n, [enc p], n != 0), ?_, ?_⟩
    · refine Ev.step (f := fun k => (impl_copyClock.f k 1 n [enc p]).bind fun t => some (t.1, t.2.1, t.2.2, n != 0)) (fun k => by simp only [impl_pass.f, enc]; rfl) ?_
      exact Ev.bind (f := fun _ t => some (t.1, t.2.1, t.2.2, n != 0)) (ev_copy _ (enc (act n p)) (Nat.le_refl _) hN) (Ev.now _)
    · unfold Told
      simp only [pass]
      by_cases hn : n = 0
      · simp [hn]
      · simp [hn, enc]
  | wait n p, h, hs => by
    have hN : nodes (enc (wait n p)) ≤ 1099511627776 := by rw [nodes_enc]; omega
    have hP : nodes (enc p) ≤ 1099511627776 := by simp only [sz] at hs; rw [nodes_enc]; omega
    by_cases hn : n = 1
    · subst hn
      refine ⟨((enc p).f0, (enc p).f1, (enc p).f2, true), ?_, by simp [Told, pass]⟩
      refine Ev.step (f := fun k => (impl_copyClock.f k (enc p).f0 (enc p).f1 (enc p).f2).bind fun t => some (t.1, t.2.1, t.2.2, true)) (fun k => by simp only [impl_pass.f, enc]; rfl) ?_
      exact Ev.bind (f := fun _ t => some (t.1, t.2.1, t.2.2, true)) (ev_copy _ (enc p) (Nat.le_refl _) hP) (Ev.now _)
    · refine ⟨(2, n - 1, [enc p], true), ?_, by simp [Told, pass, hn, enc]⟩
      refine Ev.step (f := fun k => (impl_copyClock.f k 2 n [enc p]).bind fun t => some (t.1, wrap64 (t.2.1 - 1), t.2.2, true)) (fun k => pass_wait k n [enc p] hn) ?_
      refine Ev.bind (f := fun _ t => some (t.1, wrap64 (t.2.1 - 1), t.2.2, true)) (ev_copy _ (enc (wait n p)) (Nat.le_refl _) hN) ?_
      have := h.1
      simp only [enc]
      rw [wr (by omega) (by omega)]
      exact Ev.now _
  | sum a b, h, hs => by
    simp only [sz] at hs
    obtain ⟨r1, e1, t1⟩ := ev_pass a h.1 (by omega)
    obtain ⟨r2, e2, t2⟩ := ev_pass b h.2 (by omega)
    have step : ∀ (f : Nat → (Int × Int × List S25 × Bool) → (Int × Int × List S25 × Bool) → Option (Int × Int × List S25 × Bool)), (∀ k x y, f k x y = if x.2.2.2 = true then impl_pass.j1 k (!y.2.2.2) 3 0 [enc a, enc b] x.1 x.2.1 x.2.2.1 y.1 y.2.1 y.2.2.1 else impl_pass.j1 k true 3 0 [enc a, enc b] x.1 x.2.1 x.2.2.1 y.1 y.2.1 y.2.2.1) →
        ∀ r, Ev (fun k => f k r1 r2) r → Ev (fun k => impl_pass.f k (enc (sum a b)).f0 (enc (sum a b)).f1 (enc (sum a b)).f2) r := by
      intro f hf r hr
      refine Ev.step (f := fun k => impl_pass.j0 k true 3 0 [enc a, enc b]) (fun k => by simp only [impl_pass.f, enc]; rfl) ?_
      refine Ev.step (f := fun k => (impl_pass.f k (enc a).f0 (enc a).f1 (enc a).f2).bind fun x => (impl_pass.f k (enc b).f0 (enc b).f1 (enc b).f2).bind fun y => f k x y) (fun k => by simp only [impl_pass.j0, hf]; rfl) ?_
      exact Ev.bind (f := fun k x => (impl_pass.f k (enc b).f0 (enc b).f1 (enc b).f2).bind fun y => f k x y) e1 (Ev.bind (f := fun k y => f k r1 y) e2 hr)
    have fail : ∀ z : Bool, z = true → ∀ x0 x1 x2 y0 y1 y2, Ev (fun k => impl_pass.j1 k z 3 0 [enc a, enc b] x0 x1 x2 y0 y1 y2) (0, 0, [], false) := by
      rintro z rfl x0 x1 x2 y0 y1 y2
      exact Ev.step (f := fun _ => some (0, 0, [], false)) (fun k => by simp only [impl_pass.j1]; rfl) (Ev.now _)
    unfold Told at t1 t2 ⊢
    cases ha : pass a with
    | none =>
      rw [ha] at t1
      dsimp only at t1
      refine ⟨(0, 0, [], false), step _ (fun _ _ _ => rfl) _ (Ev.congr (fun k => by rw [if_neg (by rw [t1]; simp)]) (fail true rfl ..)), by simp [pass, ha]⟩
    | some a' =>
      rw [ha] at t1
      dsimp only at t1
      subst t1
      cases hb : pass b with
      | none =>
        rw [hb] at t2
        dsimp only at t2
        exact ⟨(0, 0, [], false), step _ (fun _ _ _ => rfl) _ (Ev.congr (fun k => by rw [if_pos rfl]) (fail (!r2.2.2.2) (by rw [t2]; rfl) ..)), by simp [pass, ha, hb]⟩
      | some b' =>
        rw [hb] at t2
        dsimp only at t2
        subst t2
        refine ⟨(3, 0, [enc a', enc b'], true), step _ (fun _ _ _ => rfl) _ (Ev.congr (fun k => by rw [if_pos rfl]) ?_), by simp [pass, ha, hb, enc]⟩
        exact Ev.step (f := fun _ => some (3, 0, [enc a', enc b'], true)) (fun k => by simp only [impl_pass.j1, eta25]; rfl) (Ev.now _)
  | par a b, h, hs => by
    simp only [sz] at hs
    obtain ⟨r1, e1, t1⟩ := ev_pass a h.1 (by omega)
    obtain ⟨r2, e2, t2⟩ := ev_pass b h.2 (by omega)
    have step : ∀ (f : Nat → (Int × Int × List S25 × Bool) → (Int × Int × List S25 × Bool) → Option (Int × Int × List S25 × Bool)), (∀ k x y, f k x y = if x.2.2.2 = true then impl_pass.j1 k (!y.2.2.2) 4 0 [enc a, enc b] x.1 x.2.1 x.2.2.1 y.1 y.2.1 y.2.2.1 else impl_pass.j1 k true 4 0 [enc a, enc b] x.1 x.2.1 x.2.2.1 y.1 y.2.1 y.2.2.1) →
        ∀ r, Ev (fun k => f k r1 r2) r → Ev (fun k => impl_pass.f k (enc (par a b)).f0 (enc (par a b)).f1 (enc (par a b)).f2) r := by
      intro f hf r hr
      refine Ev.step (f := fun k => impl_pass.j0 k true 4 0 [enc a, enc b]) (fun k => by simp only [impl_pass.f, enc]; rfl) ?_
      refine Ev.step (f := fun k => (impl_pass.f k (enc a).f0 (enc a).f1 (enc a).f2).bind fun x => (impl_pass.f k (enc b).f0 (enc b).f1 (enc b).f2).bind fun y => f k x y) (fun k => by simp only [impl_pass.j0, hf]; rfl) ?_
      exact Ev.bind (f := fun k x => (impl_pass.f k (enc b).f0 (enc b).f1 (enc b).f2).bind fun y => f k x y) e1 (Ev.bind (f := fun k y => f k r1 y) e2 hr)
    have fail : ∀ z : Bool, z = true → ∀ x0 x1 x2 y0 y1 y2, Ev (fun k => impl_pass.j1 k z 4 0 [enc a, enc b] x0 x1 x2 y0 y1 y2) (0, 0, [], false) := by
      rintro z rfl x0 x1 x2 y0 y1 y2
      exact Ev.step (f := fun _ => some (0, 0, [], false)) (fun k => by simp only [impl_pass.j1]; rfl) (Ev.now _)
    unfold Told at t1 t2 ⊢
    cases ha : pass a with
    | none =>
      rw [ha] at t1
      dsimp only at t1
      refine ⟨(0, 0, [], false), step _ (fun _ _ _ => rfl) _ (Ev.congr (fun k => by rw [if_neg (by rw [t1]; simp)]) (fail true rfl ..)), by simp [pass, ha]⟩
    | some a' =>
      rw [ha] at t1
      dsimp only at t1
      subst t1
      cases hb : pass b with
      | none =>
        rw [hb] at t2
        dsimp only at t2
        exact ⟨(0, 0, [], false), step _ (fun _ _ _ => rfl) _ (Ev.congr (fun k => by rw [if_pos rfl]) (fail (!r2.2.2.2) (by rw [t2]; rfl) ..)), by simp [pass, ha, hb]⟩
      | some b' =>
        rw [hb] at t2
        dsimp only at t2
        subst t2
        have hloop := ev_pass_l a b h.1 h.2 (by omega) (by omega) (enc a').f0 (enc a').f1 (enc a').f2 (enc b').f0 (enc b').f1 (enc b').f2 (stepsE a).length 0 (by omega) (by omega)
        rw [List.drop_zero] at hloop
        refine ⟨(if (steps a).any (fun x => (steps b).any fun y => decide (x.1 ≠ 0 ∧ x.1 = -y.1)) = true then (0, 0, [], false) else (4, 0, [⟨(enc a').f0, (enc a').f1, (enc a').f2⟩, ⟨(enc b').f0, (enc b').f1, (enc b').f2⟩], true)), step _ (fun _ _ _ => rfl) _ (Ev.congr (fun k => by rw [if_pos rfl]) ?_), ?_⟩
        · refine Ev.step (f := fun k => (impl_ticksOf.f k (enc a).f0 (enc a).f1 (enc a).f2).bind fun t => impl_pass.l0 k t (t.length : Int) 0 4 0 [enc a, enc b] (enc a').f0 (enc a').f1 (enc a').f2 (enc b').f0 (enc b').f1 (enc b').f2) (fun k => by simp only [impl_pass.j1]; rfl) ?_
          exact Ev.bind (f := fun k t => impl_pass.l0 k t (t.length : Int) 0 4 0 [enc a, enc b] (enc a').f0 (enc a').f1 (enc a').f2 (enc b').f0 (enc b').f1 (enc b').f2) (ev_ticks a h.1 (by omega)) hloop
        · simp only [pass, ha, hb, Option.bind_some]
          by_cases hm : meets a b = true
          · have hm2 := hm
            unfold meets at hm2
            rw [if_pos hm, if_pos hm2]
          · have hm2 := hm
            unfold meets at hm2
            rw [if_neg hm, if_neg hm2]
            simp [enc, eta25]

/-! ### how much can pass -/
def urg : Nat → Clk → Nat
  | 0, _ => 0
  | m + 1, c => match pass c with
    | none => 0
    | some c' => 1 + urg m c'
theorem urg_le : ∀ (m : Nat) (c : Clk), urg m c ≤ m
  | 0, _ => Nat.le_refl _
  | m + 1, c => by
    simp only [urg]
    cases pass c with
    | none => simp
    | some c' => have := urg_le m c'; simp; omega
theorem ev_urg_l : ∀ (m : Nat) (c : Clk) (n : Nat), ok c → sz c ≤ 18 → n + m = 100 → Ev (fun k => impl_ClockUrgent.l0 k (n : Int) (enc c).f0 (enc c).f1 (enc c).f2) ((n + urg m c : Nat) : Int) := by
  intro m
  induction m with
  | zero =>
    intro c n h hs hn
    exact Ev.step (f := fun _ => some (n : Int)) (fun k => by simp only [impl_ClockUrgent.l0]; rw [if_neg (by omega)]) (Ev.now _)
  | succ m ih =>
    intro c n h hs hn
    obtain ⟨r, e, t⟩ := ev_pass c h hs
    refine Ev.step (f := fun k => (impl_pass.f k (enc c).f0 (enc c).f1 (enc c).f2).bind fun x => if x.2.2.2 = true then impl_ClockUrgent.l0 k ((n + 1 : Nat) : Int) x.1 x.2.1 x.2.2.1 else some (n : Int)) (fun k => by
      simp only [impl_ClockUrgent.l0]
      rw [if_pos (by omega), wr (x := (n : Int) + 1) (by omega) (by omega)]
      rfl) ?_
    refine Ev.bind (f := fun k x => if x.2.2.2 = true then impl_ClockUrgent.l0 k ((n + 1 : Nat) : Int) x.1 x.2.1 x.2.2.1 else some (n : Int)) e ?_
    unfold Told at t
    simp only [urg]
    cases hp : pass c with
    | none =>
      rw [hp] at t
      dsimp only at t
      exact Ev.congr (f := fun _ => some (n : Int)) (fun k => by rw [if_neg (by rw [t]; simp)]) (Ev.now _)
    | some c' =>
      rw [hp] at t
      dsimp only at t
      subst t
      obtain ⟨h1, h2⟩ := pass_ok c c' h hp
      refine Ev.congr (fun k => by rw [if_pos rfl]) ?_
      have := ih c' (n + 1) h1 (by omega) (by omega)
      rw [show n + (1 + urg m c') = n + 1 + urg m c' by omega]
      exact this
theorem ev_ClockUrgent {c : Clk} (h : ok c) (hs : sz c ≤ 16) : Ev (fun k => impl_ClockUrgent.f k (enc c).f0 (enc c).f1 (enc c).f2) ((urg 100 c : Nat) : Int) := by
  have hN : nodes (enc c) ≤ 16 := by rw [nodes_enc]; exact hs
  have h1 := ev_implOk (enc c) (by omega)
  rw [okC_enc h hs] at h1
  refine Ev.bind (f := fun k b => if b = true then impl_ClockUrgent.l0 k 0 (enc c).f0 (enc c).f1 (enc c).f2 else some (-1)) h1 ?_
  refine Ev.congr (fun k => by rw [if_pos rfl]) ?_
  have := ev_urg_l 100 c 0 h (by omega) (by omega)
  rw [Nat.zero_add] at this
  exact this
end Clk
theorem ev_ClockUrgent_no (t : S25) (hN : nodes t ≤ 1099511627776) (h : okC t = false) : Ev (fun k => impl_ClockUrgent.f k t.f0 t.f1 t.f2) (-1) := by
  have h1 := ev_implOk t hN
  rw [h] at h1
  refine Ev.bind (f := fun k b => if b = true then impl_ClockUrgent.l0 k 0 t.f0 t.f1 t.f2 else some (-1)) h1 ?_
  exact Ev.congr (f := fun k => some (-1)) (fun k => by rw [if_neg (by simp)]) (Ev.now _)
end Go.Proofs.Ytfnmjecofgeboaa.PAll
