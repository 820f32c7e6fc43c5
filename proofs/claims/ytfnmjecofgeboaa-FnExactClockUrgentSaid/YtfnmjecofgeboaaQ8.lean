/- PLAIN LAWS OF TERMS WITH TIME, 8: what passes, and what steps are left behind. -/
import Derived.Test.YtfnmjecofgeboaaQ4
namespace Go.Proofs.Ytfnmjecofgeboaa.PAll
set_option linter.unusedVariables false
open Go.RowKit Go.Proofs.YtfnmjecofgeboaaW.PrintWords Go.Proofs.YtfnmjecofgeboaaW.PrintLast Go.Proofs.YtfnmjecofgeboaaW.PrintMore
namespace Clk
/-- Of a term behind which time can pass no step is seen by nobody, and each act stays. -/
theorem pass_steps : ∀ (c c' : Clk), pass c = some c' → ∀ x ∈ steps c, x.1 ≠ 0 ∧ ∃ y ∈ steps c', y.1 = x.1
  | nil, c', _, x, hx => by simp [steps] at hx
  | act n p, c', h, x, hx => by
    simp only [pass] at h
    split at h
    · cases h
    · rename_i hn
      obtain rfl := Option.some.inj h
      simp only [steps, List.mem_singleton] at hx
      subst hx
      exact ⟨hn, (n, p), by simp [steps], rfl⟩
  | wait n p, c', _, x, hx => by simp [steps] at hx
  | sum a b, c', h, x, hx => by
    simp only [pass] at h
    obtain ⟨a', ha, h⟩ := Option.bind_eq_some_iff.1 h
    obtain ⟨b', hb, h⟩ := Option.bind_eq_some_iff.1 h
    obtain rfl := Option.some.inj h
    simp only [steps, List.mem_append] at hx
    rcases hx with hx | hx
    · obtain ⟨h0, y, hy, e⟩ := pass_steps a a' ha x hx
      exact ⟨h0, y, by simp only [steps, List.mem_append]; exact .inl hy, e⟩
    · obtain ⟨h0, y, hy, e⟩ := pass_steps b b' hb x hx
      exact ⟨h0, y, by simp only [steps, List.mem_append]; exact .inr hy, e⟩
  | par a b, c', h, x, hx => by
    simp only [pass] at h
    obtain ⟨a', ha, h⟩ := Option.bind_eq_some_iff.1 h
    obtain ⟨b', hb, h⟩ := Option.bind_eq_some_iff.1 h
    split at h
    · cases h
    · rename_i hm
      obtain rfl := Option.some.inj h
      simp only [steps, List.mem_append, List.mem_map, List.mem_flatMap, List.mem_filterMap] at hx
      rcases hx with (⟨z, hz, rfl⟩ | ⟨z, hz, rfl⟩) | ⟨z, hz, u, hu, hmt⟩
      · obtain ⟨h0, y, hy, e⟩ := pass_steps a a' ha z hz
        exact ⟨h0, (y.1, par y.2 b'), by simp only [steps, List.mem_append, List.mem_map]; exact .inl (.inl ⟨y, hy, rfl⟩), e⟩
      · obtain ⟨h0, y, hy, e⟩ := pass_steps b b' hb z hz
        exact ⟨h0, (y.1, par a' y.2), by simp only [steps, List.mem_append, List.mem_map]; exact .inl (.inr ⟨y, hy, rfl⟩), e⟩
      · unfold meet at hmt
        split at hmt
        · rename_i hc
          exact absurd (by unfold meets; exact List.any_eq_true.2 ⟨z, hz, List.any_eq_true.2 ⟨u, hu, decide_eq_true hc⟩⟩) hm
        · cases hmt
/-- What a call that lets one unit pass tells. -/
def told : Option Clk → Int × Int × List S25 × Bool
  | some c' => ((enc c').f0, (enc c').f1, (enc c').f2, true)
  | none => (0, 0, [], false)
theorem ev_ClockPass {c : Clk} (h : ok c) (hs : sz c ≤ 16) : Ev (fun k => impl_ClockPass.f k (enc c).f0 (enc c).f1 (enc c).f2) (told (pass c)) := by
  have hN : nodes (enc c) ≤ 16 := by rw [nodes_enc]; exact hs
  have h1 := ev_implOk (enc c) (by omega)
  rw [okC_enc h hs] at h1
  obtain ⟨r, e, t⟩ := ev_pass c h (by omega)
  refine Ev.bind (f := fun k b => if b = true then (impl_pass.f k (enc c).f0 (enc c).f1 (enc c).f2).bind fun x => if x.2.2.2 = true then some (x.1, x.2.1, x.2.2.1, true) else some (0, 0, [], false) else some (0, 0, [], false)) h1 ?_
  refine Ev.congr (f := fun k => (impl_pass.f k (enc c).f0 (enc c).f1 (enc c).f2).bind fun x => if x.2.2.2 = true then some (x.1, x.2.1, x.2.2.1, true) else some (0, 0, [], false)) (fun k => by rw [if_pos rfl]) ?_
  refine Ev.bind (f := fun k x => if x.2.2.2 = true then some (x.1, x.2.1, x.2.2.1, true) else some (0, 0, [], false)) e ?_
  unfold Told at t
  cases hp : pass c with
  | none =>
    rw [hp] at t
    dsimp only at t
    exact Ev.congr (f := fun _ => some (0, 0, [], false)) (fun k => by rw [if_neg (by rw [t]; simp)]) (Ev.now _)
  | some c' =>
    rw [hp] at t
    dsimp only at t
    subst t
    exact Ev.congr (f := fun _ => some (told (some c'))) (fun k => by rw [if_pos rfl]; rfl) (Ev.now _)
end Clk
theorem ev_ClockPass_no (t : S25) (hN : nodes t ≤ 1099511627776) (h : okC t = false) : Ev (fun k => impl_ClockPass.f k t.f0 t.f1 t.f2) (0, 0, [], false) := by
  have h1 := ev_implOk t hN
  rw [h] at h1
  refine Ev.bind (f := fun k b => if b = true then (impl_pass.f k t.f0 t.f1 t.f2).bind fun x => if x.2.2.2 = true then some (x.1, x.2.1, x.2.2.1, true) else some (0, 0, [], false) else some (0, 0, [], false)) h1 ?_
  exact Ev.congr (f := fun k => some (0, 0, [], false)) (fun k => by rw [if_neg (by simp)]) (Ev.now _)
end Go.Proofs.Ytfnmjecofgeboaa.PAll
