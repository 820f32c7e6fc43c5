/- PLAIN LAWS OF TERMS WITH TIME, 6: every drawn term is small. -/
import Derived.Test.YtfnmjecofgeboaaQ5
import Derived.Test.YtfnmjecofgeboaaQ3
namespace Go.Proofs.Ytfnmjecofgeboaa.PAll
set_option linter.unusedVariables false
open Go.RowKit Go.Proofs.YtfnmjecofgeboaaW.PrintWords Go.Proofs.YtfnmjecofgeboaaW.PrintLast Go.Proofs.YtfnmjecofgeboaaW.PrintMore

/-- How far a term of a depth brings its reader. -/
def far : Nat → Nat
  | 0 => 0
  | d + 1 => 4 + 2 * far d
/-- How many nodes a term of a depth has at the most. -/
def many : Nat → Nat
  | 0 => 1
  | d + 1 => 1 + 2 * many d
theorem ev_clock {l : List Int} (h : Code l) : ∀ (d : Nat), d ≤ 10 → ∀ p : Int, 0 ≤ p → p + far d ≤ 700000000 →
    ∃ (t : S25) (q : Int), Ev (fun k => spec_l92Clock.f k l p (d : Int)) (t.f0, t.f1, t.f2, q) ∧ p ≤ q ∧ q ≤ p + far d ∧ nodes t ≤ many d
  | 0, _, p, hp, hp2 => ⟨⟨0, 0, []⟩, p, Ev.step (f := fun _ => some (0, 0, [], p)) (fun k => by rw [spec_l92Clock.f, if_pos (by simp)]) (Ev.now _), by omega, by omega, by simp [nodes, nodesL, many]⟩
  | d + 1, hd, p, hp, hp2 => by
    have hw : wrap64 (((d + 1 : Nat) : Int) - 1) = (d : Int) := by rw [wr (by omega) (by omega)]; omega
    have hB : far (d + 1) = 4 + 2 * far d := rfl
    have hM : many (d + 1) = 1 + 2 * many d := rfl
    have hne : ¬ ((d + 1 : Nat) : Int) = 0 := by omega
    obtain ⟨v1, e1, a1, b1⟩ := ev_pick h p 9 hp (by omega) (by omega)
    by_cases c1 : v1 < 3
    · obtain ⟨a, q1, e2, x2, y2⟩ := ev_act h (p + 1) (by omega) (by omega)
      obtain ⟨t, q2, e3, x3, y3, z3⟩ := ev_clock h d (by omega) q1 (by omega) (by omega)
      refine ⟨⟨1, a, [t]⟩, q2, Ev.step (fun k => by rw [spec_l92Clock.f, if_neg hne]) (Ev.bind e1 ?_), by omega, by omega, by simp [nodes, nodesL]; omega⟩
      simp only [if_pos c1]
      refine Ev.bind e2 ?_
      simp only [hw]
      refine Ev.bind e3 ?_
      simp only [eta25]
      exact Ev.now _
    · by_cases c2 : v1 < 6
      · obtain ⟨v2, e2, a2, b2⟩ := ev_pick h (p + 1) 4 (by omega) (by omega) (by omega)
        obtain ⟨v3, e3, a3, b3⟩ := ev_pick h (p + 1 + 1) 30 (by omega) (by omega) (by omega)
        by_cases c3 : v3 = 0
        · obtain ⟨v4, e4, a4, b4⟩ := ev_pick h (p + 1 + 1 + 1) 3 (by omega) (by omega) (by omega)
          obtain ⟨t, q2, e5, x5, y5, z5⟩ := ev_clock h d (by omega) (p + 1 + 1 + 1 + 1) (by omega) (by omega)
          refine ⟨⟨2, rd [0, 10, 9] v4, [t]⟩, q2, Ev.step (fun k => by rw [spec_l92Clock.f, if_neg hne]) (Ev.bind e1 ?_), by omega, by omega, by simp [nodes, nodesL]; omega⟩
          simp only [if_neg c1, if_pos c2]
          refine Ev.bind e2 ?_
          refine Ev.bind e3 ?_
          simp only [if_pos c3, Option.bind_some]
          refine Ev.bind e4 ?_
          have c4 : v4 < (([0, 10, 9] : List Int).length : Int) := by simpa using b4
          simp only [if_pos a4, if_pos c4, hw]
          refine Ev.bind e5 ?_
          simp only [eta25]
          exact Ev.now _
        · obtain ⟨t, q2, e5, x5, y5, z5⟩ := ev_clock h d (by omega) (p + 1 + 1 + 1) (by omega) (by omega)
          refine ⟨⟨2, wrap64 (1 + v2), [t]⟩, q2, Ev.step (fun k => by rw [spec_l92Clock.f, if_neg hne]) (Ev.bind e1 ?_), by omega, by omega, by simp [nodes, nodesL]; omega⟩
          simp only [if_neg c1, if_pos c2]
          refine Ev.bind e2 ?_
          refine Ev.bind e3 ?_
          simp only [if_neg c3, hw]
          refine Ev.bind e5 ?_
          simp only [eta25]
          exact Ev.now _
      · by_cases c3 : v1 = 6
        · refine ⟨⟨0, 0, []⟩, p + 1, Ev.step (fun k => by rw [spec_l92Clock.f, if_neg hne]) (Ev.bind e1 ?_), by omega, by omega, by simp [nodes, nodesL]; omega⟩
          simp only [if_neg c1, if_neg c2, if_pos c3]
          exact Ev.now _
        · obtain ⟨t, q2, e2, x2, y2, z2⟩ := ev_clock h d (by omega) (p + 1) (by omega) (by omega)
          obtain ⟨u, q3, e3, x3, y3, z3⟩ := ev_clock h d (by omega) q2 (by omega) (by omega)
          refine ⟨⟨if v1 = 8 then 4 else 3, 0, [t, u]⟩, q3, Ev.step (fun k => by rw [spec_l92Clock.f, if_neg hne]) (Ev.bind e1 ?_), by omega, by omega, by simp [nodes, nodesL]; omega⟩
          by_cases c4 : v1 = 8
          · simp only [if_neg c1, if_neg c2, if_neg c3, if_pos c4, hw]
            refine Ev.bind e2 ?_
            refine Ev.bind e3 ?_
            simp only [eta25]
            exact Ev.now _
          · simp only [if_neg c1, if_neg c2, if_neg c3, if_neg c4, hw]
            refine Ev.bind e2 ?_
            refine Ev.bind e3 ?_
            simp only [eta25]
            exact Ev.now _
theorem many_4 : many 4 = 31 := rfl
theorem far_4 : far 4 = 60 := rfl
theorem far_mono : ∀ d, d ≤ 4 → far d ≤ 60 ∧ many d ≤ 31
  | 0, _ => by decide
  | 1, _ => by decide
  | 2, _ => by decide
  | 3, _ => by decide
  | 4, _ => by decide
  | _ + 5, h => by omega
theorem nodes_same (t u : S25) (h : t.f2 = u.f2) : nodes t = nodes u := by rw [nodes_eq, nodes_eq, h]
theorem ev_timed {l : List Int} (h : Code l) (p : Int) (hp : 0 ≤ p) (hp2 : p ≤ 1000) :
    ∃ (t : S25) (q : Int), Ev (fun k => spec_l92Timed.f k l p) (t.f0, t.f1, t.f2, q) ∧ p ≤ q ∧ q ≤ p + 100 ∧ nodes t ≤ 31 := by
  obtain ⟨v1, e1, a1, b1⟩ := ev_pick h p 4 hp (by omega) (by omega)
  obtain ⟨v, rfl⟩ := Int.eq_ofNat_of_zero_le a1
  obtain ⟨hf, hm⟩ := far_mono (v + 1) (by omega)
  obtain ⟨t, q1, e2, x2, y2, z2⟩ := ev_clock h (v + 1) (by omega) (p + 1) (by omega) (by omega)
  obtain ⟨v3, e3, a3, b3⟩ := ev_pick h q1 30 (by omega) (by omega) (by omega)
  have hw : wrap64 (1 + (v : Int)) = ((v + 1 : Nat) : Int) := by rw [wr (by omega) (by omega)]; omega
  by_cases c1 : v3 = 0
  · obtain ⟨v4, e4, a4, b4⟩ := ev_pick h (q1 + 1) 7 (by omega) (by omega) (by omega)
    refine ⟨⟨v4, t.f1, t.f2⟩, q1 + 1 + 1, Ev.bind e1 ?_, by omega, by omega, by have := nodes_same ⟨v4, t.f1, t.f2⟩ t rfl; omega⟩
    simp only [hw]
    refine Ev.bind e2 ?_
    refine Ev.bind e3 ?_
    simp only [if_pos c1]
    refine Ev.bind e4 ?_
    exact Ev.now _
  · by_cases c2 : v3 = 1
    · refine ⟨⟨t.f0, -1, t.f2⟩, q1 + 1, Ev.bind e1 ?_, by omega, by omega, by have := nodes_same ⟨t.f0, -1, t.f2⟩ t rfl; omega⟩
      simp only [hw]
      refine Ev.bind e2 ?_
      refine Ev.bind e3 ?_
      simp only [if_neg c1, if_pos c2]
      exact Ev.now _
    · refine ⟨t, q1 + 1, Ev.bind e1 ?_, by omega, by omega, by omega⟩
      simp only [hw]
      refine Ev.bind e2 ?_
      refine Ev.bind e3 ?_
      simp only [if_neg c1, if_neg c2]
      exact Ev.now _
theorem of_wf {l : List Int} (h : ∀ x ∈ l, (Lit.int .u8 x).wf = true) : ∀ x ∈ l, 0 ≤ x ∧ x ≤ 255 := by
  intro x hx
  have := h x hx
  simp only [Lit.wf, Bool.and_eq_true, decide_eq_true_eq, show IntKind.min .u8 = 0 from rfl, show IntKind.max .u8 = 255 from rfl] at this
  omega
end Go.Proofs.Ytfnmjecofgeboaa.PAll
