/- THE PLAIN LAW OF ClockOk: what the program tells well-formed is what the specification does, at every drawn term. -/
import Derived.Test.YtfnmjecofgeboaaPAllLOk
import Derived.Test.YtfnmjecofgeboaaQ4
import Derived.Test.YtfnmjecofgeboaaQ6
namespace Go.Proofs.Ytfnmjecofgeboaa.Pure
open Go.RowKit Go.Proofs.Ytfnmjecofgeboaa.PAll Go.Proofs.Ytfnmjecofgeboaa.PAll.Clk Go.Proofs.YtfnmjecofgeboaaW.PrintWords Go.Proofs.YtfnmjecofgeboaaW.PrintLast

theorem drawn {l0 : List Int} (hb : ∀ x ∈ l0, (Lit.int .u8 x).wf = true) : ∃ t : S25, nodes t ≤ 31 ∧ Ev (fun k => spec_DrawClockOk.f k l0) (t.f0, t.f1, t.f2) := by
  obtain ⟨m, hm, hc⟩ := ev_open (of_wf hb)
  obtain ⟨t, q, e, _, _, hn⟩ := ev_timed hc 0 (by omega) (by omega)
  refine ⟨t, hn, Ev.congr (f := fun k => (spec_l92Timed.f k m 0).bind fun b => some (b.1, b.2.1, b.2.2.1)) (fun k => ?_) (Ev.bind (f := fun _ b => some (b.1, b.2.1, b.2.2.1)) e (Ev.now _))⟩
  rw [spec_DrawClockOk.f, hm]
  rfl
theorem FnClockOk : laws_FnClockOk.Pure := by
  intro l0 _ _ hb
  by_cases hl : (l0.length : Int) > 1048576
  · exact ⟨0, by rw [laws_FnClockOk.f, if_pos hl]⟩
  · obtain ⟨t, hn, e⟩ := drawn hb
    have h1 := ev_implOk t (by omega)
    have h2 := ev_specOk t
    refine Ev.rounds (Ev.congr (fun k => by rw [laws_FnClockOk.f, if_neg hl]) (Ev.bind e (Ev.bind h1 (Ev.bind h2 ?_))))
    have hne : ¬ ((okC t != okC t) = true) := by simp
    simp only [if_neg hne]
    cases h : okC t
    · refine Ev.bind (ev_ClockSteps_no t (by omega) h) ?_
      refine Ev.bind (ev_ClockUrgent_no t (by omega) h) ?_
      exact Ev.congr (fun k => by simp) (Ev.now _)
    · obtain ⟨c, rfl, kc, hs⟩ := of_okC h
      refine Ev.bind (ev_ClockSteps kc hs) ?_
      refine Ev.bind (ev_ClockUrgent kc hs) ?_
      exact Ev.congr (fun k => by simp) (Ev.now _)
end Go.Proofs.Ytfnmjecofgeboaa.Pure
