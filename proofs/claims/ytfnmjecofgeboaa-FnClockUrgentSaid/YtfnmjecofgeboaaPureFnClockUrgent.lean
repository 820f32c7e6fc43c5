/- THE PLAIN LAW OF ClockUrgent: so much time can pass, and no more. -/
import Derived.Test.YtfnmjecofgeboaaPAllLUrgent
import Derived.Test.YtfnmjecofgeboaaQ6
import Derived.Test.YtfnmjecofgeboaaQ9
namespace Go.Proofs.Ytfnmjecofgeboaa.Pure
open Go.RowKit Go.Proofs.Ytfnmjecofgeboaa.PAll Go.Proofs.Ytfnmjecofgeboaa.PAll.Clk Go.Proofs.YtfnmjecofgeboaaW.PrintWords Go.Proofs.YtfnmjecofgeboaaW.PrintLast

theorem drawnUrgent {l0 : List Int} (hb : ∀ x ∈ l0, (Lit.int .u8 x).wf = true) : ∃ t : S25, nodes t ≤ 31 ∧ Ev (fun k => spec_DrawClockUrgent.f k l0) (t.f0, t.f1, t.f2) := by
  obtain ⟨m, hm, hc⟩ := ev_open (of_wf hb)
  obtain ⟨t, q, e, _, _, hn⟩ := ev_timed hc 0 (by omega) (by omega)
  refine ⟨t, hn, Ev.congr (f := fun k => (spec_l92Timed.f k m 0).bind fun b => some (b.1, b.2.1, b.2.2.1)) (fun k => ?_) (Ev.bind (f := fun _ b => some (b.1, b.2.1, b.2.2.1)) e (Ev.now _))⟩
  rw [spec_DrawClockUrgent.f, hm]
  rfl
theorem FnClockUrgent : laws_FnClockUrgent.Pure := by
  intro l0 _ _ hb
  by_cases hl : (l0.length : Int) > 1048576
  · exact ⟨0, by rw [laws_FnClockUrgent.f, if_pos hl]⟩
  · obtain ⟨t, hn, e⟩ := drawnUrgent hb
    refine Ev.rounds (Ev.congr (fun k => by rw [laws_FnClockUrgent.f, if_neg hl]) (Ev.bind e ?_))
    cases h : okC t
    · refine Ev.bind (ev_ClockUrgent_no t (by omega) h) ?_
      refine Ev.bind (ev_sUrgent_no t h) ?_
      have hi := ev_implOk t (by omega)
      rw [h] at hi
      refine Ev.congr (fun k => by rw [if_pos rfl, if_pos (by omega), if_pos rfl]) (Ev.bind hi ?_)
      exact Ev.now _
    · obtain ⟨c, rfl, kc, hs⟩ := of_okC h
      have hu := urg_le 100 c
      obtain ⟨⟨d, hd⟩, hno⟩ := later_urg 100 c
      refine Ev.bind (ev_ClockUrgent kc hs) ?_
      refine Ev.bind (ev_sUrgent kc hs) ?_
      refine Ev.congr (fun k => by rw [if_pos rfl, if_neg (by omega)]) (Ev.bind (ev_Later kc hs (urg 100 c) hu) ?_)
      rw [hd]
      have hmore : Ev (fun k => impl_ClockLater.f k (enc c).f0 (enc c).f1 (enc c).f2 (wrap64 ((urg 100 c : Int) + 1))) (0, 0, [], false) := by
        rw [wr (by omega) (by omega)]
        by_cases h100 : urg 100 c < 100
        · have := ev_Later kc hs (urg 100 c + 1) (by omega)
          rw [hno h100] at this
          exact this
        · exact ev_Later_no (enc c) ((urg 100 c : Int) + 1) (by rw [nodes_enc]; omega) (.inr (.inr (by omega)))
      refine Ev.bind hmore ?_
      exact Ev.now _
end Go.Proofs.Ytfnmjecofgeboaa.Pure
