/- THE PLAIN LAW OF ClockPass: time passes in one way, behind waiting, too. -/
import Derived.Test.YtfnmjecofgeboaaPAllLPass
import Derived.Test.YtfnmjecofgeboaaQ6
import Derived.Test.YtfnmjecofgeboaaQ9
namespace Go.Proofs.Ytfnmjecofgeboaa.Pure
open Go.RowKit Go.Proofs.Ytfnmjecofgeboaa.PAll Go.Proofs.Ytfnmjecofgeboaa.PAll.Clk Go.Proofs.YtfnmjecofgeboaaW.PrintWords Go.Proofs.YtfnmjecofgeboaaW.PrintLast

theorem drawnPass {l0 : List Int} (hb : ∀ x ∈ l0, (Lit.int .u8 x).wf = true) : ∃ t : S25, nodes t ≤ 31 ∧ Ev (fun k => spec_DrawClockPass.f k l0) (t.f0, t.f1, t.f2) := by
  obtain ⟨m, hm, hc⟩ := ev_open (of_wf hb)
  obtain ⟨t, q, e, _, _, hn⟩ := ev_timed hc 0 (by omega) (by omega)
  refine ⟨t, hn, Ev.congr (f := fun k => (spec_l92Timed.f k m 0).bind fun b => some (b.1, b.2.1, b.2.2.1)) (fun k => ?_) (Ev.bind (f := fun _ b => some (b.1, b.2.1, b.2.2.1)) e (Ev.now _))⟩
  rw [spec_DrawClockPass.f, hm]
  rfl
theorem ev_mn_told (v : Option Clk) (hv : ∀ c, v = some c → sz c ≤ 16) : Ev (fun k => laws_mnClock.f k (told v).1 (told v).2.1 (told v).2.2.1 (told v).1 (told v).2.1 (told v).2.2.1) true := by
  cases v with
  | none => exact ev_mn 1 (enc nil) (by simp [enc, nodes, nodesL]) (by simp [enc, nodes, nodesL])
  | some c => exact ev_mn _ (enc c) (Nat.le_refl _) (by rw [nodes_enc]; have := hv c rfl; omega)
theorem ev_sPass {c : Clk} (h : ok c) (hs : sz c ≤ 16) : Ev (fun k => spec_ClockPass.f k (enc c).f0 (enc c).f1 (enc c).f2) (told (pass c)) := by
  have e := ev_sLater h hs 1 (by omega)
  rw [show later 1 c = pass c by simp only [later]; cases pass c <;> rfl] at e
  exact Ev.bind (f := fun _ b => some (b.1, b.2.1, b.2.2.1, b.2.2.2)) e (Ev.now _)
theorem ev_sPass_no (t : S25) (h : okC t = false) : Ev (fun k => spec_ClockPass.f k t.f0 t.f1 t.f2) (0, 0, [], false) := by
  have e := ev_sLater_no t 1 (.inl h)
  exact Ev.bind (f := fun _ b => some (b.1, b.2.1, b.2.2.1, b.2.2.2)) e (Ev.now _)
theorem okC_wait (t : S25) (h : okC t = false) : okC ⟨2, 2, [t]⟩ = false := by
  have e1 : shp ⟨2, 2, [t]⟩ = shp t := by rw [shp_eq]; simp [shapeWant, shpL]
  have e2 : nodes ⟨2, 2, [t]⟩ = 1 + nodes t := by rw [nodes_eq]; simp [nodesL]
  unfold okC at h ⊢
  rw [e1, e2]
  cases hs : shp t with
  | false => rfl
  | true =>
    rw [hs] at h
    simp at h ⊢
    omega
/-- Behind the first test: what waits. -/
theorem ev_wait (t : S25) (v : Option Clk) (hn : nodes t ≤ 31) (h1 : okC t = true → ∃ c, t = enc c ∧ ok c ∧ sz c ≤ 16 ∧ v = pass c) : Ev (fun k => laws_FnClockPass.j0 k (told v).2.2.2 ((told v).2.2.2 != (told v).2.2.2) t.f0 t.f1 t.f2 (told v).1 (told v).2.1 (told v).2.2.1) true := by
  have hok := ev_implOk ⟨2, 2, [t]⟩ (by simp [nodes, nodesL]; omega)
  rw [bne_self_eq_false]
  cases hw : okC ⟨2, 2, [t]⟩ with
  | false =>
    rw [hw] at hok
    refine Ev.step (fun k => by simp only [laws_FnClockPass.j0, eta25]; rfl) (Ev.bind hok ?_)
    exact Ev.now _
  | true =>
    rw [hw] at hok
    have ht : okC t = true := by
      cases h : okC t with
      | true => rfl
      | false => rw [okC_wait t h] at hw; cases hw
    obtain ⟨c, rfl, kc, hs, rfl⟩ := h1 ht
    have hsz : sz (wait 2 c) ≤ 16 := by
      have := hw
      simp only [okC, Bool.and_eq_true, decide_eq_true_eq] at this
      rw [← nodes_enc]; exact this.2
    have p1 := ev_ClockPass (c := wait 2 c) ⟨by omega, kc⟩ hsz
    have p2 := ev_ClockPass (c := wait 1 c) ⟨by omega, kc⟩ hsz
    have p3 := ev_ClockPass kc hs
    have hN : nodes (enc c) ≤ 1099511627776 := by omega
    refine Ev.step (fun k => by simp only [laws_FnClockPass.j0, eta25]; rfl) (Ev.bind hok ?_)
    refine Ev.bind p1 (Ev.bind p2 (Ev.bind p3 ?_))
    have hq : (((told (pass c)).2.2.2 == (told (pass c)).2.2.2) = true) := by simp
    simp only [hq, if_true]
    refine Ev.bind (ev_mn _ (enc (wait 1 c)) (Nat.le_refl _) (by rw [nodes_enc]; simp only [sz] at hsz ⊢; omega)) ?_
    refine Ev.bind (ev_mn _ (enc c) (Nat.le_refl _) hN) ?_
    cases hb : (told (pass c)).2.2.2 with
    | false => exact Ev.now _
    | true =>
      simp only [if_true]
      exact Ev.bind (ev_mn_told (pass c) (fun c' hc => by have := (pass_ok c c' kc hc).2; omega)) (Ev.now _)
theorem FnClockPass : laws_FnClockPass.Pure := by
  intro l0 _ _ hb
  by_cases hl : (l0.length : Int) > 1048576
  · exact ⟨0, by rw [laws_FnClockPass.f, if_pos hl]⟩
  · obtain ⟨t, hn, e⟩ := drawnPass hb
    refine Ev.rounds (Ev.congr (fun k => by rw [laws_FnClockPass.f, if_neg hl]) (Ev.bind e ?_))
    cases h : okC t
    · refine Ev.bind (ev_ClockPass_no t (by omega) h) (Ev.bind (ev_sPass_no t h) (Ev.bind (ev_mn_told none (fun c hc => by cases hc)) ?_))
      exact ev_wait t none hn (fun h' => by rw [h] at h'; cases h')
    · obtain ⟨c, rfl, kc, hs⟩ := of_okC h
      refine Ev.bind (ev_ClockPass kc hs) (Ev.bind (ev_sPass kc hs) (Ev.bind (ev_mn_told (pass c) (fun c' hc => by have := (pass_ok c c' kc hc).2; omega)) ?_))
      exact ev_wait (enc c) (pass c) hn (fun _ => ⟨c, rfl, kc, hs, rfl⟩)
end Go.Proofs.Ytfnmjecofgeboaa.Pure
