/- THE PLAIN LAW OF ClockLater: time adds up. -/
import Derived.Test.YtfnmjecofgeboaaPAllLLater
import Derived.Test.YtfnmjecofgeboaaQ6
import Derived.Test.YtfnmjecofgeboaaQ9
namespace Go.Proofs.Ytfnmjecofgeboaa.Pure
open Go.RowKit Go.Proofs.Ytfnmjecofgeboaa.PAll Go.Proofs.Ytfnmjecofgeboaa.PAll.Clk Go.Proofs.YtfnmjecofgeboaaW.PrintWords Go.Proofs.YtfnmjecofgeboaaW.PrintLast

theorem drawnLater {l0 : List Int} (hb : ∀ x ∈ l0, (Lit.int .u8 x).wf = true) : ∃ (t : S25) (n : Int), nodes t ≤ 31 ∧ Ev (fun k => spec_DrawClockLater.f k l0) (t.f0, t.f1, t.f2, n) := by
  obtain ⟨m, hm, hc⟩ := ev_open (of_wf hb)
  obtain ⟨t, q, e, hq0, hq1, hn⟩ := ev_timed hc 0 (by omega) (by omega)
  obtain ⟨v1, e1, a1, b1⟩ := ev_pick hc q 8 (by omega) (by omega) (by omega)
  obtain ⟨v2, e2, a2, b2⟩ := ev_pick hc (q + 1) 20 (by omega) (by omega) (by omega)
  by_cases hv : v2 = 0
  · obtain ⟨v3, e3, a3, b3⟩ := ev_pick hc (q + 1 + 1) 3 (by omega) (by omega) (by omega)
    refine ⟨t, rd [-1, 100, 101] v3, hn, Ev.congr (fun k => by rw [spec_DrawClockLater.f, hm]; rfl) (Ev.bind e (Ev.bind e1 (Ev.bind e2 ?_)))⟩
    refine Ev.congr (fun k => by rw [if_pos hv]; rfl) (Ev.bind e3 ?_)
    exact Ev.congr (fun k => by rw [if_pos a3, if_pos (by simpa using b3)]) (Ev.now _)
  · refine ⟨t, v1, hn, Ev.congr (fun k => by rw [spec_DrawClockLater.f, hm]; rfl) (Ev.bind e (Ev.bind e1 (Ev.bind e2 ?_)))⟩
    exact Ev.congr (fun k => by rw [if_neg hv]) (Ev.now _)
theorem ev_none (X : Int) (t : S25) : Ev (fun k => laws_FnClockLater.j0 k X false (false != false) t.f0 t.f1 t.f2 0 0 []) true := by
  refine Ev.step (f := fun k => laws_FnClockLater.j1 k X false true t.f0 t.f1 t.f2 0 0 []) (fun k => by simp only [laws_FnClockLater.j0]; rfl) ?_
  exact Ev.step (f := fun _ => some true) (fun k => by simp only [laws_FnClockLater.j1]; rfl) (Ev.now _)
theorem FnClockLater : laws_FnClockLater.Pure := by
  intro l0 _ _ hb
  by_cases hl : (l0.length : Int) > 1048576
  · exact ⟨0, by rw [laws_FnClockLater.f, if_pos hl]⟩
  · obtain ⟨t, n, hn, e⟩ := drawnLater hb
    refine Ev.rounds (Ev.congr (fun k => by rw [laws_FnClockLater.f, if_neg hl]) (Ev.bind e ?_))
    have hno : Ev (fun k => impl_ClockLater.f k t.f0 t.f1 t.f2 n) (0, 0, [], false) → Ev (fun k => spec_ClockLater.f k t.f0 t.f1 t.f2 n) (0, 0, [], false) → Ev (fun k => (impl_ClockLater.f k t.f0 t.f1 t.f2 n).bind fun bt801 => (spec_ClockLater.f k t.f0 t.f1 t.f2 n).bind fun bt808 => (laws_mnClock.f k bt801.1 bt801.2.1 bt801.2.2.1 bt808.1 bt808.2.1 bt808.2.2.1).bind fun t815 => if t815 = true then laws_FnClockLater.j0 k n bt801.2.2.2 (bt801.2.2.2 != bt808.2.2.2) t.f0 t.f1 t.f2 bt801.1 bt801.2.1 bt801.2.2.1 else laws_FnClockLater.j0 k n bt801.2.2.2 true t.f0 t.f1 t.f2 bt801.1 bt801.2.1 bt801.2.2.1) true := by
      intro h1 h2
      refine Ev.bind h1 (Ev.bind h2 (Ev.bind (ev_mn 1 (enc nil) (by simp [enc, nodes, nodesL]) (by simp [enc, nodes, nodesL])) ?_))
      exact Ev.congr (fun k => by rw [if_pos rfl]) (ev_none n t)
    by_cases hok : okC t = true ∧ 0 ≤ n ∧ n ≤ 100
    · obtain ⟨h, h0, h100⟩ := hok
      obtain ⟨c, rfl, kc, hs⟩ := of_okC h
      obtain ⟨n, rfl⟩ := Int.eq_ofNat_of_zero_le h0
      have i1 := ev_Later kc hs n (by omega)
      have i2 := ev_sLater kc hs n (by omega)
      cases hL : later n c with
      | none =>
        rw [hL] at i1 i2
        exact hno i1 i2
      | some c' =>
        rw [hL] at i1 i2
        obtain ⟨k1, k2⟩ := later_ok n c c' kc hL
        have hN' : nodes (enc c') ≤ 1099511627776 := by rw [nodes_enc]; omega
        refine Ev.bind i1 (Ev.bind i2 (Ev.bind (ev_mn _ (enc c') (Nat.le_refl _) hN') ?_))
        refine Ev.congr (fun k => by rw [if_pos rfl]) ?_
        refine Ev.step (f := fun k => laws_FnClockLater.j1 k (n : Int) true ((n : Int) == 0) (enc c).f0 (enc c).f1 (enc c).f2 (enc c').f0 (enc c').f1 (enc c').f2) (fun k => by simp only [laws_FnClockLater.j0]; rfl) ?_
        cases n with
        | zero =>
          obtain rfl := Option.some.inj hL
          refine Ev.step (f := fun k => (laws_mnClock.f k (enc c).f0 (enc c).f1 (enc c).f2 (enc c).f0 (enc c).f1 (enc c).f2).bind fun t => some t) (fun k => by simp only [laws_FnClockLater.j1]; rfl) ?_
          exact Ev.bind (ev_mn _ (enc c) (Nat.le_refl _) hN') (Ev.now _)
        | succ n =>
          rw [later_succ] at hL
          obtain ⟨c'', hL2, hp⟩ := Option.bind_eq_some_iff.1 hL
          obtain ⟨k3, k4⟩ := later_ok n c c'' kc hL2
          have j1 := ev_Later kc hs n (by omega)
          rw [hL2] at j1
          have j2 := ev_ClockPass k3 (by omega)
          rw [hp] at j2
          have hlen := pass_len c'' c' hp
          refine Ev.step (f := fun k => (impl_ClockLater.f k (enc c).f0 (enc c).f1 (enc c).f2 (n : Int)).bind fun u => (impl_ClockPass.f k u.1 u.2.1 u.2.2.1).bind fun x => (impl_ClockSteps.f k u.1 u.2.1 u.2.2.1).bind fun y => (impl_ClockSteps.f k (enc c').f0 (enc c').f1 (enc c').f2).bind fun z => if u.2.2.2 = true then (if x.2.2.2 = true then (laws_mnClock.f k x.1 x.2.1 x.2.2.1 (enc c').f0 (enc c').f1 (enc c').f2).bind fun m => (if m = true then some (decide ((y.1.length : Int) ≤ (z.1.length : Int))) else some false) else some false) else some false) (fun k => ?_) ?_
          · simp only [laws_FnClockLater.j1]
            rw [if_neg (by rw [beq_iff_eq]; omega), wr (by omega) (by omega), show ((n + 1 : Nat) : Int) - 1 = (n : Int) by omega]
          · refine Ev.bind j1 (Ev.bind j2 (Ev.bind (ev_ClockSteps k3 (by omega)) (Ev.bind (ev_ClockSteps k1 (by omega)) ?_)))
            refine Ev.congr (f := fun k => (laws_mnClock.f k (enc c').f0 (enc c').f1 (enc c').f2 (enc c').f0 (enc c').f1 (enc c').f2).bind fun m => if m = true then some (decide (((stepsE c'').length : Int) ≤ ((stepsE c').length : Int))) else some false) (fun k => rfl) (Ev.bind (ev_mn _ (enc c') (Nat.le_refl _) hN') ?_)
            refine Ev.congr (f := fun _ => some true) (fun k => ?_) (Ev.now _)
            rw [if_pos rfl, decide_eq_true (by rw [stepsE_len_eq, stepsE_len_eq]; omega)]
    · have h3 : okC t = false ∨ n < 0 ∨ n > 100 := by
        by_cases h : okC t = true
        · exact .inr (by have hh : ¬ (0 ≤ n ∧ n ≤ 100) := fun hh => hok ⟨h, hh⟩; omega)
        · exact .inl (Bool.eq_false_iff.mpr h)
      exact hno (ev_Later_no t n (by omega) h3) (ev_sLater_no t n h3)
end Go.Proofs.Ytfnmjecofgeboaa.Pure
