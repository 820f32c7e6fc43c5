/- THE PLAIN LAW OF ClockSteps: the program's steps are the specification's; where time can pass no step is unseen, and each act is still there behind it. -/
import Derived.Test.YtfnmjecofgeboaaPAllLSteps
import Derived.Test.YtfnmjecofgeboaaQ6
import Derived.Test.YtfnmjecofgeboaaQ7
import Derived.Test.YtfnmjecofgeboaaQ8
namespace Go.Proofs.Ytfnmjecofgeboaa.Pure
open Go.RowKit Go.Proofs.Ytfnmjecofgeboaa.PAll Go.Proofs.Ytfnmjecofgeboaa.PAll.Clk Go.Proofs.YtfnmjecofgeboaaW.PrintWords Go.Proofs.YtfnmjecofgeboaaW.PrintLast

theorem drawnSteps {l0 : List Int} (hb : ∀ x ∈ l0, (Lit.int .u8 x).wf = true) : ∃ t : S25, nodes t ≤ 31 ∧ Ev (fun k => spec_DrawClockSteps.f k l0) (t.f0, t.f1, t.f2) := by
  obtain ⟨m, hm, hc⟩ := ev_open (of_wf hb)
  obtain ⟨t, q, e, _, _, hn⟩ := ev_timed hc 0 (by omega) (by omega)
  refine ⟨t, hn, Ev.congr (f := fun k => (spec_l92Timed.f k m 0).bind fun b => some (b.1, b.2.1, b.2.2.1)) (fun k => ?_) (Ev.bind (f := fun _ b => some (b.1, b.2.1, b.2.2.1)) e (Ev.now _))⟩
  rw [spec_DrawClockSteps.f, hm]
  rfl
theorem ev_in (X L : List S44) (p : Bool) (i : Nat) (hi : i < X.length) (hX : X.length ≤ 1099511627776) (hL : L.length ≤ 1099511627776) : ∀ (d j : Nat) (acc : Bool), L.length - j = d → j ≤ L.length →
    (p = true → (acc || (L.drop j).any fun y => y.f0 == X[i].f0) = true) → Ev (fun k => laws_FnClockSteps.l0 k X p L ((i + 1 : Nat) : Int)) true → Ev (fun k => laws_FnClockSteps.l1 k X p L (i : Int) acc (j : Int)) true := by
  intro d
  induction d with
  | zero =>
    intro j acc hd hj hp hR
    have hjl : j = L.length := by omega
    subst hjl
    refine Ev.step (fun k => ?_) hR
    simp only [laws_FnClockSteps.l1]
    rw [if_neg (by omega), wr (x := (i : Int) + 1) (by omega) (by omega)]
    cases p with
    | false => rfl
    | true =>
      have := hp rfl
      simp at this
      subst this
      rfl
  | succ d ihd =>
    intro j acc hd hj hp hR
    have hlt : j < L.length := by omega
    have hdr : L.drop j = L[j] :: L.drop (j + 1) := List.drop_eq_getElem_cons hlt
    rw [hdr, List.any_cons] at hp
    cases acc with
    | true =>
      refine Ev.step (fun k => ?_) (ihd (j + 1) true (by omega) (by omega) (fun _ => by simp) hR)
      simp only [laws_FnClockSteps.l1]
      rw [if_pos (by omega), if_pos trivial, wr (x := (j : Int) + 1) (by omega) (by omega)]
      rfl
    | false =>
      refine Ev.step (fun k => ?_) (ihd (j + 1) (L[j].f0 == X[i].f0) (by omega) (by omega) (fun h => by simpa using hp h) hR)
      simp only [laws_FnClockSteps.l1]
      rw [if_pos (by omega), if_neg (by simp), if_pos (by omega), if_pos (by omega), if_pos (by omega), rd44 L j hlt, rd44 X i hi, wr (x := (j : Int) + 1) (by omega) (by omega)]
      rfl
theorem ev_each (X L : List S44) (p : Bool) (hX : X.length ≤ 1099511627776) (hL : L.length ≤ 1099511627776) (hp : p = true → ∀ x ∈ X, x.f0 ≠ 0 ∧ (L.any fun y => y.f0 == x.f0) = true) : ∀ (d i : Nat), X.length - i = d → i ≤ X.length →
    Ev (fun k => laws_FnClockSteps.l0 k X p L (i : Int)) true := by
  intro d
  induction d with
  | zero =>
    intro i hd hi
    have hil : i = X.length := by omega
    subst hil
    exact Ev.step (f := fun _ => some true) (fun k => by simp only [laws_FnClockSteps.l0]; rw [if_neg (by omega)]) (Ev.now _)
  | succ d ihd =>
    intro i hd hi
    have hlt : i < X.length := by omega
    have hrest := ihd (i + 1) (by omega) (by omega)
    have hin := ev_in X L p i hlt hX hL L.length 0 false (by omega) (by omega) (fun h => by simpa using (hp h X[i] (List.getElem_mem hlt)).2) hrest
    have hj2 : Ev (fun k => laws_FnClockSteps.j2 k X p L (i : Int) false) true := Ev.step (fun k => by simp only [laws_FnClockSteps.j2]; rw [if_neg (by simp)]; rfl) hin
    refine Ev.step (fun k => ?_) hj2
    simp only [laws_FnClockSteps.l0]
    rw [if_pos (by omega), if_pos (by omega), rd44 X i hlt]
    by_cases h0 : X[i].f0 = 0
    · rw [if_pos h0]
      cases p with
      | false => rfl
      | true => exact absurd h0 (hp rfl X[i] (List.getElem_mem hlt)).1
    · rw [if_neg h0]
theorem FnClockSteps : laws_FnClockSteps.Pure := by
  intro l0 _ _ hb
  by_cases hl : (l0.length : Int) > 1048576
  · exact ⟨0, by rw [laws_FnClockSteps.f, if_pos hl]⟩
  · obtain ⟨t, hn, e⟩ := drawnSteps hb
    refine Ev.rounds (Ev.congr (fun k => by rw [laws_FnClockSteps.f, if_neg hl]) (Ev.bind e ?_))
    cases h : okC t
    · refine Ev.bind (ev_ClockSteps_no t (by omega) h) ?_
      refine Ev.bind (ev_sClockSteps_no t h) ?_
      refine Ev.bind (ev_mnT [] (by simp) (by simp)) ?_
      simp only [if_true]
      refine Ev.step (f := fun k => (impl_ClockPass.f k t.f0 t.f1 t.f2).bind fun u => (impl_ClockSteps.f k u.1 u.2.1 u.2.2.1).bind fun s => laws_FnClockSteps.l0 k [] u.2.2.2 s.1 0) (fun k => by simp only [laws_FnClockSteps.j0]; rfl) ?_
      refine Ev.bind (ev_ClockPass_no t (by omega) h) ?_
      refine Ev.bind (ev_ClockSteps (c := nil) trivial (by simp [sz])) ?_
      exact Ev.step (f := fun _ => some true) (fun k => by simp only [laws_FnClockSteps.l0]; rfl) (Ev.now _)
    · obtain ⟨c, rfl, kc, hs⟩ := of_okC h
      have hls := stepsE_len c (by omega)
      refine Ev.bind (ev_ClockSteps kc hs) ?_
      refine Ev.bind (ev_sClockSteps kc hs) ?_
      refine Ev.bind (ev_mnT (stepsE c) (by omega) (fun x hx => by
        unfold stepsE at hx
        obtain ⟨y, hy, rfl⟩ := List.mem_map.1 hx
        show nodes (enc y.2) ≤ _
        rw [nodes_enc]
        have := (steps_ok c kc y hy).2.2
        omega)) ?_
      simp only [if_true]
      refine Ev.step (f := fun k => (impl_ClockPass.f k (enc c).f0 (enc c).f1 (enc c).f2).bind fun u => (impl_ClockSteps.f k u.1 u.2.1 u.2.2.1).bind fun s => laws_FnClockSteps.l0 k (stepsE c) u.2.2.2 s.1 0) (fun k => by simp only [laws_FnClockSteps.j0]; rfl) ?_
      refine Ev.bind (ev_ClockPass kc hs) ?_
      cases hp : pass c with
      | none =>
        refine Ev.bind (ev_ClockSteps (c := nil) trivial (by simp [sz])) ?_
        exact ev_each (stepsE c) (stepsE nil) false (by omega) (by simp [stepsE, steps]) (fun h => by simp at h) (stepsE c).length 0 (by omega) (by omega)
      | some c' =>
        obtain ⟨k1, k2⟩ := pass_ok c c' kc hp
        have hl2 := stepsE_len c' (by omega)
        refine Ev.bind (ev_ClockSteps k1 (by omega)) ?_
        refine ev_each (stepsE c) (stepsE c') true (by omega) (by omega) (fun _ x hx => ?_) (stepsE c).length 0 (by omega) (by omega)
        unfold stepsE at hx
        obtain ⟨y, hy, rfl⟩ := List.mem_map.1 hx
        obtain ⟨h0, z, hz, ez⟩ := pass_steps c c' hp y hy
        exact ⟨h0, List.any_eq_true.2 ⟨encT z, List.mem_map.2 ⟨z, hz, rfl⟩, beq_iff_eq.2 ez⟩⟩
end Go.Proofs.Ytfnmjecofgeboaa.Pure
