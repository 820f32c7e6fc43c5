/- FnExactClockUrgent: for every term with time that is a tree the program's ClockUrgent returns what the reference's does, and the term reads afterwards as it read before. -/
import Derived.Test.YtfnmjecofgeboaaRows
import Derived.Test.YtfnmjecofgeboaaPAllLExUrgent
import Derived.Test.YtfnmjecofgeboaaEx2
import Derived.WalkKit
import Derived.ProofKit
import Derived.OpenShut
import Derived.ShutString
import Derived.ChangeOld
import Derived.Below
import Derived.SizedLaws
namespace Go.Proofs.Ytfnmjecofgeboaa.fnExactClockUrgent
open Go.ChangeShapes Go.WideShapes Go.ChangeAt Go.RowKit
open Go.Proofs.YtfnmjecofgeboaaW.PrintWords
open Go.Proofs.Ytfnmjecofgeboaa.PAll Go.Proofs.Ytfnmjecofgeboaa.PAll.Clk
set_option linter.unusedVariables false
/-- The plain law. -/
theorem pure (t : S35) (hL : Lens t) : ∃ k, laws_FnExactClockUrgent.f k t.f0 t.f1 t.f2 = some true := by
  obtain ⟨r, e, c⟩ := ev_sz _ t (Nat.le_refl _) hL 1048576 (by omega) (by omega)
  refine Ev.rounds (g := fun k => laws_FnExactClockUrgent.f k t.f0 t.f1 t.f2) (Ev.congr (fun k => by rw [laws_FnExactClockUrgent.f]) (Ev.bind e ?_))
  by_cases hneg : r < 0
  · exact Ev.congr (f := fun _ => some true) (fun k => by rw [if_pos hneg]) (Ev.now _)
  · have hb : bulk35 t ≤ 1048577 := by omega
    have hN : nodes (conv t) ≤ 1099511627776 := by unfold bulk35 at hb; omega
    have et := ev_to _ t (Nat.le_refl _) (by omega)
    have eq := ev_eq _ (conv t) (Nat.le_refl _) hN
    have two : ∃ u : Int, Ev (fun k => spec_ClockUrgent.f k (conv t).f0 (conv t).f1 (conv t).f2) u ∧ Ev (fun k => impl_ClockUrgent.f k (conv t).f0 (conv t).f1 (conv t).f2) u := by
      cases h : okC (conv t) with
      | false => exact ⟨-1, ev_sUrgent_no _ h, ev_ClockUrgent_no _ hN h⟩
      | true =>
        obtain ⟨d, hd, kd, hs⟩ := of_okC h
        rw [← hd]
        exact ⟨_, ev_sUrgent kd hs, ev_ClockUrgent kd hs⟩
    obtain ⟨u, e1, e2⟩ := two
    refine Ev.congr (fun k => by rw [if_neg hneg]) (Ev.bind et (Ev.bind e1 (Ev.bind et (Ev.bind e2 ?_))))
    refine Ev.congr (fun k => by rw [if_pos rfl]) (Ev.bind et (Ev.bind eq ?_))
    exact Ev.now _
theorem own : ownKnob Try.prog.godebug = none := by kernel_rfl
theorem laidOut : laidOutB Try.prog = true := by kernel_rfl
set_option maxRecDepth 100000 in
theorem lifted (os : Os) (started : os.Started) (H : Type) (enc : TypeId × Value → H) :
    ReturnsInHanded {} Try.checked os 4 .any (Rows.fnExactClockUrgentSpec.pre6 enc Try.prog Try.f4 Rows.fnExactClockUrgentRow.domain false) (Rows.fnExactClockUrgentSpec.post enc Try.prog Try.f4 false true false false) := by
  refine returnsInHanded_of_change_sized (C := Try.checked) own started (by kernel_rfl) Try.func4
    (ChangeSpec.witness6 (enc := enc) (C := Try.checked) false ⟨#[], #[.agg #[.int .i64 0, .int .i64 0, .slice none 0 0]], []⟩ 8 (by kernel_rfl) (by kernel_rfl) (by kernel_rfl) (by kernel_rfl)) ?_
  intro W base args ds gs before hval0 hW hcnd hsz0 _
  have hval : ∀ (j : Nat) t v, Try.f4.params[j]? = some t → args[j]? = some v → Value.okWide Try.prog W .any base t v := hval0
  have hW' := hW
  obtain ⟨p, q, hA0, hV, rfl, hfz, hnd⟩ := hW
  have hA : DataW.TrodAll enc Try.prog W 0 (fun _ => true) true Try.f4.params.toList args.toList ds p := hA0
  rw [Try.params4] at hA hval
  obtain ⟨v0, vs0, d0, ds0, p0, q0, hargs, rfl, rfl, h0, r0⟩ := trodAll_cons hA
  obtain ⟨rfl, rfl, rfl⟩ := trodAll_nil r0
  obtain rfl : args = #[v0] := by cases args; simp_all
  obtain ⟨rfl, rfl⟩ := trodVars_none hV
  have hv0 := hval 0 35 v0 rfl rfl
  unfold Value.okWide at hv0
  rw [Try.underlying35] at hv0
  obtain ⟨cs, rfl, _, _⟩ := hv0
  have k0 := h0
  have lt0 : ∀ x ∈ p0, x.block < W.heap.size := by obtain ⟨m, hm⟩ := k0; exact DataW.trod_lt m _ _ _ hm
  obtain ⟨fuel, hf⟩ := h0
  obtain ⟨t, hK, hL⟩ := open35 fuel _ _ hf
  obtain ⟨A2, c2, hcs, hl2, hC⟩ := k35_open hK
  have hcs2 : cs = #[.int .i64 t.f0, .int .i64 t.f1, .slice A2 t.f2.length c2] := by
    have : cs.toList = [.int .i64 t.f0, .int .i64 t.f1, .slice A2 t.f2.length c2] := hcs
    rw [← Array.toArray_toList (xs := cs), this]
  subst hcs2
  obtain ⟨k, hk⟩ := pure t hL
  clear hA0 hval0 hsz0
  refine (laws_FnExactClockUrgent.calls k t.f0 t.f1 A2 c2 t.f2 true ⟨rfl⟩ W hC hl2 hk).mono fun e W' ⟨he, bel⟩ => ?_
  subst he
  exact ⟨_, rfl, _, _, _, [], _, [], hW', trodAll_mk1 (shut_bool Try.underlying4 _), (trodAll_cons_mk (Below.trod laidOut (by kernel_rfl) (of_decide_eq_true (by kernel_rfl)) k0 bel lt0) trodAll_mk0), rfl, bel.frame _, fun h => by cases h⟩
theorem over : Rows.fnExactClockUrgentRow.holds Try.pinned (OpenSpec.ofChange Rows.fnExactClockUrgentSpec) :=
  OpenClaim.holds_of_wide 4 Try.f4 rfl rfl rfl rfl rfl rfl rfl ⟨rfl, rfl, rfl, rfl, rfl⟩ rfl rfl rfl rfl rfl (by kernel_rfl) Try.func4 (by kernel_rfl)
    (of_decide_eq_true (by kernel_rfl)) (by unfold Func.isWrapper; first | (rw [if_pos (by decide +kernel)]; kernel_rfl) | (rw [if_neg (by decide +kernel)]; exact ⟨rfl, rfl⟩))
    (fun os started H enc _ => lifted os started H enc)
theorem proved : Rows.FnExactClockUrgentSaid := over
#print axioms proved
end Go.Proofs.Ytfnmjecofgeboaa.fnExactClockUrgent
namespace Go.Proofs.Ytfnmjecofgeboaa
/-- The row, under a short name, for the claim. -/
theorem fnExactClockUrgent_holds : Rows.FnExactClockUrgentSaid := fnExactClockUrgent.proved
end Go.Proofs.Ytfnmjecofgeboaa
