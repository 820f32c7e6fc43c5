/- FnExactSealUnder: for any two messages that are trees the program's SealUnder returns what the reference's does, and they read afterwards as they read before. -/
import Derived.Test.YtlcladalpjcegaaDoorRows
import Derived.Test.YtlcladalpjcegaaDoorPAllLExUnder
import Derived.Test.YtlcladalpjcegaaDoorEx2
import Derived.Test.YtlcladalpjcegaaDoorQ5
import Derived.WalkKit
import Derived.LaidMore
import Derived.Stop.Joined
import Derived.ProofKit
import Derived.OpenShut
import Derived.ShutString
import Derived.ChangeOld
import Derived.Below
import Derived.SizedLaws
namespace Go.Proofs.YtlcladalpjcegaaDoor.fnExactSealUnder
open Go.ChangeShapes Go.WideShapes Go.ChangeAt Go.RowKit
open Go.Proofs.YtlcladalpjcegaaDoorW.PrintWords
open Go.Proofs.YtlcladalpjcegaaDoor.PAll
set_option linter.unusedVariables false
/-- The plain law. -/
theorem pure (t u : S33) (hL : Lens t) (hM : Lens u) : ∃ k, laws_FnExactSealUnder.f k t.f0 t.f1 t.f2 u.f0 u.f1 u.f2 = some true := by
  obtain ⟨r, e, c⟩ := ev_sz _ t (Nat.le_refl _) hL 1048576 (by omega) (by omega)
  refine Ev.rounds (g := fun k => laws_FnExactSealUnder.f k t.f0 t.f1 t.f2 u.f0 u.f1 u.f2) (Ev.congr (fun k => by rw [laws_FnExactSealUnder.f]) (Ev.bind e ?_))
  by_cases hneg : r < 0
  · exact Ev.congr (f := fun _ => some true) (fun k => by rw [if_pos hneg]) (Ev.now _)
  · have hp := bulk33_pos t
    have hb : bulk33 t ≤ 1048577 := by omega
    obtain ⟨r2, e2, c2⟩ := ev_sz _ u (Nat.le_refl _) hM r (by omega) (by omega)
    refine Ev.congr (fun k => by rw [if_neg hneg]) (Ev.bind e2 ?_)
    by_cases hneg2 : r2 < 0
    · exact Ev.congr (f := fun _ => some true) (fun k => by rw [if_pos hneg2]) (Ev.now _)
    · have hb2 : bulk33 u ≤ 1048577 := by omega
      have hN : nodes (conv t) ≤ 1099511627776 := by unfold bulk33 at hb; omega
      have hN2 : nodes (conv u) ≤ 1099511627776 := by unfold bulk33 at hb2; omega
      have et := ev_to _ t (Nat.le_refl _) (by omega)
      have eu := ev_to _ u (Nat.le_refl _) (by omega)
      have qt := ev_eq _ (conv t) (Nat.le_refl _) hN
      have qu := ev_eq _ (conv u) (Nat.le_refl _) hN2
      obtain ⟨b, _, i, s⟩ := ev_und (conv t) (conv u) hN hN2
      refine Ev.congr (fun k => by rw [if_neg hneg2]) (Ev.bind et (Ev.bind eu (Ev.bind s (Ev.bind et (Ev.bind eu (Ev.bind i ?_))))))
      refine Ev.congr (fun k => by rw [if_neg (by simp)]) (Ev.bind et (Ev.bind qt ?_))
      refine Ev.congr (fun k => by rw [if_pos rfl]) (Ev.bind eu (Ev.bind qu ?_))
      exact Ev.congr (fun k => by rw [if_pos rfl]) (Ev.now _)
/-- What the row lists: three tables of the library. -/
def laid3 {H : Type} : List (String × DataW H) := [("math/bits.deBruijn32tab", Rows.laid_math_bits_deBruijn32tab), ("math/bits.deBruijn64tab", Rows.laid_math_bits_deBruijn64tab), ("internal/strconv.uint64pow10", Rows.laid_internal_strconv_uint64pow10)]
/-- The door's own heap meets what the row lists. -/
theorem door_met (os : Os) (args : Array Value) : laidMetH Tryd.prog laid3 ((World.doorLaid Tryd.prog 400 os).forCall (fun _ _ => 0) ⟨#[], args, []⟩).memory :=
  laidMetH_of_parts3 (fuel := 8) (laidMet_of_run' 8 (by kernel_rfl) (by kernel_rfl)) (by kernel_rfl) (by kernel_rfl)
theorem own : ownKnob Tryd.prog.godebug = none := by kernel_rfl
theorem laidOut : laidOutB Tryd.prog = true := by kernel_rfl
set_option maxRecDepth 100000 in
theorem lifted (os : Os) (started : os.Started) (H : Type) (enc : TypeId × Value → H) :
    ReturnsInHanded {} Tryd.checked os 6 .any (fun w args => (Rows.fnExactSealUnderSpec.pre enc Tryd.prog Tryd.f6 [] false w args ∧ laidMetH Tryd.prog laid3 w) ∧ sizedMet enc Tryd.prog Tryd.f6 (OpenSpec.ofChange Rows.fnExactSealUnderSpec) false w args)
      (Rows.fnExactSealUnderSpec.post enc Tryd.prog Tryd.f6 false true false false) := by
  refine returnsInHanded_of_change_and (C := Tryd.checked) (X := fun w _ => laidMetH Tryd.prog laid3 w) (fun _ _ _ hh h => h.of_heap hh) own started (by kernel_rfl) Tryd.func6
    (ChangeSpec.witness_shaped (enc := enc) (C := Tryd.checked) (os := os) (X := fun w _ => laidMetH Tryd.prog laid3 w) false (World.doorLaid Tryd.prog 400 os) #[.agg #[.int .i64 0, .int .i64 0, .slice none 0 0], .agg #[.int .i64 0, .int .i64 0, .slice none 0 0]] 8 rfl (World.shaped_of_RefB (by kernel_rfl) (by kernel_rfl)) (by kernel_rfl) (by kernel_rfl) (by kernel_rfl) (door_met os _)) ?_
  intro W base args ds gs before hval0 hW hcnd hsz0 _ _
  have hval : ∀ (j : Nat) t v, Tryd.f6.params[j]? = some t → args[j]? = some v → Value.okWide Tryd.prog W .any base t v := hval0
  have hW' := hW
  obtain ⟨p, q, hA0, hV, rfl, hfz, hnd⟩ := hW
  have hA : DataW.TrodAll enc Tryd.prog W 0 (fun _ => true) true Tryd.f6.params.toList args.toList ds p := hA0
  rw [Tryd.params6] at hA hval
  obtain ⟨v0, vs0, d0, ds0, p0, q0, hargs, rfl, rfl, h0, r0⟩ := trodAll_cons hA
  obtain ⟨v1, vs1, d1, ds1, p1, q1, hargs1, rfl, rfl, h1, r1⟩ := trodAll_cons r0
  obtain ⟨rfl, rfl, rfl⟩ := trodAll_nil r1
  obtain rfl : args = #[v0, v1] := by cases args; simp_all
  obtain ⟨rfl, rfl⟩ := trodVars_none hV
  have hv0 := hval 0 33 v0 rfl rfl
  unfold Value.okWide at hv0
  rw [Tryd.underlying33] at hv0
  obtain ⟨cs, rfl, _, _⟩ := hv0
  have hv1 := hval 1 33 v1 rfl rfl
  unfold Value.okWide at hv1
  rw [Tryd.underlying33] at hv1
  obtain ⟨es, rfl, _, _⟩ := hv1
  have k0 := h0
  have k1 := h1
  have lt0 : ∀ x ∈ p0, x.block < W.heap.size := by obtain ⟨m, hm⟩ := k0; exact DataW.trod_lt m _ _ _ hm
  have lt1 : ∀ x ∈ p1, x.block < W.heap.size := by obtain ⟨m, hm⟩ := k1; exact DataW.trod_lt m _ _ _ hm
  obtain ⟨fuel, hf⟩ := h0
  obtain ⟨t, hK, hL⟩ := open33 fuel _ _ hf
  obtain ⟨A2, c2, hcs, hl2, hC⟩ := k33_open hK
  have hcs2 : cs = #[.int .i64 t.f0, .int .i64 t.f1, .slice A2 t.f2.length c2] := by
    have : cs.toList = [.int .i64 t.f0, .int .i64 t.f1, .slice A2 t.f2.length c2] := hcs
    rw [← Array.toArray_toList (xs := cs), this]
  subst hcs2
  obtain ⟨fuel1, hf1⟩ := h1
  obtain ⟨u, hK1, hL1⟩ := open33 fuel1 _ _ hf1
  obtain ⟨A3, c3, hes, hl3, hC1⟩ := k33_open hK1
  have hes2 : es = #[.int .i64 u.f0, .int .i64 u.f1, .slice A3 u.f2.length c3] := by
    have : es.toList = [.int .i64 u.f0, .int .i64 u.f1, .slice A3 u.f2.length c3] := hes
    rw [← Array.toArray_toList (xs := es), this]
  subst hes2
  obtain ⟨k, hk⟩ := pure t u hL hL1
  clear hA0 hval0 hsz0
  refine (laws_FnExactSealUnder.calls k t.f0 t.f1 A2 c2 t.f2 u.f0 u.f1 A3 c3 u.f2 true W hC hl2 hC1 hl3 hk).mono fun e W' ⟨he, bel⟩ => ?_
  subst he
  exact ⟨_, rfl, _, _, _, [], _, [], hW', trodAll_mk1 (shut_bool Tryd.underlying4 _), (trodAll_cons_mk (Below.trod laidOut (by kernel_rfl) (of_decide_eq_true (by kernel_rfl)) k0 bel lt0) (trodAll_cons_mk (Below.trod laidOut (by kernel_rfl) (of_decide_eq_true (by kernel_rfl)) k1 bel lt1) trodAll_mk0)), rfl, bel.frame _, fun h => by cases h⟩
theorem over : Rows.fnExactSealUnderRow.holds Tryd.pinned (OpenSpec.ofChange Rows.fnExactSealUnderSpec) :=
  OpenClaim.holds_of_wide 6 Tryd.f6 rfl rfl rfl rfl rfl rfl rfl ⟨rfl, rfl, rfl, rfl, rfl⟩ rfl rfl rfl rfl rfl (by kernel_rfl) Tryd.func6 (by kernel_rfl)
    (of_decide_eq_true (by kernel_rfl)) (by unfold Func.isWrapper; first | (rw [if_pos (by decide +kernel)]; kernel_rfl) | (rw [if_neg (by decide +kernel)]; exact ⟨rfl, rfl⟩))
    (fun os started H enc _ => lifted os started H enc)
theorem proved : Rows.FnExactSealUnderSaid := over
#print axioms proved
end Go.Proofs.YtlcladalpjcegaaDoor.fnExactSealUnder
namespace Go.Proofs.YtlcladalpjcegaaDoor
/-- The row, under a short name, for the claim. -/
theorem fnExactSealUnder_holds : Rows.FnExactSealUnderSaid := fnExactSealUnder.proved
end Go.Proofs.YtlcladalpjcegaaDoor
