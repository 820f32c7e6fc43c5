/- FnExactSealText: for every message that is a tree the program's SealText returns what the reference's does, and the message reads afterwards as it read before. -/
import Derived.Test.YtlcladalpjcegaaDoorRows
import Derived.Test.YtlcladalpjcegaaDoorPAllLExText
import Derived.Test.YtlcladalpjcegaaDoorEx2
import Derived.WalkKit
import Derived.LaidMore
import Derived.Stop.Joined
import Derived.ProofKit
import Derived.OpenShut
import Derived.ShutString
import Derived.ChangeOld
import Derived.Below
import Derived.SizedLaws
namespace Go.Proofs.YtlcladalpjcegaaDoor.fnExactSealText
open Go.ChangeShapes Go.WideShapes Go.ChangeAt Go.RowKit
open Go.Proofs.YtlcladalpjcegaaDoorW.PrintWords
open Go.Proofs.YtlcladalpjcegaaDoor.PAll
set_option linter.unusedVariables false
/-- The plain law. -/
theorem pure (t : S33) (hL : Lens t) : ∃ k, laws_FnExactSealText.f k t.f0 t.f1 t.f2 = some true := by
  obtain ⟨r, e, c⟩ := ev_sz _ t (Nat.le_refl _) hL 1048576 (by omega) (by omega)
  refine Ev.rounds (g := fun k => laws_FnExactSealText.f k t.f0 t.f1 t.f2) (Ev.congr (fun k => by rw [laws_FnExactSealText.f]) (Ev.bind e ?_))
  by_cases hneg : r < 0
  · exact Ev.congr (f := fun _ => some true) (fun k => by rw [if_pos hneg]) (Ev.now _)
  · have hb : bulk33 t ≤ 1048577 := by omega
    have hN : nodes (conv t) ≤ 1099511627776 := by unfold bulk33 at hb; omega
    have et := ev_to _ t (Nat.le_refl _) (by omega)
    have eq := ev_eq _ (conv t) (Nat.le_refl _) hN
    obtain ⟨u, _, e2, e1⟩ := ev_txt (conv t) hN
    refine Ev.congr (fun k => by rw [if_neg hneg]) (Ev.bind et (Ev.bind e1 (Ev.bind et (Ev.bind e2 ?_))))
    refine Ev.congr (fun k => by rw [if_pos rfl]) (Ev.bind et (Ev.bind eq ?_))
    exact Ev.now _
/-- What the row lists: three tables of the library. -/
def laid3 {H : Type} : List (String × DataW H) := [("math/bits.deBruijn32tab", Rows.laid_math_bits_deBruijn32tab), ("math/bits.deBruijn64tab", Rows.laid_math_bits_deBruijn64tab), ("internal/strconv.uint64pow10", Rows.laid_internal_strconv_uint64pow10)]
/-- The door's own heap meets what the row lists. -/
theorem door_met (os : Os) (args : Array Value) : laidMetH Tryd.prog laid3 ((World.doorLaid Tryd.prog 400 os).forCall (fun _ _ => 0) ⟨#[], args, []⟩).memory :=
  laidMetH_of_parts3 (fuel := 8) (laidMet_of_run' 8 (by kernel_rfl) (by kernel_rfl)) (by kernel_rfl) (by kernel_rfl)
theorem own : ownKnob Tryd.prog.godebug = none := by kernel_rfl
theorem laidOut : laidOutB Tryd.prog = true := by kernel_rfl
set_option maxRecDepth 100000 in
theorem lifted (os : Os) (started : os.Started) (H : Type) (enc : TypeId × Value → H) :
    ReturnsInHanded {} Tryd.checked os 5 .any (fun w args => (Rows.fnExactSealTextSpec.pre enc Tryd.prog Tryd.f5 [] false w args ∧ laidMetH Tryd.prog laid3 w) ∧ sizedMet enc Tryd.prog Tryd.f5 (OpenSpec.ofChange Rows.fnExactSealTextSpec) false w args)
      (Rows.fnExactSealTextSpec.post enc Tryd.prog Tryd.f5 false true false false) := by
  refine returnsInHanded_of_change_and (C := Tryd.checked) (X := fun w _ => laidMetH Tryd.prog laid3 w) (fun _ _ _ hh h => h.of_heap hh) own started (by kernel_rfl) Tryd.func5
    (ChangeSpec.witness_shaped (enc := enc) (C := Tryd.checked) (os := os) (X := fun w _ => laidMetH Tryd.prog laid3 w) false (World.doorLaid Tryd.prog 400 os) #[.agg #[.int .i64 0, .int .i64 0, .slice none 0 0]] 8 rfl (World.shaped_of_RefB (by kernel_rfl) (by kernel_rfl)) (by kernel_rfl) (by kernel_rfl) (by kernel_rfl) (door_met os _)) ?_
  intro W base args ds gs before hval0 hW hcnd hsz0 _ _
  have hval : ∀ (j : Nat) t v, Tryd.f5.params[j]? = some t → args[j]? = some v → Value.okWide Tryd.prog W .any base t v := hval0
  have hW' := hW
  obtain ⟨p, q, hA0, hV, rfl, hfz, hnd⟩ := hW
  have hA : DataW.TrodAll enc Tryd.prog W 0 (fun _ => true) true Tryd.f5.params.toList args.toList ds p := hA0
  rw [Tryd.params5] at hA hval
  obtain ⟨v0, vs0, d0, ds0, p0, q0, hargs, rfl, rfl, h0, r0⟩ := trodAll_cons hA
  obtain ⟨rfl, rfl, rfl⟩ := trodAll_nil r0
  obtain rfl : args = #[v0] := by cases args; simp_all
  obtain ⟨rfl, rfl⟩ := trodVars_none hV
  have hv0 := hval 0 33 v0 rfl rfl
  unfold Value.okWide at hv0
  rw [Tryd.underlying33] at hv0
  obtain ⟨cs, rfl, _, _⟩ := hv0
  have k0 := h0
  have lt0 : ∀ x ∈ p0, x.block < W.heap.size := by obtain ⟨m, hm⟩ := k0; exact DataW.trod_lt m _ _ _ hm
  obtain ⟨fuel, hf⟩ := h0
  obtain ⟨t, hK, hL⟩ := open33 fuel _ _ hf
  obtain ⟨A2, c2, hcs, hl2, hC⟩ := k33_open hK
  have hcs2 : cs = #[.int .i64 t.f0, .int .i64 t.f1, .slice A2 t.f2.length c2] := by
    have : cs.toList = [.int .i64 t.f0, .int .i64 t.f1, .slice A2 t.f2.length c2] := hcs
    rw [← Array.toArray_toList (xs := cs), this]
  subst hcs2
  obtain ⟨k, hk⟩ := pure t hL
  clear hA0 hval0 hsz0
  refine (laws_FnExactSealText.calls k t.f0 t.f1 A2 c2 t.f2 true W hC hl2 hk).mono fun e W' ⟨he, bel⟩ => ?_
  subst he
  exact ⟨_, rfl, _, _, _, [], _, [], hW', trodAll_mk1 (shut_bool Tryd.underlying4 _), (trodAll_cons_mk (Below.trod laidOut (by kernel_rfl) (of_decide_eq_true (by kernel_rfl)) k0 bel lt0) trodAll_mk0), rfl, bel.frame _, fun h => by cases h⟩
theorem over : Rows.fnExactSealTextRow.holds Tryd.pinned (OpenSpec.ofChange Rows.fnExactSealTextSpec) :=
  OpenClaim.holds_of_wide 5 Tryd.f5 rfl rfl rfl rfl rfl rfl rfl ⟨rfl, rfl, rfl, rfl, rfl⟩ rfl rfl rfl rfl rfl (by kernel_rfl) Tryd.func5 (by kernel_rfl)
    (of_decide_eq_true (by kernel_rfl)) (by unfold Func.isWrapper; first | (rw [if_pos (by decide +kernel)]; kernel_rfl) | (rw [if_neg (by decide +kernel)]; exact ⟨rfl, rfl⟩))
    (fun os started H enc _ => lifted os started H enc)
theorem proved : Rows.FnExactSealTextSaid := over
#print axioms proved
end Go.Proofs.YtlcladalpjcegaaDoor.fnExactSealText
namespace Go.Proofs.YtlcladalpjcegaaDoor
/-- The row, under a short name, for the claim. -/
theorem fnExactSealText_holds : Rows.FnExactSealTextSaid := fnExactSealText.proved
end Go.Proofs.YtlcladalpjcegaaDoor
