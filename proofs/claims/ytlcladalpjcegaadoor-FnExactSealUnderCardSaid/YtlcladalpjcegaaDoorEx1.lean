/- A MESSAGE THAT COMES IN: what the reading of a datum says of the memory: a tree of cells. -/
import Derived.Test.YtlcladalpjcegaaDoorPAllx33
import Derived.ChangeArms
import Derived.ChangeSame
import Derived.ChangeSlices
import Derived.DataElems
namespace Go.Proofs.YtlcladalpjcegaaDoor.PAll
open Go.RowKit Go.Proofs.YtlcladalpjcegaaDoorW.PrintWords Go.Proofs.YtlcladalpjcegaaDoorW.PrintLast Go.Proofs.YtlcladalpjcegaaDoorW.PrintMore
set_option linter.unusedVariables false
/-- Rows of a length that a machine can hold, all through. -/
inductive Lens : S33 → Prop
  | mk (a b : Int) (l : List S33) (h : l.length ≤ 9223372036854775807) (each : ∀ x ∈ l, Lens x) : Lens ⟨a, b, l⟩
theorem Lens.len {t : S33} (h : Lens t) : t.f2.length ≤ 9223372036854775807 := by cases h; assumption
theorem Lens.each {t : S33} (h : Lens t) : ∀ x ∈ t.f2, Lens x := by cases h; assumption
theorem pick33 {W : World} {base : Nat} {a : Addr} : ∀ len : Nat, (∀ i, i < len → ∃ (c : List Value) (s : S33), W.cells? base (a.add (i * 3)) 3 = some c ∧ k33.K W s c ∧ Lens s) → ∃ l : List S33, l.length = len ∧ ∀ i (hi : i < l.length), ∃ c : List Value, W.cells? base (a.add (i * 3)) 3 = some c ∧ k33.K W l[i] c ∧ Lens l[i]
  | 0, _ => ⟨[], rfl, fun i hi => absurd hi (Nat.not_lt_zero i)⟩
  | len + 1, each => by
    obtain ⟨l, hll, hl2⟩ := pick33 len (fun i hi => each i (by omega))
    obtain ⟨c, s, hc, hs, hn⟩ := each len (by omega)
    refine ⟨l ++ [s], by simp [hll], fun i hi => ?_⟩
    rw [List.length_append] at hi
    by_cases hi2 : i < l.length
    · obtain ⟨c', h1, h2⟩ := hl2 i hi2
      exact ⟨c', h1, by rw [List.getElem_append_left hi2]; exact h2⟩
    · have : i = len := by simp at hi; omega
      subst this
      refine ⟨c, hc, ?_⟩
      rw [List.getElem_append_right (by omega)]
      simpa using ⟨hs, hn⟩
set_option maxRecDepth 100000 in
theorem open33 {H : Type} {enc : TypeId × Value → H} {W : World} {base : Nat} {spare : Nat → Bool} {held : Bool} : ∀ (fuel : Nat) (cs : List Value) (x : DataW H × List MemPlace), DataW.trod enc Tryd.prog W base spare held fuel 33 cs = some x → ∃ s : S33, k33.K W s cs ∧ Lens s := by
  intro fuel
  induction fuel using Nat.strongRecOn with
  | _ fuel ih =>
  intro cs x h
  obtain ⟨xs, n, rfl, rfl, hl, hlen, hf⟩ := DataW.trod_struct Tryd.underlying33 h
  have hl3 : cs.length = 3 := hl
  match xs, hlen with
  | [y0, y1, y2], _ =>
    match cs, hl3 with
    | [c0, c1, c2], _ =>
      have h0 : DataW.trod enc Tryd.prog W base spare held n 3 [c0] = some y0 := hf 0 _ rfl
      have h1 : DataW.trod enc Tryd.prog W base spare held n 3 [c1] = some y1 := hf 1 _ rfl
      have h2 : DataW.trod enc Tryd.prog W base spare held n 31 [c2] = some y2 := hf 2 _ rfl
      obtain ⟨a0, e0, _, _⟩ := DataW.trod_int Tryd.underlying3 h0
      obtain ⟨a1, e1, _, _⟩ := DataW.trod_int Tryd.underlying3 h1
      injection e0 with e0 _
      injection e1 with e1 _
      subst e0
      subst e1
      rcases DataW.trod_slice Tryd.underlying31 h2 with ⟨e2, _⟩ | ⟨a, len, cap, elems, rest, m, rfl, e2, _, hb, hle, hm, hel, hat, _, _⟩
      · injection e2 with e2 _
        subst e2
        exact ⟨⟨a0, a1, []⟩, k33_mk W ⟨a0, a1, []⟩ (Nat.le_refl _) (Kd.C_nil _ _), Lens.mk _ _ _ (by simp) (by simp)⟩
      · injection e2 with e2 _
        subst e2
        have each : ∀ i, i < len → ∃ (c : List Value) (s : S33), W.cells? base (a.add (i * 3)) 3 = some c ∧ k33.K W s c ∧ Lens s := by
          intro i hi
          have h3 := hat i hi
          rw [List.getElem?_eq_getElem (by omega)] at h3
          obtain ⟨c, hc, hy⟩ := Option.bind_eq_some_iff.1 h3
          obtain ⟨s, hs, hn⟩ := ih m (by omega) c _ hy
          exact ⟨c, s, hc, hs, hn⟩
        obtain ⟨l, hll, hl2⟩ := pick33 len each
        subst hll
        have hmx : l.length ≤ 9223372036854775807 := by have := hm; unfold maxLen at this; omega
        refine ⟨⟨a0, a1, l⟩, ?_, Lens.mk _ _ _ hmx (fun x hx => ?_)⟩
        rotate_left
        · obtain ⟨i, hi, rfl⟩ := List.getElem_of_mem hx
          exact (hl2 i hi).choose_spec.2.2
        refine k33_mk W ⟨a0, a1, l⟩ hle ⟨rfl, by have := hm; unfold maxLen at this; show l.length ≤ _; omega, fun hp => ⟨a, rfl, fun j p hj => ?_⟩⟩
        obtain ⟨hjl, rfl⟩ := List.getElem?_eq_some_iff.1 hj
        obtain ⟨c, hc, hK, _⟩ := hl2 j hjl
        obtain ⟨_, hcl, hcc⟩ := World.cells?_some hc
        refine ⟨c, hcl, hK, fun i u hu => ?_⟩
        have hi : i < 3 := by rw [← hcl]; exact (List.getElem?_eq_some_iff.1 hu).1
        have := hcc i hi
        rw [hu] at this
        rw [Addr.add_add] at this
        exact this
end Go.Proofs.YtlcladalpjcegaaDoor.PAll
