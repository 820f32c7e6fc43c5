/- THE PLAIN LAW OF SealOk: a message is one just if it has a text, at every drawn message. -/
import Derived.Test.YtlcladalpjcegaaDoorPAllLOk
import Derived.Test.YtlcladalpjcegaaDoorQ2
import Derived.Test.YtlcladalpjcegaaDoorQ3
namespace Go.Proofs.YtlcladalpjcegaaDoor.Pure
open Go.RowKit Go.Proofs.YtlcladalpjcegaaDoor.PAll Go.Proofs.YtlcladalpjcegaaDoorW.PrintWords Go.Proofs.YtlcladalpjcegaaDoorW.PrintLast

theorem FnSealOk : laws_FnSealOk.Pure := by
  intro l0 _ _ hb
  by_cases hl : (l0.length : Int) > 1048576
  · exact ⟨0, by rw [laws_FnSealOk.f, if_pos hl]⟩
  · obtain ⟨t, hn, e⟩ := drawn_ok hb
    have h1 := ev_implOk t (by omega)
    have h2 := ev_specOk t
    refine Ev.rounds (Ev.congr (fun k => by rw [laws_FnSealOk.f, if_neg hl]) (Ev.bind e (Ev.bind h1 (Ev.bind h2 ?_))))
    have hne : ¬ ((okM t != okM t) = true) := by simp
    simp only [if_neg hne]
    cases h : okM t
    · refine Ev.bind (ev_SealText_no t (by omega) h) ?_
      have : (⟨#[]⟩ : ByteArray).toList = [] := (toList_nil_iff _).2 rfl
      refine Ev.congr (f := fun k => (impl_SealUnder.f k t.f0 t.f1 t.f2 t.f0 t.f1 t.f2).bind fun t211 => some (false == t211)) (fun k => by rw [this]; exact if_pos rfl) (Ev.bind (f := fun _ t211 => some (false == t211)) (ev_SealUnder_no t t (by omega) h) (Ev.now _))
    · obtain ⟨m, hm, rfl, hN⟩ := of_okM h
      refine Ev.bind (ev_SealText hm hN) ?_
      have hs := btxt_size m
      have : (m.btxt.toList != ([] : List UInt8)) = true := bne_iff_ne.mpr fun hh => by have := (toList_nil_iff _).1 hh; omega
      refine Ev.congr (f := fun k => (impl_SealUnder.f k m.tree.f0 m.tree.f1 m.tree.f2 m.tree.f0 m.tree.f1 m.tree.f2).bind fun t211 => some (true == t211)) (fun k => by rw [this]; exact if_pos rfl) (Ev.bind (f := fun _ t211 => some (true == t211)) (ev_under_self hm hN) (Ev.now _))
end Go.Proofs.YtlcladalpjcegaaDoor.Pure
