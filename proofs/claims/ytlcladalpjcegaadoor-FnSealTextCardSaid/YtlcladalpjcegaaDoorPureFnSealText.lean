/- THE PLAIN LAW OF SealText: a text is made of those of the parts, at every drawn message. -/
import Derived.Test.YtlcladalpjcegaaDoorPAllLText
import Derived.Test.YtlcladalpjcegaaDoorQ3
import Derived.Test.YtlcladalpjcegaaDoorQ4
namespace Go.Proofs.YtlcladalpjcegaaDoor.Pure
open Go.RowKit Go.Proofs.YtlcladalpjcegaaDoor.PAll Go.Proofs.YtlcladalpjcegaaDoorW.PrintWords Go.Proofs.YtlcladalpjcegaaDoorW.PrintLast

theorem drawn_text {l0 : List Int} (hb : ∀ x ∈ l0, (Lit.int .u8 x).wf = true) : ∃ t : S25, nodes t ≤ 31 ∧ Ev (fun k => spec_DrawSealText.f k l0) (t.f0, t.f1, t.f2) := by
  obtain ⟨m, hm, hc⟩ := ev_open (of_wf hb)
  obtain ⟨v1, e1, a1, b1⟩ := ev_pick hc 0 4 (by omega) (by omega) (by omega)
  obtain ⟨v, rfl⟩ := Int.eq_ofNat_of_zero_le a1
  obtain ⟨hf, hmn⟩ := far_mono v (by omega)
  obtain ⟨t, q, e2, x2, y2, z2⟩ := ev_seal hc v (by omega) (0 + 1) (by omega) (by omega)
  refine ⟨t, by omega, Ev.congr (fun k => by rw [spec_DrawSealText.f, hm]; rfl) (Ev.bind (f := fun k bt136 => (spec_l92Seal.f k m bt136.2 bt136.1).bind fun bt138 => (some (bt138.1, bt138.2.1, bt138.2.2.1))) e1 (Ev.bind (f := fun _ bt138 => (some (bt138.1, bt138.2.1, bt138.2.2.1))) e2 (Ev.now _)))⟩
theorem FnSealText : laws_FnSealText.Pure := by
  intro l0 _ _ hb
  by_cases hl : (l0.length : Int) > 1048576
  · exact ⟨0, by rw [laws_FnSealText.f, if_pos hl]⟩
  · obtain ⟨t, hn, e⟩ := drawn_text hb
    obtain ⟨b, hb, e1, e2⟩ := ev_txt t (by omega)
    refine Ev.rounds (Ev.congr (fun k => by rw [laws_FnSealText.f, if_neg hl]) (Ev.bind e (Ev.bind e1 (Ev.bind e2 ?_))))
    simp only [eta25, if_true, Option.bind_some]
    have hp : nodes (⟨1, 0, [t, t]⟩ : S25) = 1 + nodes t + nodes t := by simp [nodes, nodesL]; omega
    have ep := ev_implOk ⟨1, 0, [t, t]⟩ (by omega)
    refine Ev.bind ep ?_
    cases ho : okM ⟨1, 0, [t, t]⟩
    · exact Ev.congr (fun k => by rw [if_neg (by simp)]) (Ev.now _)
    · simp only [if_true]
      have hk : okM t = true := by
        unfold okM at ho ⊢
        rw [Bool.and_eq_true, decide_eq_true_eq] at ho
        have hs : shp t = true := by simpa [shp, shpL] using ho.1
        rw [hs, decide_eq_true (by have := ho.2; omega)]; rfl
      obtain ⟨m, hm, rfl, hnm, rfl, _⟩ | ⟨hno, _⟩ := hb
      · have hN2 : nodes (Msg.tree (.pr m m)) ≤ 12 := by
          unfold okM at ho
          rw [Bool.and_eq_true, decide_eq_true_eq] at ho
          exact ho.2
        have hN3 : nodes (Msg.tree (.sh m m)) ≤ 12 := by rw [nodes_sh]; rw [nodes_pr] at hN2; exact hN2
        have t1 : Ev (fun k => impl_SealText.f k 1 0 [m.tree, m.tree]) (Msg.pr m m).btxt := ev_SealText (m := .pr m m) ⟨hm, hm⟩ hN2
        have t2 : Ev (fun k => impl_SealText.f k 2 0 [m.tree, m.tree]) (Msg.sh m m).btxt := ev_SealText (m := .sh m m) ⟨hm, hm⟩ hN3
        have hs := btxt_size m
        refine Ev.bind t1 ?_
        refine Ev.congr (f := fun k => (impl_SealText.f k 2 0 [m.tree, m.tree]).bind fun t236 => some (t236.toList == (Msg.sh m m).btxt.toList)) (fun k => ?_) (Ev.bind (f := fun _ t236 => some (t236.toList == (Msg.sh m m).btxt.toList)) t2 ?_)
        · simp only [ByteArray.size_append, one_size]
          rw [if_pos (by omega), if_pos (by omega), if_pos (by omega), if_pos (by omega), if_pos (by rfl)]
          refine congrArg _ (funext fun t236 => ?_)
          rw [if_pos (by omega), if_pos (by omega)]
          rfl
        · exact Ev.congr (fun k => by rw [beq_self_eq_true]) (Ev.now _)
      · rw [hk] at hno; exact absurd hno (by simp)
end Go.Proofs.YtlcladalpjcegaaDoor.Pure
