/- PLAIN LAWS OF MESSAGES, 4: the text of a message, in the specification. -/
import Derived.Test.YtlcladalpjcegaaDoorQ2
import Derived.Test.YtlcladalpjcegaaDoorPAllx5
import Derived.Test.YtlcladalpjcegaaDoorPAllx6
namespace Go.Proofs.YtlcladalpjcegaaDoor.PAll
set_option linter.unusedVariables false
set_option linter.unusedSimpArgs false
open Go.RowKit Go.Proofs.YtlcladalpjcegaaDoorW.PrintWords Go.Proofs.YtlcladalpjcegaaDoorW.PrintLast Go.Proofs.YtlcladalpjcegaaDoorW.PrintMore

theorem fig_of (n : Nat) (h : n ≤ 9) : strOfNums [(wrap64 (48 + (n : Int))) % 256] = fig n := by
  rw [wr (by omega) (by omega)]
  obtain rfl | rfl | rfl | rfl | rfl | rfl | rfl | rfl | rfl | rfl : n = 0 ∨ n = 1 ∨ n = 2 ∨ n = 3 ∨ n = 4 ∨ n = 5 ∨ n = 6 ∨ n = 7 ∨ n = 8 ∨ n = 9 := by omega
  all_goals rfl
theorem dec_fig (n : Nat) (h : n ≤ 9) (k : Nat) : spec_l6Dec.f (k + 1) (n : Int) = some (fig n) := by
  rw [spec_l6Dec.f, if_neg (by omega), if_neg (by omega), if_pos (by omega), fig_of n h]
theorem ev_text2 : ∀ m : Msg, m.fits → nodes m.tree ≤ 1099511627776 → Ev (fun k => spec_l20Text.f k m.tree.f0 m.tree.f1 m.tree.f2) m.btxt
  | .nm n, h, _ => by
    have h9 : n ≤ 9 := h
    refine ⟨2, fun k hk => ?_⟩
    obtain ⟨k, rfl⟩ : ∃ j, k = j + 2 := ⟨k - 2, by omega⟩
    show spec_l20Text.f (k + 2) 0 (n : Int) [] = _
    rw [spec_l20Text.f, if_pos rfl, dec_fig n h9 k]
    simp only [Option.bind_some]
    rw [if_pos (by rw [show (fig n).size = 1 from rfl]; omega)]
    rfl
  | .pr a b, h, hN => by
    rw [nodes_pr] at hN
    have h1 := btxt_size a; have h2 := btxt_size b
    have e1 := ev_text2 a h.1 (by omega)
    have e2 := ev_text2 b h.2 (by omega)
    refine Ev.step (f := fun k => (spec_l20Text.f k a.tree.f0 a.tree.f1 a.tree.f2).bind fun t => (if 1 + t.size ≤ 9223372036854775807 then (if ((⟨#[40]⟩ : ByteArray) ++ t).size + 1 ≤ 9223372036854775807 then ((spec_l20Text.f k b.tree.f0 b.tree.f1 b.tree.f2).bind fun u => (if (((⟨#[40]⟩ : ByteArray) ++ t) ++ (⟨#[32]⟩ : ByteArray)).size + u.size ≤ 9223372036854775807 then (if ((((⟨#[40]⟩ : ByteArray) ++ t) ++ (⟨#[32]⟩ : ByteArray)) ++ u).size + 1 ≤ 9223372036854775807 then (some (((((⟨#[40]⟩ : ByteArray) ++ t) ++ (⟨#[32]⟩ : ByteArray)) ++ u) ++ (⟨#[41]⟩ : ByteArray))) else (none)) else (none))) else none) else none)) (fun k => ?_) (Ev.bind e1 ?_)
    · show spec_l20Text.f (k + 1) 1 0 [a.tree, b.tree] = _
      rw [spec_l20Text.f, if_neg (by decide)]
      simp only [if_true, if_pos (show (0 : Int) < (([a.tree, b.tree] : List S25).length : Int) by simp), if_pos (show (1 : Int) < (([a.tree, b.tree] : List S25).length : Int) by simp)]
      rfl
    · simp only [ByteArray.size_append, one_size]
      refine Ev.congr (f := fun k => (spec_l20Text.f k b.tree.f0 b.tree.f1 b.tree.f2).bind fun u => (if 1 + a.btxt.size + 1 + u.size ≤ 9223372036854775807 then (if 1 + a.btxt.size + 1 + u.size + 1 ≤ 9223372036854775807 then (some (((((⟨#[40]⟩ : ByteArray) ++ a.btxt) ++ (⟨#[32]⟩ : ByteArray)) ++ u) ++ (⟨#[41]⟩ : ByteArray))) else (none)) else (none))) (fun k => by rw [if_pos (by omega), if_pos (by omega)]) (Ev.bind e2 ?_)
      refine Ev.congr (fun k => by rw [if_pos (by omega), if_pos (by omega)]; rfl) (Ev.now _)
  | .sh a b, h, hN => by
    rw [nodes_sh] at hN
    have h1 := btxt_size a; have h2 := btxt_size b
    have e1 := ev_text2 a h.1 (by omega)
    have e2 := ev_text2 b h.2 (by omega)
    refine Ev.step (f := fun k => (spec_l20Text.f k b.tree.f0 b.tree.f1 b.tree.f2).bind fun t => (if 1 + t.size ≤ 9223372036854775807 then (if ((⟨#[123]⟩ : ByteArray) ++ t).size + 1 ≤ 9223372036854775807 then ((spec_l20Text.f k a.tree.f0 a.tree.f1 a.tree.f2).bind fun u => (if (((⟨#[123]⟩ : ByteArray) ++ t) ++ (⟨#[125]⟩ : ByteArray)).size + u.size ≤ 9223372036854775807 then (some ((((⟨#[123]⟩ : ByteArray) ++ t) ++ (⟨#[125]⟩ : ByteArray)) ++ u)) else (none))) else none) else none)) (fun k => ?_) (Ev.bind e2 ?_)
    · show spec_l20Text.f (k + 1) 2 0 [a.tree, b.tree] = _
      rw [spec_l20Text.f, if_neg (by decide), if_neg (by decide)]
      simp only [if_true, if_pos (show (0 : Int) < (([a.tree, b.tree] : List S25).length : Int) by simp), if_pos (show (1 : Int) < (([a.tree, b.tree] : List S25).length : Int) by simp)]
      rfl
    · simp only [ByteArray.size_append, one_size]
      refine Ev.congr (f := fun k => (spec_l20Text.f k a.tree.f0 a.tree.f1 a.tree.f2).bind fun u => (if 1 + b.btxt.size + 1 + u.size ≤ 9223372036854775807 then (some ((((⟨#[123]⟩ : ByteArray) ++ b.btxt) ++ (⟨#[125]⟩ : ByteArray)) ++ u)) else (none))) (fun k => by rw [if_pos (by omega), if_pos (by omega)]) (Ev.bind e1 ?_)
      refine Ev.congr (fun k => by rw [if_pos (by omega)]; rfl) (Ev.now _)


theorem ev_SealText2 {m : Msg} (h : m.fits) (hN : nodes m.tree ≤ 12) : Ev (fun k => spec_SealText.f k m.tree.f0 m.tree.f1 m.tree.f2) m.btxt := by
  refine Ev.bind (ev_specOk m.tree) ?_
  have : okM m.tree = true := by unfold okM; rw [shp_tree m h, decide_eq_true hN]; rfl
  rw [this]
  exact Ev.congr (f := fun k => (spec_l20Text.f k m.tree.f0 m.tree.f1 m.tree.f2).bind fun b => some b) (fun k => by rw [if_pos rfl]) (Ev.bind (f := fun _ b => some b) (ev_text2 m h (by omega)) (Ev.now _))
theorem ev_SealText2_no (t : S25) (h : okM t = false) : Ev (fun k => spec_SealText.f k t.f0 t.f1 t.f2) (⟨#[]⟩ : ByteArray) := by
  refine Ev.bind (ev_specOk t) ?_
  rw [h]
  exact Ev.congr (fun k => by rw [if_neg (by simp)]) (Ev.now _)
/-- The text of anything: of a message its own, else the empty one. -/
def txtOf (t : S25) (b : ByteArray) : Prop := (∃ m : Msg, m.fits ∧ m.tree = t ∧ nodes t ≤ 12 ∧ b = m.btxt ∧ okM t = true) ∨ (okM t = false ∧ b = ⟨#[]⟩)
theorem ev_txt (t : S25) (hN : nodes t ≤ 1099511627776) : ∃ b, txtOf t b ∧ Ev (fun k => impl_SealText.f k t.f0 t.f1 t.f2) b ∧ Ev (fun k => spec_SealText.f k t.f0 t.f1 t.f2) b := by
  cases h : okM t
  · exact ⟨_, .inr ⟨h, rfl⟩, ev_SealText_no t hN h, ev_SealText2_no t h⟩
  · obtain ⟨m, hm, rfl, hn⟩ := of_okM h
    exact ⟨_, .inl ⟨m, hm, rfl, hn, rfl, h⟩, ev_SealText hm hn, ev_SealText2 hm hn⟩
end Go.Proofs.YtlcladalpjcegaaDoor.PAll
