/- PLAIN LAWS OF MESSAGES, 2: the text of a message, in the program; one message under another. -/
import Derived.Test.YtlcladalpjcegaaDoorQ1
import Derived.Test.YtlcladalpjcegaaDoorPAllx4u
namespace Go.Proofs.YtlcladalpjcegaaDoor.PAll
set_option linter.unusedVariables false
set_option linter.unusedSimpArgs false
open Go.RowKit Go.Proofs.YtlcladalpjcegaaDoorW.PrintWords Go.Proofs.YtlcladalpjcegaaDoorW.PrintLast Go.Proofs.YtlcladalpjcegaaDoorW.PrintMore

theorem toList_loop (b : ByteArray) : ∀ (d i : Nat) (r : List UInt8), b.size - i = d → i ≤ b.size → ByteArray.toList.loop b i r = r.reverse ++ b.data.toList.drop i := by
  intro d
  induction d with
  | zero =>
    intro i r hd hi
    have hl : b.size = b.data.toList.length := by rw [Array.length_toList]; rfl
    have : b.data.toList.length ≤ i := by omega
    rw [ByteArray.toList.loop, if_neg (by omega), List.drop_eq_nil_of_le this, List.append_nil]
  | succ d ih =>
    intro i r hd hi
    have hl : b.size = b.data.toList.length := by rw [Array.length_toList]; rfl
    have hlt : i < b.data.toList.length := by omega
    rw [ByteArray.toList.loop, if_pos (by omega), ih (i + 1) _ (by omega) (by omega), List.drop_eq_getElem_cons hlt]
    have : b.get! i = b.data.toList[i] := by
      show b.data[i]! = _
      rw [getElem!_pos b.data i (by simpa using hlt)]
      simp
    rw [this]
    simp
theorem toList_eq (b : ByteArray) : b.toList = b.data.toList := by
  show ByteArray.toList.loop b 0 [] = _
  rw [toList_loop b b.size 0 [] (by omega) (by omega)]
  simp
theorem toList_inj {a b : ByteArray} (h : a.toList = b.toList) : a = b := by
  rw [toList_eq, toList_eq] at h
  obtain ⟨⟨x⟩⟩ := a
  obtain ⟨⟨y⟩⟩ := b
  simp only at h
  rw [h]
theorem toList_nil_iff (b : ByteArray) : b.toList = [] ↔ b.size = 0 := by
  rw [toList_eq]
  show _ ↔ b.data.size = 0
  rw [← Array.length_toList, List.length_eq_zero_iff]

def Msg.btxt : Msg → ByteArray
  | .nm n => (⟨#[109]⟩ : ByteArray) ++ fig n
  | .pr a b => ((((⟨#[40]⟩ : ByteArray) ++ a.btxt) ++ (⟨#[32]⟩ : ByteArray)) ++ b.btxt) ++ (⟨#[41]⟩ : ByteArray)
  | .sh a b => (((⟨#[123]⟩ : ByteArray) ++ b.btxt) ++ (⟨#[125]⟩ : ByteArray)) ++ a.btxt
theorem one_size (x : UInt8) : (⟨#[x]⟩ : ByteArray).size = 1 := rfl
theorem nodes_nm (n : Nat) : nodes (Msg.tree (.nm n)) = 1 := by simp [Msg.tree, nodes, nodesL]
theorem nodes_pr (a b : Msg) : nodes (Msg.tree (.pr a b)) = 1 + nodes a.tree + nodes b.tree := by simp [Msg.tree, nodes, nodesL]; omega
theorem nodes_sh (a b : Msg) : nodes (Msg.tree (.sh a b)) = 1 + nodes a.tree + nodes b.tree := by simp [Msg.tree, nodes, nodesL]; omega
theorem btxt_size : ∀ m : Msg, 1 ≤ m.btxt.size ∧ m.btxt.size ≤ 3 * nodes m.tree
  | .nm n => by rw [nodes_nm, Msg.btxt, ByteArray.size_append, one_size, show (fig n).size = 1 from rfl]; omega
  | .pr a b => by
    have h1 := btxt_size a; have h2 := btxt_size b
    rw [nodes_pr, Msg.btxt]; simp only [ByteArray.size_append, one_size]; omega
  | .sh a b => by
    have h1 := btxt_size a; have h2 := btxt_size b
    rw [nodes_sh, Msg.btxt]; simp only [ByteArray.size_append, one_size]; omega
theorem ev_text : ∀ m : Msg, m.fits → nodes m.tree ≤ 1099511627776 → Ev (fun k => impl_sealText.f k m.tree.f0 m.tree.f1 m.tree.f2) m.btxt
  | .nm n, h, _ => by
    have h9 : n ≤ 9 := h
    refine Ev.step (f := fun _ => some ((⟨#[109]⟩ : ByteArray) ++ fig n)) (fun k => ?_) (Ev.now _)
    show impl_sealText.f (k + 1) 0 (n : Int) [] = _
    rw [impl_sealText.f, if_neg (by decide), if_neg (by decide), itoa.f, if_pos (by omega)]
    simp only [Option.bind_some, Int.toNat_natCast]
    rw [if_pos (by rw [show (fig n).size = 1 from rfl]; omega)]
  | .pr a b, h, hN => by
    rw [nodes_pr] at hN
    have h1 := btxt_size a; have h2 := btxt_size b
    have e1 := ev_text a h.1 (by omega)
    have e2 := ev_text b h.2 (by omega)
    refine Ev.step (f := fun k => (impl_sealText.f k a.tree.f0 a.tree.f1 a.tree.f2).bind fun t => (if 1 + t.size ≤ 9223372036854775807 then (if ((⟨#[40]⟩ : ByteArray) ++ t).size + 1 ≤ 9223372036854775807 then ((impl_sealText.f k b.tree.f0 b.tree.f1 b.tree.f2).bind fun u => (if (((⟨#[40]⟩ : ByteArray) ++ t) ++ (⟨#[32]⟩ : ByteArray)).size + u.size ≤ 9223372036854775807 then (if ((((⟨#[40]⟩ : ByteArray) ++ t) ++ (⟨#[32]⟩ : ByteArray)) ++ u).size + 1 ≤ 9223372036854775807 then (some (((((⟨#[40]⟩ : ByteArray) ++ t) ++ (⟨#[32]⟩ : ByteArray)) ++ u) ++ (⟨#[41]⟩ : ByteArray))) else (none)) else (none))) else none) else none)) (fun k => ?_) (Ev.bind e1 ?_)
    · simp only [Msg.tree, impl_sealText.f]
      simp only [if_true, if_pos (show (0 : Int) < (([a.tree, b.tree] : List S25).length : Int) by simp), if_pos (show (1 : Int) < (([a.tree, b.tree] : List S25).length : Int) by simp)]
      rfl
    · simp only [ByteArray.size_append, one_size]
      refine Ev.congr (f := fun k => (impl_sealText.f k b.tree.f0 b.tree.f1 b.tree.f2).bind fun u => (if 1 + a.btxt.size + 1 + u.size ≤ 9223372036854775807 then (if 1 + a.btxt.size + 1 + u.size + 1 ≤ 9223372036854775807 then (some (((((⟨#[40]⟩ : ByteArray) ++ a.btxt) ++ (⟨#[32]⟩ : ByteArray)) ++ u) ++ (⟨#[41]⟩ : ByteArray))) else (none)) else (none))) (fun k => by rw [if_pos (by omega), if_pos (by omega)]) (Ev.bind e2 ?_)
      refine Ev.congr (fun k => by rw [if_pos (by omega), if_pos (by omega)]; rfl) (Ev.now _)
  | .sh a b, h, hN => by
    rw [nodes_sh] at hN
    have h1 := btxt_size a; have h2 := btxt_size b
    have e1 := ev_text a h.1 (by omega)
    have e2 := ev_text b h.2 (by omega)
    refine Ev.step (f := fun k => (impl_sealText.f k b.tree.f0 b.tree.f1 b.tree.f2).bind fun t => (if 1 + t.size ≤ 9223372036854775807 then (if ((⟨#[123]⟩ : ByteArray) ++ t).size + 1 ≤ 9223372036854775807 then ((impl_sealText.f k a.tree.f0 a.tree.f1 a.tree.f2).bind fun u => (if (((⟨#[123]⟩ : ByteArray) ++ t) ++ (⟨#[125]⟩ : ByteArray)).size + u.size ≤ 9223372036854775807 then (some ((((⟨#[123]⟩ : ByteArray) ++ t) ++ (⟨#[125]⟩ : ByteArray)) ++ u)) else (none))) else none) else none)) (fun k => ?_) (Ev.bind e2 ?_)
    · simp only [Msg.tree, impl_sealText.f]
      rw [if_neg (show ¬ ((2 : Int) = 1) by omega)]
      simp only [if_true, if_pos (show (0 : Int) < (([a.tree, b.tree] : List S25).length : Int) by simp), if_pos (show (1 : Int) < (([a.tree, b.tree] : List S25).length : Int) by simp)]
      rfl
    · simp only [ByteArray.size_append, one_size]
      refine Ev.congr (f := fun k => (impl_sealText.f k a.tree.f0 a.tree.f1 a.tree.f2).bind fun u => (if 1 + b.btxt.size + 1 + u.size ≤ 9223372036854775807 then (some ((((⟨#[123]⟩ : ByteArray) ++ b.btxt) ++ (⟨#[125]⟩ : ByteArray)) ++ u)) else (none))) (fun k => by rw [if_pos (by omega), if_pos (by omega)]) (Ev.bind e1 ?_)
      refine Ev.congr (fun k => by rw [if_pos (by omega)]; rfl) (Ev.now _)

theorem of_okM {t : S25} (h : okM t = true) : ∃ m : Msg, m.fits ∧ m.tree = t ∧ nodes t ≤ 12 := by
  unfold okM at h
  rw [Bool.and_eq_true, decide_eq_true_eq] at h
  obtain ⟨m, hm, e⟩ := of_shp _ t (Nat.le_refl _) h.1
  exact ⟨m, hm, e, h.2⟩
theorem ev_SealText {m : Msg} (h : m.fits) (hN : nodes m.tree ≤ 12) : Ev (fun k => impl_SealText.f k m.tree.f0 m.tree.f1 m.tree.f2) m.btxt := by
  refine Ev.bind (ev_implOk m.tree (by omega)) ?_
  have : okM m.tree = true := by unfold okM; rw [shp_tree m h, decide_eq_true hN]; rfl
  rw [this]
  exact Ev.congr (f := fun k => (impl_sealText.f k m.tree.f0 m.tree.f1 m.tree.f2).bind fun b => some b) (fun k => by rw [if_pos rfl]) (Ev.bind (f := fun _ b => some b) (ev_text m h (by omega)) (Ev.now _))
theorem ev_SealText_no (t : S25) (hN : nodes t ≤ 1099511627776) (h : okM t = false) : Ev (fun k => impl_SealText.f k t.f0 t.f1 t.f2) (⟨#[]⟩ : ByteArray) := by
  refine Ev.bind (ev_implOk t hN) ?_
  rw [h]
  exact Ev.congr (fun k => by rw [if_neg (by simp)]) (Ev.now _)
/-- A message stands in itself. -/
theorem ev_under_self {m : Msg} (h : m.fits) (hN : nodes m.tree ≤ 12) : Ev (fun k => impl_SealUnder.f k m.tree.f0 m.tree.f1 m.tree.f2 m.tree.f0 m.tree.f1 m.tree.f2) true := by
  have hok : okM m.tree = true := by unfold okM; rw [shp_tree m h, decide_eq_true hN]; rfl
  have h1 := ev_implOk m.tree (by omega)
  have ht := ev_text m h (by omega)
  rw [hok] at h1
  have hu : Ev (fun k => impl_under.f k m.tree.f0 m.tree.f1 m.tree.f2 m.tree.f0 m.tree.f1 m.tree.f2) true := by
    refine Ev.step (fun k => by rw [impl_under.f]) (Ev.bind ht (Ev.bind ht ?_))
    exact Ev.congr (fun k => by rw [if_pos rfl]) (Ev.now _)
  refine Ev.bind h1 (Ev.congr (f := fun k => (impl_SealOk.f k m.tree.f0 m.tree.f1 m.tree.f2).bind fun t200 => (if t200 = true then ((impl_under.f k m.tree.f0 m.tree.f1 m.tree.f2 m.tree.f0 m.tree.f1 m.tree.f2).bind fun t201 => (some t201)) else (some false))) (fun k => by rw [if_pos rfl]) (Ev.bind h1 ?_))
  exact Ev.congr (f := fun k => (impl_under.f k m.tree.f0 m.tree.f1 m.tree.f2 m.tree.f0 m.tree.f1 m.tree.f2).bind fun t201 => (some t201)) (fun k => by rw [if_pos rfl]) (Ev.bind (f := fun _ b => some b) hu (Ev.now _))
theorem ev_SealUnder_no (t u : S25) (hN : nodes t ≤ 1099511627776) (h : okM t = false) : Ev (fun k => impl_SealUnder.f k t.f0 t.f1 t.f2 u.f0 u.f1 u.f2) false := by
  have h1 := ev_implOk t hN
  rw [h] at h1
  refine Ev.bind h1 (Ev.congr (fun k => by rw [if_neg (by simp)]) (Ev.now _))
end Go.Proofs.YtlcladalpjcegaaDoor.PAll
