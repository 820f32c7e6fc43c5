/- PLAIN LAWS FOR ExactClock: a term that comes in is measured, turned into one of the program's, and held against another. -/
import Derived.Test.YtlcladalpjcegaaDoorQ4
import Derived.Test.YtlcladalpjcegaaDoorQ3
import Derived.Test.YtlcladalpjcegaaDoorPAllTo
import Derived.Test.YtlcladalpjcegaaDoorEx1
namespace Go.Proofs.YtlcladalpjcegaaDoor.PAll
set_option linter.unusedVariables false
open Go.RowKit Go.Proofs.YtlcladalpjcegaaDoorW.PrintWords Go.Proofs.YtlcladalpjcegaaDoorW.PrintLast Go.Proofs.YtlcladalpjcegaaDoorW.PrintMore
mutual
def conv : S33 → S25
  | ⟨a, b, l⟩ => ⟨a, b, convL l⟩
def convL : List S33 → List S25
  | [] => []
  | x :: xs => conv x :: convL xs
end
theorem conv_eq (t : S33) : conv t = ⟨t.f0, t.f1, convL t.f2⟩ := by cases t; simp [conv]
theorem convL_map : ∀ l : List S33, convL l = l.map conv
  | [] => by simp [convL]
  | x :: xs => by simp [convL, convL_map xs]
theorem convL_len (l : List S33) : (convL l).length = l.length := by rw [convL_map]; simp
theorem convL_get (l : List S33) (i : Nat) (h : i < l.length) : (convL l)[i]'(by rw [convL_len]; exact h) = conv l[i] := by simp [convL_map]
theorem rd33 (l : List S33) (i : Nat) (h : i < l.length) : rd_T33 l (i : Int) = l[i] := by simp [rd_T33, List.getD_eq_getElem?_getD, h]
/-- Its size. -/
def bulk33 (t : S33) : Nat := nodes (conv t)
def szL33 (l : List S33) : Nat := nodesL (convL l)
theorem bulk33_eq (t : S33) : bulk33 t = 1 + szL33 t.f2 := by unfold bulk33 szL33; rw [nodes_eq, conv_eq]
theorem szL33_drop (l : List S33) (i : Nat) (h : i < l.length) : szL33 (l.drop i) = bulk33 l[i] + szL33 (l.drop (i + 1)) := by
  unfold szL33 bulk33
  rw [List.drop_eq_getElem_cons h, convL, nodesL]
theorem szL33_mem {x : S33} {l : List S33} (h : x ∈ l) : bulk33 x ≤ szL33 l := by
  unfold szL33 bulk33
  exact nodes_mem (by rw [convL_map]; exact List.mem_map.2 ⟨x, h, rfl⟩)
theorem bulk33_pos (t : S33) : 1 ≤ bulk33 t := nodes_pos _
/-! ### szSeal -/
theorem ev_szS_l (N : Nat) (ih : ∀ t : S33, bulk33 t ≤ N → Lens t → ∀ left : Int, 0 ≤ left → left ≤ 1048576 → ∃ r : Int, Ev (fun k => laws_szSeal.f k t.f0 t.f1 t.f2 left) r ∧ (r < 0 ∨ (0 ≤ r ∧ r + bulk33 t = left + 1)))
    (l : List S33) (hN : szL33 l ≤ N) (hL : ∀ x ∈ l, Lens x) (hlen : l.length ≤ 1048576) : ∀ (d i : Nat) (left : Int), l.length - i = d → i ≤ l.length → 0 ≤ left → left ≤ 1048576 →
    ∃ r : Int, Ev (fun k => laws_szSealS.l0 k l left (i : Int)) r ∧ (r < 0 ∨ (0 ≤ r ∧ r + szL33 (l.drop i) = left + d)) := by
  intro d
  induction d with
  | zero =>
    intro i left hd hi h0 h1
    have hil : i = l.length := by omega
    subst hil
    exact ⟨left, Ev.step (f := fun _ => some left) (fun k => by rw [laws_szSealS.l0_s, if_neg (by omega)]) (Ev.now _), .inr ⟨h0, by simp [szL33, convL, nodesL]⟩⟩
  | succ d ihd =>
    intro i left hd hi h0 h1
    have hlt : i < l.length := by omega
    have hmem := List.getElem_mem hlt
    have hp := bulk33_pos l[i]
    obtain ⟨r1, e1, c1⟩ := ih l[i] (by have := szL33_mem hmem; omega) (hL _ hmem) left h0 h1
    by_cases hneg : r1 < 0
    · refine ⟨-1, Ev.step (f := fun k => (laws_szSeal.f k l[i].f0 l[i].f1 l[i].f2 left).bind fun t => if t < 0 then some (-1) else laws_szSealS.l0 k l t (wrap64 ((i : Int) + 1))) (fun k => by rw [laws_szSealS.l0_s, if_pos (by omega), if_pos (by omega), rd33 l i hlt]) ?_, .inl (by omega)⟩
      exact Ev.bind (f := fun k t => if t < 0 then some (-1) else laws_szSealS.l0 k l t (wrap64 ((i : Int) + 1))) e1 (Ev.congr (f := fun _ => some (-1)) (fun k => by rw [if_pos hneg]) (Ev.now _))
    · have c2 : 0 ≤ r1 ∧ r1 + bulk33 l[i] = left + 1 := by omega
      obtain ⟨r, e, c⟩ := ihd (i + 1) r1 (by omega) (by omega) (by omega) (by omega)
      refine ⟨r, Ev.step (f := fun k => (laws_szSeal.f k l[i].f0 l[i].f1 l[i].f2 left).bind fun t => if t < 0 then some (-1) else laws_szSealS.l0 k l t ((i + 1 : Nat) : Int)) (fun k => by rw [laws_szSealS.l0_s, if_pos (by omega), if_pos (by omega), rd33 l i hlt, wr (x := (i : Int) + 1) (by omega) (by omega)]; rfl) ?_, ?_⟩
      · exact Ev.bind (f := fun k t => if t < 0 then some (-1) else laws_szSealS.l0 k l t ((i + 1 : Nat) : Int)) e1 (Ev.congr (fun k => by rw [if_neg hneg]) e)
      · rw [szL33_drop l i hlt]
        rcases c with c | ⟨c, c'⟩
        · exact .inl c
        · exact .inr ⟨c, by omega⟩
theorem ev_sz : ∀ (N : Nat) (t : S33), bulk33 t ≤ N → Lens t → ∀ left : Int, 0 ≤ left → left ≤ 1048576 → ∃ r : Int, Ev (fun k => laws_szSeal.f k t.f0 t.f1 t.f2 left) r ∧ (r < 0 ∨ (0 ≤ r ∧ r + bulk33 t = left + 1)) := by
  intro N
  induction N with
  | zero => intro t h; have := bulk33_pos t; omega
  | succ N ih =>
    intro t ht hL left h0 h1
    have hl := hL.len
    rw [bulk33_eq] at ht ⊢
    have wl : wrap64 (left - (t.f2.length : Int)) = left - (t.f2.length : Int) := wr (by omega) (by omega)
    by_cases hneg : left - (t.f2.length : Int) < 0
    · refine ⟨-1, ?_, .inl (by omega)⟩
      have e : Ev (fun k => laws_szSealS.f k t.f2 left) (-1) := Ev.congr (f := fun _ => some (-1)) (fun k => by rw [laws_szSealS.f, wl, if_pos hneg]) (Ev.now _)
      exact Ev.bind (f := fun _ t => if t < 0 then some (-1) else some t) e (Ev.now _)
    · obtain ⟨r, e, c⟩ := ev_szS_l N ih t.f2 (by omega) hL.each (by omega) t.f2.length 0 (left - (t.f2.length : Int)) (by omega) (by omega) (by omega) (by omega)
      have eS : Ev (fun k => laws_szSealS.f k t.f2 left) r := Ev.congr (fun k => by rw [laws_szSealS.f, wl, if_neg hneg]; rfl) e
      rw [List.drop_zero] at c
      rcases c with c | ⟨c, c'⟩
      · refine ⟨-1, Ev.bind (f := fun _ t => if t < 0 then some (-1) else some t) eS (Ev.congr (f := fun _ => some (-1)) (fun k => by rw [if_pos c]) (Ev.now _)), .inl (by omega)⟩
      · refine ⟨r, Ev.bind (f := fun _ t => if t < 0 then some (-1) else some t) eS (Ev.congr (f := fun _ => some r) (fun k => by rw [if_neg (by omega)]) (Ev.now _)), .inr ⟨c, by omega⟩⟩
/-! ### toSeal -/
theorem set_at {α : Type} (A : List α) (z v : α) (d : Nat) : (A ++ List.replicate (d + 1) z).set A.length v = A ++ [v] ++ List.replicate d z := by
  rw [List.set_append]
  simp [List.replicate_succ]
theorem ev_to_l (l : List S33) (hl : l.length ≤ 1099511627776) (ih : ∀ x ∈ l, Ev (fun k => laws_toSeal.f k x.f0 x.f1 x.f2) ((conv x).f0, (conv x).f1, (conv x).f2)) : ∀ (d i : Nat), l.length - i = d → i ≤ l.length →
    Ev (fun k => laws_toSealS.l0 k l ((convL l).take i ++ List.replicate d z25) (i : Int)) (convL l) := by
  have hcl := convL_len l
  intro d
  induction d with
  | zero =>
    intro i hd hi
    have hil : i = l.length := by omega
    subst hil
    exact Ev.step (f := fun _ => some (convL l)) (fun k => by rw [laws_toSealS.l0_s, if_neg (by omega), ← hcl, List.take_length]; simp) (Ev.now _)
  | succ d ihd =>
    intro i hd hi
    have hlt : i < l.length := by omega
    have hli : ((convL l).take i).length = i := by rw [List.length_take]; omega
    refine Ev.step (f := fun k => (laws_toSeal.f k l[i].f0 l[i].f1 l[i].f2).bind fun t => laws_toSealS.l0 k l (((convL l).take i ++ List.replicate (d + 1) z25).set i ⟨t.1, t.2.1, t.2.2⟩) ((i + 1 : Nat) : Int)) (fun k => ?_) (Ev.bind (f := fun k t => laws_toSealS.l0 k l (((convL l).take i ++ List.replicate (d + 1) z25).set i ⟨t.1, t.2.1, t.2.2⟩) ((i + 1 : Nat) : Int)) (ih l[i] (List.getElem_mem hlt)) ?_)
    · rw [laws_toSealS.l0_s, if_pos (by omega), if_pos (by omega), rd33 l i hlt, wr (x := (i : Int) + 1) (by omega) (by omega)]
      refine congrArg (Option.bind _) (funext fun t => ?_)
      rw [if_pos (by rw [List.length_append, List.length_replicate, hli]; omega)]
      rfl
    · have hs := set_at ((convL l).take i) z25 (conv l[i]) d
      rw [hli] at hs
      have ht : (convL l).take (i + 1) = (convL l).take i ++ [conv l[i]] := by rw [List.take_succ_eq_append_getElem (by omega), convL_get l i hlt]
      have e := ihd (i + 1) (by omega) (by omega)
      rw [ht] at e
      refine Ev.congr (fun k => ?_) e
      dsimp only
      rw [eta25, hs]
theorem ev_to : ∀ (N : Nat) (t : S33), bulk33 t ≤ N → bulk33 t ≤ 1099511627776 → Ev (fun k => laws_toSeal.f k t.f0 t.f1 t.f2) ((conv t).f0, (conv t).f1, (conv t).f2) := by
  intro N
  induction N with
  | zero => intro t h; have := bulk33_pos t; omega
  | succ N ih =>
    intro t ht hb
    rw [bulk33_eq] at ht hb
    have hlen : t.f2.length ≤ szL33 t.f2 := by have := nodesL_len (convL t.f2); rw [convL_len] at this; exact this
    have e := ev_to_l t.f2 (by omega) (fun x hx => ih x (by have := szL33_mem hx; omega) (by have := szL33_mem hx; omega)) t.f2.length 0 (by omega) (by omega)
    rw [conv_eq]
    have eS : Ev (fun k => laws_toSealS.f k t.f2) (convL t.f2) := by
      refine Ev.congr (fun k => ?_) e
      rw [laws_toSealS.f, if_pos (by omega), if_pos (by omega)]
      simp
    exact Ev.bind (f := fun _ u => some (t.f0, t.f1, u)) eS (Ev.now _)
/-! ### eqSeal -/
theorem ev_eq_l (l : List S25) (hl : l.length ≤ 1099511627776) (ih : ∀ x ∈ l, Ev (fun k => laws_eqSeal.f k x.f0 x.f1 x.f2 x.f0 x.f1 x.f2) true) : ∀ (d i : Nat), l.length - i = d → i ≤ l.length →
    Ev (fun k => laws_eqSealS.l0 k l l (i : Int)) true := by
  intro d
  induction d with
  | zero =>
    intro i hd hi
    have hil : i = l.length := by omega
    subst hil
    exact Ev.step (f := fun _ => some true) (fun k => by rw [laws_eqSealS.l0_s, if_neg (by omega)]) (Ev.now _)
  | succ d ihd =>
    intro i hd hi
    have hlt : i < l.length := by omega
    refine Ev.step (f := fun k => (laws_eqSeal.f k l[i].f0 l[i].f1 l[i].f2 l[i].f0 l[i].f1 l[i].f2).bind fun t => if t = true then laws_eqSealS.l0 k l l ((i + 1 : Nat) : Int) else some false) (fun k => by
      rw [laws_eqSealS.l0_s, if_pos (by omega), if_pos (by omega), if_pos (by omega), rd25 l i hlt, wr (x := (i : Int) + 1) (by omega) (by omega)]
      rfl) ?_
    refine Ev.bind (f := fun k t => if t = true then laws_eqSealS.l0 k l l ((i + 1 : Nat) : Int) else some false) (ih l[i] (List.getElem_mem hlt)) ?_
    exact Ev.congr (fun k => by rw [if_pos rfl]) (ihd (i + 1) (by omega) (by omega))
theorem ev_eq : ∀ (N : Nat) (t : S25), nodes t ≤ N → nodes t ≤ 1099511627776 → Ev (fun k => laws_eqSeal.f k t.f0 t.f1 t.f2 t.f0 t.f1 t.f2) true := by
  intro N
  induction N with
  | zero => intro t h; have := nodes_pos t; omega
  | succ N ih =>
    intro t ht hb
    rw [nodes_eq] at ht hb
    have hlen := nodesL_len t.f2
    have e := ev_eq_l t.f2 (by omega) (fun x hx => ih x (by have := nodes_mem hx; omega) (by have := nodes_mem hx; omega)) t.f2.length 0 (by omega) (by omega)
    have eS : Ev (fun k => laws_eqSealS.f k t.f2 t.f2) true := Ev.congr (fun k => by rw [laws_eqSealS.f, if_pos rfl]; rfl) e
    refine Ev.congr (fun k => by rw [laws_eqSeal.f, if_pos rfl, if_pos rfl]) (Ev.bind (f := fun _ b => if b = true then some true else some false) eS (Ev.now _))
end Go.Proofs.YtlcladalpjcegaaDoor.PAll
