/- PLAIN LAWS OF TERMS WITH TIME, 5: the reader of a code, and what it draws. -/
import Derived.Test.YtfnmjecofgeboaaQ2
import Derived.Test.YtfnmjecofgeboaaPAllClk
import Derived.Laws.BitsAllLaws
namespace Go.Proofs.Ytfnmjecofgeboaa.PAll
set_option linter.unusedVariables false
open Go.RowKit Go.Proofs.YtfnmjecofgeboaaW.PrintWords Go.Proofs.YtfnmjecofgeboaaW.PrintLast Go.Proofs.YtfnmjecofgeboaaW.PrintMore

theorem xor_nn (a b : Nat) (ha : a < 4611686018427387904) (hb : b < 4611686018427387904) : Go.bits .xor .i64 (a : Int) (b : Int) = ((a ^^^ b : Nat) : Int) := by
  have hx : a ^^^ b < 2 ^ 62 := Nat.xor_lt_two_pow (by omega) (by omega)
  show IntKind.i64.wrap ((BitVec.ofInt 64 (a : Int) ^^^ BitVec.ofInt 64 (b : Int)).toNat : Int) = _
  rw [BitVec.toNat_xor, ofInt_u64 a (by omega), ofInt_u64 b (by omega)]
  simp [IntKind.wrap, IntKind.bits, IntKind.signed]
  omega
theorem xor_ge (x y : Int) (hx : 0 ≤ x) (hx2 : x < 4611686018427387904) (hy : 0 ≤ y) (hy2 : y < 4611686018427387904) : 0 ≤ Go.bits .xor .i64 x y := by
  obtain ⟨a, rfl⟩ := Int.eq_ofNat_of_zero_le hx
  obtain ⟨b, rfl⟩ := Int.eq_ofNat_of_zero_le hy
  rw [xor_nn a b (by omega) (by omega)]
  omega
/-- A code: bytes, not too many. -/
def Code (l : List Int) : Prop := l.length ≤ 2000 ∧ ∀ x ∈ l, 0 ≤ x ∧ x ≤ 255
theorem rd_code {l : List Int} (h : Code l) (i : Int) : 0 ≤ rd l i ∧ rd l i ≤ 255 := by
  unfold rd
  rw [List.getD_eq_getElem?_getD]
  by_cases hi : i.toNat < l.length
  · rw [List.getElem?_eq_getElem hi]
    exact h.2 _ (List.getElem_mem hi)
  · rw [List.getElem?_eq_none (by omega)]
    simp
theorem ev_pick {l : List Int} (h : Code l) (p n : Int) (hp : 0 ≤ p) (hp2 : p ≤ 1000000000) (hn : 1 ≤ n) : ∃ v, Ev (fun k => spec_l6Rd_pick.f k l p n) (v, p + 1) ∧ 0 ≤ v ∧ v < n := by
  have hlen := h.1
  have start : ∀ v, Ev (fun k => spec_l6Rd_pick.j0 k n ((l.length : Int) == 0) l (p + 1)) (v, p + 1) → Ev (fun k => spec_l6Rd_pick.f k l p n) (v, p + 1) := by
    intro v hv
    refine Ev.congr (fun k => ?_) hv
    unfold spec_l6Rd_pick.f
    rw [if_neg (by omega), wr (by omega) (by omega)]
  by_cases h0 : l.length = 0
  · refine ⟨0, start 0 ?_, by omega, by omega⟩
    exact Ev.step (f := fun _ => some (0, p + 1)) (fun k => by simp only [spec_l6Rd_pick.j0]; rw [if_pos (by simp [h0])]) (Ev.now _)
  · by_cases hlt : p < (l.length : Int)
    · have hr := rd_code h p
      refine ⟨Int.tmod (rd l p) n, start _ ?_, Int.tmod_nonneg _ hr.1, Int.tmod_lt_of_pos _ (by omega)⟩
      refine Ev.step (f := fun _ => some (Int.tmod (rd l p) n, p + 1)) (fun k => ?_) (Ev.now _)
      simp only [spec_l6Rd_pick.j0]
      rw [if_neg (by rw [beq_iff_eq]; omega), wr (x := p + 1 - 1) (by omega) (by omega), show p + 1 - 1 = p by omega, if_pos hlt, if_pos hp, if_neg (by omega), wr (by omega) (by omega)]
    · have hL : (0 : Int) < (l.length : Int) := by omega
      have q0 := Int.tmod_nonneg (l.length : Int) hp
      have q1 := Int.tmod_lt_of_pos p hL
      have q2 := Int.tmod_nonneg (a := p * 7 + 3) (l.length : Int) (by omega)
      have q3 := Int.tmod_lt_of_pos (p * 7 + 3) hL
      have d0 : 0 ≤ Int.tdiv p (l.length : Int) := Int.tdiv_nonneg hp (by omega)
      have d1 : Int.tdiv p (l.length : Int) ≤ p := Int.tdiv_le_self _ hp
      have r1 := rd_code h (Int.tmod p (l.length : Int))
      have r2 := rd_code h (Int.tmod (p * 7 + 3) (l.length : Int))
      refine ⟨_, start _ (Ev.step (f := fun _ => some (Int.tmod (Go.bits .xor .i64 (rd l (Int.tmod p (l.length : Int)) * 131 + rd l (Int.tmod (p * 7 + 3) (l.length : Int)) * 1117 + p * 29 + Int.tdiv p (l.length : Int) * 53) (Int.tdiv (rd l (Int.tmod p (l.length : Int)) * 131 + rd l (Int.tmod (p * 7 + 3) (l.length : Int)) * 1117 + p * 29 + Int.tdiv p (l.length : Int) * 53) 64)) n, p + 1)) (fun k => ?_) (Ev.now _)), ?_, Int.tmod_lt_of_pos _ (by omega)⟩
      · simp only [spec_l6Rd_pick.j0]
        rw [if_neg (by rw [beq_iff_eq]; omega), wr (x := p + 1 - 1) (by omega) (by omega), show p + 1 - 1 = p by omega, if_neg hlt, if_neg (by omega), if_pos q0, if_pos q1]
        rw [wr (x := p * 7) (by omega) (by omega), wr (x := p * 7 + 3) (by omega) (by omega), if_pos q2, if_pos q3, if_neg (by omega)]
        generalize rd l (Int.tmod p (l.length : Int)) = a at *
        generalize rd l (Int.tmod (p * 7 + 3) (l.length : Int)) = b at *
        generalize Int.tdiv p (l.length : Int) = c at *
        rw [wr (x := a) (by omega) (by omega), wr (x := b) (by omega) (by omega), wr (x := c) (by omega) (by omega), wr (x := a * 131) (by omega) (by omega), wr (x := b * 1117) (by omega) (by omega), wr (x := p * 29) (by omega) (by omega), wr (x := c * 53) (by omega) (by omega), wr (x := a * 131 + b * 1117) (by omega) (by omega), wr (x := a * 131 + b * 1117 + p * 29) (by omega) (by omega), wr (x := a * 131 + b * 1117 + p * 29 + c * 53) (by omega) (by omega)]
        have t0 : 0 ≤ Int.tdiv (a * 131 + b * 1117 + p * 29 + c * 53) 64 := Int.tdiv_nonneg (by omega) (by omega)
        have t1 : Int.tdiv (a * 131 + b * 1117 + p * 29 + c * 53) 64 ≤ a * 131 + b * 1117 + p * 29 + c * 53 := Int.tdiv_le_self _ (by omega)
        rw [wr (x := Int.tdiv (a * 131 + b * 1117 + p * 29 + c * 53) 64) (by omega) (by omega)]
      · refine Int.tmod_nonneg _ (xor_ge _ _ (by omega) (by omega) (Int.tdiv_nonneg (by omega) (by omega)) ?_)
        have t1 := Int.tdiv_le_self (a := rd l (Int.tmod p (l.length : Int)) * 131 + rd l (Int.tmod (p * 7 + 3) (l.length : Int)) * 1117 + p * 29 + Int.tdiv p (l.length : Int) * 53) 64 (by omega)
        omega
/-- A reader's answer: a number below n, and the reader one further. -/
theorem ev_open {l : List Int} (hb : ∀ x ∈ l, 0 ≤ x ∧ x ≤ 255) : ∃ m, spec_l6Open.f l = some (m, 0) ∧ Code m := by
  unfold spec_l6Open.f
  by_cases h : (l.length : Int) > 2000
  · rw [if_pos h, if_pos (by omega)]
    exact ⟨_, rfl, by simp; omega, fun x hx => hb x (List.mem_of_mem_take hx)⟩
  · rw [if_neg h]
    exact ⟨_, rfl, by omega, hb⟩
theorem ev_do {l : List Int} (h : Code l) (p : Int) (hp : 0 ≤ p) (hp2 : p ≤ 900000000) : ∃ v, Ev (fun k => spec_l91Do.f k l p) (v, p + 2) := by
  obtain ⟨v1, e1, a1, b1⟩ := ev_pick h p 3 hp (by omega) (by omega)
  by_cases hv : v1 > 0
  · obtain ⟨v2, e2, a2, b2⟩ := ev_pick h (p + 1) 5 (by omega) (by omega) (by omega)
    refine ⟨wrap64 (v2 - 2), Ev.bind (f := fun k (t : Int × Int) => if t.1 > 0 then (spec_l6Rd_pick.f k l t.2 5).bind fun u => some (wrap64 (u.1 - 2), u.2) else (spec_l6Rd_pick.f k l t.2 9).bind fun u => some (wrap64 (u.1 - 4), u.2)) e1 ?_⟩
    refine Ev.congr (f := fun k => (spec_l6Rd_pick.f k l (p + 1) 5).bind fun u => some (wrap64 (u.1 - 2), u.2)) (fun k => by rw [if_pos hv]) ?_
    have := Ev.bind (f := fun k (u : Int × Int) => some (wrap64 (u.1 - 2), u.2)) e2 (Ev.now _)
    rw [show p + 2 = p + 1 + 1 by omega]; exact this
  · obtain ⟨v2, e2, a2, b2⟩ := ev_pick h (p + 1) 9 (by omega) (by omega) (by omega)
    refine ⟨wrap64 (v2 - 4), Ev.bind (f := fun k (t : Int × Int) => if t.1 > 0 then (spec_l6Rd_pick.f k l t.2 5).bind fun u => some (wrap64 (u.1 - 2), u.2) else (spec_l6Rd_pick.f k l t.2 9).bind fun u => some (wrap64 (u.1 - 4), u.2)) e1 ?_⟩
    refine Ev.congr (f := fun k => (spec_l6Rd_pick.f k l (p + 1) 9).bind fun u => some (wrap64 (u.1 - 4), u.2)) (fun k => by rw [if_neg hv]) ?_
    have := Ev.bind (f := fun k (u : Int × Int) => some (wrap64 (u.1 - 4), u.2)) e2 (Ev.now _)
    rw [show p + 2 = p + 1 + 1 by omega]; exact this
theorem ev_act {l : List Int} (h : Code l) (p : Int) (hp : 0 ≤ p) (hp2 : p ≤ 800000000) : ∃ v q, Ev (fun k => spec_l91Act.f k l p) (v, q) ∧ p ≤ q ∧ q ≤ p + 3 := by
  obtain ⟨v1, e1, a1, b1⟩ := ev_pick h p 30 hp (by omega) (by omega)
  by_cases hv : v1 = 0
  · obtain ⟨v2, e2, a2, b2⟩ := ev_pick h (p + 1) 3 (by omega) (by omega) (by omega)
    refine ⟨rd [5, -5, 4611686018427387904] v2, p + 1 + 1, Ev.bind e1 ?_, by omega, by omega⟩
    refine Ev.congr (f := fun k => (spec_l6Rd_pick.f k l (p + 1) 3).bind fun u => if 0 ≤ u.1 then (if u.1 < (([5, (-5), 4611686018427387904] : List Int).length : Int) then some (rd [5, -5, 4611686018427387904] u.1, u.2) else none) else none) (fun k => by rw [if_pos hv]; rfl) ?_
    refine Ev.bind e2 ?_
    exact Ev.congr (fun k => by rw [if_pos a2, if_pos (by simpa using b2)]) (Ev.now _)
  · obtain ⟨v2, e2⟩ := ev_do h (p + 1) (by omega) (by omega)
    refine ⟨v2, p + 1 + 2, Ev.bind e1 ?_, by omega, by omega⟩
    refine Ev.congr (fun k => by rw [if_neg hv]) ?_
    exact Ev.bind (f := fun _ u => some (u.1, u.2)) e2 (Ev.now _)
end Go.Proofs.Ytfnmjecofgeboaa.PAll
