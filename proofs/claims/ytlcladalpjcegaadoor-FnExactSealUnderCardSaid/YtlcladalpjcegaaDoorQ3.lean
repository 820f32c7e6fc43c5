/- PLAIN LAWS OF MESSAGES, 3: the reader of a code; every drawn message is small. -/
import Derived.Test.YtlcladalpjcegaaDoorQ1
import Derived.Test.YtlcladalpjcegaaDoorPAllx1
import Derived.Laws.BitsAllLaws
namespace Go.Proofs.YtlcladalpjcegaaDoor.PAll
set_option linter.unusedVariables false
open Go.RowKit Go.Proofs.YtlcladalpjcegaaDoorW.PrintWords Go.Proofs.YtlcladalpjcegaaDoorW.PrintLast Go.Proofs.YtlcladalpjcegaaDoorW.PrintMore

theorem xor_nn (a b : Nat) (ha : a < 4611686018427387904) (hb : b < 4611686018427387904) : Go.bits .xor .i64 (a : Int) (b : Int) = ((a ^^^ b : Nat) : Int) := by
  have hx : a ^^^ b < 2 ^ 62 := Nat.xor_lt_two_pow (by omega) (by omega)
  show IntKind.i64.wrap ((BitVec.ofInt 64 (a : Int) ^^^ BitVec.ofInt 64 (b : Int)).toNat : Int) = _
  rw [BitVec.toNat_xor, ofInt_u64 a (by omega), ofInt_u64 b (by omega)]
  simp [IntKind.wrap, IntKind.bits, IntKind.signed]
  omega
theorem xor_ge (x y : Int) (hx : 0 ≤ x) (hx2 : x < 4611686018427387904) (hy : 0 ≤ y) (hy2 : y < 4611686018427387904) : 0 ≤ Go.bits .xor .i64 x y := by
  obtain ⟨a, rfl⟩ := Int.eq_ofNat_of_zero_le hx
  obtain ⟨b, rfl⟩ := Int.eq_ofNat_of_zero_le hy
  rw [xor_nn a b (by omega) (by omega)]
  omega
/-- A code: bytes, not too many. -/
def Code (l : List Int) : Prop := l.length ≤ 2000 ∧ ∀ x ∈ l, 0 ≤ x ∧ x ≤ 255
theorem rd_code {l : List Int} (h : Code l) (i : Int) : 0 ≤ rd l i ∧ rd l i ≤ 255 := by
  unfold rd
  rw [List.getD_eq_getElem?_getD]
  by_cases hi : i.toNat < l.length
  · rw [List.getElem?_eq_getElem hi]
    exact h.2 _ (List.getElem_mem hi)
  · rw [List.getElem?_eq_none (by omega)]
    simp
theorem ev_pick {l : List Int} (h : Code l) (p n : Int) (hp : 0 ≤ p) (hp2 : p ≤ 1000000000) (hn : 1 ≤ n) : ∃ v, Ev (fun k => spec_l6Rd_pick.f k l p n) (v, p + 1) ∧ 0 ≤ v ∧ v < n := by
  have hlen := h.1
  have start : ∀ v, Ev (fun k => spec_l6Rd_pick.j0 k n ((l.length : Int) == 0) l (p + 1)) (v, p + 1) → Ev (fun k => spec_l6Rd_pick.f k l p n) (v, p + 1) := by
    intro v hv
    refine Ev.congr (fun k => ?_) hv
    unfold spec_l6Rd_pick.f
    rw [if_neg (by omega), wr (by omega) (by omega)]
  by_cases h0 : l.length = 0
  · refine ⟨0, start 0 ?_, by omega, by omega⟩
    exact Ev.step (f := fun _ => some (0, p + 1)) (fun k => by simp only [spec_l6Rd_pick.j0]; rw [if_pos (by simp [h0])]) (Ev.now _)
  · by_cases hlt : p < (l.length : Int)
    · have hr := rd_code h p
      refine ⟨Int.tmod (rd l p) n, start _ ?_, Int.tmod_nonneg _ hr.1, Int.tmod_lt_of_pos _ (by omega)⟩
      refine Ev.step (f := fun _ => some (Int.tmod (rd l p) n, p + 1)) (fun k => ?_) (Ev.now _)
      simp only [spec_l6Rd_pick.j0]
      rw [if_neg (by rw [beq_iff_eq]; omega), wr (x := p + 1 - 1) (by omega) (by omega), show p + 1 - 1 = p by omega, if_pos hlt, if_pos hp, if_neg (by omega), wr (by omega) (by omega)]
    · have hL : (0 : Int) < (l.length : Int) := by omega
      have q0 := Int.tmod_nonneg (l.length : Int) hp
      have q1 := Int.tmod_lt_of_pos p hL
      have q2 := Int.tmod_nonneg (a := p * 7 + 3) (l.length : Int) (by omega)
      have q3 := Int.tmod_lt_of_pos (p * 7 + 3) hL
      have d0 : 0 ≤ Int.tdiv p (l.length : Int) := Int.tdiv_nonneg hp (by omega)
      have d1 : Int.tdiv p (l.length : Int) ≤ p := Int.tdiv_le_self _ hp
      have r1 := rd_code h (Int.tmod p (l.length : Int))
      have r2 := rd_code h (Int.tmod (p * 7 + 3) (l.length : Int))
      refine ⟨_, start _ (Ev.step (f := fun _ => some (Int.tmod (Go.bits .xor .i64 (rd l (Int.tmod p (l.length : Int)) * 131 + rd l (Int.tmod (p * 7 + 3) (l.length : Int)) * 1117 + p * 29 + Int.tdiv p (l.length : Int) * 53) (Int.tdiv (rd l (Int.tmod p (l.length : Int)) * 131 + rd l (Int.tmod (p * 7 + 3) (l.length : Int)) * 1117 + p * 29 + Int.tdiv p (l.length : Int) * 53) 64)) n, p + 1)) (fun k => ?_) (Ev.now _)), ?_, Int.tmod_lt_of_pos _ (by omega)⟩
      · simp only [spec_l6Rd_pick.j0]
        rw [if_neg (by rw [beq_iff_eq]; omega), wr (x := p + 1 - 1) (by omega) (by omega), show p + 1 - 1 = p by omega, if_neg hlt, if_neg (by omega), if_pos q0, if_pos q1]
        rw [wr (x := p * 7) (by omega) (by omega), wr (x := p * 7 + 3) (by omega) (by omega), if_pos q2, if_pos q3, if_neg (by omega)]
        generalize rd l (Int.tmod p (l.length : Int)) = a at *
        generalize rd l (Int.tmod (p * 7 + 3) (l.length : Int)) = b at *
        generalize Int.tdiv p (l.length : Int) = c at *
        rw [wr (x := a) (by omega) (by omega), wr (x := b) (by omega) (by omega), wr (x := c) (by omega) (by omega), wr (x := a * 131) (by omega) (by omega), wr (x := b * 1117) (by omega) (by omega), wr (x := p * 29) (by omega) (by omega), wr (x := c * 53) (by omega) (by omega), wr (x := a * 131 + b * 1117) (by omega) (by omega), wr (x := a * 131 + b * 1117 + p * 29) (by omega) (by omega), wr (x := a * 131 + b * 1117 + p * 29 + c * 53) (by omega) (by omega)]
        have t0 : 0 ≤ Int.tdiv (a * 131 + b * 1117 + p * 29 + c * 53) 64 := Int.tdiv_nonneg (by omega) (by omega)
        have t1 : Int.tdiv (a * 131 + b * 1117 + p * 29 + c * 53) 64 ≤ a * 131 + b * 1117 + p * 29 + c * 53 := Int.tdiv_le_self _ (by omega)
        rw [wr (x := Int.tdiv (a * 131 + b * 1117 + p * 29 + c * 53) 64) (by omega) (by omega)]
      · refine Int.tmod_nonneg _ (xor_ge _ _ (by omega) (by omega) (Int.tdiv_nonneg (by omega) (by omega)) ?_)
        have t1 := Int.tdiv_le_self (a := rd l (Int.tmod p (l.length : Int)) * 131 + rd l (Int.tmod (p * 7 + 3) (l.length : Int)) * 1117 + p * 29 + Int.tdiv p (l.length : Int) * 53) 64 (by omega)
        omega
/-- A reader's answer: a number below n, and the reader one further. -/
theorem ev_open {l : List Int} (hb : ∀ x ∈ l, 0 ≤ x ∧ x ≤ 255) : ∃ m, spec_l6Open.f l = some (m, 0) ∧ Code m := by
  unfold spec_l6Open.f
  by_cases h : (l.length : Int) > 2000
  · rw [if_pos h, if_pos (by omega)]
    exact ⟨_, rfl, by simp; omega, fun x hx => hb x (List.mem_of_mem_take hx)⟩
  · rw [if_neg h]
    exact ⟨_, rfl, by omega, hb⟩
theorem eta25 (t : S25) : (⟨t.f0, t.f1, t.f2⟩ : S25) = t := by cases t; rfl
/-- How far a message of a depth brings its reader. -/
def far : Nat → Nat
  | 0 => 4
  | d + 1 => 4 + 2 * far d
/-- How many nodes a message of a depth has at the most. -/
def many : Nat → Nat
  | 0 => 1
  | d + 1 => 1 + 2 * many d
theorem ev_name {l : List Int} (h : Code l) (x1 p : Int) (hp : 0 ≤ p) (hp2 : p ≤ 800000000) :
    ∃ (t : S25) (q : Int), Ev (fun k => spec_l92Seal.j0 k x1 true l p) (t.f0, t.f1, t.f2, q) ∧ p ≤ q ∧ q ≤ p + 2 ∧ nodes t ≤ 1 := by
  obtain ⟨v1, e1, a1, b1⟩ := ev_pick h p 40 hp (by omega) (by omega)
  by_cases c1 : v1 = 0
  · refine ⟨⟨0, 10, []⟩, p + 1, Ev.step (fun k => by rw [spec_l92Seal.j0, if_pos rfl]) (Ev.bind e1 ?_), by omega, by omega, by simp [nodes, nodesL]⟩
    simp only [if_pos c1]
    exact Ev.now _
  · obtain ⟨v2, e2, a2, b2⟩ := ev_pick h (p + 1) 4 (by omega) (by omega) (by omega)
    refine ⟨⟨0, v2, []⟩, p + 1 + 1, Ev.step (fun k => by rw [spec_l92Seal.j0, if_pos rfl]) (Ev.bind e1 ?_), by omega, by omega, by simp [nodes, nodesL]⟩
    simp only [if_neg c1]
    exact Ev.bind e2 (Ev.now _)
theorem ev_seal {l : List Int} (h : Code l) : ∀ (d : Nat), d ≤ 10 → ∀ p : Int, 0 ≤ p → p + far d ≤ 700000000 →
    ∃ (t : S25) (q : Int), Ev (fun k => spec_l92Seal.f k l p (d : Int)) (t.f0, t.f1, t.f2, q) ∧ p ≤ q ∧ q ≤ p + far d ∧ nodes t ≤ many d
  | 0, _, p, hp, hp2 => by
    obtain ⟨t, q, e, x1, x2, x3⟩ := ev_name h 0 p hp (by omega)
    exact ⟨t, q, Ev.step (fun k => by rw [spec_l92Seal.f, if_pos (by simp)]; rfl) e, x1, by simp only [far]; omega, x3⟩
  | d + 1, hd, p, hp, hp2 => by
    have hw : wrap64 (((d + 1 : Nat) : Int) - 1) = (d : Int) := by rw [wr (by omega) (by omega)]; omega
    have hB : far (d + 1) = 4 + 2 * far d := rfl
    have hM : many (d + 1) = 1 + 2 * many d := rfl
    have hne : ¬ ((d + 1 : Nat) : Int) = 0 := by omega
    obtain ⟨v1, e1, a1, b1⟩ := ev_pick h p 3 hp (by omega) (by omega)
    by_cases c1 : v1 = 0
    · obtain ⟨t, q, e, x1, x2, x3⟩ := ev_name h ((d + 1 : Nat) : Int) (p + 1) (by omega) (by omega)
      refine ⟨t, q, Ev.step (fun k => by rw [spec_l92Seal.f, if_neg hne]) (Ev.bind e1 ?_), by omega, by omega, by omega⟩
      subst c1
      exact e
    · obtain ⟨t, q2, e2, x2, y2, z2⟩ := ev_seal h d (by omega) (p + 1) (by omega) (by omega)
      obtain ⟨v3, e3, a3, b3⟩ := ev_pick h q2 2 (by omega) (by omega) (by omega)
      obtain ⟨u, q4, e4, x4, y4, z4⟩ := ev_seal h d (by omega) (q2 + 1) (by omega) (by omega)
      refine ⟨⟨1 + v3, 0, [t, u]⟩, q4, Ev.step (fun k => by rw [spec_l92Seal.f, if_neg hne]) (Ev.bind e1 ?_), by omega, by omega, by simp [nodes, nodesL]; omega⟩
      refine Ev.step (fun k => by simp only [beq_eq_false_iff_ne.mpr c1]; rw [spec_l92Seal.j0, if_neg (by simp)]) ?_
      simp only [hw]
      refine Ev.bind e2 ?_
      refine Ev.bind e3 ?_
      refine Ev.bind e4 ?_
      simp only [eta25]
      rw [wr (x := 1 + v3) (by omega) (by omega)]
      exact Ev.now _
theorem far_mono : ∀ d, d ≤ 4 → far d ≤ 140 ∧ many d ≤ 31
  | 0, _ => by decide
  | 1, _ => by decide
  | 2, _ => by decide
  | 3, _ => by decide
  | 4, _ => by decide
  | _ + 5, h => by omega
theorem of_wf {l : List Int} (h : ∀ x ∈ l, (Lit.int .u8 x).wf = true) : ∀ x ∈ l, 0 ≤ x ∧ x ≤ 255 := by
  intro x hx
  have := h x hx
  simp only [Lit.wf, Bool.and_eq_true, decide_eq_true_eq, show IntKind.min .u8 = 0 from rfl, show IntKind.max .u8 = 255 from rfl] at this
  omega
/-- A depth is drawn, and a message of it. -/
theorem ev_depth {l : List Int} (h : Code l) (p n : Int) (hn : 1 ≤ n) (hn5 : n ≤ 5) (hp : 0 ≤ p) (hp2 : p ≤ 100000) :
    ∃ (t : S25) (q : Int), Ev (fun k => (spec_l6Rd_pick.f k l p n).bind fun a => spec_l92Seal.f k l a.2 a.1) (t.f0, t.f1, t.f2, q) ∧ p ≤ q ∧ q ≤ p + 150 ∧ nodes t ≤ 31 := by
  obtain ⟨v1, e1, a1, b1⟩ := ev_pick h p n hp (by omega) hn
  obtain ⟨v, rfl⟩ := Int.eq_ofNat_of_zero_le a1
  obtain ⟨hf, hm⟩ := far_mono v (by omega)
  obtain ⟨t, q, e2, x2, y2, z2⟩ := ev_seal h v (by omega) (p + 1) (by omega) (by omega)
  exact ⟨t, q, Ev.bind e1 e2, by omega, by omega, by omega⟩
theorem drawn_ok {l0 : List Int} (hb : ∀ x ∈ l0, (Lit.int .u8 x).wf = true) : ∃ t : S25, nodes t ≤ 31 ∧ Ev (fun k => spec_DrawSealOk.f k l0) (t.f0, t.f1, t.f2) := by
  obtain ⟨m, hm, hc⟩ := ev_open (of_wf hb)
  obtain ⟨v1, e1, a1, b1⟩ := ev_pick hc 0 5 (by omega) (by omega) (by omega)
  obtain ⟨v, rfl⟩ := Int.eq_ofNat_of_zero_le a1
  obtain ⟨hf, hmn⟩ := far_mono v (by omega)
  obtain ⟨t, q, e2, x2, y2, z2⟩ := ev_seal hc v (by omega) (0 + 1) (by omega) (by omega)
  refine ⟨t, by omega, Ev.congr (fun k => by rw [spec_DrawSealOk.f, hm]; rfl) (Ev.bind (f := fun k bt136 => (spec_l92Seal.f k m bt136.2 bt136.1).bind fun bt138 => (some (bt138.1, bt138.2.1, bt138.2.2.1))) e1 (Ev.bind (f := fun _ bt138 => (some (bt138.1, bt138.2.1, bt138.2.2.1))) e2 (Ev.now _)))⟩
end Go.Proofs.YtlcladalpjcegaaDoor.PAll
