/- PLAIN LAWS OF TERMS WITH TIME, 2: terms as an inductive type; their steps; copies. -/
import Derived.Test.YtfnmjecofgeboaaQ1
namespace Go.Proofs.Ytfnmjecofgeboaa.PAll
set_option linter.unusedVariables false
open Go.RowKit Go.Proofs.YtfnmjecofgeboaaW.PrintWords Go.Proofs.YtfnmjecofgeboaaW.PrintLast Go.Proofs.YtfnmjecofgeboaaW.PrintMore

inductive Clk where
  | nil
  | act (n : Int) (p : Clk)
  | wait (n : Int) (p : Clk)
  | sum (a b : Clk)
  | par (a b : Clk)
namespace Clk
def enc : Clk → S25
  | nil => ⟨0, 0, []⟩
  | act n p => ⟨1, n, [enc p]⟩
  | wait n p => ⟨2, n, [enc p]⟩
  | sum a b => ⟨3, 0, [enc a, enc b]⟩
  | par a b => ⟨4, 0, [enc a, enc b]⟩
def ok : Clk → Prop
  | nil => True
  | act n p => (-4 ≤ n ∧ n ≤ 4) ∧ ok p
  | wait n p => (1 ≤ n ∧ n ≤ 9) ∧ ok p
  | sum a b => ok a ∧ ok b
  | par a b => ok a ∧ ok b
def sz : Clk → Nat
  | nil => 1
  | act _ p => 1 + sz p
  | wait _ p => 1 + sz p
  | sum a b => 1 + sz a + sz b
  | par a b => 1 + sz a + sz b
theorem sz_pos (c : Clk) : 1 ≤ sz c := by cases c <;> simp [sz] <;> omega
theorem nodes_enc : ∀ c : Clk, nodes (enc c) = sz c
  | nil => rfl
  | act _ p => by simp [enc, nodes, nodesL, sz, nodes_enc p]
  | wait _ p => by simp [enc, nodes, nodesL, sz, nodes_enc p]
  | sum a b => by simp [enc, nodes, nodesL, sz, nodes_enc a, nodes_enc b]; omega
  | par a b => by simp [enc, nodes, nodesL, sz, nodes_enc a, nodes_enc b]; omega
theorem shp_enc : ∀ c : Clk, ok c → shp (enc c) = true
  | nil, _ => by simp [enc, shp, shapeWant, shpL]
  | act n p, h => by simp [enc, shp, shapeWant, shpL, h.1, shp_enc p h.2]
  | wait n p, h => by simp [enc, shp, shapeWant, shpL, h.1, shp_enc p h.2]
  | sum a b, h => by simp [enc, shp, shapeWant, shpL, shp_enc a h.1, shp_enc b h.2]
  | par a b, h => by simp [enc, shp, shapeWant, shpL, shp_enc a h.1, shp_enc b h.2]
theorem dec : ∀ (N : Nat) (t : S25), nodes t ≤ N → shp t = true → ∃ c : Clk, enc c = t ∧ ok c := by
  intro N
  induction N with
  | zero => intro t h; have := nodes_pos t; omega
  | succ N ih =>
    rintro ⟨op, n, l⟩ ht hs
    rw [nodes_eq] at ht
    rw [shp_eq] at hs
    dsimp only at ht hs
    have sub1 : ∀ x, l = [x] → shpL l = true → ∃ c : Clk, enc c = x ∧ ok c := by
      rintro x rfl hl
      simp only [shpL, Bool.and_true] at hl
      exact ih x (by simp [nodesL] at ht; omega) hl
    have sub2 : ∀ x y, l = [x, y] → shpL l = true → ∃ c d : Clk, enc c = x ∧ enc d = y ∧ ok c ∧ ok d := by
      rintro x y rfl hl
      simp only [shpL, Bool.and_true, Bool.and_eq_true] at hl
      simp only [nodesL] at ht
      obtain ⟨c, hc, kc⟩ := ih x (by omega) hl.1
      obtain ⟨d, hd, kd⟩ := ih y (by omega) hl.2
      exact ⟨c, d, hc, hd, kc, kd⟩
    have len1 : (l.length : Int) = 1 → ∃ x, l = [x] := by
      intro h; match l, h with
      | [x], _ => exact ⟨x, rfl⟩
      | [], h => simp at h
      | _ :: _ :: _, h => simp at h; omega
    have len2 : (l.length : Int) = 2 → ∃ x y, l = [x, y] := by
      intro h; match l, h with
      | [x, y], _ => exact ⟨x, y, rfl⟩
      | [], h => simp at h
      | [_], h => simp at h
      | _ :: _ :: _ :: _, h => simp at h; omega
    unfold shapeWant at hs
    by_cases h0 : op = 0
    · subst h0
      by_cases hn : n = 0
      · subst hn
        simp at hs
        exact ⟨nil, by rw [enc, hs.1], trivial⟩
      · simp [hn] at hs
    · by_cases h1 : op = 1
      · subst h1
        by_cases hn : -4 ≤ n ∧ n ≤ 4
        · simp [hn] at hs
          obtain ⟨x, rfl⟩ := len1 (by omega)
          obtain ⟨c, rfl, kc⟩ := sub1 x rfl hs.2
          exact ⟨act n c, rfl, hn, kc⟩
        · rw [if_neg (by omega), if_pos rfl, if_neg hn] at hs; simp at hs
      · by_cases h2 : op = 2
        · subst h2
          by_cases hn : 1 ≤ n ∧ n ≤ 9
          · simp [hn] at hs
            obtain ⟨x, rfl⟩ := len1 (by omega)
            obtain ⟨c, rfl, kc⟩ := sub1 x rfl hs.2
            exact ⟨wait n c, rfl, hn, kc⟩
          · rw [if_neg (by omega), if_neg (by omega), if_pos rfl, if_neg hn] at hs; simp at hs
        · by_cases h34 : op = 3 ∨ op = 4
          · by_cases hn : n = 0
            · subst hn
              rw [if_neg h0, if_neg h1, if_neg h2, if_pos h34, if_pos rfl] at hs
              simp at hs
              obtain ⟨x, y, rfl⟩ := len2 (by omega)
              obtain ⟨c, d, rfl, rfl, kc, kd⟩ := sub2 x y rfl hs.2
              rcases h34 with rfl | rfl
              · exact ⟨sum c d, rfl, kc, kd⟩
              · exact ⟨par c d, rfl, kc, kd⟩
            · rw [if_neg h0, if_neg h1, if_neg h2, if_pos h34, if_neg hn] at hs; simp at hs
          · rw [if_neg h0, if_neg h1, if_neg h2, if_neg h34] at hs; simp at hs
theorem of_okC {t : S25} (h : okC t = true) : ∃ c : Clk, enc c = t ∧ ok c ∧ sz c ≤ 16 := by
  simp only [okC, Bool.and_eq_true, decide_eq_true_eq] at h
  obtain ⟨c, rfl, kc⟩ := dec _ t (Nat.le_refl _) h.1
  exact ⟨c, rfl, kc, by rw [← nodes_enc]; exact h.2⟩
theorem okC_enc {c : Clk} (h : ok c) (hs : sz c ≤ 16) : okC (enc c) = true := by
  simp only [okC, Bool.and_eq_true, decide_eq_true_eq]
  exact ⟨shp_enc c h, by rw [nodes_enc]; exact hs⟩

/-! ### steps -/
def meet (x y : Int × Clk) : Option (Int × Clk) := if x.1 ≠ 0 ∧ x.1 = -y.1 then some (0, par x.2 y.2) else none
def steps : Clk → List (Int × Clk)
  | nil => []
  | act n p => [(n, p)]
  | wait _ _ => []
  | sum a b => steps a ++ steps b
  | par a b => (steps a).map (fun x => (x.1, par x.2 b)) ++ (steps b).map (fun y => (y.1, par a y.2)) ++ (steps a).flatMap fun x => (steps b).filterMap (meet x)
theorem cross_len (A B : List (Int × Clk)) : (A.flatMap fun x => B.filterMap (meet x)).length ≤ A.length * B.length := by
  induction A with
  | nil => simp
  | cons x xs ih =>
    simp only [List.flatMap_cons, List.length_append, List.length_cons]
    have := List.length_filterMap_le (meet x) B
    rw [Nat.add_mul]; omega
theorem steps_len : ∀ c : Clk, (steps c).length + 1 ≤ 2 ^ sz c
  | nil => by simp [steps, sz]
  | act _ p => by
    have := sz_pos p
    simp only [steps, sz, List.length_cons, List.length_nil]
    calc 0 + 1 + 1 = 2 ^ 1 := rfl
      _ ≤ 2 ^ (1 + sz p) := Nat.pow_le_pow_right (by omega) (by omega)
  | wait _ p => by
    simp only [steps, sz, List.length_nil]
    exact Nat.one_le_two_pow
  | sum a b => by
    have h1 := steps_len a; have h2 := steps_len b
    simp only [steps, sz, List.length_append]
    have h3 : 2 ^ (1 + sz a + sz b) = 2 * (2 ^ sz a * 2 ^ sz b) := by rw [Nat.pow_add, Nat.pow_add]; simp [Nat.mul_assoc]
    have h4 : 2 ^ sz a ≤ 2 ^ sz a * 2 ^ sz b := Nat.le_mul_of_pos_right _ (Nat.two_pow_pos _)
    have h5 : 2 ^ sz b ≤ 2 ^ sz a * 2 ^ sz b := Nat.le_mul_of_pos_left _ (Nat.two_pow_pos _)
    omega
  | par a b => by
    have h1 := steps_len a; have h2 := steps_len b
    have hc := cross_len (steps a) (steps b)
    simp only [steps, sz, List.length_append, List.length_map]
    have h3 : 2 ^ (1 + sz a + sz b) = 2 * (2 ^ sz a * 2 ^ sz b) := by rw [Nat.pow_add, Nat.pow_add]; simp [Nat.mul_assoc]
    have h4 : ((steps a).length + 1) * ((steps b).length + 1) ≤ 2 ^ sz a * 2 ^ sz b := Nat.mul_le_mul h1 h2
    rw [Nat.add_mul, Nat.mul_add] at h4
    omega
theorem steps_ok : ∀ c : Clk, ok c → ∀ x ∈ steps c, (-4 ≤ x.1 ∧ x.1 ≤ 4) ∧ ok x.2 ∧ sz x.2 ≤ sz c
  | nil, _, x, hx => by simp [steps] at hx
  | act n p, h, x, hx => by
    simp only [steps, List.mem_singleton] at hx; subst hx
    exact ⟨h.1, h.2, by simp [sz]⟩
  | wait _ _, _, x, hx => by simp [steps] at hx
  | sum a b, h, x, hx => by
    simp only [steps, List.mem_append] at hx
    rcases hx with hx | hx
    · obtain ⟨h1, h2, h3⟩ := steps_ok a h.1 x hx; exact ⟨h1, h2, by simp [sz]; omega⟩
    · obtain ⟨h1, h2, h3⟩ := steps_ok b h.2 x hx; exact ⟨h1, h2, by simp [sz]; omega⟩
  | par a b, h, x, hx => by
    simp only [steps, List.mem_append, List.mem_map, List.mem_flatMap, List.mem_filterMap] at hx
    rcases hx with (⟨y, hy, rfl⟩ | ⟨y, hy, rfl⟩) | ⟨y, hy, z, hz, hm⟩
    · obtain ⟨h1, h2, h3⟩ := steps_ok a h.1 y hy; exact ⟨h1, ⟨h2, h.2⟩, by simp [sz]; omega⟩
    · obtain ⟨h1, h2, h3⟩ := steps_ok b h.2 y hy; exact ⟨h1, ⟨h.1, h2⟩, by simp [sz]; omega⟩
    · obtain ⟨h1, h2, h3⟩ := steps_ok a h.1 y hy
      obtain ⟨k1, k2, k3⟩ := steps_ok b h.2 z hz
      unfold meet at hm
      split at hm
      · obtain rfl := Option.some.inj hm
        exact ⟨by simp, ⟨h2, k2⟩, by simp [sz]; omega⟩
      · cases hm
end Clk
end Go.Proofs.Ytfnmjecofgeboaa.PAll
