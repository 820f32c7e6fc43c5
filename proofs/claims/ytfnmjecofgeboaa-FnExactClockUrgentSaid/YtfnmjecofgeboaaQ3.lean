/- PLAIN LAWS OF TERMS WITH TIME, 3: copies and steps of the program. -/
import Derived.Test.YtfnmjecofgeboaaQ2
import Derived.Test.YtfnmjecofgeboaaPAllIOk
namespace Go.Proofs.Ytfnmjecofgeboaa.PAll
set_option linter.unusedVariables false
open Go.RowKit Go.Proofs.YtfnmjecofgeboaaW.PrintWords Go.Proofs.YtfnmjecofgeboaaW.PrintLast Go.Proofs.YtfnmjecofgeboaaW.PrintMore

theorem rd44 (l : List S44) (i : Nat) (h : i < l.length) : rd_T44 l (i : Int) = l[i] := by
  simp [rd_T44, List.getD_eq_getElem?_getD, h]

theorem eta25 (t : S25) : (⟨t.f0, t.f1, t.f2⟩ : S25) = t := by cases t; rfl

/-! ### impl.copyClock -/
theorem ev_copy_l (l : List S25) (hl : l.length ≤ 1099511627776) (a b : Int) (ih : ∀ x ∈ l, Ev (fun k => impl_copyClock.f k x.f0 x.f1 x.f2) (x.f0, x.f1, x.f2)) : ∀ (d i : Nat), l.length - i = d → i ≤ l.length →
    Ev (fun k => impl_copyClock.l0 k l (l.length : Int) (i : Int) a b (l.take i)) (a, b, l) := by
  intro d
  induction d with
  | zero =>
    intro i hd hi
    have hil : i = l.length := by omega
    subst hil
    exact Ev.step (f := fun _ => some (a, b, l)) (fun k => by simp only [impl_copyClock.l0]; rw [if_neg (by omega), List.take_length]) (Ev.now _)
  | succ d ihd =>
    intro i hd hi
    have hlt : i < l.length := by omega
    refine Ev.step (f := fun k => (impl_copyClock.f k l[i].f0 l[i].f1 l[i].f2).bind fun t => if (l.take i).length < 3518437208883 then impl_copyClock.l0 k l (l.length : Int) ((i + 1 : Nat) : Int) a b (l.take i ++ [⟨t.1, t.2.1, t.2.2⟩]) else none) (fun k => by
      simp only [impl_copyClock.l0]
      rw [if_pos (by omega), if_pos (by omega), if_pos (by omega), rd25 l i hlt, wr (x := (i : Int) + 1) (by omega) (by omega)]
      rfl) ?_
    refine Ev.bind (f := fun k t => if (l.take i).length < 3518437208883 then impl_copyClock.l0 k l (l.length : Int) ((i + 1 : Nat) : Int) a b (l.take i ++ [⟨t.1, t.2.1, t.2.2⟩]) else none) (ih l[i] (List.getElem_mem hlt)) ?_
    refine Ev.congr (f := fun k => impl_copyClock.l0 k l (l.length : Int) ((i + 1 : Nat) : Int) a b (l.take (i + 1))) (fun k => ?_) (ihd (i + 1) (by omega) (by omega))
    rw [if_pos (by rw [List.length_take]; omega), List.take_succ_eq_append_getElem hlt]
    simp only [eta25]
theorem ev_copy : ∀ (N : Nat) (t : S25), nodes t ≤ N → nodes t ≤ 1099511627776 → Ev (fun k => impl_copyClock.f k t.f0 t.f1 t.f2) (t.f0, t.f1, t.f2) := by
  intro N
  induction N with
  | zero => intro t h; have := nodes_pos t; omega
  | succ N ih =>
    intro t ht hb
    rw [nodes_eq] at ht hb
    have hlen := nodesL_len t.f2
    refine Ev.step (f := fun k => impl_copyClock.l0 k t.f2 (t.f2.length : Int) 0 t.f0 t.f1 []) (fun k => rfl) ?_
    exact ev_copy_l t.f2 (by omega) t.f0 t.f1 (fun x hx => ih x (by have := nodes_mem hx; omega) (by have := nodes_mem hx; omega)) t.f2.length 0 (by omega) (by omega)

/-! ### impl.ticksOf -/
def mk4 (x y : S25) : S25 := ⟨4, 0, [x, y]⟩
def crossS (x y : S44) : Option S44 := if x.f0 ≠ 0 ∧ x.f0 = wrap64 (-y.f0) then some ⟨0, mk4 x.f1 y.f1⟩ else none
theorem drop_cons44 (l : List S44) (i : Nat) (h : i < l.length) : l.drop i = l[i] :: l.drop (i + 1) := List.drop_eq_getElem_cons h
theorem ev_t3 (A B : List S44) (la i : Int) (x : S44) (R : List S44) : ∀ (d j : Nat) (out : List S44), B.length - j = d → j ≤ B.length → B.length ≤ 1099511627776 → out.length + d < 2932031007402 →
    Ev (fun k => impl_ticksOf.l2 k B (out ++ (B.drop j).filterMap (crossS x)) A la (wrap64 (i + 1))) R →
    Ev (fun k => impl_ticksOf.l3 k B out A la i B (B.length : Int) (j : Int) x.f0 x.f1.f0 x.f1.f1 x.f1.f2) R := by
  intro d
  induction d with
  | zero =>
    intro j out hd hj hB ho hR
    have hjl : j = B.length := by omega
    subst hjl
    rw [List.drop_length, List.filterMap_nil, List.append_nil] at hR
    exact Ev.step (fun k => by simp only [impl_ticksOf.l3]; rw [if_neg (by omega)]) hR
  | succ d ihd =>
    intro j out hd hj hB ho hR
    have hlt : j < B.length := by omega
    rw [drop_cons44 B j hlt] at hR
    by_cases h0 : x.f0 = 0
    · have hc : crossS x B[j] = none := by unfold crossS; rw [if_neg (by simp [h0])]
      rw [List.filterMap_cons_none hc] at hR
      refine Ev.step (fun k => ?_) (ihd (j + 1) out (by omega) (by omega) hB (by omega) hR)
      simp only [impl_ticksOf.l3]
      rw [if_pos (by omega), if_pos (by omega), if_pos (by omega), if_pos h0, wr (x := (j : Int) + 1) (by omega) (by omega)]
      rfl
    · by_cases h1 : x.f0 = wrap64 (-B[j].f0)
      · have hc : crossS x B[j] = some ⟨0, mk4 x.f1 B[j].f1⟩ := by unfold crossS; rw [if_pos ⟨h0, h1⟩]
        rw [List.filterMap_cons_some hc, List.append_cons] at hR
        refine Ev.step (fun k => ?_) (ihd (j + 1) (out ++ [⟨0, mk4 x.f1 B[j].f1⟩]) (by omega) (by omega) hB (by simp; omega) hR)
        simp only [impl_ticksOf.l3]
        rw [if_pos (by omega), if_pos (by omega), if_pos (by omega), if_neg h0, rd44 B j hlt, if_pos h1, wr (x := (j : Int) + 1) (by omega) (by omega)]
        simp only [impl_beside.f, Option.bind_some]
        rw [if_pos (by omega)]
        simp only [eta25]
        rfl
      · have hc : crossS x B[j] = none := by unfold crossS; rw [if_neg (by simp [h1])]
        rw [List.filterMap_cons_none hc] at hR
        refine Ev.step (fun k => ?_) (ihd (j + 1) out (by omega) (by omega) hB (by omega) hR)
        simp only [impl_ticksOf.l3]
        rw [if_pos (by omega), if_pos (by omega), if_pos (by omega), if_neg h0, rd44 B j hlt, if_neg h1, wr (x := (j : Int) + 1) (by omega) (by omega)]
        rfl

theorem fm_len (x : S44) (B : List S44) : (B.filterMap (crossS x)).length ≤ B.length := List.length_filterMap_le _ _
theorem ev_t2 (A B : List S44) (hA : A.length ≤ 1099511627776) (hB : B.length ≤ 1099511627776) : ∀ (d i : Nat) (out : List S44), A.length - i = d → i ≤ A.length → out.length + d * B.length + B.length < 2932031007402 →
    Ev (fun k => impl_ticksOf.l2 k B out A (A.length : Int) (i : Int)) (out ++ (A.drop i).flatMap fun x => B.filterMap (crossS x)) := by
  intro d
  induction d with
  | zero =>
    intro i out hd hi ho
    have hil : i = A.length := by omega
    subst hil
    rw [List.drop_length, List.flatMap_nil, List.append_nil]
    exact Ev.step (f := fun _ => some out) (fun k => by simp only [impl_ticksOf.l2]; rw [if_neg (by omega)]) (Ev.now _)
  | succ d ihd =>
    intro i out hd hi ho
    have hlt : i < A.length := by omega
    rw [drop_cons44 A i hlt, List.flatMap_cons, ← List.append_assoc]
    have hf := fm_len A[i] B
    rw [Nat.add_mul] at ho
    refine Ev.step (fun k => ?_) (ev_t3 A B (A.length : Int) (i : Int) A[i] _ B.length 0 out (by omega) (by omega) hB (by omega) ?_)
    · simp only [impl_ticksOf.l2]
      rw [if_pos (by omega), if_pos (by omega), if_pos (by omega), rd44 A i hlt]
      rfl
    · rw [List.drop_zero, wr (x := (i : Int) + 1) (by omega) (by omega)]
      exact ihd (i + 1) _ (by omega) (by omega) (by simp; omega)
theorem ev_t1 (A B : List S44) (P0 P1 : S25) (op n : Int) (hA : A.length ≤ 1099511627776) (hB : B.length ≤ 1099511627776) : ∀ (d j : Nat) (out : List S44), B.length - j = d → j ≤ B.length → out.length + d + A.length * B.length + B.length < 2932031007402 →
    Ev (fun k => impl_ticksOf.l1 k A B out B (B.length : Int) (j : Int) op n [P0, P1]) (out ++ (B.drop j).map (fun y => ⟨y.f0, mk4 P0 y.f1⟩) ++ A.flatMap fun x => B.filterMap (crossS x)) := by
  intro d
  induction d with
  | zero =>
    intro j out hd hj ho
    have hjl : j = B.length := by omega
    subst hjl
    rw [List.drop_length, List.map_nil, List.append_nil]
    refine Ev.step (fun k => by simp only [impl_ticksOf.l1]; rw [if_neg (by omega)]) ?_
    have := ev_t2 A B hA hB A.length 0 out (by omega) (by omega) (by omega)
    rw [List.drop_zero] at this
    exact this
  | succ d ihd =>
    intro j out hd hj ho
    have hlt : j < B.length := by omega
    have := ihd (j + 1) (out ++ [⟨B[j].f0, mk4 P0 B[j].f1⟩]) (by omega) (by omega) (by simp; omega)
    rw [drop_cons44 B j hlt, List.map_cons, List.append_cons]
    refine Ev.step (fun k => ?_) this
    simp only [impl_ticksOf.l1]
    rw [if_pos (by omega), if_pos (by omega), if_pos (by omega), if_pos (by simp), rd44 B j hlt, wr (x := (j : Int) + 1) (by omega) (by omega)]
    simp only [impl_beside.f, Option.bind_some]
    rw [if_pos (by omega)]
    simp only [eta25]
    rfl
theorem ev_t0 (A B : List S44) (P0 P1 : S25) (op n : Int) (hA : A.length ≤ 1099511627776) (hB : B.length ≤ 1099511627776) : ∀ (d i : Nat) (out : List S44), A.length - i = d → i ≤ A.length → out.length + d + B.length + A.length * B.length + B.length < 2932031007402 →
    Ev (fun k => impl_ticksOf.l0 k A B out A (A.length : Int) (i : Int) op n [P0, P1]) (out ++ (A.drop i).map (fun x => ⟨x.f0, mk4 x.f1 P1⟩) ++ B.map (fun y => ⟨y.f0, mk4 P0 y.f1⟩) ++ A.flatMap fun x => B.filterMap (crossS x)) := by
  intro d
  induction d with
  | zero =>
    intro i out hd hi ho
    have hil : i = A.length := by omega
    subst hil
    rw [List.drop_length, List.map_nil, List.append_nil]
    refine Ev.step (fun k => by simp only [impl_ticksOf.l0]; rw [if_neg (by omega)]) ?_
    have := ev_t1 A B P0 P1 op n hA hB B.length 0 out (by omega) (by omega) (by omega)
    rw [List.drop_zero] at this
    exact this
  | succ d ihd =>
    intro i out hd hi ho
    have hlt : i < A.length := by omega
    have := ihd (i + 1) (out ++ [⟨A[i].f0, mk4 A[i].f1 P1⟩]) (by omega) (by omega) (by simp; omega)
    rw [drop_cons44 A i hlt, List.map_cons, List.append_cons]
    refine Ev.step (fun k => ?_) this
    simp only [impl_ticksOf.l0]
    rw [if_pos (by omega), if_pos (by omega), if_pos (by omega), if_pos (by simp), rd44 A i hlt, wr (x := (i : Int) + 1) (by omega) (by omega)]
    simp only [impl_beside.f, Option.bind_some]
    rw [if_pos (by omega)]
    simp only [eta25]
    rfl

namespace Clk
def encT (x : Int × Clk) : S44 := ⟨x.1, enc x.2⟩
theorem cross_enc {x y : Int × Clk} (hy : -4 ≤ y.1 ∧ y.1 ≤ 4) : crossS (encT x) (encT y) = (meet x y).map encT := by
  unfold crossS meet encT
  rw [wr (by simp; omega) (by simp; omega)]
  by_cases h : x.1 ≠ 0 ∧ x.1 = -y.1
  · rw [if_pos h, if_pos h]; rfl
  · rw [if_neg h, if_neg h]; rfl
theorem fm_enc (x : Int × Clk) : ∀ B : List (Int × Clk), (∀ y ∈ B, -4 ≤ y.1 ∧ y.1 ≤ 4) → (B.map encT).filterMap (crossS (encT x)) = (B.filterMap (meet x)).map encT
  | [], _ => rfl
  | y :: ys, h => by
    have h1 := cross_enc (x := x) (h y (List.mem_cons_self ..))
    have h2 := fm_enc x ys (fun z hz => h z (List.mem_cons_of_mem _ hz))
    rw [List.map_cons]
    cases hm : meet x y with
    | none => rw [List.filterMap_cons_none (by rw [h1, hm]; rfl), List.filterMap_cons_none hm, h2]
    | some z => rw [List.filterMap_cons_some (by rw [h1, hm]; rfl), List.filterMap_cons_some hm, h2]; rfl
theorem fl_enc (B : List (Int × Clk)) (hB : ∀ y ∈ B, -4 ≤ y.1 ∧ y.1 ≤ 4) : ∀ A : List (Int × Clk), ((A.map encT).flatMap fun x => (B.map encT).filterMap (crossS x)) = (A.flatMap fun x => B.filterMap (meet x)).map encT
  | [] => rfl
  | x :: xs => by rw [List.map_cons, List.flatMap_cons, List.flatMap_cons, List.map_append, fl_enc B hB xs, fm_enc x B hB]
/-- The steps as rows of the program. -/
def stepsE (c : Clk) : List S44 := (steps c).map encT
theorem stepsE_par (a b : Clk) (hb : ok b) : stepsE (par a b) = (stepsE a).map (fun x => ⟨x.f0, mk4 x.f1 (enc b)⟩) ++ (stepsE b).map (fun y => ⟨y.f0, mk4 (enc a) y.f1⟩) ++ (stepsE a).flatMap fun x => (stepsE b).filterMap (crossS x) := by
  unfold stepsE
  rw [fl_enc (steps b) (fun y hy => (steps_ok b hb y hy).1) (steps a)]
  simp only [steps, List.map_append, List.map_map]
  rfl
theorem stepsE_len (c : Clk) (h : sz c ≤ 18) : (stepsE c).length ≤ 262144 := by
  have := steps_len c
  have h2 : 2 ^ sz c ≤ 2 ^ 18 := Nat.pow_le_pow_right (by omega) h
  unfold stepsE
  rw [List.length_map]
  omega
theorem ev_ticks : ∀ c : Clk, ok c → sz c ≤ 18 → Ev (fun k => impl_ticksOf.f k (enc c).f0 (enc c).f1 (enc c).f2) (stepsE c)
  | nil, _, _ => Ev.step (f := fun _ => some []) (fun k => by simp only [impl_ticksOf.f, enc]; rfl) (Ev.now _)
  | act n p, _, _ => Ev.step (f := fun _ => some [⟨n, enc p⟩]) (fun k => by simp only [impl_ticksOf.f, enc, eta25]; rfl) (Ev.now _)
  | wait n p, _, _ => Ev.step (f := fun _ => some []) (fun k => by simp only [impl_ticksOf.f, enc]; rfl) (Ev.now _)
  | sum a b, h, hs => by
    simp only [sz] at hs
    have h1 := ev_ticks a h.1 (by omega)
    have h2 := ev_ticks b h.2 (by omega)
    have l1 := stepsE_len a (by omega)
    have l2 := stepsE_len b (by omega)
    refine Ev.step (f := fun k => (impl_ticksOf.f k (enc a).f0 (enc a).f1 (enc a).f2).bind fun x => (impl_ticksOf.f k (enc b).f0 (enc b).f1 (enc b).f2).bind fun y => if x.length + y.length < 2932031007402 then some (x ++ y) else none) (fun k => by simp only [impl_ticksOf.f, enc]; rfl) ?_
    refine Ev.bind (f := fun k x => (impl_ticksOf.f k (enc b).f0 (enc b).f1 (enc b).f2).bind fun y => if x.length + y.length < 2932031007402 then some (x ++ y) else none) h1 ?_
    refine Ev.bind (f := fun k y => if (stepsE a).length + y.length < 2932031007402 then some (stepsE a ++ y) else none) h2 ?_
    refine Ev.congr (f := fun _ => some (stepsE a ++ stepsE b)) (fun k => by rw [if_pos (by omega)]) ?_
    rw [show stepsE (sum a b) = stepsE a ++ stepsE b by unfold stepsE; rw [steps, List.map_append]]
    exact Ev.now _
  | par a b, h, hs => by
    simp only [sz] at hs
    have h1 := ev_ticks a h.1 (by omega)
    have h2 := ev_ticks b h.2 (by omega)
    have l1 := stepsE_len a (by omega)
    have l2 := stepsE_len b (by omega)
    have lm : (stepsE a).length * (stepsE b).length ≤ 262144 * 262144 := Nat.mul_le_mul l1 l2
    refine Ev.step (f := fun k => (impl_ticksOf.f k (enc a).f0 (enc a).f1 (enc a).f2).bind fun x => (impl_ticksOf.f k (enc b).f0 (enc b).f1 (enc b).f2).bind fun y => impl_ticksOf.l0 k x y [] x (x.length : Int) 0 4 0 [enc a, enc b]) (fun k => by simp only [impl_ticksOf.f, enc]; rfl) ?_
    refine Ev.bind (f := fun k x => (impl_ticksOf.f k (enc b).f0 (enc b).f1 (enc b).f2).bind fun y => impl_ticksOf.l0 k x y [] x (x.length : Int) 0 4 0 [enc a, enc b]) h1 ?_
    refine Ev.bind (f := fun k y => impl_ticksOf.l0 k (stepsE a) y [] (stepsE a) ((stepsE a).length : Int) 0 4 0 [enc a, enc b]) h2 ?_
    have := ev_t0 (stepsE a) (stepsE b) (enc a) (enc b) 4 0 (by omega) (by omega) (stepsE a).length 0 [] (by omega) (by omega) (by simp; omega)
    rw [List.drop_zero, List.nil_append] at this
    rw [stepsE_par a b h.2]
    exact this
end Clk
end Go.Proofs.Ytfnmjecofgeboaa.PAll
