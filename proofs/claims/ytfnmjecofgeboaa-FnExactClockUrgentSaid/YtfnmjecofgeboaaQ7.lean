/- PLAIN LAWS OF TERMS WITH TIME, 7: copies and steps of the specification; what equals itself. -/
import Derived.Test.YtfnmjecofgeboaaQ3
import Derived.Test.YtfnmjecofgeboaaPAllSSteps
import Derived.Test.YtfnmjecofgeboaaPAllMn
namespace Go.Proofs.Ytfnmjecofgeboaa.PAll
set_option linter.unusedVariables false
open Go.RowKit Go.Proofs.YtfnmjecofgeboaaW.PrintWords Go.Proofs.YtfnmjecofgeboaaW.PrintLast Go.Proofs.YtfnmjecofgeboaaW.PrintMore

theorem ev_scopy_l (l : List S25) (hl : l.length ≤ 1099511627776) (a b : Int) (ih : ∀ x ∈ l, Ev (fun k => spec_l17Copy.f k x.f0 x.f1 x.f2) (x.f0, x.f1, x.f2)) : ∀ (d i : Nat), l.length - i = d → i ≤ l.length →
    Ev (fun k => spec_l17Copy.l0 k (i : Int) a b l a b (l.take i)) (a, b, l) := by
  intro d
  induction d with
  | zero =>
    intro i hd hi
    have hil : i = l.length := by omega
    subst hil
    exact Ev.step (f := fun _ => some (a, b, l)) (fun k => by simp only [spec_l17Copy.l0]; rw [if_neg (by omega), List.take_length]) (Ev.now _)
  | succ d ihd =>
    intro i hd hi
    have hlt : i < l.length := by omega
    refine Ev.step (f := fun k => (spec_l17Copy.f k l[i].f0 l[i].f1 l[i].f2).bind fun t => if (l.take i).length < 3518437208883 then spec_l17Copy.l0 k ((i + 1 : Nat) : Int) a b l a b (l.take i ++ [⟨t.1, t.2.1, t.2.2⟩]) else none) (fun k => by
      simp only [spec_l17Copy.l0]
      rw [if_pos (by omega), if_pos (by omega), rd25 l i hlt, wr (x := (i : Int) + 1) (by omega) (by omega)]
      rfl) ?_
    refine Ev.bind (f := fun k t => if (l.take i).length < 3518437208883 then spec_l17Copy.l0 k ((i + 1 : Nat) : Int) a b l a b (l.take i ++ [⟨t.1, t.2.1, t.2.2⟩]) else none) (ih l[i] (List.getElem_mem hlt)) ?_
    refine Ev.congr (f := fun k => spec_l17Copy.l0 k ((i + 1 : Nat) : Int) a b l a b (l.take (i + 1))) (fun k => ?_) (ihd (i + 1) (by omega) (by omega))
    rw [if_pos (by rw [List.length_take]; omega), List.take_succ_eq_append_getElem hlt]
    simp only [eta25]
theorem ev_scopy : ∀ (N : Nat) (t : S25), nodes t ≤ N → nodes t ≤ 1099511627776 → Ev (fun k => spec_l17Copy.f k t.f0 t.f1 t.f2) (t.f0, t.f1, t.f2) := by
  intro N
  induction N with
  | zero => intro t h; have := nodes_pos t; omega
  | succ N ih =>
    intro t ht hb
    rw [nodes_eq] at ht hb
    have hlen := nodesL_len t.f2
    refine Ev.step (f := fun k => spec_l17Copy.l0 k 0 t.f0 t.f1 t.f2 t.f0 t.f1 []) (fun k => rfl) ?_
    exact ev_scopy_l t.f2 (by omega) t.f0 t.f1 (fun x hx => ih x (by have := nodes_mem hx; omega) (by have := nodes_mem hx; omega)) t.f2.length 0 (by omega) (by omega)

/-! ### spec.l17Steps -/
theorem ev_s3 (A B : List S44) (n : Int) (P : List S25) (i : Nat) (hi : i < A.length) (hA : A.length ≤ 1099511627776) (R : List S44) : ∀ (d j : Nat) (out : List S44), B.length - j = d → j ≤ B.length → B.length ≤ 1099511627776 → out.length + d < 2932031007402 →
    Ev (fun k => spec_l17Steps.l2 k (out ++ (B.drop j).filterMap (crossS A[i])) A B ((i + 1 : Nat) : Int) 4 n P) R →
    Ev (fun k => spec_l17Steps.l3 k out A B (i : Int) (j : Int) 4 n P) R := by
  intro d
  induction d with
  | zero =>
    intro j out hd hj hB ho hR
    have hjl : j = B.length := by omega
    subst hjl
    rw [List.drop_length, List.filterMap_nil, List.append_nil] at hR
    exact Ev.step (fun k => by simp only [spec_l17Steps.l3]; rw [if_neg (by omega), wr (x := (i : Int) + 1) (by omega) (by omega)]; rfl) hR
  | succ d ihd =>
    intro j out hd hj hB ho hR
    have hlt : j < B.length := by omega
    rw [drop_cons44 B j hlt] at hR
    by_cases h0 : A[i].f0 = 0
    · have hc : crossS A[i] B[j] = none := by unfold crossS; rw [if_neg (by simp [h0])]
      rw [List.filterMap_cons_none hc] at hR
      refine Ev.step (fun k => ?_) (ihd (j + 1) out (by omega) (by omega) hB (by omega) hR)
      simp only [spec_l17Steps.l3]
      rw [if_pos (by omega), if_pos (by omega), if_pos (by omega), rd44 A i hi, if_pos h0, wr (x := (j : Int) + 1) (by omega) (by omega)]
      rfl
    · by_cases h1 : A[i].f0 = wrap64 (-B[j].f0)
      · have hc : crossS A[i] B[j] = some ⟨0, mk4 A[i].f1 B[j].f1⟩ := by unfold crossS; rw [if_pos ⟨h0, h1⟩]
        rw [List.filterMap_cons_some hc, List.append_cons] at hR
        refine Ev.step (fun k => ?_) (ihd (j + 1) (out ++ [⟨0, mk4 A[i].f1 B[j].f1⟩]) (by omega) (by omega) hB (by simp; omega) hR)
        simp only [spec_l17Steps.l3]
        rw [if_pos (by omega), if_pos (by omega), if_pos (by omega), rd44 A i hi, if_neg h0, if_pos (by omega), rd44 B j hlt, if_pos h1, wr (x := (j : Int) + 1) (by omega) (by omega)]
        simp only [spec_l17Two.f, Option.bind_some]
        rw [if_pos (by omega)]
        simp only [eta25]
        rfl
      · have hc : crossS A[i] B[j] = none := by unfold crossS; rw [if_neg (by simp [h1])]
        rw [List.filterMap_cons_none hc] at hR
        refine Ev.step (fun k => ?_) (ihd (j + 1) out (by omega) (by omega) hB (by omega) hR)
        simp only [spec_l17Steps.l3]
        rw [if_pos (by omega), if_pos (by omega), if_pos (by omega), rd44 A i hi, if_neg h0, if_pos (by omega), rd44 B j hlt, if_neg h1, wr (x := (j : Int) + 1) (by omega) (by omega)]
        rfl
theorem ev_s2 (A B : List S44) (n : Int) (P : List S25) (hA : A.length ≤ 1099511627776) (hB : B.length ≤ 1099511627776) : ∀ (d i : Nat) (out : List S44), A.length - i = d → i ≤ A.length → out.length + d * B.length + B.length < 2932031007402 →
    Ev (fun k => spec_l17Steps.l2 k out A B (i : Int) 4 n P) (out ++ (A.drop i).flatMap fun x => B.filterMap (crossS x)) := by
  intro d
  induction d with
  | zero =>
    intro i out hd hi ho
    have hil : i = A.length := by omega
    subst hil
    rw [List.drop_length, List.flatMap_nil, List.append_nil]
    exact Ev.step (f := fun _ => some out) (fun k => by simp only [spec_l17Steps.l2]; rw [if_neg (by omega)]) (Ev.now _)
  | succ d ihd =>
    intro i out hd hi ho
    have hlt : i < A.length := by omega
    rw [drop_cons44 A i hlt, List.flatMap_cons, ← List.append_assoc]
    have hf := fm_len A[i] B
    rw [Nat.add_mul] at ho
    refine Ev.step (fun k => ?_) (ev_s3 A B n P i hlt hA _ B.length 0 out (by omega) (by omega) hB (by omega) ?_)
    · simp only [spec_l17Steps.l2]
      rw [if_pos (by omega)]
      rfl
    · rw [List.drop_zero]
      exact ihd (i + 1) _ (by omega) (by omega) (by simp; omega)
theorem ev_s1 (A B : List S44) (P0 P1 : S25) (n : Int) (hA : A.length ≤ 1099511627776) (hB : B.length ≤ 1099511627776) : ∀ (d j : Nat) (out : List S44), B.length - j = d → j ≤ B.length → out.length + d + A.length * B.length + B.length < 2932031007402 →
    Ev (fun k => spec_l17Steps.l1 k out A B (j : Int) 4 n [P0, P1]) (out ++ (B.drop j).map (fun y => ⟨y.f0, mk4 P0 y.f1⟩) ++ A.flatMap fun x => B.filterMap (crossS x)) := by
  intro d
  induction d with
  | zero =>
    intro j out hd hj ho
    have hjl : j = B.length := by omega
    subst hjl
    rw [List.drop_length, List.map_nil, List.append_nil]
    refine Ev.step (fun k => by simp only [spec_l17Steps.l1]; rw [if_neg (by omega)]) ?_
    have := ev_s2 A B n [P0, P1] hA hB A.length 0 out (by omega) (by omega) (by omega)
    rw [List.drop_zero] at this
    exact this
  | succ d ihd =>
    intro j out hd hj ho
    have hlt : j < B.length := by omega
    have := ihd (j + 1) (out ++ [⟨B[j].f0, mk4 P0 B[j].f1⟩]) (by omega) (by omega) (by simp; omega)
    rw [drop_cons44 B j hlt, List.map_cons, List.append_cons]
    refine Ev.step (fun k => ?_) this
    simp only [spec_l17Steps.l1]
    rw [if_pos (by omega), if_pos (by omega), if_pos (by simp), rd44 B j hlt, wr (x := (j : Int) + 1) (by omega) (by omega)]
    simp only [spec_l17Two.f, Option.bind_some]
    rw [if_pos (by omega)]
    simp only [eta25]
    rfl
theorem ev_s0 (A B : List S44) (P0 P1 : S25) (n : Int) (hA : A.length ≤ 1099511627776) (hB : B.length ≤ 1099511627776) : ∀ (d i : Nat) (out : List S44), A.length - i = d → i ≤ A.length → out.length + d + B.length + A.length * B.length + B.length < 2932031007402 →
    Ev (fun k => spec_l17Steps.l0 k out A B (i : Int) 4 n [P0, P1]) (out ++ (A.drop i).map (fun x => ⟨x.f0, mk4 x.f1 P1⟩) ++ B.map (fun y => ⟨y.f0, mk4 P0 y.f1⟩) ++ A.flatMap fun x => B.filterMap (crossS x)) := by
  intro d
  induction d with
  | zero =>
    intro i out hd hi ho
    have hil : i = A.length := by omega
    subst hil
    rw [List.drop_length, List.map_nil, List.append_nil]
    refine Ev.step (fun k => by simp only [spec_l17Steps.l0]; rw [if_neg (by omega)]) ?_
    have := ev_s1 A B P0 P1 n hA hB B.length 0 out (by omega) (by omega) (by omega)
    rw [List.drop_zero] at this
    exact this
  | succ d ihd =>
    intro i out hd hi ho
    have hlt : i < A.length := by omega
    have := ihd (i + 1) (out ++ [⟨A[i].f0, mk4 A[i].f1 P1⟩]) (by omega) (by omega) (by simp; omega)
    rw [drop_cons44 A i hlt, List.map_cons, List.append_cons]
    refine Ev.step (fun k => ?_) this
    simp only [spec_l17Steps.l0]
    rw [if_pos (by omega), if_pos (by omega), if_pos (by simp), rd44 A i hlt, wr (x := (i : Int) + 1) (by omega) (by omega)]
    simp only [spec_l17Two.f, Option.bind_some]
    rw [if_pos (by omega)]
    simp only [eta25]
    rfl
namespace Clk
theorem ev_ssteps : ∀ c : Clk, ok c → sz c ≤ 18 → Ev (fun k => spec_l17Steps.f k (enc c).f0 (enc c).f1 (enc c).f2) (stepsE c)
  | nil, _, _ => Ev.step (f := fun _ => some []) (fun k => by simp only [spec_l17Steps.f, enc]; rfl) (Ev.now _)
  | act n p, _, _ => Ev.step (f := fun _ => some [⟨n, enc p⟩]) (fun k => by simp only [spec_l17Steps.f, enc, eta25]; rfl) (Ev.now _)
  | wait n p, _, _ => Ev.step (f := fun _ => some []) (fun k => by simp only [spec_l17Steps.f, enc]; rfl) (Ev.now _)
  | sum a b, h, hs => by
    simp only [sz] at hs
    have h1 := ev_ssteps a h.1 (by omega)
    have h2 := ev_ssteps b h.2 (by omega)
    have l1 := stepsE_len a (by omega)
    have l2 := stepsE_len b (by omega)
    refine Ev.step (f := fun k => (spec_l17Steps.f k (enc a).f0 (enc a).f1 (enc a).f2).bind fun x => (spec_l17Steps.f k (enc b).f0 (enc b).f1 (enc b).f2).bind fun y => if x.length + y.length < 2932031007402 then some (x ++ y) else none) (fun k => by simp only [spec_l17Steps.f, enc]; rfl) ?_
    refine Ev.bind (f := fun k x => (spec_l17Steps.f k (enc b).f0 (enc b).f1 (enc b).f2).bind fun y => if x.length + y.length < 2932031007402 then some (x ++ y) else none) h1 ?_
    refine Ev.bind (f := fun k y => if (stepsE a).length + y.length < 2932031007402 then some (stepsE a ++ y) else none) h2 ?_
    refine Ev.congr (f := fun _ => some (stepsE a ++ stepsE b)) (fun k => by rw [if_pos (by omega)]) ?_
    rw [show stepsE (sum a b) = stepsE a ++ stepsE b by unfold stepsE; rw [steps, List.map_append]]
    exact Ev.now _
  | par a b, h, hs => by
    simp only [sz] at hs
    have h1 := ev_ssteps a h.1 (by omega)
    have h2 := ev_ssteps b h.2 (by omega)
    have l1 := stepsE_len a (by omega)
    have l2 := stepsE_len b (by omega)
    have lm : (stepsE a).length * (stepsE b).length ≤ 262144 * 262144 := Nat.mul_le_mul l1 l2
    refine Ev.step (f := fun k => (spec_l17Steps.f k (enc a).f0 (enc a).f1 (enc a).f2).bind fun x => (spec_l17Steps.f k (enc b).f0 (enc b).f1 (enc b).f2).bind fun y => spec_l17Steps.l0 k [] x y 0 4 0 [enc a, enc b]) (fun k => by simp only [spec_l17Steps.f, enc]; rfl) ?_
    refine Ev.bind (f := fun k x => (spec_l17Steps.f k (enc b).f0 (enc b).f1 (enc b).f2).bind fun y => spec_l17Steps.l0 k [] x y 0 4 0 [enc a, enc b]) h1 ?_
    refine Ev.bind (f := fun k y => spec_l17Steps.l0 k [] (stepsE a) y 0 4 0 [enc a, enc b]) h2 ?_
    have := ev_s0 (stepsE a) (stepsE b) (enc a) (enc b) 0 (by omega) (by omega) (stepsE a).length 0 [] (by omega) (by omega) (by simp; omega)
    rw [List.drop_zero, List.nil_append] at this
    rw [stepsE_par a b h.2]
    exact this
end Clk
/-! ### spec.ClockSteps -/
theorem set_same7 {α : Type} (l : List α) (i : Nat) (h : i < l.length) : l.set i l[i] = l := by simp
theorem eta44_7 (x : S44) : (⟨x.f0, ⟨x.f1.f0, x.f1.f1, x.f1.f2⟩⟩ : S44) = x := by cases x; simp only [eta25]
theorem ev_sCS_l (l : List S44) (hl : l.length ≤ 1099511627776) (hc : ∀ x ∈ l, nodes x.f1 ≤ 1099511627776) : ∀ (d i : Nat), l.length - i = d → i ≤ l.length →
    Ev (fun k => spec_ClockSteps.l0 k l (i : Int)) (l, true) := by
  intro d
  induction d with
  | zero =>
    intro i hd hi
    have hil : i = l.length := by omega
    subst hil
    exact Ev.step (f := fun _ => some (l, true)) (fun k => by simp only [spec_ClockSteps.l0]; rw [if_neg (by omega)]) (Ev.now _)
  | succ d ihd =>
    intro i hd hi
    have hlt : i < l.length := by omega
    refine Ev.step (f := fun k => (spec_l17Copy.f k l[i].f1.f0 l[i].f1.f1 l[i].f1.f2).bind fun t => spec_ClockSteps.l0 k (l.set i ⟨l[i].f0, ⟨t.1, t.2.1, t.2.2⟩⟩) ((i + 1 : Nat) : Int)) (fun k => by
      simp only [spec_ClockSteps.l0]
      rw [if_pos (by omega), if_pos (by omega), rd44 l i hlt, wr (x := (i : Int) + 1) (by omega) (by omega)]
      rfl) ?_
    refine Ev.bind (f := fun k t => spec_ClockSteps.l0 k (l.set i ⟨l[i].f0, ⟨t.1, t.2.1, t.2.2⟩⟩) ((i + 1 : Nat) : Int)) (ev_scopy _ l[i].f1 (Nat.le_refl _) (hc _ (List.getElem_mem hlt))) ?_
    dsimp only
    rw [eta44_7, set_same7 l i hlt]
    exact ihd (i + 1) (by omega) (by omega)
namespace Clk
theorem ev_sClockSteps {c : Clk} (h : ok c) (hs : sz c ≤ 16) : Ev (fun k => spec_ClockSteps.f k (enc c).f0 (enc c).f1 (enc c).f2) (stepsE c, true) := by
  have h1 := ev_specOk (enc c)
  rw [okC_enc h hs] at h1
  refine Ev.bind (f := fun k b => if b = true then (spec_l17Steps.f k (enc c).f0 (enc c).f1 (enc c).f2).bind fun t => spec_ClockSteps.l0 k t 0 else some ([], false)) h1 ?_
  refine Ev.congr (f := fun k => (spec_l17Steps.f k (enc c).f0 (enc c).f1 (enc c).f2).bind fun t => spec_ClockSteps.l0 k t 0) (fun k => by rw [if_pos rfl]) ?_
  refine Ev.bind (f := fun k t => spec_ClockSteps.l0 k t 0) (ev_ssteps c h (by omega)) ?_
  have hl := stepsE_len c (by omega)
  exact ev_sCS_l (stepsE c) (by omega) (fun x hx => by
    unfold stepsE at hx
    obtain ⟨y, hy, rfl⟩ := List.mem_map.1 hx
    show nodes (enc y.2) ≤ _
    rw [nodes_enc]
    have := (steps_ok c h y hy).2.2
    omega) (stepsE c).length 0 (by omega) (by omega)
end Clk
theorem ev_sClockSteps_no (t : S25) (h : okC t = false) : Ev (fun k => spec_ClockSteps.f k t.f0 t.f1 t.f2) ([], false) := by
  have h1 := ev_specOk t
  rw [h] at h1
  refine Ev.bind (f := fun k b => if b = true then (spec_l17Steps.f k t.f0 t.f1 t.f2).bind fun s => spec_ClockSteps.l0 k s 0 else some ([], false)) h1 ?_
  exact Ev.congr (f := fun k => some ([], false)) (fun k => by rw [if_neg (by simp)]) (Ev.now _)
/-! ### what equals itself -/
theorem ev_mn_l (a b : Int) (l : List S25) (hl : l.length ≤ 1099511627776) (ih : ∀ x ∈ l, Ev (fun k => laws_mnClock.f k x.f0 x.f1 x.f2 x.f0 x.f1 x.f2) true) : ∀ (d i : Nat), l.length - i = d → i ≤ l.length →
    Ev (fun k => laws_mnClock.l0 k (i : Int) a b l a b l) true := by
  intro d
  induction d with
  | zero =>
    intro i hd hi
    have hil : i = l.length := by omega
    subst hil
    exact Ev.step (f := fun _ => some true) (fun k => by simp only [laws_mnClock.l0]; rw [if_neg (by omega)]) (Ev.now _)
  | succ d ihd =>
    intro i hd hi
    have hlt : i < l.length := by omega
    refine Ev.step (f := fun k => (laws_mnClock.f k l[i].f0 l[i].f1 l[i].f2 l[i].f0 l[i].f1 l[i].f2).bind fun t => if t = true then laws_mnClock.l0 k ((i + 1 : Nat) : Int) a b l a b l else some false) (fun k => by
      simp only [laws_mnClock.l0]
      rw [if_pos (by omega), if_pos (by omega), if_pos (by omega), rd25 l i hlt, wr (x := (i : Int) + 1) (by omega) (by omega)]
      rfl) ?_
    refine Ev.bind (f := fun k t => if t = true then laws_mnClock.l0 k ((i + 1 : Nat) : Int) a b l a b l else some false) (ih l[i] (List.getElem_mem hlt)) ?_
    exact Ev.congr (fun k => by rw [if_pos rfl]) (ihd (i + 1) (by omega) (by omega))
theorem ev_mn : ∀ (N : Nat) (t : S25), nodes t ≤ N → nodes t ≤ 1099511627776 → Ev (fun k => laws_mnClock.f k t.f0 t.f1 t.f2 t.f0 t.f1 t.f2) true := by
  intro N
  induction N with
  | zero => intro t h; have := nodes_pos t; omega
  | succ N ih =>
    intro t ht hb
    rw [nodes_eq] at ht hb
    have hlen := nodesL_len t.f2
    refine Ev.step (f := fun k => laws_mnClock.j0 k false t.f0 t.f1 t.f2 t.f0 t.f1 t.f2) (fun k => by simp only [laws_mnClock.f]; rw [if_pos trivial, if_pos trivial, bne_self_eq_false]) ?_
    refine Ev.step (f := fun k => laws_mnClock.l0 k 0 t.f0 t.f1 t.f2 t.f0 t.f1 t.f2) (fun k => by simp only [laws_mnClock.j0]; rw [if_neg (by simp)]) ?_
    exact ev_mn_l t.f0 t.f1 t.f2 (by omega) (fun x hx => ih x (by have := nodes_mem hx; omega) (by have := nodes_mem hx; omega)) t.f2.length 0 (by omega) (by omega)
theorem ev_mnT_l (l : List S44) (hl : l.length ≤ 1099511627776) (hc : ∀ x ∈ l, nodes x.f1 ≤ 1099511627776) : ∀ (d i : Nat), l.length - i = d → i ≤ l.length →
    Ev (fun k => laws_mnTicks.l0 k l l (i : Int)) true := by
  intro d
  induction d with
  | zero =>
    intro i hd hi
    have hil : i = l.length := by omega
    subst hil
    exact Ev.step (f := fun _ => some true) (fun k => by simp only [laws_mnTicks.l0]; rw [if_neg (by omega)]) (Ev.now _)
  | succ d ihd =>
    intro i hd hi
    have hlt : i < l.length := by omega
    refine Ev.step (f := fun k => (laws_mnClock.f k l[i].f1.f0 l[i].f1.f1 l[i].f1.f2 l[i].f1.f0 l[i].f1.f1 l[i].f1.f2).bind fun t => if t = true then laws_mnTicks.l0 k l l ((i + 1 : Nat) : Int) else some false) (fun k => by
      simp only [laws_mnTicks.l0]
      rw [if_pos (by omega), if_pos (by omega), if_pos (by omega), if_pos trivial, rd44 l i hlt, wr (x := (i : Int) + 1) (by omega) (by omega)]
      rfl) ?_
    refine Ev.bind (f := fun k t => if t = true then laws_mnTicks.l0 k l l ((i + 1 : Nat) : Int) else some false) (ev_mn _ l[i].f1 (Nat.le_refl _) (hc _ (List.getElem_mem hlt))) ?_
    exact Ev.congr (fun k => by rw [if_pos rfl]) (ihd (i + 1) (by omega) (by omega))
theorem ev_mnT (l : List S44) (hl : l.length ≤ 1099511627776) (hc : ∀ x ∈ l, nodes x.f1 ≤ 1099511627776) : Ev (fun k => laws_mnTicks.f k l l) true := by
  refine Ev.congr (f := fun k => laws_mnTicks.l0 k l l 0) (fun k => by unfold laws_mnTicks.f; rw [if_pos rfl]) ?_
  exact ev_mnT_l l hl hc l.length 0 (by omega) (by omega)
end Go.Proofs.Ytfnmjecofgeboaa.PAll
