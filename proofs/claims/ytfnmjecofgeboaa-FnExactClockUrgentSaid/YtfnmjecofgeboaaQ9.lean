/- PLAIN LAWS OF TERMS WITH TIME, 9: how time passes in the specification; so much later; how much can pass. -/
import Derived.Test.YtfnmjecofgeboaaQ7
import Derived.Test.YtfnmjecofgeboaaQ8
import Derived.Test.YtfnmjecofgeboaaPAllSPass
namespace Go.Proofs.Ytfnmjecofgeboaa.PAll
set_option linter.unusedVariables false
open Go.RowKit Go.Proofs.YtfnmjecofgeboaaW.PrintWords Go.Proofs.YtfnmjecofgeboaaW.PrintLast Go.Proofs.YtfnmjecofgeboaaW.PrintMore
namespace Clk
theorem stepsE_len_eq (a : Clk) : (stepsE a).length = (steps a).length := by simp [stepsE]
theorem stepsE_get (a : Clk) (i : Nat) (h : i < (stepsE a).length) (h2 : i < (steps a).length) : (stepsE a)[i].f0 = (steps a)[i].1 := by simp [stepsE, encT]
theorem ev_meet1 (a b : Clk) (hb : ok b) (la : (stepsE a).length ≤ 1099511627776) (lb : (stepsE b).length ≤ 1099511627776) (i : Nat) (hi : i < (steps a).length) (R : Bool) : ∀ d j : Nat, (steps b).length - j = d → j ≤ (steps b).length →
    Ev (fun k => spec_l17Meet.l0 k (stepsE a) (stepsE b) ((i + 1 : Nat) : Int)) R →
    Ev (fun k => spec_l17Meet.l1 k (stepsE a) (stepsE b) (i : Int) (j : Int)) ((((steps b).drop j).any fun y => decide ((steps a)[i].1 ≠ 0 ∧ (steps a)[i].1 = -y.1)) || R) := by
  have ea := stepsE_len_eq a
  have eb := stepsE_len_eq b
  intro d
  induction d with
  | zero =>
    intro j hd hj hR
    have hjl : j = (steps b).length := by omega
    subst hjl
    rw [List.drop_length, List.any_nil, Bool.false_or]
    exact Ev.step (fun k => by simp only [spec_l17Meet.l1]; rw [if_neg (by omega), wr (x := (i : Int) + 1) (by omega) (by omega)]; rfl) hR
  | succ d ihd =>
    intro j hd hj hR
    have hlt : j < (steps b).length := by omega
    have hr := (steps_ok b hb _ (List.getElem_mem hlt)).1
    rw [List.drop_eq_getElem_cons hlt, List.any_cons]
    by_cases h0 : (steps a)[i].1 = 0
    · rw [show decide ((steps a)[i].1 ≠ 0 ∧ (steps a)[i].1 = -(steps b)[j].1) = false from decide_eq_false (fun h => h.1 h0), Bool.false_or]
      refine Ev.step (fun k => ?_) (ihd (j + 1) (by omega) (by omega) hR)
      simp only [spec_l17Meet.l1]
      rw [if_pos (by omega), if_pos (by omega), if_pos (by omega), rd44 _ i (by omega), stepsE_get a i (by omega) hi, if_pos h0, wr (x := (j : Int) + 1) (by omega) (by omega)]
      rfl
    · by_cases h1 : (steps a)[i].1 = -(steps b)[j].1
      · rw [show decide ((steps a)[i].1 ≠ 0 ∧ (steps a)[i].1 = -(steps b)[j].1) = true from decide_eq_true ⟨h0, h1⟩, Bool.true_or, Bool.true_or]
        refine Ev.step (f := fun _ => some true) (fun k => ?_) (Ev.now _)
        simp only [spec_l17Meet.l1]
        rw [if_pos (by omega), if_pos (by omega), if_pos (by omega), rd44 _ i (by omega), stepsE_get a i (by omega) hi, if_neg h0, if_pos (by omega), rd44 _ j (by omega), stepsE_get b j (by omega) hlt, wr (by omega) (by omega), if_pos h1]
      · rw [show decide ((steps a)[i].1 ≠ 0 ∧ (steps a)[i].1 = -(steps b)[j].1) = false from decide_eq_false (fun h => h1 h.2), Bool.false_or]
        refine Ev.step (fun k => ?_) (ihd (j + 1) (by omega) (by omega) hR)
        simp only [spec_l17Meet.l1]
        rw [if_pos (by omega), if_pos (by omega), if_pos (by omega), rd44 _ i (by omega), stepsE_get a i (by omega) hi, if_neg h0, if_pos (by omega), rd44 _ j (by omega), stepsE_get b j (by omega) hlt, wr (x := -(steps b)[j].1) (by omega) (by omega), if_neg h1, wr (x := (j : Int) + 1) (by omega) (by omega)]
        rfl
theorem ev_meet0 (a b : Clk) (hb : ok b) (la : (stepsE a).length ≤ 1099511627776) (lb : (stepsE b).length ≤ 1099511627776) : ∀ d i : Nat, (steps a).length - i = d → i ≤ (steps a).length →
    Ev (fun k => spec_l17Meet.l0 k (stepsE a) (stepsE b) (i : Int)) (((steps a).drop i).any fun x => (steps b).any fun y => decide (x.1 ≠ 0 ∧ x.1 = -y.1)) := by
  have ea := stepsE_len_eq a
  intro d
  induction d with
  | zero =>
    intro i hd hi
    have hil : i = (steps a).length := by omega
    subst hil
    rw [List.drop_length, List.any_nil]
    exact Ev.step (f := fun _ => some false) (fun k => by simp only [spec_l17Meet.l0]; rw [if_neg (by omega)]) (Ev.now _)
  | succ d ihd =>
    intro i hd hi
    have hlt : i < (steps a).length := by omega
    rw [List.drop_eq_getElem_cons hlt, List.any_cons]
    have := ev_meet1 a b hb la lb i hlt _ (steps b).length 0 (by omega) (by omega) (ihd (i + 1) (by omega) (by omega))
    rw [List.drop_zero] at this
    exact Ev.step (fun k => by simp only [spec_l17Meet.l0]; rw [if_pos (by omega)]; rfl) this
theorem ev_meet {a b : Clk} (ha : ok a) (hb : ok b) (sa : sz a ≤ 18) (sb : sz b ≤ 18) : Ev (fun k => spec_l17Meet.f k (enc a).f0 (enc a).f1 (enc a).f2 (enc b).f0 (enc b).f1 (enc b).f2) (meets a b) := by
  have la := stepsE_len a sa
  have lb := stepsE_len b sb
  refine Ev.bind (f := fun k x => (spec_l17Steps.f k (enc b).f0 (enc b).f1 (enc b).f2).bind fun y => spec_l17Meet.l0 k x y 0) (ev_ssteps a ha sa) ?_
  refine Ev.bind (f := fun k y => spec_l17Meet.l0 k (stepsE a) y 0) (ev_ssteps b hb sb) ?_
  have := ev_meet0 a b hb (by omega) (by omega) (steps a).length 0 (by omega) (by omega)
  rw [List.drop_zero] at this
  exact this
/-- Of a sum, or of two beside each other. -/
def both (k : Nat) (op : Int) (A B : S25) (r s : Int × Int × List S25 × Bool) : Option (Int × Int × List S25 × Bool) :=
  if r.2.2.2 = true then (if s.2.2.2 = true then (if op = 4 then (spec_l17Meet.f k A.f0 A.f1 A.f2 B.f0 B.f1 B.f2).bind fun t => if t = true then some (0, 0, [], false) else (spec_l17Two.f op r.1 r.2.1 r.2.2.1 s.1 s.2.1 s.2.2.1).bind fun u => some (u.1, u.2.1, u.2.2, true)
    else (spec_l17Two.f op r.1 r.2.1 r.2.2.1 s.1 s.2.1 s.2.2.1).bind fun u => some (u.1, u.2.1, u.2.2, true)) else some (0, 0, [], false)) else some (0, 0, [], false)
theorem ev_both (c a b : Clk) (op : Int) (he : enc c = ⟨op, 0, [enc a, enc b]⟩) (h34 : op = 3 ∨ op = 4) (r s R : Int × Int × List S25 × Bool) (hr : Ev (fun k => spec_l17Pass.f k (enc a).f0 (enc a).f1 (enc a).f2) r) (hs : Ev (fun k => spec_l17Pass.f k (enc b).f0 (enc b).f1 (enc b).f2) s)
    (h : Ev (fun k => both k op (enc a) (enc b) r s) R) : Ev (fun k => spec_l17Pass.f k (enc c).f0 (enc c).f1 (enc c).f2) R := by
  rw [he]
  refine Ev.step (f := fun k => (spec_l17Pass.f k (enc a).f0 (enc a).f1 (enc a).f2).bind fun x => (spec_l17Pass.f k (enc b).f0 (enc b).f1 (enc b).f2).bind fun y => both k op (enc a) (enc b) x y) (fun k => ?_) (Ev.bind (f := fun k x => (spec_l17Pass.f k (enc b).f0 (enc b).f1 (enc b).f2).bind fun y => both k op (enc a) (enc b) x y) hr (Ev.bind (f := fun k y => both k op (enc a) (enc b) r y) hs h))
  simp only [spec_l17Pass.f]
  rw [if_neg (by omega), if_neg (by omega), if_neg (by omega), if_pos (by simp)]
  refine congrArg (Option.bind _) (funext fun x => ?_)
  rw [if_pos (by simp)]
  rfl
theorem spass_wait (k : Nat) (n : Int) (p : S25) (hn : ¬ n = 1) : spec_l17Pass.f (k + 1) 2 n [p] = (spec_l17Copy.f k p.f0 p.f1 p.f2).bind fun t => some ((2 : Int), wrap64 (n - 1), ([⟨t.1, t.2.1, t.2.2⟩] : List S25), true) := by
  simp only [spec_l17Pass.f]
  rw [if_neg (by decide), if_neg (by decide), if_pos trivial, if_neg hn, if_pos (by simp)]
  rfl
theorem ev_spass : ∀ c : Clk, ok c → sz c ≤ 18 → ∃ r, Ev (fun k => spec_l17Pass.f k (enc c).f0 (enc c).f1 (enc c).f2) r ∧ Told c r
  | nil, h, hs => ⟨(0, 0, [], true), Ev.step (f := fun _ => some (0, 0, [], true)) (fun k => by simp only [spec_l17Pass.f, enc]; rfl) (Ev.now _), by simp [Told, pass, enc]⟩
  | act n p, h, hs => by
    have hN : nodes (enc (act n p)) ≤ 1099511627776 := by rw [nodes_enc]; omega
    refine ⟨(1, n, [enc p], n != 0), ?_, ?_⟩
    · refine Ev.step (f := fun k => (spec_l17Copy.f k 1 n [enc p]).bind fun t => some (t.1, t.2.1, t.2.2, n != 0)) (fun k => by simp only [spec_l17Pass.f, enc]; rfl) ?_
      exact Ev.bind (f := fun _ t => some (t.1, t.2.1, t.2.2, n != 0)) (ev_scopy _ (enc (act n p)) (Nat.le_refl _) hN) (Ev.now _)
    · unfold Told
      simp only [pass]
      by_cases hn : n = 0
      · simp [hn]
      · simp [hn, enc]
  | wait n p, h, hs => by
    have hP : nodes (enc p) ≤ 1099511627776 := by simp only [sz] at hs; rw [nodes_enc]; omega
    have := h.1
    by_cases hn : n = 1
    · subst hn
      refine ⟨((enc p).f0, (enc p).f1, (enc p).f2, true), ?_, by simp [Told, pass]⟩
      refine Ev.step (f := fun k => (spec_l17Copy.f k (enc p).f0 (enc p).f1 (enc p).f2).bind fun t => some (t.1, t.2.1, t.2.2, true)) (fun k => by simp only [spec_l17Pass.f, enc]; rfl) ?_
      exact Ev.bind (f := fun _ t => some (t.1, t.2.1, t.2.2, true)) (ev_scopy _ (enc p) (Nat.le_refl _) hP) (Ev.now _)
    · refine ⟨(2, n - 1, [enc p], true), ?_, by simp [Told, pass, hn, enc]⟩
      refine Ev.step (f := fun k => (spec_l17Copy.f k (enc p).f0 (enc p).f1 (enc p).f2).bind fun t => some ((2 : Int), wrap64 (n - 1), ([⟨t.1, t.2.1, t.2.2⟩] : List S25), true)) (fun k => spass_wait k n (enc p) hn) ?_
      refine Ev.bind (f := fun _ t => some ((2 : Int), wrap64 (n - 1), ([⟨t.1, t.2.1, t.2.2⟩] : List S25), true)) (ev_scopy _ (enc p) (Nat.le_refl _) hP) ?_
      simp only [eta25]
      rw [wr (by omega) (by omega)]
      exact Ev.now _
  | sum a b, h, hs => by
    simp only [sz] at hs
    obtain ⟨r1, e1, t1⟩ := ev_spass a h.1 (by omega)
    obtain ⟨r2, e2, t2⟩ := ev_spass b h.2 (by omega)
    have step := ev_both (sum a b) a b 3 rfl (.inl rfl) r1 r2
    unfold Told at t1 t2 ⊢
    cases ha : pass a with
    | none =>
      rw [ha] at t1
      dsimp only at t1
      exact ⟨(0, 0, [], false), step _ e1 e2 (Ev.congr (f := fun _ => some (0, 0, [], false)) (fun k => by unfold both; rw [if_neg (by rw [t1]; simp)]) (Ev.now _)), by simp [pass, ha]⟩
    | some a' =>
      rw [ha] at t1
      dsimp only at t1
      cases hb : pass b with
      | none =>
        rw [hb] at t2
        dsimp only at t2
        exact ⟨(0, 0, [], false), step _ e1 e2 (Ev.congr (f := fun _ => some (0, 0, [], false)) (fun k => by unfold both; rw [if_pos (by rw [t1]), if_neg (by rw [t2]; simp)]) (Ev.now _)), by simp [pass, ha, hb]⟩
      | some b' =>
        rw [hb] at t2
        dsimp only at t2
        refine ⟨(3, 0, [enc a', enc b'], true), step _ e1 e2 (Ev.congr (f := fun _ => some (3, 0, [enc a', enc b'], true)) (fun k => ?_) (Ev.now _)), by simp [pass, ha, hb, enc]⟩
        unfold both
        rw [if_pos (by rw [t1]), if_pos (by rw [t2]), if_neg (by decide), t1, t2]
        simp only [spec_l17Two.f, Option.bind_some, eta25]
  | par a b, h, hs => by
    simp only [sz] at hs
    obtain ⟨r1, e1, t1⟩ := ev_spass a h.1 (by omega)
    obtain ⟨r2, e2, t2⟩ := ev_spass b h.2 (by omega)
    have step := ev_both (par a b) a b 4 rfl (.inr rfl) r1 r2
    unfold Told at t1 t2 ⊢
    cases ha : pass a with
    | none =>
      rw [ha] at t1
      dsimp only at t1
      exact ⟨(0, 0, [], false), step _ e1 e2 (Ev.congr (f := fun _ => some (0, 0, [], false)) (fun k => by unfold both; rw [if_neg (by rw [t1]; simp)]) (Ev.now _)), by simp [pass, ha]⟩
    | some a' =>
      rw [ha] at t1
      dsimp only at t1
      cases hb : pass b with
      | none =>
        rw [hb] at t2
        dsimp only at t2
        exact ⟨(0, 0, [], false), step _ e1 e2 (Ev.congr (f := fun _ => some (0, 0, [], false)) (fun k => by unfold both; rw [if_pos (by rw [t1]), if_neg (by rw [t2]; simp)]) (Ev.now _)), by simp [pass, ha, hb]⟩
      | some b' =>
        rw [hb] at t2
        dsimp only at t2
        have hm := ev_meet h.1 h.2 (by omega) (by omega)
        refine ⟨if meets a b = true then (0, 0, [], false) else (4, 0, [enc a', enc b'], true), step _ e1 e2 (Ev.congr (fun k => by unfold both; rw [if_pos (by rw [t1]), if_pos (by rw [t2]), if_pos rfl]) (Ev.bind hm ?_)), ?_⟩
        · by_cases hq : meets a b = true
          · simp only [if_pos hq]
            exact Ev.now _
          · simp only [if_neg hq]
            refine Ev.congr (f := fun _ => some (4, 0, [enc a', enc b'], true)) (fun k => ?_) (Ev.now _)
            rw [t1, t2]
            simp only [spec_l17Two.f, Option.bind_some, eta25]
        · simp only [pass, ha, hb, Option.bind_some]
          by_cases hq : meets a b = true
          · rw [if_pos hq, if_pos hq]
          · rw [if_neg hq, if_neg hq]
            simp [enc]

/-! ### so much later -/
def later : Nat → Clk → Option Clk
  | 0, c => some c
  | n + 1, c => (pass c).bind (later n)
theorem later_ok : ∀ (n : Nat) (c c' : Clk), ok c → later n c = some c' → ok c' ∧ sz c' ≤ sz c
  | 0, c, c', h, hl => by obtain rfl := Option.some.inj hl; exact ⟨h, Nat.le_refl _⟩
  | n + 1, c, c', h, hl => by
    obtain ⟨d, hd, hl⟩ := Option.bind_eq_some_iff.1 hl
    obtain ⟨h1, h2⟩ := pass_ok c d h hd
    obtain ⟨h3, h4⟩ := later_ok n d c' h1 hl
    exact ⟨h3, by omega⟩
theorem later_succ : ∀ (n : Nat) (c : Clk), later (n + 1) c = (later n c).bind pass
  | 0, c => by simp only [later, Option.bind_some]; cases pass c <;> rfl
  | n + 1, c => by
    rw [later]
    conv => rhs; rw [later]
    cases h : pass c with
    | none => rfl
    | some d => simp only [Option.bind_some]; exact later_succ n d
theorem ev_later_l : ∀ (n : Nat) (c : Clk), ok c → sz c ≤ 18 → n ≤ 1000 → Ev (fun k => impl_ClockLater.l0 k (n : Int) (enc c).f0 (enc c).f1 (enc c).f2) (told (later n c)) := by
  intro n
  induction n with
  | zero =>
    intro c h hs hn
    exact Ev.step (f := fun _ => some (told (some c))) (fun k => by simp only [impl_ClockLater.l0]; rw [if_neg (by omega)]; rfl) (Ev.now _)
  | succ n ih =>
    intro c h hs hn
    obtain ⟨r, e, t⟩ := ev_pass c h hs
    refine Ev.step (f := fun k => (impl_pass.f k (enc c).f0 (enc c).f1 (enc c).f2).bind fun x => if x.2.2.2 = true then impl_ClockLater.l0 k (n : Int) x.1 x.2.1 x.2.2.1 else some (0, 0, [], false)) (fun k => by
      simp only [impl_ClockLater.l0]
      rw [if_pos (by omega), wr (x := ((n + 1 : Nat) : Int) - 1) (by omega) (by omega), show ((n + 1 : Nat) : Int) - 1 = (n : Int) by omega]) ?_
    refine Ev.bind (f := fun k x => if x.2.2.2 = true then impl_ClockLater.l0 k (n : Int) x.1 x.2.1 x.2.2.1 else some (0, 0, [], false)) e ?_
    unfold Told at t
    simp only [later]
    cases hp : pass c with
    | none =>
      rw [hp] at t
      dsimp only at t
      exact Ev.congr (f := fun _ => some (0, 0, [], false)) (fun k => by rw [if_neg (by rw [t]; simp)]) (Ev.now _)
    | some c' =>
      rw [hp] at t
      dsimp only at t
      subst t
      obtain ⟨h1, h2⟩ := pass_ok c c' h hp
      exact Ev.congr (fun k => by rw [if_pos rfl]) (ih c' h1 (by omega) (by omega))
theorem ev_Later {c : Clk} (h : ok c) (hs : sz c ≤ 16) (n : Nat) (hn : n ≤ 100) : Ev (fun k => impl_ClockLater.f k (enc c).f0 (enc c).f1 (enc c).f2 (n : Int)) (told (later n c)) := by
  have hN : nodes (enc c) ≤ 16 := by rw [nodes_enc]; exact hs
  have h1 := ev_implOk (enc c) (by omega)
  rw [okC_enc h hs] at h1
  refine Ev.bind (f := fun k b => if b = true then (if (n : Int) < 0 then impl_ClockLater.j0 k n true (enc c).f0 (enc c).f1 (enc c).f2 else impl_ClockLater.j0 k n (decide ((n : Int) > 100)) (enc c).f0 (enc c).f1 (enc c).f2) else impl_ClockLater.j0 k n true (enc c).f0 (enc c).f1 (enc c).f2) h1 ?_
  refine Ev.congr (f := fun k => impl_ClockLater.j0 k (n : Int) false (enc c).f0 (enc c).f1 (enc c).f2) (fun k => by rw [if_pos rfl, if_neg (by omega), show decide ((n : Int) > 100) = false from decide_eq_false (by omega)]) ?_
  refine Ev.step (f := fun k => (impl_copyClock.f k (enc c).f0 (enc c).f1 (enc c).f2).bind fun t => impl_ClockLater.l0 k (n : Int) t.1 t.2.1 t.2.2) (fun k => by simp only [impl_ClockLater.j0]; rfl) ?_
  exact Ev.bind (f := fun k t => impl_ClockLater.l0 k (n : Int) t.1 t.2.1 t.2.2) (ev_copy _ (enc c) (Nat.le_refl _) (by omega)) (ev_later_l n c h (by omega) (by omega))
theorem ev_slater_l (n : Nat) (hn : n ≤ 1000) : ∀ (d j : Nat) (c : Clk), ok c → sz c ≤ 18 → j + d = n → Ev (fun k => spec_ClockLater.l0 k (n : Int) (j : Int) (enc c).f0 (enc c).f1 (enc c).f2) (told (later d c)) := by
  intro d
  induction d with
  | zero =>
    intro j c h hs hj
    exact Ev.step (f := fun _ => some (told (some c))) (fun k => by simp only [spec_ClockLater.l0]; rw [if_neg (by omega)]; rfl) (Ev.now _)
  | succ d ih =>
    intro j c h hs hj
    obtain ⟨r, e, t⟩ := ev_spass c h hs
    refine Ev.step (f := fun k => (spec_l17Pass.f k (enc c).f0 (enc c).f1 (enc c).f2).bind fun x => if x.2.2.2 = true then spec_ClockLater.l0 k (n : Int) ((j + 1 : Nat) : Int) x.1 x.2.1 x.2.2.1 else some (0, 0, [], false)) (fun k => by
      simp only [spec_ClockLater.l0]
      rw [if_pos (by omega), wr (x := (j : Int) + 1) (by omega) (by omega)]
      rfl) ?_
    refine Ev.bind (f := fun k x => if x.2.2.2 = true then spec_ClockLater.l0 k (n : Int) ((j + 1 : Nat) : Int) x.1 x.2.1 x.2.2.1 else some (0, 0, [], false)) e ?_
    unfold Told at t
    simp only [later]
    cases hp : pass c with
    | none =>
      rw [hp] at t
      dsimp only at t
      exact Ev.congr (f := fun _ => some (0, 0, [], false)) (fun k => by rw [if_neg (by rw [t]; simp)]) (Ev.now _)
    | some c' =>
      rw [hp] at t
      dsimp only at t
      subst t
      obtain ⟨h1, h2⟩ := pass_ok c c' h hp
      exact Ev.congr (fun k => by rw [if_pos rfl]) (ih (j + 1) c' h1 (by omega) (by omega))
theorem l6In_eq (n a b : Int) : spec_l6In.f n a b = some (decide (a ≤ n ∧ n ≤ b)) := by
  unfold spec_l6In.f
  by_cases h : a ≤ n <;> simp [h]
theorem ev_sLater {c : Clk} (h : ok c) (hs : sz c ≤ 16) (n : Nat) (hn : n ≤ 100) : Ev (fun k => spec_ClockLater.f k (enc c).f0 (enc c).f1 (enc c).f2 (n : Int)) (told (later n c)) := by
  have h1 := ev_specOk (enc c)
  have hN : nodes (enc c) ≤ 16 := by rw [nodes_enc]; exact hs
  rw [okC_enc h hs] at h1
  refine Ev.bind (f := fun k b => if b = true then (spec_l6In.f (n : Int) 0 100).bind fun t => spec_ClockLater.j0 k n (!t) (enc c).f0 (enc c).f1 (enc c).f2 else spec_ClockLater.j0 k n true (enc c).f0 (enc c).f1 (enc c).f2) h1 ?_
  refine Ev.congr (f := fun k => spec_ClockLater.j0 k (n : Int) false (enc c).f0 (enc c).f1 (enc c).f2) (fun k => by rw [if_pos rfl, l6In_eq, show decide ((0 : Int) ≤ n ∧ (n : Int) ≤ 100) = true from decide_eq_true (by omega)]; rfl) ?_
  refine Ev.step (f := fun k => (spec_l17Copy.f k (enc c).f0 (enc c).f1 (enc c).f2).bind fun t => spec_ClockLater.l0 k (n : Int) 0 t.1 t.2.1 t.2.2) (fun k => by simp only [spec_ClockLater.j0]; rfl) ?_
  exact Ev.bind (f := fun k t => spec_ClockLater.l0 k (n : Int) 0 t.1 t.2.1 t.2.2) (ev_scopy _ (enc c) (Nat.le_refl _) (by omega)) (ev_slater_l n (by omega) n 0 c h (by omega) (by omega))
end Clk
theorem ev_Later_no (t : S25) (n : Int) (hN : nodes t ≤ 1099511627776) (h : okC t = false ∨ n < 0 ∨ n > 100) : Ev (fun k => impl_ClockLater.f k t.f0 t.f1 t.f2 n) (0, 0, [], false) := by
  refine Ev.bind (f := fun k b => if b = true then (if n < 0 then impl_ClockLater.j0 k n true t.f0 t.f1 t.f2 else impl_ClockLater.j0 k n (decide (n > 100)) t.f0 t.f1 t.f2) else impl_ClockLater.j0 k n true t.f0 t.f1 t.f2) (ev_implOk t hN) ?_
  refine Ev.congr (f := fun k => impl_ClockLater.j0 k n true t.f0 t.f1 t.f2) (fun k => ?_) (Ev.step (f := fun _ => some (0, 0, [], false)) (fun k => by simp only [impl_ClockLater.j0]; rfl) (Ev.now _))
  rcases h with h | h | h
  · rw [if_neg (by rw [h]; simp)]
  · split
    · first | rfl | rw [if_pos h]
    · rfl
  · split
    · rw [if_neg (by omega), decide_eq_true h]
    · rfl
theorem ev_sLater_no (t : S25) (n : Int) (h : okC t = false ∨ n < 0 ∨ n > 100) : Ev (fun k => spec_ClockLater.f k t.f0 t.f1 t.f2 n) (0, 0, [], false) := by
  refine Ev.bind (f := fun k b => if b = true then (spec_l6In.f n 0 100).bind fun s => spec_ClockLater.j0 k n (!s) t.f0 t.f1 t.f2 else spec_ClockLater.j0 k n true t.f0 t.f1 t.f2) (ev_specOk t) ?_
  refine Ev.congr (f := fun k => spec_ClockLater.j0 k n true t.f0 t.f1 t.f2) (fun k => ?_) (Ev.step (f := fun _ => some (0, 0, [], false)) (fun k => by simp only [spec_ClockLater.j0]; rfl) (Ev.now _))
  rcases h with h | h
  · rw [if_neg (by rw [h]; simp)]
  · split
    · rw [Clk.l6In_eq, show decide ((0 : Int) ≤ n ∧ n ≤ 100) = false from decide_eq_false (by omega)]; rfl
    · rfl
namespace Clk
/-! ### how much can pass, in the specification -/
theorem ev_surg_l : ∀ (m : Nat) (c : Clk) (n : Nat), ok c → sz c ≤ 18 → n + m = 100 → Ev (fun k => spec_ClockUrgent.l0 k (n : Int) (enc c).f0 (enc c).f1 (enc c).f2) ((n + urg m c : Nat) : Int) := by
  intro m
  induction m with
  | zero =>
    intro c n h hs hn
    obtain ⟨r, e, t⟩ := ev_spass c h hs
    refine Ev.step (f := fun k => (spec_l17Pass.f k (enc c).f0 (enc c).f1 (enc c).f2).bind fun _ => some (n : Int)) (fun k => ?_) (Ev.bind (f := fun _ _ => some (n : Int)) e (Ev.now _))
    simp only [spec_ClockUrgent.l0]
    congr 1
    funext x
    split
    · rw [if_pos (by omega)]
    · rfl
  | succ m ih =>
    intro c n h hs hn
    obtain ⟨r, e, t⟩ := ev_spass c h hs
    refine Ev.step (f := fun k => (spec_l17Pass.f k (enc c).f0 (enc c).f1 (enc c).f2).bind fun x => if x.2.2.2 = true then spec_ClockUrgent.l0 k ((n + 1 : Nat) : Int) x.1 x.2.1 x.2.2.1 else some (n : Int)) (fun k => by
      simp only [spec_ClockUrgent.l0]
      congr 1
      funext x
      split
      · rw [if_neg (by omega), wr (x := (n : Int) + 1) (by omega) (by omega)]; rfl
      · rfl) ?_
    refine Ev.bind (f := fun k x => if x.2.2.2 = true then spec_ClockUrgent.l0 k ((n + 1 : Nat) : Int) x.1 x.2.1 x.2.2.1 else some (n : Int)) e ?_
    unfold Told at t
    simp only [urg]
    cases hp : pass c with
    | none =>
      rw [hp] at t
      dsimp only at t
      exact Ev.congr (f := fun _ => some (n : Int)) (fun k => by rw [if_neg (by rw [t]; simp)]) (Ev.now _)
    | some c' =>
      rw [hp] at t
      dsimp only at t
      subst t
      obtain ⟨h1, h2⟩ := pass_ok c c' h hp
      refine Ev.congr (fun k => by rw [if_pos rfl]) ?_
      have := ih c' (n + 1) h1 (by omega) (by omega)
      rw [show n + (1 + urg m c') = n + 1 + urg m c' by omega]
      exact this
theorem ev_sUrgent {c : Clk} (h : ok c) (hs : sz c ≤ 16) : Ev (fun k => spec_ClockUrgent.f k (enc c).f0 (enc c).f1 (enc c).f2) ((urg 100 c : Nat) : Int) := by
  have h1 := ev_specOk (enc c)
  rw [okC_enc h hs] at h1
  refine Ev.bind (f := fun k b => if b = true then spec_ClockUrgent.l0 k 0 (enc c).f0 (enc c).f1 (enc c).f2 else some (-1)) h1 ?_
  refine Ev.congr (fun k => by rw [if_pos rfl]) ?_
  have := ev_surg_l 100 c 0 h (by omega) (by omega)
  rw [Nat.zero_add] at this
  exact this
theorem later_urg : ∀ (m : Nat) (c : Clk), (∃ d, later (urg m c) c = some d) ∧ (urg m c < m → later (urg m c + 1) c = none)
  | 0, c => ⟨⟨c, rfl⟩, fun h => absurd h (Nat.lt_irrefl 0)⟩
  | m + 1, c => by
    simp only [urg]
    cases hp : pass c with
    | none => exact ⟨⟨c, rfl⟩, fun _ => by simp [later, hp]⟩
    | some c' =>
      obtain ⟨⟨d, hd⟩, h2⟩ := later_urg m c'
      dsimp only
      rw [Nat.add_comm 1]
      exact ⟨⟨d, by simp only [later, hp, Option.bind_some]; exact hd⟩, fun h => by simp only [later, hp, Option.bind_some]; exact h2 (by omega)⟩
/-- What passes leaves no fewer steps. -/
theorem pass_len : ∀ (c c' : Clk), pass c = some c' → (steps c).length ≤ (steps c').length
  | nil, c', h => by simp [steps]
  | act n p, c', h => by
    simp only [pass] at h
    split at h
    · cases h
    · obtain rfl := Option.some.inj h; exact Nat.le_refl _
  | wait n p, c', h => by simp [steps]
  | sum a b, c', h => by
    simp only [pass] at h
    obtain ⟨a', ha, h⟩ := Option.bind_eq_some_iff.1 h
    obtain ⟨b', hb, h⟩ := Option.bind_eq_some_iff.1 h
    obtain rfl := Option.some.inj h
    have h1 := pass_len a a' ha
    have h2 := pass_len b b' hb
    simp only [steps, List.length_append]
    omega
  | par a b, c', h => by
    simp only [pass] at h
    obtain ⟨a', ha, h⟩ := Option.bind_eq_some_iff.1 h
    obtain ⟨b', hb, h⟩ := Option.bind_eq_some_iff.1 h
    split at h
    · cases h
    · rename_i hm
      obtain rfl := Option.some.inj h
      have h1 := pass_len a a' ha
      have h2 := pass_len b b' hb
      have h0 : ((steps a).flatMap fun x => (steps b).filterMap (meet x)) = [] := by
        rw [List.flatMap_eq_nil_iff]
        intro x hx
        rw [List.filterMap_eq_nil_iff]
        intro y hy
        unfold meet
        rw [if_neg]
        intro hc
        exact hm (by unfold meets; exact List.any_eq_true.2 ⟨x, hx, List.any_eq_true.2 ⟨y, hy, decide_eq_true hc⟩⟩)
      simp only [steps, List.length_append, List.length_map, h0, List.length_nil]
      omega
end Clk
theorem ev_sUrgent_no (t : S25) (h : okC t = false) : Ev (fun k => spec_ClockUrgent.f k t.f0 t.f1 t.f2) (-1) := by
  have h1 := ev_specOk t
  rw [h] at h1
  refine Ev.bind (f := fun k b => if b = true then spec_ClockUrgent.l0 k 0 t.f0 t.f1 t.f2 else some (-1)) h1 ?_
  exact Ev.congr (f := fun k => some (-1)) (fun k => by rw [if_neg (by simp)]) (Ev.now _)
end Go.Proofs.Ytfnmjecofgeboaa.PAll
