/- THE SHAPE OF A TERM WITH TIME: impl.clockShape, a function that calls itself through slices.ContainsFunc. -/
import Derived.Test.YtfnmjecofgeboaaPAllSmall
import Derived.Test.YtfnmjecofgeboaaHa1
namespace Go.Proofs.Ytfnmjecofgeboaa.PAll
set_option linter.unusedVariables false
set_option linter.unusedSimpArgs false
open Go.RowKit Go.Proofs.YtfnmjecofgeboaaW.PrintWords Go.Proofs.YtfnmjecofgeboaaW.PrintLast Go.Proofs.YtfnmjecofgeboaaW.PrintMore

/-- How many parts a kind has, if the number fits. -/
def shapeWant (op n : Int) : Option Int :=
  if op = 0 then (if n = 0 then some 0 else none)
  else if op = 1 then (if -4 ≤ n ∧ n ≤ 4 then some 1 else none)
  else if op = 2 then (if 1 ≤ n ∧ n ≤ 9 then some 1 else none)
  else if op = 3 ∨ op = 4 then (if n = 0 then some 2 else none)
  else none
def impl_clockShape.f : Nat → Int → Int → List S25 → Option Bool
  | 0, _, _, _ => none
  | k + 1, op, n, l => match shapeWant op n with
    | none => some false
    | some m => if (l.length : Int) = m then (anyO (fun x => (impl_clockShape.f k x.f0 x.f1 x.f2).bind fun b => some (!b)) l).bind fun r => some (!r) else some false
theorem anyO_le {α : Type} {p q : α → Option Bool} (h : ∀ x r, p x = some r → q x = some r) : ∀ (l : List α) (r : Bool), anyO p l = some r → anyO q l = some r
  | [], r, hr => hr
  | x :: xs, r, hr => by
    simp only [anyO] at hr ⊢
    obtain ⟨b, hb, hr⟩ := Option.bind_eq_some_iff.1 hr
    rw [h x b hb]
    simp only [Option.bind_some]
    cases b with
    | true => simpa using hr
    | false => simp only [Bool.false_eq_true, if_false] at hr ⊢; exact anyO_le h xs r hr
theorem impl_clockShape.mono_l : ∀ k y0 y1 y2, LeO (impl_clockShape.f k y0 y1 y2) (impl_clockShape.f (k + 1) y0 y1 y2)
  | 0 => fun _ _ _ r h => by simp [impl_clockShape.f] at h
  | k + 1 => by
    intro y0 y1 y2 r h
    rw [impl_clockShape.f] at h ⊢
    cases hw : shapeWant y0 y1 with
    | none => rw [hw] at h; exact h
    | some m =>
      rw [hw] at h
      dsimp only at h ⊢
      split at h
      · rename_i hm
        rw [if_pos hm]
        obtain ⟨b, hb, hr⟩ := Option.bind_eq_some_iff.1 h
        rw [anyO_le (q := fun x => (impl_clockShape.f (k + 1) x.f0 x.f1 x.f2).bind fun b => some (!b)) (fun x r hx => by
          obtain ⟨b, hb, hr⟩ := Option.bind_eq_some_iff.1 hx
          rw [impl_clockShape.mono_l k _ _ _ _ hb]; exact hr) y2 b hb]
        exact hr
      · rename_i hm
        rw [if_neg hm]; exact h
theorem impl_clockShape.mono : ∀ a0 a1 a2 k, LeO (impl_clockShape.f k a0 a1 a2) (impl_clockShape.f (k + 1) a0 a1 a2) := fun a0 a1 a2 k => impl_clockShape.mono_l k a0 a1 a2

set_option maxHeartbeats 2000000 in
theorem shape59 (k : Nat) (ih : ∀ (a0_0 : Int) (a0_1 : Int) (A0_2 : Option Addr) (c0_2 : Nat) (l0_2 : List (S25)) (r : Bool) (w : World) (hr0_2 : Kd.C k25 w A0_2 l0_2.length l0_2) (hc0_2 : l0_2.length ≤ c0_2) (h : impl_clockShape.f k a0_0 a0_1 l0_2 = some r),
    Calls Try.prog 40 #[.agg #[.int .i64 a0_0, .int .i64 a0_1, .slice A0_2 l0_2.length c0_2]] w fun e w' => e = .returned (.bool r) ∧ Below w.heap.size w w')
    (W : World) (A' : Option Addr) (c' : Nat) (x : S25) (b : Bool) (hr : Kd.C k25 W A' x.f2.length x.f2) (hc : x.f2.length ≤ c')
    (h : (impl_clockShape.f k x.f0 x.f1 x.f2).bind (fun b => some (!b)) = some b) :
    Calls Try.prog 59 (#[.agg #[.int .i64 x.f0, .int .i64 x.f1, .slice A' x.f2.length c']] ++ #[]) W fun e w' => e = .returned (.bool b) ∧ Below W.heap.size W w' := by
  obtain ⟨b0, hb0, hb1⟩ := Option.bind_eq_some_iff.1 h
  have hb2 := Aside0.mk (Option.some.inj hb1)
  clear h hb1
  have hcall := fun W' (hW : Below W.heap.size W W') => ih x.f0 x.f1 A' c' x.f2 b0 W' (Kd.C_below hr hW) hc hb0
  clear ih hr hc hb0
  rw [Array.append_empty]
  go_enter Try.func59, Try.ntmps59
  go_wp2_with (go_at_call 40; refine (hcall _ ((Below.refl _ _).alloc (Nat.le_refl _) _)).mono ?_; rintro e w' ⟨rfl, hb⟩)
  go_ret
  refine ⟨by rw [← hb2.out]; rfl, ?_⟩
  exact ((Below.refl W.heap.size W).alloc (Nat.le_refl _) _).trans (hb.mono (by simp))

set_option maxHeartbeats 4000000 in
theorem impl_clockShape.calls (k : Nat) : ∀ (a0_0 : Int) (a0_1 : Int) (A0_2 : Option Addr) (c0_2 : Nat) (l0_2 : List (S25)) (r : Bool) (w : World) (hr0_2 : Kd.C k25 w A0_2 l0_2.length l0_2) (hc0_2 : l0_2.length ≤ c0_2) (h : impl_clockShape.f k a0_0 a0_1 l0_2 = some r),
    Calls Try.prog 40 #[.agg #[.int .i64 a0_0, .int .i64 a0_1, .slice A0_2 l0_2.length c0_2]] w fun e w' => e = .returned (.bool r) ∧ Below w.heap.size w w' := by
  induction k with
  | zero => intro a0_0 a0_1 A0_2 c0_2 l0_2 r w hr0_2 hc0_2 h; exact absurd h (by simp [impl_clockShape.f])
  | succ k ih =>
  intro op n A c l r w hr hc h
  have eg : ∀ args w, (callFunc 59 args).run Try.prog w = .ok (.enter 59 args) w := enters_of Try.func59 (by kernel_rfl) rfl
  have hB1 : Below w.heap.size w (w.alloc (.cells #[.int .i64 op, .int .i64 n, .slice A l.length c] 25)) := (Below.refl w.heap.size w).alloc (Nat.le_refl _) _
  -- what the last line comes to, for a wanted number of parts
  have hany : ∀ r0, anyO (fun x => (impl_clockShape.f k x.f0 x.f1 x.f2).bind fun b => some (!b)) l = some r0 → ∀ W : World, Below w.heap.size w W →
      Calls Try.prog 58 #[.slice A l.length c, .func (.func 59) #[] #[]] W fun e w' => e = .returned (.bool r0) ∧ Below w.heap.size w w' := by
    intro r0 h0 W hW
    refine (contains58 59 #[] eg (fun x => (impl_clockShape.f k x.f0 x.f1 x.f2).bind fun b => some (!b)) A c l r0 _ (Kd.C_below hr hW) hc (fun W A' c' x b hW hr' hc' hx => shape59 k ih W A' c' x b hr' hc' hx) h0).mono ?_
    rintro e w' ⟨he, hb⟩
    exact ⟨he, hW.trans (hb.mono hW.size)⟩
  have HC := Aside0.mk hc
  have HR := Aside0.mk hr
  clear hc hr ih eg
  rw [impl_clockShape.f] at h
  by_cases h0 : op = 0
  · subst h0
    by_cases hn : n = 0
    · rw [show shapeWant 0 n = some 0 by simp [shapeWant, hn]] at h
      dsimp only at h
      subst hn
      by_cases hl : (l.length : Int) = 0
      · rw [if_pos hl] at h
        obtain ⟨r0, hr0, hr1⟩ := Option.bind_eq_some_iff.1 h
        have hcall := hany r0 hr0
        have hr2 := Aside0.mk (Option.some.inj hr1)
        have hb0 : ((l.length : Int) == 0) = true := beq_iff_eq.mpr hl
        clear h hr0 hr1 hany hl
        go_enter Try.func40, Try.ntmps40
        go_wp2_with (go_at_call 58; refine (hcall _ hB1).mono ?_; rintro e w' ⟨rfl, hb⟩)
        go_ret
        exact ⟨by rw [← hr2.out]; rfl, hb⟩
      · rw [if_neg hl] at h
        have hr2 := Aside0.mk (Option.some.inj h)
        have hb0 : ((l.length : Int) == 0) = false := beq_eq_false_iff_ne.mpr hl
        clear h hany hl
        go_enter Try.func40, Try.ntmps40
        go_wp2
        go_ret
        exact ⟨by rw [← hr2.out]; rfl, hB1⟩
    · rw [show shapeWant 0 n = none by simp [shapeWant]; omega] at h
      dsimp only at h
      have hn1 : (n == 0) = false := beq_eq_false_iff_ne.mpr hn
      have hn2 : (n != 0) = true := bne_iff_ne.mpr hn
      clear hn
      have hr2 := Aside0.mk (Option.some.inj h)
      clear h hany
      go_enter Try.func40, Try.ntmps40
      go_wp2
      go_ret
      exact ⟨by rw [← hr2.out]; rfl, hB1⟩
  by_cases h1 : op = 1
  · subst h1
    by_cases hn : -4 ≤ n ∧ n ≤ 4
    · rw [show shapeWant 1 n = some 1 by simp [shapeWant, hn]] at h
      dsimp only at h
      have hact : Aside0 (impl_ActOk.f n = some true) := ⟨by unfold impl_ActOk.f; rw [if_pos (by omega)]; simp; omega⟩
      clear hn
      by_cases hl : (l.length : Int) = 1
      · rw [if_pos hl] at h
        obtain ⟨r0, hr0, hr1⟩ := Option.bind_eq_some_iff.1 h
        have hcall := hany r0 hr0
        have hr2 := Aside0.mk (Option.some.inj hr1)
        have hb0 : ((l.length : Int) == 1) = true := beq_iff_eq.mpr hl
        clear h hr0 hr1 hany hl
        go_enter Try.func40, Try.ntmps40
        go_wp2_with (first | (go_at_call 57; refine (impl_ActOk.calls _ true _ hact.out).mono ?_; rintro e w' ⟨rfl, ⟨nd, rfl⟩⟩) | (go_at_call 58; refine (hcall _ (pw_below_drewN hB1 _)).mono ?_; rintro e w' ⟨rfl, hb⟩))
        go_ret
        exact ⟨by rw [← hr2.out]; rfl, hb⟩
      · rw [if_neg hl] at h
        have hr2 := Aside0.mk (Option.some.inj h)
        have hb0 : ((l.length : Int) == 1) = false := beq_eq_false_iff_ne.mpr hl
        clear h hany hl
        go_enter Try.func40, Try.ntmps40
        go_wp2_with (go_at_call 57; refine (impl_ActOk.calls _ true _ hact.out).mono ?_; rintro e w' ⟨rfl, ⟨nd, rfl⟩⟩)
        go_ret
        exact ⟨by rw [← hr2.out]; rfl, pw_below_drewN hB1 _⟩
    · rw [show shapeWant 1 n = none by simp [shapeWant]; omega] at h
      dsimp only at h
      have hact : Aside0 (impl_ActOk.f n = some false) := ⟨by unfold impl_ActOk.f; by_cases h4 : n ≥ -4 <;> simp [h4] <;> omega⟩
      clear hn
      have hr2 := Aside0.mk (Option.some.inj h)
      clear h hany
      go_enter Try.func40, Try.ntmps40
      go_wp2_with (go_at_call 57; refine (impl_ActOk.calls _ false _ hact.out).mono ?_; rintro e w' ⟨rfl, ⟨nd, rfl⟩⟩)
      go_ret
      exact ⟨by rw [← hr2.out]; rfl, pw_below_drewN hB1 _⟩
  by_cases h2 : op = 2
  · subst h2
    by_cases hn : 1 ≤ n ∧ n ≤ 9
    · rw [show shapeWant 2 n = some 1 by simp [shapeWant, hn]] at h
      dsimp only at h
      have hn1 : decide (n < 1) = false := by simp; omega
      have hn9 : decide (9 < n) = false := by simp; omega
      clear hn
      by_cases hl : (l.length : Int) = 1
      · rw [if_pos hl] at h
        obtain ⟨r0, hr0, hr1⟩ := Option.bind_eq_some_iff.1 h
        have hcall := hany r0 hr0
        have hr2 := Aside0.mk (Option.some.inj hr1)
        have hb0 : ((l.length : Int) == 1) = true := beq_iff_eq.mpr hl
        clear h hr0 hr1 hany hl
        go_enter Try.func40, Try.ntmps40
        go_wp2_with (go_at_call 58; refine (hcall _ hB1).mono ?_; rintro e w' ⟨rfl, hb⟩)
        go_ret
        exact ⟨by rw [← hr2.out]; rfl, hb⟩
      · rw [if_neg hl] at h
        have hr2 := Aside0.mk (Option.some.inj h)
        have hb0 : ((l.length : Int) == 1) = false := beq_eq_false_iff_ne.mpr hl
        clear h hany hl
        go_enter Try.func40, Try.ntmps40
        go_wp2
        go_ret
        exact ⟨by rw [← hr2.out]; rfl, hB1⟩
    · rw [show shapeWant 2 n = none by simp [shapeWant]; omega] at h
      dsimp only at h
      by_cases hn1 : n < 1
      · have hd : decide (n < 1) = true := by simpa using hn1
        clear hn hn1
        have hr2 := Aside0.mk (Option.some.inj h)
        clear h hany
        go_enter Try.func40, Try.ntmps40
        go_wp2
        go_ret
        exact ⟨by rw [← hr2.out]; rfl, hB1⟩
      · have hd : decide (n < 1) = false := by simpa using hn1
        have hd9 : decide (9 < n) = true := by simp; omega
        clear hn hn1
        have hr2 := Aside0.mk (Option.some.inj h)
        clear h hany
        go_enter Try.func40, Try.ntmps40
        go_wp2
        go_ret
        exact ⟨by rw [← hr2.out]; rfl, hB1⟩
  by_cases h3 : op = 3
  · subst h3
    by_cases hn : n = 0
    · rw [show shapeWant 3 n = some 2 by simp [shapeWant, hn]] at h
      dsimp only at h
      subst hn
      by_cases hl : (l.length : Int) = 2
      · rw [if_pos hl] at h
        obtain ⟨r0, hr0, hr1⟩ := Option.bind_eq_some_iff.1 h
        have hcall := hany r0 hr0
        have hr2 := Aside0.mk (Option.some.inj hr1)
        have hb0 : ((l.length : Int) == 2) = true := beq_iff_eq.mpr hl
        clear h hr0 hr1 hany hl
        go_enter Try.func40, Try.ntmps40
        go_wp2_with (go_at_call 58; refine (hcall _ hB1).mono ?_; rintro e w' ⟨rfl, hb⟩)
        go_ret
        exact ⟨by rw [← hr2.out]; rfl, hb⟩
      · rw [if_neg hl] at h
        have hr2 := Aside0.mk (Option.some.inj h)
        have hb0 : ((l.length : Int) == 2) = false := beq_eq_false_iff_ne.mpr hl
        clear h hany hl
        go_enter Try.func40, Try.ntmps40
        go_wp2
        go_ret
        exact ⟨by rw [← hr2.out]; rfl, hB1⟩
    · rw [show shapeWant 3 n = none by simp [shapeWant]; omega] at h
      dsimp only at h
      have hn1 : (n == 0) = false := beq_eq_false_iff_ne.mpr hn
      have hn2 : (n != 0) = true := bne_iff_ne.mpr hn
      clear hn
      have hr2 := Aside0.mk (Option.some.inj h)
      clear h hany
      go_enter Try.func40, Try.ntmps40
      go_wp2
      go_ret
      exact ⟨by rw [← hr2.out]; rfl, hB1⟩
  by_cases h4 : op = 4
  · subst h4
    by_cases hn : n = 0
    · rw [show shapeWant 4 n = some 2 by simp [shapeWant, hn]] at h
      dsimp only at h
      subst hn
      by_cases hl : (l.length : Int) = 2
      · rw [if_pos hl] at h
        obtain ⟨r0, hr0, hr1⟩ := Option.bind_eq_some_iff.1 h
        have hcall := hany r0 hr0
        have hr2 := Aside0.mk (Option.some.inj hr1)
        have hb0 : ((l.length : Int) == 2) = true := beq_iff_eq.mpr hl
        clear h hr0 hr1 hany hl
        go_enter Try.func40, Try.ntmps40
        go_wp2_with (go_at_call 58; refine (hcall _ hB1).mono ?_; rintro e w' ⟨rfl, hb⟩)
        go_ret
        exact ⟨by rw [← hr2.out]; rfl, hb⟩
      · rw [if_neg hl] at h
        have hr2 := Aside0.mk (Option.some.inj h)
        have hb0 : ((l.length : Int) == 2) = false := beq_eq_false_iff_ne.mpr hl
        clear h hany hl
        go_enter Try.func40, Try.ntmps40
        go_wp2
        go_ret
        exact ⟨by rw [← hr2.out]; rfl, hB1⟩
    · rw [show shapeWant 4 n = none by simp [shapeWant]; omega] at h
      dsimp only at h
      have hn1 : (n == 0) = false := beq_eq_false_iff_ne.mpr hn
      have hn2 : (n != 0) = true := bne_iff_ne.mpr hn
      clear hn
      have hr2 := Aside0.mk (Option.some.inj h)
      clear h hany
      go_enter Try.func40, Try.ntmps40
      go_wp2
      go_ret
      exact ⟨by rw [← hr2.out]; rfl, hB1⟩
  rw [show shapeWant op n = none by simp [shapeWant, h0, h1, h2, h3, h4]] at h
  dsimp only at h
  have hb0 : (op == 0) = false := beq_eq_false_iff_ne.mpr h0
  have hb1 : (op == 1) = false := beq_eq_false_iff_ne.mpr h1
  have hb2 : (op == 2) = false := beq_eq_false_iff_ne.mpr h2
  have hb3 : (op == 3) = false := beq_eq_false_iff_ne.mpr h3
  have hb4 : (op == 4) = false := beq_eq_false_iff_ne.mpr h4
  clear h0 h1 h2 h3 h4
  have hr2 := Aside0.mk (Option.some.inj h)
  clear h hany
  go_enter Try.func40, Try.ntmps40
  go_wp2
  go_ret
  exact ⟨by rw [← hr2.out]; rfl, hB1⟩
end Go.Proofs.Ytfnmjecofgeboaa.PAll
