-- Laid by a program of this session out of the translation's print
import Derived.Test.YtfnmjecofgeboaaPAll0
import Derived.Test.YtfnmjecofgeboaaPAllAb
namespace Go.Proofs.Ytfnmjecofgeboaa.PAll
open Go.RowKit Go.Proofs.YtfnmjecofgeboaaW.PrintWords Go.Proofs.YtfnmjecofgeboaaW.PrintLast Go.Proofs.YtfnmjecofgeboaaW.PrintMore
attribute [local go_sem] max2_int min2_int max_two min_two max_three min_three max_four min_four   -- for this text's walks alone
set_option linter.unusedVariables false
set_option linter.unusedSimpArgs false

/-! ### laws_szClockS and laws_szClock, which call each other -/
def laws_szClockS.o (L : List (S35) → Int → Int → Option (Int)) (l0 : List (S35)) (a1 : Int) : Option (Int) := if (wrap64 (a1 - (l0.length : Int))) < 0 then (some (-1)) else (L l0 (wrap64 (a1 - (l0.length : Int))) 0)
def laws_szClock.o (L : List (S35) → Int → Int → Option (Int)) (a0_0 : Int) (a0_1 : Int) (l0_2 : List (S35)) (a1 : Int) : Option (Int) := (laws_szClockS.o L l0_2 a1).bind fun t255 => (if t255 < 0 then (some (-1)) else (some t255))
def laws_szClockS.l0 : Nat → List (S35) → Int → Int → Option (Int)
 | 0 => fun _ _ _ => none
 | k + 1 => fun x0 x1 x5 => if x5 < (x0.length : Int) then (if 0 ≤ x5 then ((laws_szClock.o (laws_szClockS.l0 k) ((rd_T35 x0 x5).f0) ((rd_T35 x0 x5).f1) ((rd_T35 x0 x5).f2) x1).bind fun t255 => (if t255 < 0 then (some (-1)) else (laws_szClockS.l0 k x0 t255 (wrap64 (x5 + 1))))) else (none)) else (some x1)
def laws_szClockS.f (k : Nat) (l0 : List (S35)) (a1 : Int) : Option (Int) := if (wrap64 (a1 - (l0.length : Int))) < 0 then (some (-1)) else (laws_szClockS.l0 k l0 (wrap64 (a1 - (l0.length : Int))) 0)
def laws_szClock.f (k : Nat) (a0_0 : Int) (a0_1 : Int) (l0_2 : List (S35)) (a1 : Int) : Option (Int) := (laws_szClockS.f k l0_2 a1).bind fun t255 => (if t255 < 0 then (some (-1)) else (some t255))
theorem laws_szClockS.l0_z : ∀ x0 x1 x5, laws_szClockS.l0 0 x0 x1 x5 = none := fun _ _ _ => rfl
theorem laws_szClockS.l0_s (k : Nat) : ∀ x0 x1 x5, laws_szClockS.l0 (k + 1) x0 x1 x5 = if x5 < (x0.length : Int) then (if 0 ≤ x5 then ((laws_szClock.f k ((rd_T35 x0 x5).f0) ((rd_T35 x0 x5).f1) ((rd_T35 x0 x5).f2) x1).bind fun t255 => (if t255 < 0 then (some (-1)) else (laws_szClockS.l0 k x0 t255 (wrap64 (x5 + 1))))) else (none)) else (some x1) := fun _ _ _ => rfl
theorem laws_szClock.mono_of (k : Nat) (ih0 : ∀ y0 y1 y2, LeO (laws_szClockS.l0 k y0 y1 y2) (laws_szClockS.l0 (k + 1) y0 y1 y2)) : ∀ a0 a1 a2 a3, LeO (laws_szClock.f k a0 a1 a2 a3) (laws_szClock.f (k + 1) a0 a1 a2 a3) := by
 intro a0 a1 a2 a3
 unfold laws_szClock.f laws_szClockS.f
 repeat' first
   | (with_reducible exact ih0 _ _ _)
   | (with_reducible exact LeO.refl _)
   | (with_reducible exact LeO.none _)
   | (with_reducible refine LeO.ite ?_ ?_)
   | (with_reducible refine LeO.bind ?_ (fun _ => ?_))
   | exact ih0 _ _ _
   | exact LeO.none _
   | refine LeO.ite ?_ ?_
   | refine LeO.bind ?_ (fun _ => ?_)
theorem laws_szClockS.mono_l : ∀ k, (∀ y0 y1 y2, LeO (laws_szClockS.l0 k y0 y1 y2) (laws_szClockS.l0 (k + 1) y0 y1 y2))
 | 0 => fun _ _ _ r h => by rw [laws_szClockS.l0_z] at h; cases h
 | k + 1 => by
  have ih0 := laws_szClockS.mono_l k
  have ihC := laws_szClock.mono_of k ih0
  intro y0 y1 y2
  rw [laws_szClockS.l0_s, laws_szClockS.l0_s]
  repeat' first
   | (with_reducible exact ih0 _ _ _)
   | (with_reducible exact ihC _ _ _ _)
   | (with_reducible exact LeO.refl _)
   | (with_reducible exact LeO.none _)
   | (with_reducible refine LeO.ite ?_ ?_)
   | (with_reducible refine LeO.bind ?_ (fun _ => ?_))
   | exact ih0 _ _ _
   | exact LeO.none _
   | refine LeO.ite ?_ ?_
   | refine LeO.bind ?_ (fun _ => ?_)
theorem laws_szClockS.mono : ∀ a0 a1 k, LeO (laws_szClockS.f k a0 a1) (laws_szClockS.f (k + 1) a0 a1) := by
 intro a0 a1 k
 have ih0 := laws_szClockS.mono_l k
 unfold laws_szClockS.f
 repeat' first
   | (with_reducible exact ih0 _ _ _)
   | (with_reducible exact LeO.refl _)
   | (with_reducible exact LeO.none _)
   | (with_reducible refine LeO.ite ?_ ?_)
   | (with_reducible refine LeO.bind ?_ (fun _ => ?_))
   | exact ih0 _ _ _
   | exact LeO.none _
   | refine LeO.ite ?_ ?_
   | refine LeO.bind ?_ (fun _ => ?_)
theorem laws_szClock.mono : ∀ a0 a1 a2 a3 k, LeO (laws_szClock.f k a0 a1 a2 a3) (laws_szClock.f (k + 1) a0 a1 a2 a3) := fun a0 a1 a2 a3 k => laws_szClock.mono_of k (laws_szClockS.mono_l k) a0 a1 a2 a3
set_option maxHeartbeats 8000000 in
set_option maxRecDepth 100000 in
theorem laws_szClock.calls_of (k : Nat) (ihS : ∀ (A0 : Option Addr) (c0 : Nat) (l0 : List (S35)) (a1 : Int) (r : Int) (w : World) (hr0 : Kd.C k35 w A0 l0.length l0) (hc0 : l0.length ≤ c0) (h : laws_szClockS.f k l0 a1 = some r), Calls Try.prog 46 #[.slice A0 l0.length c0, .int .i64 a1] w fun e w' => e = .returned (.int .i64 r) ∧ Below w.heap.size w w') (g6 : Int) (g7 : Int) (g3 : Option Addr) (g4 : Nat) (g0 : List (S35)) (a1 : Int) (r : Int) (w : World) (g8 : Kd.C k35 w g3 g0.length g0) (g9 : g0.length ≤ g4) (h : laws_szClock.f k g6 g7 g0 a1 = some r) :
  Calls Try.prog 17 #[.agg #[.int .i64 g6, .int .i64 g7, .slice g3 g0.length g4], .int .i64 a1] w fun e w' => e = .returned (.int .i64 r) ∧ Below w.heap.size w w' := by
 have gQ := Try.underlying35
 have gA := am g8; have gB := am g9; clear g8 g9; have HB := am (Below.refl w.heap.size w)
 have H : ((laws_szClockS.f k g0 a1).bind fun g2 => (if g2 < 0 then (some (-1)) else (some g2))) = some r := h
 clear h
 replace H := Option.bind_eq_some_iff.mp H
 obtain ⟨g2, A30, H⟩ := H
 replace H : (if g2 < 0 then (some (-1)) else (some g2)) = some r := H
 have A3 := am A30
 clear A30
 by_cases c4 : g2 < 0
 ·
  rw [if_pos c4] at H; have c4b0 : decide (g2 < 0) = true := decide_eq_true c4; clear c4
  obtain rfl := Option.some.inj H
  go_enter Try.func17, Try.ntmps17
  go_wp2_with (first | ((with_reducible refine gate_dst (N := 2) rfl ?_); refine bx (cs := #[.int .i64 g6, .int .i64 g7, .slice g3 g0.length g4]) (t := 35) fun gC hg w5 hbox hb => ?_; have g1 := am (hbox); have gD := bz HB hg; have g5 := bz HB hg; replace HB := bs HB hb; clear hb hbox hg; obtain ⟨gE, gF, gG, gH, gI, gJ⟩ := cs3 g1) | ((with_reducible refine gate_callee (f := 46) rfl ?_); refine gl (some 8) Try.func46 #[.slice g3 g0.length g4, .int .i64 a1] ?_; (with_reducible refine (ihS _ _ g0 a1 g2 _ ?side1 ?side2 A3.1).mono ?_); (case side1 => exact cq (Kd.C_below gA.1 HB.1)); (case side2 => exact gB.1); rintro e w7 ⟨rfl, hb⟩; refine ⟨_, rfl, ?_⟩; replace g1 := kb g1 hb; replace HB := bs HB hb; clear hb))
  go_ret
  exact ⟨by first | rfl | (simp [errW_none, errW_some] <;> rfl) | (simp [*, errW_none, errW_some] <;> rfl), by repeat (first | (with_reducible first | exact HB.1 | apply below_alloc | apply pw_below_drewN | apply below_drew1 | refine below_set ?_ g5.1) | exact HB.1)⟩
 ·
  rw [if_neg c4] at H; have c4b0 : decide (g2 < 0) = false := decide_eq_false c4; clear c4
  obtain rfl := Option.some.inj H
  go_enter Try.func17, Try.ntmps17
  go_wp2_with (first | ((with_reducible refine gate_dst (N := 2) rfl ?_); refine bx (cs := #[.int .i64 g6, .int .i64 g7, .slice g3 g0.length g4]) (t := 35) fun gC hg w8 hbox hb => ?_; have g1 := am (hbox); have gD := bz HB hg; have g5 := bz HB hg; replace HB := bs HB hb; clear hb hbox hg; obtain ⟨gK, gL, gM, gN, gO, gP⟩ := cs3 g1) | ((with_reducible refine gate_callee (f := 46) rfl ?_); refine gl (some 8) Try.func46 #[.slice g3 g0.length g4, .int .i64 a1] ?_; (with_reducible refine (ihS _ _ g0 a1 g2 _ ?side1 ?side2 A3.1).mono ?_); (case side1 => exact cq (Kd.C_below gA.1 HB.1)); (case side2 => exact gB.1); rintro e w10 ⟨rfl, hb⟩; refine ⟨_, rfl, ?_⟩; replace g1 := kb g1 hb; replace HB := bs HB hb; clear hb))
  go_ret
  exact ⟨by first | rfl | (simp [errW_none, errW_some] <;> rfl) | (simp [*, errW_none, errW_some] <;> rfl), by repeat (first | (with_reducible first | exact HB.1 | apply below_alloc | apply pw_below_drewN | apply below_drew1 | refine below_set ?_ g5.1) | exact HB.1)⟩
set_option maxHeartbeats 8000000 in
set_option maxRecDepth 100000 in
theorem laws_szClockS.calls (k : Nat) : ∀ (A0 : Option Addr) (c0 : Nat) (l0 : List (S35)) (a1 : Int) (r : Int) (w : World) (hr0 : Kd.C k35 w A0 l0.length l0) (hc0 : l0.length ≤ c0) (h : laws_szClockS.f k l0 a1 = some r), Calls Try.prog 46 #[.slice A0 l0.length c0, .int .i64 a1] w fun e w' => e = .returned (.int .i64 r) ∧ Below w.heap.size w w' := by
 induction k using Nat.strongRecOn with
 | _ k ih =>
 intro A0 c0 l0 a1 r w hr0 hc0 h
 have gG := Try.underlying35
 have HR0 := am hr0; have HC0 := am hc0; clear hr0 hc0; have HB := am (Below.refl w.heap.size w)
 have H : (if (wrap64 (a1 - (l0.length : Int))) < 0 then (some (-1)) else (laws_szClockS.l0 k l0 (wrap64 (a1 - (l0.length : Int))) 0)) = some r := h
 clear h
 by_cases c3 : (wrap64 (a1 - (l0.length : Int))) < 0
 ·
  rw [if_pos c3] at H; have c3b0 : decide ((wrap64 (a1 - (l0.length : Int))) < 0) = true := decide_eq_true c3; clear c3
  obtain rfl := Option.some.inj H
  go_enter Try.func46, Try.ntmps46
  go_wp2
  go_ret
  exact ⟨by first | rfl | (simp [errW_none, errW_some] <;> rfl) | (simp [*, errW_none, errW_some] <;> rfl), by repeat (first | (with_reducible first | exact HB.1 | apply below_alloc | apply pw_below_drewN | apply below_drew1) | exact HB.1)⟩
 ·
  rw [if_neg c3] at H; have c3b0 : decide ((wrap64 (a1 - (l0.length : Int))) < 0) = false := decide_eq_false c3; clear c3
  have H' := am H
  clear H
  go_enter Try.func46, Try.ntmps46
  go_wp2
  go_loopg [1, 5] k (fun kq v1 v5 w' => ∃ (g9 : Int) (g0 : Int), v1 = .int .i64 g9 ∧ v5 = .int .i64 g0 ∧ Aside0 (laws_szClockS.l0 kq l0 g9 g0 = some r) ∧ Aside0 (kq ≤ k) ∧ Aside0 (Below w.heap.size w w'))
  case atStart => exact ⟨(wrap64 (a1 - (l0.length : Int))), (0), rq, rq, H', ⟨Nat.le_refl _⟩, bw⟩
  case round =>
   clear H'; (try clear p2); (try clear c3); (try clear c3b0); (try clear HB)
   obtain ⟨g9, g0, rfl, rfl, HA, HK1, HB⟩ := hrel
   cases gk with
   | zero => exact absurd HA.1 (by simp [laws_szClockS.l0_z])
   | succ k1 =>
    have H := HA.1
    clear HA
    simp only [laws_szClockS.l0_s] at H
    by_cases c4 : g0 < (l0.length : Int)
    ·
     rw [if_pos c4] at H; have c4b0 : decide (g0 < (l0.length : Int)) = true := decide_eq_true c4; clear c4
     by_cases c5 : 0 ≤ g0
     ·
      rw [if_pos c5] at H; have c5b0 : decide (0 ≤ g0) = true := decide_eq_true c5; clear c5
      replace H := Option.bind_eq_some_iff.mp H
      obtain ⟨g8, A60, H⟩ := H
      replace H : (if g8 < 0 then (some (-1)) else (laws_szClockS.l0 k1 l0 g8 (wrap64 (g0 + 1)))) = some r := H
      have A6 := am A60
      clear A60
      by_cases c7 : g8 < 0
      ·
       rw [if_pos c7] at H; have c7b0 : decide (g8 < 0) = true := decide_eq_true c7; clear c7
       obtain rfl := Option.some.inj H
       have gA : 0 ≤ (g0 : Int) := od; have gB : g0 < (l0.length : Int) := od
       obtain ⟨gF, gC, gD, gE, g1, g2, g3, g4, g5⟩ := at_T35 HR0.1 g0 gA gB
       cases gE; replace g1 := hc HB g1; replace g2 := hc HB g2; replace g3 := hc HB g3; have g6 := am g5; have g7 := am g4; clear g5 g4; replace gA := eq_true gA; replace gB := eq_true gB
       go_wp2_with (first | ((with_reducible refine gate_callee (f := 17) rfl ?_); refine gl (some 23) Try.func17 #[.agg #[.int .i64 ((rd_T35 l0 g0).f0), .int .i64 ((rd_T35 l0 g0).f1), .slice gC ((rd_T35 l0 g0).f2).length gD], .int .i64 g9] ?_; (with_reducible refine (laws_szClock.calls_of k1 (ih k1 (by have := HK1.1; omega)) ((rd_T35 l0 g0).f0) ((rd_T35 l0 g0).f1) _ _ ((rd_T35 l0 g0).f2) g9 g8 _ ?side1 ?side2 A6.1).mono ?_); (case side1 => exact cq (Kd.C_below g6.1 HB.1)); (case side2 => exact g7.1); rintro e w8 ⟨rfl, hb⟩; refine ⟨_, rfl, ?_⟩; replace HB := bs HB hb; clear hb))
       go_ret
       exact ⟨by first | rfl | (simp [errW_none, errW_some] <;> rfl) | (simp [*, errW_none, errW_some] <;> rfl), by repeat (first | (with_reducible first | exact HB.1 | apply below_alloc | apply pw_below_drewN | apply below_drew1) | exact HB.1)⟩
      ·
       rw [if_neg c7] at H; have c7b0 : decide (g8 < 0) = false := decide_eq_false c7; clear c7
       have H' := am H
       clear H; have gA : 0 ≤ (g0 : Int) := od; have gB : g0 < (l0.length : Int) := od
       obtain ⟨gF, gC, gD, gE, g1, g2, g3, g4, g5⟩ := at_T35 HR0.1 g0 gA gB
       cases gE; replace g1 := hc HB g1; replace g2 := hc HB g2; replace g3 := hc HB g3; have g6 := am g5; have g7 := am g4; clear g5 g4; replace gA := eq_true gA; replace gB := eq_true gB
       go_wp2_with (first | ((with_reducible refine gate_callee (f := 17) rfl ?_); refine gl (some 23) Try.func17 #[.agg #[.int .i64 ((rd_T35 l0 g0).f0), .int .i64 ((rd_T35 l0 g0).f1), .slice gC ((rd_T35 l0 g0).f2).length gD], .int .i64 g9] ?_; (with_reducible refine (laws_szClock.calls_of k1 (ih k1 (by have := HK1.1; omega)) ((rd_T35 l0 g0).f0) ((rd_T35 l0 g0).f1) _ _ ((rd_T35 l0 g0).f2) g9 g8 _ ?side1 ?side2 A6.1).mono ?_); (case side1 => exact cq (Kd.C_below g6.1 HB.1)); (case side2 => exact g7.1); rintro e w9 ⟨rfl, hb⟩; refine ⟨_, rfl, ?_⟩; replace HB := bs HB hb; clear hb))
       go_roundg k1
       case measure => have := HK1.1; omega
       case rel => exact ⟨(g8), (wrap64 (g0 + 1)), rq, rq, H', km, bw⟩
     ·
      rw [if_neg c5] at H
      exact absurd H (by simp)
    ·
     rw [if_neg c4] at H; have c4b0 : decide (g0 < (l0.length : Int)) = false := decide_eq_false c4; clear c4
     obtain rfl := Option.some.inj H
     go_wp2
     go_ret
     exact ⟨by first | rfl | (simp [errW_none, errW_some] <;> rfl) | (simp [*, errW_none, errW_some] <;> rfl), by repeat (first | (with_reducible first | exact HB.1 | apply below_alloc | apply pw_below_drewN | apply below_drew1) | exact HB.1)⟩
theorem laws_szClock.calls (k : Nat) (a0_0 : Int) (a0_1 : Int) (A0_2 : Option Addr) (c0_2 : Nat) (l0_2 : List (S35)) (a1 : Int) (r : Int) (w : World) (hr0_2 : Kd.C k35 w A0_2 l0_2.length l0_2) (hc0_2 : l0_2.length ≤ c0_2) (h : laws_szClock.f k a0_0 a0_1 l0_2 a1 = some r) :
  Calls Try.prog 17 #[.agg #[.int .i64 a0_0, .int .i64 a0_1, .slice A0_2 l0_2.length c0_2], .int .i64 a1] w fun e w' => e = .returned (.int .i64 r) ∧ Below w.heap.size w w' := laws_szClock.calls_of k (laws_szClockS.calls k) a0_0 a0_1 A0_2 c0_2 l0_2 a1 r w hr0_2 hc0_2 h

/-! ### laws_toClockS and laws_toClock, which call each other -/
def laws_toClockS.o (L : List (S35) → List (S25) → Int → Option ((List (S25)))) (l0 : List (S35)) : Option ((List (S25))) := if 0 ≤ (l0.length : Int) then (if ((l0.length : Int) : Int).toNat ≤ 7036874417766 then (L l0 (List.replicate ((l0.length : Int) : Int).toNat z25) 0) else (none)) else (none)
def laws_toClock.o (L : List (S35) → List (S25) → Int → Option ((List (S25)))) (a0_0 : Int) (a0_1 : Int) (l0_2 : List (S35)) : Option (Int × Int × (List (S25))) := (laws_toClockS.o L l0_2).bind fun t422 => (some (a0_0, a0_1, t422))
def laws_toClockS.l0 : Nat → List (S35) → List (S25) → Int → Option ((List (S25)))
 | 0 => fun _ _ _ => none
 | k + 1 => fun x0 x3 x4 => if x4 < (x0.length : Int) then (if 0 ≤ x4 then ((laws_toClock.o (laws_toClockS.l0 k) ((rd_T35 x0 x4).f0) ((rd_T35 x0 x4).f1) ((rd_T35 x0 x4).f2)).bind fun bt423 => (if x4 < (x3.length : Int) then (laws_toClockS.l0 k x0 (x3.set (x4 : Int).toNat (⟨bt423.1, bt423.2.1, bt423.2.2⟩ : S25)) (wrap64 (x4 + 1))) else (none))) else (none)) else (some x3)
def laws_toClockS.f (k : Nat) (l0 : List (S35)) : Option ((List (S25))) := if 0 ≤ (l0.length : Int) then (if ((l0.length : Int) : Int).toNat ≤ 7036874417766 then (laws_toClockS.l0 k l0 (List.replicate ((l0.length : Int) : Int).toNat z25) 0) else (none)) else (none)
def laws_toClock.f (k : Nat) (a0_0 : Int) (a0_1 : Int) (l0_2 : List (S35)) : Option (Int × Int × (List (S25))) := (laws_toClockS.f k l0_2).bind fun t422 => (some (a0_0, a0_1, t422))
theorem laws_toClockS.l0_z : ∀ x0 x3 x4, laws_toClockS.l0 0 x0 x3 x4 = none := fun _ _ _ => rfl
theorem laws_toClockS.l0_s (k : Nat) : ∀ x0 x3 x4, laws_toClockS.l0 (k + 1) x0 x3 x4 = if x4 < (x0.length : Int) then (if 0 ≤ x4 then ((laws_toClock.f k ((rd_T35 x0 x4).f0) ((rd_T35 x0 x4).f1) ((rd_T35 x0 x4).f2)).bind fun bt423 => (if x4 < (x3.length : Int) then (laws_toClockS.l0 k x0 (x3.set (x4 : Int).toNat (⟨bt423.1, bt423.2.1, bt423.2.2⟩ : S25)) (wrap64 (x4 + 1))) else (none))) else (none)) else (some x3) := fun _ _ _ => rfl
theorem laws_toClock.mono_of (k : Nat) (ih0 : ∀ y0 y1 y2, LeO (laws_toClockS.l0 k y0 y1 y2) (laws_toClockS.l0 (k + 1) y0 y1 y2)) : ∀ a0 a1 a2, LeO (laws_toClock.f k a0 a1 a2) (laws_toClock.f (k + 1) a0 a1 a2) := by
 intro a0 a1 a2
 unfold laws_toClock.f laws_toClockS.f
 repeat' first
   | (with_reducible exact ih0 _ _ _)
   | (with_reducible exact LeO.refl _)
   | (with_reducible exact LeO.none _)
   | (with_reducible refine LeO.ite ?_ ?_)
   | (with_reducible refine LeO.bind ?_ (fun _ => ?_))
   | exact ih0 _ _ _
   | exact LeO.none _
   | refine LeO.ite ?_ ?_
   | refine LeO.bind ?_ (fun _ => ?_)
theorem laws_toClockS.mono_l : ∀ k, (∀ y0 y1 y2, LeO (laws_toClockS.l0 k y0 y1 y2) (laws_toClockS.l0 (k + 1) y0 y1 y2))
 | 0 => fun _ _ _ r h => by rw [laws_toClockS.l0_z] at h; cases h
 | k + 1 => by
  have ih0 := laws_toClockS.mono_l k
  have ihC := laws_toClock.mono_of k ih0
  intro y0 y1 y2
  rw [laws_toClockS.l0_s, laws_toClockS.l0_s]
  repeat' first
   | (with_reducible exact ih0 _ _ _)
   | (with_reducible exact ihC _ _ _)
   | (with_reducible exact LeO.refl _)
   | (with_reducible exact LeO.none _)
   | (with_reducible refine LeO.ite ?_ ?_)
   | (with_reducible refine LeO.bind ?_ (fun _ => ?_))
   | exact ih0 _ _ _
   | exact LeO.none _
   | refine LeO.ite ?_ ?_
   | refine LeO.bind ?_ (fun _ => ?_)
theorem laws_toClockS.mono : ∀ a0 k, LeO (laws_toClockS.f k a0) (laws_toClockS.f (k + 1) a0) := by
 intro a0 k
 have ih0 := laws_toClockS.mono_l k
 unfold laws_toClockS.f
 repeat' first
   | (with_reducible exact ih0 _ _ _)
   | (with_reducible exact LeO.refl _)
   | (with_reducible exact LeO.none _)
   | (with_reducible refine LeO.ite ?_ ?_)
   | (with_reducible refine LeO.bind ?_ (fun _ => ?_))
   | exact ih0 _ _ _
   | exact LeO.none _
   | refine LeO.ite ?_ ?_
   | refine LeO.bind ?_ (fun _ => ?_)
theorem laws_toClock.mono : ∀ a0 a1 a2 k, LeO (laws_toClock.f k a0 a1 a2) (laws_toClock.f (k + 1) a0 a1 a2) := fun a0 a1 a2 k => laws_toClock.mono_of k (laws_toClockS.mono_l k) a0 a1 a2
set_option maxHeartbeats 8000000 in
set_option maxRecDepth 100000 in
theorem laws_toClock.calls_of (k : Nat) (ihS : ∀ (A0 : Option Addr) (c0 : Nat) (l0 : List (S35)) (r : List (S25)) (w : World) (hr0 : Kd.C k35 w A0 l0.length l0) (hc0 : l0.length ≤ c0) (h : laws_toClockS.f k l0 = some r), Calls Try.prog 48 #[.slice A0 l0.length c0] w fun e w' => ∃ v0_ : Value, e = .returned (v0_) ∧ Kd.R k25 25 w' w.heap.size (fun _ => True) v0_ r ∧ Below w.heap.size w w') (g3 : Int) (g4 : Int) (gF : Option Addr) (gG : Nat) (g5 : List (S35)) (r1 : Int) (r2 : Int) (r3 : List (S25)) (w : World) (gH : Kd.C k35 w gF g5.length g5) (gI : g5.length ≤ gG) (h : laws_toClock.f k g3 g4 g5 = some (r1, r2, r3)) :
  Calls Try.prog 19 #[.agg #[.int .i64 g3, .int .i64 g4, .slice gF g5.length gG]] w fun e w' => ∃ v2_ : Value, e = .returned (.agg #[.int .i64 r1, .int .i64 r2, v2_]) ∧ Kd.R k25 25 w' w.heap.size (fun _ => True) v2_ r3 ∧ Below w.heap.size w w' := by
 have hJ := Try.underlying35
 have hK := Try.underlying25
 have gM := am gH; have gN := am gI; clear gH gI; have HB := am (Below.refl w.heap.size w)
 have H : ((laws_toClockS.f k g5).bind fun g7 => (some (g3, g4, g7))) = some (r1, r2, r3) := h
 clear h
 replace H := Option.bind_eq_some_iff.mp H
 obtain ⟨g7, A20, H⟩ := H
 replace H : (some (g3, g4, g7)) = some (r1, r2, r3) := H
 have A2 := am A20
 clear A20
 simp only [Option.some.injEq, Prod.mk.injEq] at H
 obtain ⟨rfl, rfl, rfl⟩ := H
 go_enter Try.func19, Try.ntmps19
 go_wp2_with (first | ((with_reducible refine gate_dst (N := 1) rfl ?_); refine bx (cs := #[.int .i64 g3, .int .i64 g4, .slice gF g5.length gG]) (t := 35) fun hF hg w3 hbox hb => ?_; have g0 := am (hbox); have hG := bz HB hg; have gO := bz HB hg; replace HB := bs HB hb; clear hb hbox hg) | ((with_reducible refine gate_dst (N := 2) rfl ?_); refine bx (cs := #[.int .i64 0, .int .i64 0, .slice none 0 0]) (t := 25) fun g2 hg w4 hbox hb => ?_; have g1 := am (hbox); have hH := bz HB hg; have gP := bz HB hg; replace HB := bs HB hb; have g8 := nl g0 hg; have g9 := ng g0 hg; replace g0 := kb g0 hb; clear hb hbox hg) | ((with_reducible refine gate_dst (N := 3) rfl ?_); refine bx (cs := #[.int .i64 0, .int .i64 0, .slice none 0 0]) (t := 25) fun gE hg w5 hbox hb => ?_; have g6 := am (hbox); have hI := bz HB hg; have gQ := bz HB hg; replace HB := bs HB hb; have gA := nl g0 hg; have gB := ng g0 hg; replace g0 := kb g0 hb; have gC := nl g1 hg; have gD := ng g1 hg; replace g1 := kb g1 hb; clear hb hbox hg; have hL := g8.1; have hM := g9.1; have hN := gA.1; have hO := gB.1; obtain ⟨h9, hA, hB, hC, hD, hE⟩ := cs3 g0; have hP := gD.1; have hQ := gC.1; obtain ⟨gR, gS, gT, gU, gV, gW⟩ := cs3 g6) | ((with_reducible refine gate_callee (f := 48) rfl ?_); refine gl (some 12) Try.func48 #[.slice gF g5.length gG] ?_; (with_reducible refine (ihS _ _ g5 g7 _ ?side1 ?side2 A2.1).mono ?_); (case side1 => exact Kd.C_below gM.1 bq); (case side2 => exact gN.1); rintro e w11 ⟨hR, rfl, ho0, hb⟩; refine ⟨_, rfl, ?_⟩; have gJ := am (Kd.R_lower (Kd.R_newB (Kd.R_newB ho0 (g := g2) (o := .cells #[.int .i64 0, .int .i64 0, .slice none 0 0] 25 (0, 0)) (kf g1).1) (g := gE) (o := .cells #[.int .i64 g3, .int .i64 g4, .slice none 0 0] 25 (0, 0)) (kf g6).1) (below_size bq)); replace g0 := kb g0 hb; replace g1 := kb g1 hb; replace g6 := kc g6 hb #[.int .i64 g3, .int .i64 g4, .slice none 0 0]; replace HB := bs HB hb; clear hb ho0; obtain ⟨gK, gL, rfl⟩ := Kd.R_slice gJ.1; obtain ⟨gX, gY, gZ, h0, h1, h2⟩ := cs3 g6; obtain ⟨h3, h4, h5, h6, h7, h8⟩ := cs3 g1))
 refine bodyPost_ret (results_cell_row rfl _ _ g2 25 #[.int .i64 g3, .int .i64 g4, .slice gK g7.length gL] (0, 0) _ rfl (kf g1).1 Try.underlying25 rfl (by kernel_rfl)) rfl ?_
 exact ⟨_, by first | rfl | (simp [errW_none, errW_some] <;> rfl) | (simp [*, errW_none, errW_some] <;> rfl), by (with_reducible repeat (first | apply Kd.R_alloc | apply Kd.R_drewN | apply Kd.R_drew)); exact Kd.R_mono (Kd.R_far (p := ⟨g2, 2, none⟩) (Kd.R_far (p := ⟨g2, 1, none⟩) (Kd.R_far (p := ⟨g2, 0, none⟩) (Kd.R_far (p := ⟨gE, 2, none⟩) (Kd.R_mono (Kd.R_mono gJ.1 (fun k_ hk => (⟨hk, hk.2⟩ : _ ∧ k_ ≠ gE))) (fun k_ hk => (⟨hk, hk.1.1.2⟩ : _ ∧ k_ ≠ g2))) mq (.slice gK g7.length gL)) mq (.int .i64 g3)) mq (.int .i64 g4)) mq (.slice gK g7.length gL)) (fun _ hk => trivial), by repeat (first | (with_reducible first | exact HB.1 | apply below_alloc | apply pw_below_drewN | apply below_drew1 | refine below_set ?_ gO.1 | refine below_set ?_ gP.1 | refine below_set ?_ gQ.1) | exact HB.1)⟩
set_option maxHeartbeats 8000000 in
set_option maxRecDepth 100000 in
theorem laws_toClockS.calls (k : Nat) : ∀ (A0 : Option Addr) (c0 : Nat) (l0 : List (S35)) (r : List (S25)) (w : World) (hr0 : Kd.C k35 w A0 l0.length l0) (hc0 : l0.length ≤ c0) (h : laws_toClockS.f k l0 = some r), Calls Try.prog 48 #[.slice A0 l0.length c0] w fun e w' => ∃ v0_ : Value, e = .returned (v0_) ∧ Kd.R k25 25 w' w.heap.size (fun _ => True) v0_ r ∧ Below w.heap.size w w' := by
 induction k using Nat.strongRecOn with
 | _ k ih =>
 intro A0 c0 l0 r w hr0 hc0 h
 have hP := Try.underlying35
 have hQ := Try.underlying25
 have HR0 := am hr0; have HC0 := am hc0; clear hr0 hc0; have HB := am (Below.refl w.heap.size w)
 have H : (if 0 ≤ (l0.length : Int) then (if ((l0.length : Int) : Int).toNat ≤ 7036874417766 then (laws_toClockS.l0 k l0 (List.replicate ((l0.length : Int) : Int).toNat z25) 0) else (none)) else (none)) = some r := h
 clear h
 by_cases c2 : 0 ≤ (l0.length : Int)
 ·
  rw [if_pos c2] at H; have c2b0 := eq_true c2; have c2b1 : decide (0 ≤ (l0.length : Int)) = true := decide_eq_true c2; clear c2
  by_cases c3 : ((l0.length : Int) : Int).toNat ≤ 7036874417766
  ·
   rw [if_pos c3] at H; have c3b0 := eq_true c3; have c3b1 : decide (((l0.length : Int) : Int).toNat ≤ 7036874417766) = true := decide_eq_true c3; clear c3
   obtain ⟨h1, g4⟩ : ∃ y_ : List (S25), y_ = (List.replicate ((l0.length : Int) : Int).toNat z25) := ⟨_, rfl⟩
   replace H : (laws_toClockS.l0 k l0 h1 0) = some r := by first | (rw [g4]; with_reducible exact H) | (have H2_ := (Option.bind_some _ _).symm.trans H; rw [g4]; with_reducible exact H2_) | (have H2_ := (Option.bind_some _ _).symm.trans H; with_reducible exact H2_) | with_reducible exact H | (rw [g4]; exact H) | exact H
   have gL := am g4
   clear g4
   have H' := am H
   clear H
   go_enter Try.func48, Try.ntmps48
   go_wp2_with (first | ((with_reducible refine gate_dst (N := 7) rfl ?_); refine Kd.R_make k25 _ 25 rfl (N := 7) rfl 23 _ _ rfl (l0.length : Int) rfl rfl Try.underlying23 (.agg #[(.int .i64 0), (.int .i64 0), (.slice none 0 0)]) 40 info25 rfl (by decide) (by omega) z25 (ok := fun _ => True) (okp := fun _ => True) (k25_mkM _ _ _ z25 (Kd.R_nil _ _ _ _ _)) (fun _ hk => hk) trivial (od) (Nat.le_trans (Nat.mul_le_mul_right _ (od : (l0.length : Int).toNat ≤ 7036874417766)) (by omega)) (Below.refl _ _) (Nat.le_refl _) ?_; intro hC w4 ho5 hb hg_ hnew_; clear hg_ hnew_; (first | rw [← gL.1] at ho5 | (simp only [Int.reduceToNat] at ho5; rw [← gL.1] at ho5)); have h2 := am (Kd.R_lower ho5 (below_size bq)); replace HB := bs HB hb; clear hb ho5))
   go_loopg [4] k (fun kq v4 w' => ∃ (g1 : List (S25)) (g0 : Int), v4 = .int .i64 g0 ∧ Aside0 (laws_toClockS.l0 kq l0 g1 g0 = some r) ∧ Aside0 (kq ≤ k) ∧ Aside0 (Kd.R k25 25 w' w.heap.size (fun _ => True) hC g1) ∧ Aside0 (Below w.heap.size w w'))
   case atStart => exact ⟨(h1), (0), rq, H', ⟨Nat.le_refl _⟩, ⟨by (with_reducible repeat (first | apply Kd.R_alloc | apply Kd.R_drewN | apply Kd.R_drew)); exact h2.1⟩, bw⟩
   case round =>
    clear H'; (try clear c2); (try clear c2b0); (try clear c2b1); (try clear p2); (try clear c3); (try clear c3b0); (try clear c3b1); (try clear c4); (try clear g2); (try clear HB)
    obtain ⟨g1, g0, rfl, HA, HK1, g2, HB⟩ := hrel
    cases gk with
    | zero => exact absurd HA.1 (by simp [laws_toClockS.l0_z])
    | succ k1 =>
     have H := HA.1
     clear HA
     simp only [laws_toClockS.l0_s] at H
     by_cases c6 : g0 < (l0.length : Int)
     ·
      rw [if_pos c6] at H; have c6b0 : decide (g0 < (l0.length : Int)) = true := decide_eq_true c6; clear c6
      by_cases c7 : 0 ≤ g0
      ·
       rw [if_pos c7] at H; have c7b0 : decide (0 ≤ g0) = true := decide_eq_true c7; clear c7
       replace H := Option.bind_eq_some_iff.mp H
       obtain ⟨⟨g8, g9, g5⟩, A80, H⟩ := H
       replace H : (if g0 < (g1.length : Int) then (laws_toClockS.l0 k1 l0 (g1.set (g0 : Int).toNat (⟨g8, g9, g5⟩ : S25)) (wrap64 (g0 + 1))) else (none)) = some r := H
       have A8 := am A80
       clear A80
       by_cases c9 : g0 < (g1.length : Int)
       ·
        rw [if_pos c9] at H; have c9b0 : decide (g0 < (g1.length : Int)) = true := decide_eq_true c9; clear c9
        obtain ⟨gN, g6⟩ : ∃ y_ : List (S25), y_ = (g1.set (g0 : Int).toNat (⟨g8, g9, g5⟩ : S25)) := ⟨_, rfl⟩
        replace H : (laws_toClockS.l0 k1 l0 gN (wrap64 (g0 + 1))) = some r := by first | (rw [g6]; with_reducible exact H) | (have H2_ := (Option.bind_some _ _).symm.trans H; rw [g6]; with_reducible exact H2_) | (have H2_ := (Option.bind_some _ _).symm.trans H; with_reducible exact H2_) | with_reducible exact H | (rw [g6]; exact H) | exact H
        have h3 := am g6
        clear g6
        have H' := am H
        clear H; have gO : 0 ≤ (g0 : Int) := od; have gP : g0 < (l0.length : Int) := od
        obtain ⟨hO, gQ, gR, hD, gA, gB, gC, gD, gE⟩ := at_T35 HR0.1 g0 gO gP
        cases hD; replace gA := hc HB gA; replace gB := hc HB gB; replace gC := hc HB gC; have gJ := am gE; have gK := am gD; clear gE gD; replace gO := eq_true gO; replace gP := eq_true gP
        go_wp2_with (first | ((with_reducible refine gate_callee (f := 19) rfl ?_); refine gl (some 20) Try.func19 #[.agg #[.int .i64 ((rd_T35 l0 g0).f0), .int .i64 ((rd_T35 l0 g0).f1), .slice gQ ((rd_T35 l0 g0).f2).length gR]] ?_; (with_reducible refine (laws_toClock.calls_of k1 (ih k1 (by have := HK1.1; omega)) ((rd_T35 l0 g0).f0) ((rd_T35 l0 g0).f1) _ _ ((rd_T35 l0 g0).f2) g8 g9 g5 _ ?side1 ?side2 A8.1).mono ?_); (case side1 => exact cq (Kd.C_below gJ.1 HB.1)); (case side2 => exact gK.1); rintro e w11 ⟨hR, rfl, ho0, hb⟩; refine ⟨_, rfl, ?_⟩; have gI := am (Kd.R_lower (Kd.R_new' ho0 (Kd.R_lt (by (with_reducible repeat (first | apply Kd.R_alloc | apply Kd.R_drewN | apply Kd.R_drew)); exact g2.1))) (below_size bq)); replace g2 := am (Kd.R_elder' (by (with_reducible repeat (first | apply Kd.R_alloc | apply Kd.R_drewN | apply Kd.R_drew)); exact g2.1) (Kd.R_base ho0) hb); replace HB := bs HB hb; clear hb ho0; obtain ⟨Av6, cv6, rfl⟩ := Kd.R_slice gI.1; have p10 : 0 ≤ (g0 : Int) := od; have q10 : (g0 : Int) < ((g1.length : Int) : Int) := od; obtain ⟨g3, h4, h5, h6, hE, hS, h7⟩ := Kd.R_form g2.1 (by omega); (first | cases h5 | (injection h5 with ea_ en_ ec_; (first | subst ea_ | (injection ea_ with ea_; subst ea_)); subst ec_; clear en_)); have gS := am h6; have hT := am h7; clear h6 hE h7; obtain ⟨hU, h8, h9, gF, gG⟩ := Kd.R_elem g2.1 z25 (g0 : Int) p10 q10; obtain ⟨gT, rfl, hF⟩ := k25_openM h9; have hG : w11.cell? ⟨g3, (g0 : Int).toNat * 3, none⟩ = some (.int .i64 ((rd_T25 g1 g0).f0)) := gF 0 _ rfl; have hH : w11.cell? ⟨g3, (g0 : Int).toNat * 3 + 1, none⟩ = some (.int .i64 ((rd_T25 g1 g0).f1)) := gF 1 _ rfl; have hI : w11.cell? ⟨g3, (g0 : Int).toNat * 3 + 2, none⟩ = some (gT) := gF 2 _ rfl; have hJ : w11.frozen? ⟨g3, (g0 : Int).toNat * 3, none⟩ = false := gG 0; have hK : w11.frozen? ⟨g3, (g0 : Int).toNat * 3 + 1, none⟩ = false := gG 1; have hL : w11.frozen? ⟨g3, (g0 : Int).toNat * 3 + 2, none⟩ = false := gG 2; clear h8 gF gG h9; replace p10 := eq_true p10; replace q10 := eq_true q10; have n_ := am (Kd.R_mono (ok' := (fun k_ => some k_ ≠ ((.slice Av6 g5.length cv6) : Value).ownBlock)) g2.1 mq); clear g2; have g2 := n_; clear n_; have hA := am (show Kd.R k25 25 w11 w.heap.size (fun _ => True) (.slice (some ⟨g3, 0, none⟩) g1.length h4) g1 from (by (with_reducible repeat (first | apply Kd.R_alloc | apply Kd.R_drewN | apply Kd.R_drew)); exact Kd.R_mono g2.1 (fun _ hk => trivial))); obtain ⟨hV, gM, hB, g7, gH⟩ := Kd.R_elem hA.1 z25 (g0 : Int) (od) (by have h_ : (g0 : Int) < ((g1.length : Int) : Int) := od; first | exact h_ | (have e_ := (Kd.R_reads' g2.1).1; omega) | simpa using h_); obtain ⟨hM, rfl, hN⟩ := k25_openM hB; have gU := Kd.R_seg hA.1 (g0 : Int) (od) (by have h_ : (g0 : Int) < ((g1.length : Int) : Int) := od; first | exact h_ | (have e_ := (Kd.R_reads' g2.1).1; omega) | simpa using h_) (seg := [.int .i64 g8, .int .i64 g9, (.slice Av6 g5.length cv6)]) (j := 0) gM g7 (show 3 ≤ 3 from by decide) (x' := (⟨g8, g9, g5⟩ : S25)) (k25_mkM _ _ _ (⟨g8, g9, g5⟩ : S25) (Kd.R_mono (gI.1) (fun k_ hk => ⟨trivial, fun e_ => (hk.2) (by rw [e_]; rfl)⟩))) (fun _ hk => hk); have gV := g7 0 _ rfl; (try simp only [show (k25).sz = 3 from rfl, Nat.mul_one, Nat.add_zero] at gV); have gW := gH 0; (try simp only [show (k25).sz = 3 from rfl, Nat.mul_one, Nat.add_zero] at gW); have gX := g7 1 _ rfl; (try simp only [show (k25).sz = 3 from rfl, Nat.mul_one, Nat.add_zero] at gX); have gY := gH 1; (try simp only [show (k25).sz = 3 from rfl, Nat.mul_one, Nat.add_zero] at gY); have gZ := g7 2 _ rfl; (try simp only [show (k25).sz = 3 from rfl, Nat.mul_one, Nat.add_zero] at gZ); have h0 := gH 2; (try simp only [show (k25).sz = 3 from rfl, Nat.mul_one, Nat.add_zero] at h0); clear gM g7 gH hB) | ((with_reducible refine gate_store (t := 25) (p := 21) rfl ?_); refine se (((w11.setCell ⟨g3, (g0 : Int).toNat * 3, none⟩ (.int .i64 g8)).setCell ⟨g3, (g0 : Int).toNat * 3 + 1, none⟩ (.int .i64 g9)).setCell ⟨g3, (g0 : Int).toNat * 3 + 2, none⟩ ((.slice Av6 g5.length cv6))) fun w13 hw => ?_; have hg : w11.grownBy w13 (some g3) := (by rw [hw]; exact gU.2); have hp_ : Kd.R k25 25 w13 w.heap.size (fun _ => True) (.slice (some ⟨g3, 0, none⟩) g1.length h4) gN := (by rw [hw, h3.1]; exact gU.1); clear gU; replace g2 := am (hp_); replace HB := am ((by rw [hw]; exact below_set (below_set (below_set (HB.1) gS.1) gS.1) gS.1 : Below w.heap.size w w13)); clear gI hg hw hp_))
        go_roundg k1
        case measure => have := HK1.1; omega
        case rel => exact ⟨(gN), (wrap64 (g0 + 1)), rq, H', km, ⟨by (with_reducible repeat (first | apply Kd.R_alloc | apply Kd.R_drewN | apply Kd.R_drew)); exact g2.1⟩, bw⟩
       ·
        rw [if_neg c9] at H
        exact absurd H (by simp)
      ·
       rw [if_neg c7] at H
       exact absurd H (by simp)
     ·
      rw [if_neg c6] at H; have c6b0 : decide (g0 < (l0.length : Int)) = false := decide_eq_false c6; clear c6
      obtain rfl := Option.some.inj H
      go_wp2
      go_ret
      exact ⟨_, by first | rfl | (simp [errW_none, errW_some] <;> rfl) | (simp [*, errW_none, errW_some] <;> rfl), by (with_reducible repeat (first | apply Kd.R_alloc | apply Kd.R_drewN | apply Kd.R_drew)); exact g2.1, by repeat (first | (with_reducible first | exact HB.1 | apply below_alloc | apply pw_below_drewN | apply below_drew1) | exact HB.1)⟩
  ·
   rw [if_neg c3] at H
   exact absurd H (by simp)
 ·
  rw [if_neg c2] at H
  exact absurd H (by simp)
theorem laws_toClock.calls (k : Nat) (a0_0 : Int) (a0_1 : Int) (A0_2 : Option Addr) (c0_2 : Nat) (l0_2 : List (S35)) (r1 : Int) (r2 : Int) (r3 : List (S25)) (w : World) (hr0_2 : Kd.C k35 w A0_2 l0_2.length l0_2) (hc0_2 : l0_2.length ≤ c0_2) (h : laws_toClock.f k a0_0 a0_1 l0_2 = some (r1, r2, r3)) :
  Calls Try.prog 19 #[.agg #[.int .i64 a0_0, .int .i64 a0_1, .slice A0_2 l0_2.length c0_2]] w fun e w' => ∃ v2_ : Value, e = .returned (.agg #[.int .i64 r1, .int .i64 r2, v2_]) ∧ Kd.R k25 25 w' w.heap.size (fun _ => True) v2_ r3 ∧ Below w.heap.size w w' := laws_toClock.calls_of k (laws_toClockS.calls k) a0_0 a0_1 A0_2 c0_2 l0_2 r1 r2 r3 w hr0_2 hc0_2 h

/-! ### laws_eqClockS and laws_eqClock, which call each other -/
def laws_eqClockS.o (L : List (S25) → List (S25) → Int → Option (Bool)) (l0 : List (S25)) (l1 : List (S25)) : Option (Bool) := if (l0.length : Int) = (l1.length : Int) then (L l0 l1 0) else (some false)
def laws_eqClock.o (L : List (S25) → List (S25) → Int → Option (Bool)) (a0_0 : Int) (a0_1 : Int) (l0_2 : List (S25)) (a1_0 : Int) (a1_1 : Int) (l1_2 : List (S25)) : Option (Bool) := if a0_0 = a1_0 then (if a0_1 = a1_1 then ((laws_eqClockS.o L l0_2 l1_2).bind fun t427 => (if t427 = true then (some true) else (some false))) else (some false)) else (some false)
def laws_eqClockS.l0 : Nat → List (S25) → List (S25) → Int → Option (Bool)
 | 0 => fun _ _ _ => none
 | k + 1 => fun x0 x1 x5 => if x5 < (x0.length : Int) then (if 0 ≤ x5 then (if x5 < (x1.length : Int) then ((laws_eqClock.o (laws_eqClockS.l0 k) ((rd_T25 x0 x5).f0) ((rd_T25 x0 x5).f1) ((rd_T25 x0 x5).f2) ((rd_T25 x1 x5).f0) ((rd_T25 x1 x5).f1) ((rd_T25 x1 x5).f2)).bind fun t431 => (if t431 = true then (laws_eqClockS.l0 k x0 x1 (wrap64 (x5 + 1))) else (some false))) else (none)) else (none)) else (some true)
def laws_eqClockS.f (k : Nat) (l0 : List (S25)) (l1 : List (S25)) : Option (Bool) := if (l0.length : Int) = (l1.length : Int) then (laws_eqClockS.l0 k l0 l1 0) else (some false)
def laws_eqClock.f (k : Nat) (a0_0 : Int) (a0_1 : Int) (l0_2 : List (S25)) (a1_0 : Int) (a1_1 : Int) (l1_2 : List (S25)) : Option (Bool) := if a0_0 = a1_0 then (if a0_1 = a1_1 then ((laws_eqClockS.f k l0_2 l1_2).bind fun t427 => (if t427 = true then (some true) else (some false))) else (some false)) else (some false)
theorem laws_eqClockS.l0_z : ∀ x0 x1 x5, laws_eqClockS.l0 0 x0 x1 x5 = none := fun _ _ _ => rfl
theorem laws_eqClockS.l0_s (k : Nat) : ∀ x0 x1 x5, laws_eqClockS.l0 (k + 1) x0 x1 x5 = if x5 < (x0.length : Int) then (if 0 ≤ x5 then (if x5 < (x1.length : Int) then ((laws_eqClock.f k ((rd_T25 x0 x5).f0) ((rd_T25 x0 x5).f1) ((rd_T25 x0 x5).f2) ((rd_T25 x1 x5).f0) ((rd_T25 x1 x5).f1) ((rd_T25 x1 x5).f2)).bind fun t431 => (if t431 = true then (laws_eqClockS.l0 k x0 x1 (wrap64 (x5 + 1))) else (some false))) else (none)) else (none)) else (some true) := fun _ _ _ => rfl
theorem laws_eqClock.mono_of (k : Nat) (ih0 : ∀ y0 y1 y2, LeO (laws_eqClockS.l0 k y0 y1 y2) (laws_eqClockS.l0 (k + 1) y0 y1 y2)) : ∀ a0 a1 a2 a3 a4 a5, LeO (laws_eqClock.f k a0 a1 a2 a3 a4 a5) (laws_eqClock.f (k + 1) a0 a1 a2 a3 a4 a5) := by
 intro a0 a1 a2 a3 a4 a5
 unfold laws_eqClock.f laws_eqClockS.f
 repeat' first
   | (with_reducible exact ih0 _ _ _)
   | (with_reducible exact LeO.refl _)
   | (with_reducible exact LeO.none _)
   | (with_reducible refine LeO.ite ?_ ?_)
   | (with_reducible refine LeO.bind ?_ (fun _ => ?_))
   | exact ih0 _ _ _
   | exact LeO.none _
   | refine LeO.ite ?_ ?_
   | refine LeO.bind ?_ (fun _ => ?_)
theorem laws_eqClockS.mono_l : ∀ k, (∀ y0 y1 y2, LeO (laws_eqClockS.l0 k y0 y1 y2) (laws_eqClockS.l0 (k + 1) y0 y1 y2))
 | 0 => fun _ _ _ r h => by rw [laws_eqClockS.l0_z] at h; cases h
 | k + 1 => by
  have ih0 := laws_eqClockS.mono_l k
  have ihC := laws_eqClock.mono_of k ih0
  intro y0 y1 y2
  rw [laws_eqClockS.l0_s, laws_eqClockS.l0_s]
  repeat' first
   | (with_reducible exact ih0 _ _ _)
   | (with_reducible exact ihC _ _ _ _ _ _)
   | (with_reducible exact LeO.refl _)
   | (with_reducible exact LeO.none _)
   | (with_reducible refine LeO.ite ?_ ?_)
   | (with_reducible refine LeO.bind ?_ (fun _ => ?_))
   | exact ih0 _ _ _
   | exact LeO.none _
   | refine LeO.ite ?_ ?_
   | refine LeO.bind ?_ (fun _ => ?_)
theorem laws_eqClockS.mono : ∀ a0 a1 k, LeO (laws_eqClockS.f k a0 a1) (laws_eqClockS.f (k + 1) a0 a1) := by
 intro a0 a1 k
 have ih0 := laws_eqClockS.mono_l k
 unfold laws_eqClockS.f
 repeat' first
   | (with_reducible exact ih0 _ _ _)
   | (with_reducible exact LeO.refl _)
   | (with_reducible exact LeO.none _)
   | (with_reducible refine LeO.ite ?_ ?_)
   | (with_reducible refine LeO.bind ?_ (fun _ => ?_))
   | exact ih0 _ _ _
   | exact LeO.none _
   | refine LeO.ite ?_ ?_
   | refine LeO.bind ?_ (fun _ => ?_)
theorem laws_eqClock.mono : ∀ a0 a1 a2 a3 a4 a5 k, LeO (laws_eqClock.f k a0 a1 a2 a3 a4 a5) (laws_eqClock.f (k + 1) a0 a1 a2 a3 a4 a5) := fun a0 a1 a2 a3 a4 a5 k => laws_eqClock.mono_of k (laws_eqClockS.mono_l k) a0 a1 a2 a3 a4 a5
def laws_eqClockS.T6 : Bool × List (List Nat × List Nat) := (true, [([], []), ([], []), ([0, 1], [0, 1]), ([2], [2]), ([], []), ([], []), ([4, 5], [4, 5]), ([6], [6]), ([3, 7], [3, 7]), ([8], [8])])
def laws_eqClockS.B6 : List Nat := [0, 0, 3, 7, 0, 0, 48, 112, 255, 511]
theorem laws_eqClockS.tab6 : rtab .any (opsOf Try.f49 6) = laws_eqClockS.T6 := by kernel_rfl
theorem laws_eqClockS.bits6 : waitsOk laws_eqClockS.T6.2 laws_eqClockS.B6 = true := by kernel_rfl
set_option maxHeartbeats 8000000 in
set_option maxRecDepth 100000 in
theorem laws_eqClock.calls_of (k : Nat) (ihS : ∀ (A0 : Option Addr) (c0 : Nat) (l0 : List (S25)) (A1 : Option Addr) (c1 : Nat) (l1 : List (S25)) (r : Bool) (w : World) (hr0 : Kd.C k25 w A0 l0.length l0) (hc0 : l0.length ≤ c0) (hr1 : Kd.C k25 w A1 l1.length l1) (hc1 : l1.length ≤ c1) (h : laws_eqClockS.f k l0 l1 = some r), Calls Try.prog 49 #[.slice A0 l0.length c0, .slice A1 l1.length c1] w fun e w' => e = .returned (.bool r) ∧ Below w.heap.size w w') (g6 : Int) (g7 : Int) (gC : Option Addr) (gD : Nat) (g4 : List (S25)) (g8 : Int) (g9 : Int) (gE : Option Addr) (gF : Nat) (g5 : List (S25)) (r : Bool) (w : World) (gL : Kd.C k25 w gC g4.length g4) (gM : g4.length ≤ gD) (gN : Kd.C k25 w gE g5.length g5) (gO : g5.length ≤ gF) (h : laws_eqClock.f k g6 g7 g4 g8 g9 g5 = some r) :
  Calls Try.prog 20 #[.agg #[.int .i64 g6, .int .i64 g7, .slice gC g4.length gD], .agg #[.int .i64 g8, .int .i64 g9, .slice gE g5.length gF]] w fun e w' => e = .returned (.bool r) ∧ Below w.heap.size w w' := by
 have iB := Try.underlying25
 have gP := am gL; have gQ := am gM; clear gL gM; have gR := am gN; have gS := am gO; clear gN gO; have HB := am (Below.refl w.heap.size w)
 have H : (if g6 = g8 then (if g7 = g9 then ((laws_eqClockS.f k g4 g5).bind fun gK => (if gK = true then (some true) else (some false))) else (some false)) else (some false)) = some r := h
 clear h
 by_cases c3 : g6 = g8
 ·
  rw [if_pos c3] at H; have c3b0 : (g6 == g8) = true := beq_iff_eq.mpr c3; have c3b1 : (g6 != g8) = false := bne_eq_false_iff_eq.mpr c3; clear c3
  by_cases c4 : g7 = g9
  ·
   rw [if_pos c4] at H; have c4b0 : (g7 == g9) = true := beq_iff_eq.mpr c4; have c4b1 : (g7 != g9) = false := bne_eq_false_iff_eq.mpr c4; clear c4
   replace H := Option.bind_eq_some_iff.mp H
   obtain ⟨gK, A50, H⟩ := H
   replace H : (if gK = true then (some true) else (some false)) = some r := H
   have A5 := am A50
   clear A50
   by_cases c6 : gK = true
   ·
    subst c6
    have H1 : (some true) = some r := by rw [if_pos rfl] at H; exact H
    clear H
    have H := H1
    clear H1
    obtain rfl := Option.some.inj H
    go_enter Try.func20, Try.ntmps20
    go_wp2_with (first | ((with_reducible refine gate_dst (N := 2) rfl ?_); refine bx (cs := #[.int .i64 g6, .int .i64 g7, .slice gC g4.length gD]) (t := 25) fun gG hg w7 hbox hb => ?_; have g0 := am (hbox); have gH := bz HB hg; have gA := bz HB hg; replace HB := bs HB hb; clear hb hbox hg) | ((with_reducible refine gate_dst (N := 3) rfl ?_); refine bx (cs := #[.int .i64 g8, .int .i64 g9, .slice gE g5.length gF]) (t := 25) fun gI hg w8 hbox hb => ?_; have g3 := am (hbox); have gJ := bz HB hg; have gB := bz HB hg; replace HB := bs HB hb; have g1 := nl g0 hg; have g2 := ng g0 hg; replace g0 := kb g0 hb; clear hb hbox hg; have iC := g1.1; have iD := g2.1; obtain ⟨gT, gU, gV, gW, gX, gY⟩ := cs3 g0; obtain ⟨gZ, h0, h1, h2, h3, h4⟩ := cs3 g3) | ((with_reducible refine gate_callee (f := 49) rfl ?_); refine gl (some 19) Try.func49 #[.slice gC g4.length gD, .slice gE g5.length gF] ?_; (with_reducible refine (ihS _ _ g4 _ _ g5 true _ ?side1 ?side2 ?side3 ?side4 A5.1).mono ?_); (case side1 => exact cq (Kd.C_below gP.1 HB.1)); (case side2 => exact gQ.1); (case side3 => exact cq (Kd.C_below gR.1 HB.1)); (case side4 => exact gS.1); rintro e w12 ⟨rfl, hb⟩; refine ⟨_, rfl, ?_⟩; replace g0 := kb g0 hb; replace g3 := kb g3 hb; replace HB := bs HB hb; clear hb))
    go_ret
    exact ⟨by first | rfl | (simp [errW_none, errW_some] <;> rfl) | (simp [*, errW_none, errW_some] <;> rfl), by repeat (first | (with_reducible first | exact HB.1 | apply below_alloc | apply pw_below_drewN | apply below_drew1 | refine below_set ?_ gA.1 | refine below_set ?_ gB.1) | exact HB.1)⟩
   ·
    replace c6 := Bool.eq_false_iff.mpr c6
    subst c6
    have H1 : (some false) = some r := by rw [if_neg (show ¬ (false = true) by decide)] at H; exact H
    clear H
    have H := H1
    clear H1
    obtain rfl := Option.some.inj H
    go_enter Try.func20, Try.ntmps20
    go_wp2_with (first | ((with_reducible refine gate_dst (N := 2) rfl ?_); refine bx (cs := #[.int .i64 g6, .int .i64 g7, .slice gC g4.length gD]) (t := 25) fun gG hg w13 hbox hb => ?_; have g0 := am (hbox); have gH := bz HB hg; have gA := bz HB hg; replace HB := bs HB hb; clear hb hbox hg) | ((with_reducible refine gate_dst (N := 3) rfl ?_); refine bx (cs := #[.int .i64 g8, .int .i64 g9, .slice gE g5.length gF]) (t := 25) fun gI hg w14 hbox hb => ?_; have g3 := am (hbox); have gJ := bz HB hg; have gB := bz HB hg; replace HB := bs HB hb; have g1 := nl g0 hg; have g2 := ng g0 hg; replace g0 := kb g0 hb; clear hb hbox hg; have i5 := g1.1; have i6 := g2.1; obtain ⟨h5, h6, h7, h8, h9, hA⟩ := cs3 g0; obtain ⟨hB, hC, hD, hE, hF, hG⟩ := cs3 g3) | ((with_reducible refine gate_callee (f := 49) rfl ?_); refine gl (some 19) Try.func49 #[.slice gC g4.length gD, .slice gE g5.length gF] ?_; (with_reducible refine (ihS _ _ g4 _ _ g5 false _ ?side1 ?side2 ?side3 ?side4 A5.1).mono ?_); (case side1 => exact cq (Kd.C_below gP.1 HB.1)); (case side2 => exact gQ.1); (case side3 => exact cq (Kd.C_below gR.1 HB.1)); (case side4 => exact gS.1); rintro e w18 ⟨rfl, hb⟩; refine ⟨_, rfl, ?_⟩; replace g0 := kb g0 hb; replace g3 := kb g3 hb; replace HB := bs HB hb; clear hb))
    go_ret
    exact ⟨by first | rfl | (simp [errW_none, errW_some] <;> rfl) | (simp [*, errW_none, errW_some] <;> rfl), by repeat (first | (with_reducible first | exact HB.1 | apply below_alloc | apply pw_below_drewN | apply below_drew1 | refine below_set ?_ gA.1 | refine below_set ?_ gB.1) | exact HB.1)⟩
  ·
   rw [if_neg c4] at H; have c4b0 : (g7 == g9) = false := beq_eq_false_iff_ne.mpr c4; have c4b1 : (g7 != g9) = true := bne_iff_ne.mpr c4
   obtain rfl := Option.some.inj H
   go_enter Try.func20, Try.ntmps20
   go_wp2_with (first | ((with_reducible refine gate_dst (N := 2) rfl ?_); refine bx (cs := #[.int .i64 g6, .int .i64 g7, .slice gC g4.length gD]) (t := 25) fun gG hg w19 hbox hb => ?_; have g0 := am (hbox); have gH := bz HB hg; have gA := bz HB hg; replace HB := bs HB hb; clear hb hbox hg) | ((with_reducible refine gate_dst (N := 3) rfl ?_); refine bx (cs := #[.int .i64 g8, .int .i64 g9, .slice gE g5.length gF]) (t := 25) fun gI hg w20 hbox hb => ?_; have g3 := am (hbox); have gJ := bz HB hg; have gB := bz HB hg; replace HB := bs HB hb; have g1 := nl g0 hg; have g2 := ng g0 hg; replace g0 := kb g0 hb; clear hb hbox hg; have i7 := g1.1; have i8 := g2.1; obtain ⟨hH, hI, hJ, hK, hL, hM⟩ := cs3 g0; obtain ⟨hN, hO, hP, hQ, hR, hS⟩ := cs3 g3))
   go_ret
   exact ⟨by first | rfl | (simp [errW_none, errW_some] <;> rfl) | (simp [*, errW_none, errW_some] <;> rfl), by repeat (first | (with_reducible first | exact HB.1 | apply below_alloc | apply pw_below_drewN | apply below_drew1 | refine below_set ?_ gA.1 | refine below_set ?_ gB.1) | exact HB.1)⟩
 ·
  rw [if_neg c3] at H; have c3b0 : (g6 == g8) = false := beq_eq_false_iff_ne.mpr c3; have c3b1 : (g6 != g8) = true := bne_iff_ne.mpr c3
  obtain rfl := Option.some.inj H
  go_enter Try.func20, Try.ntmps20
  go_wp2_with (first | ((with_reducible refine gate_dst (N := 2) rfl ?_); refine bx (cs := #[.int .i64 g6, .int .i64 g7, .slice gC g4.length gD]) (t := 25) fun gG hg w24 hbox hb => ?_; have g0 := am (hbox); have gH := bz HB hg; have gA := bz HB hg; replace HB := bs HB hb; clear hb hbox hg) | ((with_reducible refine gate_dst (N := 3) rfl ?_); refine bx (cs := #[.int .i64 g8, .int .i64 g9, .slice gE g5.length gF]) (t := 25) fun gI hg w25 hbox hb => ?_; have g3 := am (hbox); have gJ := bz HB hg; have gB := bz HB hg; replace HB := bs HB hb; have g1 := nl g0 hg; have g2 := ng g0 hg; replace g0 := kb g0 hb; clear hb hbox hg; have i9 := g1.1; have iA := g2.1; obtain ⟨hT, hU, hV, hW, hX, hY⟩ := cs3 g0; obtain ⟨hZ, i0, i1, i2, i3, i4⟩ := cs3 g3))
  go_ret
  exact ⟨by first | rfl | (simp [errW_none, errW_some] <;> rfl) | (simp [*, errW_none, errW_some] <;> rfl), by repeat (first | (with_reducible first | exact HB.1 | apply below_alloc | apply pw_below_drewN | apply below_drew1 | refine below_set ?_ gA.1 | refine below_set ?_ gB.1) | exact HB.1)⟩
set_option maxHeartbeats 8000000 in
set_option maxRecDepth 100000 in
theorem laws_eqClockS.calls (k : Nat) : ∀ (A0 : Option Addr) (c0 : Nat) (l0 : List (S25)) (A1 : Option Addr) (c1 : Nat) (l1 : List (S25)) (r : Bool) (w : World) (hr0 : Kd.C k25 w A0 l0.length l0) (hc0 : l0.length ≤ c0) (hr1 : Kd.C k25 w A1 l1.length l1) (hc1 : l1.length ≤ c1) (h : laws_eqClockS.f k l0 l1 = some r), Calls Try.prog 49 #[.slice A0 l0.length c0, .slice A1 l1.length c1] w fun e w' => e = .returned (.bool r) ∧ Below w.heap.size w w' := by
 induction k using Nat.strongRecOn with
 | _ k ih =>
 intro A0 c0 l0 A1 c1 l1 r w hr0 hc0 hr1 hc1 h
 have gY := Try.underlying25
 have HR0 := am hr0; have HC0 := am hc0; clear hr0 hc0; have HR1 := am hr1; have HC1 := am hc1; clear hr1 hc1; have HB := am (Below.refl w.heap.size w)
 have H : (if (l0.length : Int) = (l1.length : Int) then (laws_eqClockS.l0 k l0 l1 0) else (some false)) = some r := h
 clear h
 by_cases c3 : (l0.length : Int) = (l1.length : Int)
 ·
  rw [if_pos c3] at H; have c3b0 : ((l0.length : Int) == (l1.length : Int)) = true := beq_iff_eq.mpr c3; have c3b1 : ((l0.length : Int) != (l1.length : Int)) = false := bne_eq_false_iff_eq.mpr c3
  have c3b2 : (l0.length == l1.length) = true := by first | simpa using c3 | (simp at c3 ⊢; omega)
  clear c3
  have H' := am H
  clear H
  go_enter Try.func49, Try.ntmps49
  go_wp2
  go_loopg [5] k (fun kq v5 w' => ∃ (g0 : Int), v5 = .int .i64 g0 ∧ Aside0 (laws_eqClockS.l0 kq l0 l1 g0 = some r) ∧ Aside0 (kq ≤ k) ∧ Aside0 (Below w.heap.size w w'))
  case atStart => exact ⟨(0), rq, H', ⟨Nat.le_refl _⟩, bw⟩
  case round =>
   clear H'; (try clear c1); (try clear p2); (try clear c3); (try clear c3b0); (try clear c3b1); (try clear c3b2); (try clear HB)
   obtain ⟨g0, rfl, HA, HK1, HB⟩ := hrel
   cases gk with
   | zero => exact absurd HA.1 (by simp [laws_eqClockS.l0_z])
   | succ k1 =>
    have H := HA.1
    clear HA
    simp only [laws_eqClockS.l0_s] at H
    by_cases c4 : g0 < (l0.length : Int)
    ·
     rw [if_pos c4] at H; have c4b0 : decide (g0 < (l0.length : Int)) = true := decide_eq_true c4; clear c4
     by_cases c5 : 0 ≤ g0
     ·
      rw [if_pos c5] at H; have c5b0 : decide (0 ≤ g0) = true := decide_eq_true c5; clear c5
      by_cases c6 : g0 < (l1.length : Int)
      ·
       rw [if_pos c6] at H; have c6b0 : decide (g0 < (l1.length : Int)) = true := decide_eq_true c6; clear c6
       replace H := Option.bind_eq_some_iff.mp H
       obtain ⟨gX, A70, H⟩ := H
       replace H : (if gX = true then (laws_eqClockS.l0 k1 l0 l1 (wrap64 (g0 + 1))) else (some false)) = some r := H
       have A7 := am A70
       clear A70
       by_cases c8 : gX = true
       ·
        subst c8
        have H1 : (laws_eqClockS.l0 k1 l0 l1 (wrap64 (g0 + 1))) = some r := by rw [if_pos rfl] at H; exact H
        clear H
        have H := H1
        clear H1
        have H' := am H
        clear H
        try go_wp2
        replace HB := am (below_drew1 HB.1); have gR : 0 ≤ (g0 : Int) := od; have gS : g0 < (l0.length : Int) := od
        obtain ⟨gD, gL, gM, gV, g1, g2, g3, gF, gG⟩ := at_T25 HR0.1 g0 gR gS
        have g4 := g3
        have g5 := g2
        have g6 := g1
        cases gV; replace g1 := hc HB g1; replace g2 := hc HB g2; replace g3 := hc HB g3; have gH := am gG; have gP := am gF; clear gG gF; replace gR := eq_true gR; replace gS := eq_true gS; have gT : 0 ≤ (g0 : Int) := od; have gU : g0 < (l1.length : Int) := od
        obtain ⟨gE, gN, gO, gW, g7, g8, g9, gI, gJ⟩ := at_T25 HR1.1 g0 gT gU
        have gA := g9
        have gB := g8
        have gC := g7
        cases gW; replace g7 := hc HB g7; replace g8 := hc HB g8; replace g9 := hc HB g9; have gK := am gJ; have gQ := am gI; clear gJ gI; replace gT := eq_true gT; replace gU := eq_true gU
        refine start_ (n := 10) (S := fun w' => w'.cell? (gD.add ((g0).toNat * 3)) = some (.int .i64 ((rd_T25 l0 g0).f0)) ∧ w'.cell? ⟨(gD.add ((g0).toNat * 3)).block, (gD.add ((g0).toNat * 3)).off + 1, none⟩ = some (.int .i64 ((rd_T25 l0 g0).f1)) ∧ w'.cell? ⟨(gD.add ((g0).toNat * 3)).block, (gD.add ((g0).toNat * 3)).off + 2, none⟩ = some (.slice gL ((rd_T25 l0 g0).f2).length gM) ∧ w'.cell? (gE.add ((g0).toNat * 3)) = some (.int .i64 ((rd_T25 l1 g0).f0)) ∧ w'.cell? ⟨(gE.add ((g0).toNat * 3)).block, (gE.add ((g0).toNat * 3)).off + 1, none⟩ = some (.int .i64 ((rd_T25 l1 g0).f1)) ∧ w'.cell? ⟨(gE.add ((g0).toNat * 3)).block, (gE.add ((g0).toNat * 3)).off + 2, none⟩ = some (.slice gN ((rd_T25 l1 g0).f2).length gO)) (ds := []) #[ff,ff,ff,ff,ff,ff,ff,ff,ff,ff] (by kernel_rfl) rfl rfl ⟨((HB.1.cell (World.block_lt_of_cell? w _ g6)).trans g6), ((HB.1.cell (World.block_lt_of_cell? w _ g5)).trans g5), ((HB.1.cell (World.block_lt_of_cell? w _ g4)).trans g4), ((HB.1.cell (World.block_lt_of_cell? w _ gC)).trans gC), ((HB.1.cell (World.block_lt_of_cell? w _ gB)).trans gB), ((HB.1.cell (World.block_lt_of_cell? w _ gA)).trans gA)⟩ (fun hHeld => ?_); refine with_tabW laws_eqClockS.tab6 laws_eqClockS.bits6 (fun HT_ HW_ => ?_)
        generalize wr.drew = w9 at HB gH gK g1 g2 g3 g7 g8 g9 hHeld ⊢
        refine pu (i := 0) (N := some 17) #[tt,ff,ff,ff,ff,ff,ff,ff,ff,ff] HT_ ?_
        refine pu (i := 1) (N := some 18) #[tt,tt,ff,ff,ff,ff,ff,ff,ff,ff] HT_ ?_
        refine pu (i := 2) (N := some 19) #[tt,tt,tt,ff,ff,ff,ff,ff,ff,ff] HT_ ?_
        refine pu (i := 4) (N := some 21) #[tt,tt,tt,ff,tt,ff,ff,ff,ff,ff] HT_ ?_
        refine pu (i := 5) (N := some 22) #[tt,tt,tt,ff,tt,tt,ff,ff,ff,ff] HT_ ?_
        refine pu (i := 6) (N := some 23) #[tt,tt,tt,ff,tt,tt,tt,ff,ff,ff] HT_ ?_
        refine tk (i := 3) (N := some 20) #[tt,tt,tt,tt,tt,tt,tt,ff,ff,ff] HT_ HW_ hHeld ?_
        refine tk (i := 7) (N := some 24) #[tt,tt,tt,tt,tt,tt,tt,tt,ff,ff] HT_ HW_ hHeld ?_
        refine on (i := 8) (N := some 25) #[tt,tt,tt,tt,tt,tt,tt,tt,tt,ff] HT_ (fun K hK => ?_)
        refine goes_ Try.func20 (by kernel_rfl) rfl #[.agg #[.int .i64 ((rd_T25 l0 g0).f0), .int .i64 ((rd_T25 l0 g0).f1), .slice gL ((rd_T25 l0 g0).f2).length gM], .agg #[.int .i64 ((rd_T25 l1 g0).f0), .int .i64 ((rd_T25 l1 g0).f1), .slice gN ((rd_T25 l1 g0).f2).length gO]] (by rfl) rfl rfl (by (try simp only [List.map_toArray, List.map_cons, List.map_nil]); first | done | rfl | (simp only [List.length_drop, List.length_take]; rfl)) ?_
        with_reducible refine (laws_eqClock.calls_of k1 (ih k1 (by have := HK1.1; omega)) ((rd_T25 l0 g0).f0) ((rd_T25 l0 g0).f1) _ _ ((rd_T25 l0 g0).f2) ((rd_T25 l1 g0).f0) ((rd_T25 l1 g0).f1) _ _ ((rd_T25 l1 g0).f2) true _ ?side1 ?side2 ?side3 ?side4 A7.1).mono ?_
        (case side1 => exact cq (Kd.C_below gH.1 HB.1))
        (case side2 => exact gP.1)
        (case side3 => exact cq (Kd.C_below gK.1 HB.1))
        (case side4 => exact gQ.1)
        rintro e w10 ⟨rfl, hb⟩
        refine ⟨_, rfl, ?_⟩
        replace HB := bs HB hb; (try clear hb); (try clear hb2); (try clear hk); (try clear hi)
        refine hK.out _ _ ⟨((HB.1.cell (World.block_lt_of_cell? w _ g6)).trans g6), ((HB.1.cell (World.block_lt_of_cell? w _ g5)).trans g5), ((HB.1.cell (World.block_lt_of_cell? w _ g4)).trans g4), ((HB.1.cell (World.block_lt_of_cell? w _ gC)).trans gC), ((HB.1.cell (World.block_lt_of_cell? w _ gB)).trans gB), ((HB.1.cell (World.block_lt_of_cell? w _ gA)).trans gA)⟩ (fun hHeld => ?_)
        clear hK K
        refine norm_ (a' := ?_) ?_ ?_
        rotate_left
        ·
         show Act.put _ (some 25) _ = _
         simp only [Act.put, List.setIfInBounds_toArray, List.set_cons_zero, List.set_cons_succ, i64_w, i32_w]
         rfl
        refine pu (i := 9) (N := some 26) #[tt,tt,tt,tt,tt,tt,tt,tt,tt,tt] HT_ ?_
        refine done_ (done_of HT_.1 (by kernel_rfl)) ?_
        try go_wp2
        go_roundg k1
        case measure => have := HK1.1; omega
        case rel => exact ⟨(wrap64 (g0 + 1)), rq, H', km, bw⟩
       ·
        replace c8 := Bool.eq_false_iff.mpr c8
        subst c8
        have H1 : (some false) = some r := by rw [if_neg (show ¬ (false = true) by decide)] at H; exact H
        clear H
        have H := H1
        clear H1
        obtain rfl := Option.some.inj H
        try go_wp2
        replace HB := am (below_drew1 HB.1); have gR : 0 ≤ (g0 : Int) := od; have gS : g0 < (l0.length : Int) := od
        obtain ⟨gD, gL, gM, gV, g1, g2, g3, gF, gG⟩ := at_T25 HR0.1 g0 gR gS
        have g4 := g3
        have g5 := g2
        have g6 := g1
        cases gV; replace g1 := hc HB g1; replace g2 := hc HB g2; replace g3 := hc HB g3; have gH := am gG; have gP := am gF; clear gG gF; replace gR := eq_true gR; replace gS := eq_true gS; have gT : 0 ≤ (g0 : Int) := od; have gU : g0 < (l1.length : Int) := od
        obtain ⟨gE, gN, gO, gW, g7, g8, g9, gI, gJ⟩ := at_T25 HR1.1 g0 gT gU
        have gA := g9
        have gB := g8
        have gC := g7
        cases gW; replace g7 := hc HB g7; replace g8 := hc HB g8; replace g9 := hc HB g9; have gK := am gJ; have gQ := am gI; clear gJ gI; replace gT := eq_true gT; replace gU := eq_true gU
        refine start_ (n := 10) (S := fun w' => w'.cell? (gD.add ((g0).toNat * 3)) = some (.int .i64 ((rd_T25 l0 g0).f0)) ∧ w'.cell? ⟨(gD.add ((g0).toNat * 3)).block, (gD.add ((g0).toNat * 3)).off + 1, none⟩ = some (.int .i64 ((rd_T25 l0 g0).f1)) ∧ w'.cell? ⟨(gD.add ((g0).toNat * 3)).block, (gD.add ((g0).toNat * 3)).off + 2, none⟩ = some (.slice gL ((rd_T25 l0 g0).f2).length gM) ∧ w'.cell? (gE.add ((g0).toNat * 3)) = some (.int .i64 ((rd_T25 l1 g0).f0)) ∧ w'.cell? ⟨(gE.add ((g0).toNat * 3)).block, (gE.add ((g0).toNat * 3)).off + 1, none⟩ = some (.int .i64 ((rd_T25 l1 g0).f1)) ∧ w'.cell? ⟨(gE.add ((g0).toNat * 3)).block, (gE.add ((g0).toNat * 3)).off + 2, none⟩ = some (.slice gN ((rd_T25 l1 g0).f2).length gO)) (ds := []) #[ff,ff,ff,ff,ff,ff,ff,ff,ff,ff] (by kernel_rfl) rfl rfl ⟨((HB.1.cell (World.block_lt_of_cell? w _ g6)).trans g6), ((HB.1.cell (World.block_lt_of_cell? w _ g5)).trans g5), ((HB.1.cell (World.block_lt_of_cell? w _ g4)).trans g4), ((HB.1.cell (World.block_lt_of_cell? w _ gC)).trans gC), ((HB.1.cell (World.block_lt_of_cell? w _ gB)).trans gB), ((HB.1.cell (World.block_lt_of_cell? w _ gA)).trans gA)⟩ (fun hHeld => ?_); refine with_tabW laws_eqClockS.tab6 laws_eqClockS.bits6 (fun HT_ HW_ => ?_)
        generalize wr.drew = w11 at HB gH gK g1 g2 g3 g7 g8 g9 hHeld ⊢
        refine pu (i := 0) (N := some 17) #[tt,ff,ff,ff,ff,ff,ff,ff,ff,ff] HT_ ?_
        refine pu (i := 1) (N := some 18) #[tt,tt,ff,ff,ff,ff,ff,ff,ff,ff] HT_ ?_
        refine pu (i := 2) (N := some 19) #[tt,tt,tt,ff,ff,ff,ff,ff,ff,ff] HT_ ?_
        refine pu (i := 4) (N := some 21) #[tt,tt,tt,ff,tt,ff,ff,ff,ff,ff] HT_ ?_
        refine pu (i := 5) (N := some 22) #[tt,tt,tt,ff,tt,tt,ff,ff,ff,ff] HT_ ?_
        refine pu (i := 6) (N := some 23) #[tt,tt,tt,ff,tt,tt,tt,ff,ff,ff] HT_ ?_
        refine tk (i := 3) (N := some 20) #[tt,tt,tt,tt,tt,tt,tt,ff,ff,ff] HT_ HW_ hHeld ?_
        refine tk (i := 7) (N := some 24) #[tt,tt,tt,tt,tt,tt,tt,tt,ff,ff] HT_ HW_ hHeld ?_
        refine on (i := 8) (N := some 25) #[tt,tt,tt,tt,tt,tt,tt,tt,tt,ff] HT_ (fun K hK => ?_)
        refine goes_ Try.func20 (by kernel_rfl) rfl #[.agg #[.int .i64 ((rd_T25 l0 g0).f0), .int .i64 ((rd_T25 l0 g0).f1), .slice gL ((rd_T25 l0 g0).f2).length gM], .agg #[.int .i64 ((rd_T25 l1 g0).f0), .int .i64 ((rd_T25 l1 g0).f1), .slice gN ((rd_T25 l1 g0).f2).length gO]] (by rfl) rfl rfl (by (try simp only [List.map_toArray, List.map_cons, List.map_nil]); first | done | rfl | (simp only [List.length_drop, List.length_take]; rfl)) ?_
        with_reducible refine (laws_eqClock.calls_of k1 (ih k1 (by have := HK1.1; omega)) ((rd_T25 l0 g0).f0) ((rd_T25 l0 g0).f1) _ _ ((rd_T25 l0 g0).f2) ((rd_T25 l1 g0).f0) ((rd_T25 l1 g0).f1) _ _ ((rd_T25 l1 g0).f2) false _ ?side1 ?side2 ?side3 ?side4 A7.1).mono ?_
        (case side1 => exact cq (Kd.C_below gH.1 HB.1))
        (case side2 => exact gP.1)
        (case side3 => exact cq (Kd.C_below gK.1 HB.1))
        (case side4 => exact gQ.1)
        rintro e w12 ⟨rfl, hb⟩
        refine ⟨_, rfl, ?_⟩
        replace HB := bs HB hb; (try clear hb); (try clear hb2); (try clear hk); (try clear hi)
        refine hK.out _ _ ⟨((HB.1.cell (World.block_lt_of_cell? w _ g6)).trans g6), ((HB.1.cell (World.block_lt_of_cell? w _ g5)).trans g5), ((HB.1.cell (World.block_lt_of_cell? w _ g4)).trans g4), ((HB.1.cell (World.block_lt_of_cell? w _ gC)).trans gC), ((HB.1.cell (World.block_lt_of_cell? w _ gB)).trans gB), ((HB.1.cell (World.block_lt_of_cell? w _ gA)).trans gA)⟩ (fun hHeld => ?_)
        clear hK K
        refine norm_ (a' := ?_) ?_ ?_
        rotate_left
        ·
         show Act.put _ (some 25) _ = _
         simp only [Act.put, List.setIfInBounds_toArray, List.set_cons_zero, List.set_cons_succ, i64_w, i32_w]
         rfl
        refine pu (i := 9) (N := some 26) #[tt,tt,tt,tt,tt,tt,tt,tt,tt,tt] HT_ ?_
        refine done_ (done_of HT_.1 (by kernel_rfl)) ?_
        try go_wp2
        go_ret
        exact ⟨by first | rfl | (simp [errW_none, errW_some] <;> rfl) | (simp [*, errW_none, errW_some] <;> rfl), by repeat (first | (with_reducible first | exact HB.1 | apply below_alloc | apply pw_below_drewN | apply below_drew1) | exact HB.1)⟩
      ·
       rw [if_neg c6] at H
       exact absurd H (by simp)
     ·
      rw [if_neg c5] at H
      exact absurd H (by simp)
    ·
     rw [if_neg c4] at H; have c4b0 : decide (g0 < (l0.length : Int)) = false := decide_eq_false c4; clear c4
     obtain rfl := Option.some.inj H
     go_wp2
     go_ret
     exact ⟨by first | rfl | (simp [errW_none, errW_some] <;> rfl) | (simp [*, errW_none, errW_some] <;> rfl), by repeat (first | (with_reducible first | exact HB.1 | apply below_alloc | apply pw_below_drewN | apply below_drew1) | exact HB.1)⟩
 ·
  rw [if_neg c3] at H; have c3b0 : ((l0.length : Int) == (l1.length : Int)) = false := beq_eq_false_iff_ne.mpr c3; have c3b1 : ((l0.length : Int) != (l1.length : Int)) = true := bne_iff_ne.mpr c3
  have c3b2 : (l0.length == l1.length) = false := by first | simpa using c3 | (simp at c3 ⊢; omega)
  obtain rfl := Option.some.inj H
  go_enter Try.func49, Try.ntmps49
  go_wp2
  go_ret
  exact ⟨by first | rfl | (simp [errW_none, errW_some] <;> rfl) | (simp [*, errW_none, errW_some] <;> rfl), by repeat (first | (with_reducible first | exact HB.1 | apply below_alloc | apply pw_below_drewN | apply below_drew1) | exact HB.1)⟩
theorem laws_eqClock.calls (k : Nat) (a0_0 : Int) (a0_1 : Int) (A0_2 : Option Addr) (c0_2 : Nat) (l0_2 : List (S25)) (a1_0 : Int) (a1_1 : Int) (A1_2 : Option Addr) (c1_2 : Nat) (l1_2 : List (S25)) (r : Bool) (w : World) (hr0_2 : Kd.C k25 w A0_2 l0_2.length l0_2) (hc0_2 : l0_2.length ≤ c0_2) (hr1_2 : Kd.C k25 w A1_2 l1_2.length l1_2) (hc1_2 : l1_2.length ≤ c1_2) (h : laws_eqClock.f k a0_0 a0_1 l0_2 a1_0 a1_1 l1_2 = some r) :
  Calls Try.prog 20 #[.agg #[.int .i64 a0_0, .int .i64 a0_1, .slice A0_2 l0_2.length c0_2], .agg #[.int .i64 a1_0, .int .i64 a1_1, .slice A1_2 l1_2.length c1_2]] w fun e w' => e = .returned (.bool r) ∧ Below w.heap.size w w' := laws_eqClock.calls_of k (laws_eqClockS.calls k) a0_0 a0_1 A0_2 c0_2 l0_2 a1_0 a1_1 A1_2 c1_2 l1_2 r w hr0_2 hc0_2 hr1_2 hc1_2 h

end Go.Proofs.Ytfnmjecofgeboaa.PAll
