-- Laid by a program of this session out of the translation's print
import Derived.Test.YtfnmjecofgeboaaPAll0
import Derived.Test.YtfnmjecofgeboaaPAllAb
import Derived.Test.YtfnmjecofgeboaaPAllClk
import Derived.Test.YtfnmjecofgeboaaPAllDraw
import Derived.Test.YtfnmjecofgeboaaPAllIOk
import Derived.Test.YtfnmjecofgeboaaPAllIPass
import Derived.Test.YtfnmjecofgeboaaPAllMn
import Derived.Test.YtfnmjecofgeboaaPAllSPass
namespace Go.Proofs.Ytfnmjecofgeboaa.PAll
open Go.RowKit Go.Proofs.YtfnmjecofgeboaaW.PrintWords Go.Proofs.YtfnmjecofgeboaaW.PrintLast Go.Proofs.YtfnmjecofgeboaaW.PrintMore
attribute [local go_sem] max2_int min2_int max_two min_two max_three min_three max_four min_four   -- for this text's walks alone
set_option linter.unusedVariables false
set_option linter.unusedSimpArgs false

/-! ### spec_DrawClockPass: function 29 -/
def spec_DrawClockPass.f (k : Nat) (l0 : List Int) : Option (Int × Int × (List (S25))) := (spec_l6Open.f l0).bind fun bt366 => ((spec_l92Timed.f k bt366.1 bt366.2).bind fun bt369 => (some (bt369.1, bt369.2.1, bt369.2.2.1)))
theorem spec_DrawClockPass.mono : ∀ a0 k, LeO (spec_DrawClockPass.f k a0) (spec_DrawClockPass.f (k + 1) a0) := by
 intro a0 k
 unfold spec_DrawClockPass.f
 repeat' first
   | (with_reducible exact spec_l92Timed.mono _ _ _)
   | (with_reducible exact LeO.refl _)
   | (with_reducible exact LeO.none _)
   | (with_reducible refine LeO.ite ?_ ?_)
   | (with_reducible refine LeO.bind ?_ (fun _ => ?_))
   | exact spec_l92Timed.mono _ _ _
   | exact LeO.none _
   | refine LeO.ite ?_ ?_
   | refine LeO.bind ?_ (fun _ => ?_)
set_option maxHeartbeats 8000000 in
set_option maxRecDepth 100000 in
theorem spec_DrawClockPass.calls (k : Nat) (A0 : Option Addr) (c0 : Nat) (l0 : List Int) (r1 : Int) (r2 : Int) (r3 : List (S25)) (w : World) (hr0 : Kd.C (Kd.int .u8) w A0 l0.length l0) (hc0 : l0.length ≤ c0) (h : spec_DrawClockPass.f k l0 = some (r1, r2, r3)) :
  Calls Try.prog 29 #[.slice A0 l0.length c0] w fun e w' => ∃ v2_ : Value, e = .returned (.agg #[.int .i64 r1, .int .i64 r2, v2_]) ∧ Kd.N k25 25 w' w.heap.size (fun k_ => (w.heap.size ≤ k_)) v2_ r3 ∧ Below w.heap.size w w' := by
 have h5 := Try.underlying25
 have HR0 := am hr0; have HC0 := am hc0; clear hr0 hc0; have HB := am (Below.refl w.heap.size w)
 have H : ((spec_l6Open.f l0).bind fun gH => ((spec_l92Timed.f k gH.1 gH.2).bind fun g3 => (some (g3.1, g3.2.1, g3.2.2.1)))) = some (r1, r2, r3) := h
 clear h
 replace H := Option.bind_eq_some_iff.mp H
 obtain ⟨⟨gD, gI⟩, A20, H⟩ := H
 replace H : ((spec_l92Timed.f k gD gI).bind fun g3 => (some (g3.1, g3.2.1, g3.2.2.1))) = some (r1, r2, r3) := H
 have A2 := am A20
 clear A20
 replace H := Option.bind_eq_some_iff.mp H
 obtain ⟨⟨gE, gF, gG, gJ⟩, A30, H⟩ := H
 replace H : (some (gE, gF, gG)) = some (r1, r2, r3) := H
 have A3 := am A30
 clear A30
 simp only [Option.some.injEq, Prod.mk.injEq] at H
 obtain ⟨rfl, rfl, rfl⟩ := H
 go_enter Try.func29, Try.ntmps29
 go_wp2_with (first | ((with_reducible refine gate_dst (N := 2) rfl ?_); refine bx (cs := #[.int .i64 0, .int .i64 0, .slice none 0 0]) (t := 25) fun g2 hg w4 hbox hb => ?_; have g0 := am (hbox); have h1 := bz HB hg; have gM := bz HB hg; replace HB := bs HB hb; clear hb hbox hg) | ((with_reducible refine gate_callee (f := 37) rfl ?_); refine gl (some 6) Try.func37 #[.slice A0 l0.length c0] ?_; (with_reducible refine (spec_l6Open.calls _ _ l0 gD gI w _ ?side1 ?side2 ?side3 A2.1).mono ?_); (case side1 => exact bq); (case side2 => exact HR0.1); (case side3 => exact HC0.1); rintro e w5 ⟨g7, rfl, hi, hb, hb2⟩; refine ⟨_, rfl, ?_⟩; replace HB := am (hb); have g4 := am (hi); have g1 := am (IsS65.ne_blk hi (blk_below (g := g2) (o := .cells #[.int .i64 0, .int .i64 0, .slice none 0 0] 25 (0, 0)) (kf g0).1 hb2) (by decide)); have g5 := am (Ne.symm (IsS65.ne_blk hi (blk_below (g := g2) (o := .cells #[.int .i64 0, .int .i64 0, .slice none 0 0] 25 (0, 0)) (kf g0).1 hb2) (by decide))); replace g0 := kb g0 hb2; clear hb hb2 hi) | ((with_reducible refine gate_callee (f := 38) rfl ?_); refine gl (some 8) Try.func38 #[.pointer (some ⟨g7, 0, none⟩)] ?_; (with_reducible refine (spec_l92Timed.calls k g7 gD gI gE gF gG gJ w _ ?side1 ?side2 A3.1).mono ?_); (case side1 => exact ip); (case side2 => exact bq); rintro e w6 ⟨h6, rfl, ho0, hi, hb, hk⟩; refine ⟨_, rfl, ?_⟩; have g8 := nm HB ho0 (fun k_ => (w.heap.size ≤ k_) ∧ k_ ≠ g2 ∧ k_ ≠ g7) (fun k_ hk_ => ⟨(zt HB hk_), (fb g0 k_ hk_), (IsS65.fresh ip k_ hk_)⟩); replace g0 := kk g0 g5 hk; replace HB := am (hb); replace g4 := am (hi); clear hb hk hi ho0) | ((with_reducible refine gate_dst (N := 4) rfl ?_); refine bx (cs := #[.int .i64 0, .int .i64 0, .slice none 0 0]) (t := 25) fun g6 hg w7 hbox hb => ?_; replace g8 := nb g8 hg hb; have gN := am (hbox); have h2 := bz HB hg; have gO := bz HB hg; replace HB := bs HB hb; have g9 := nl g0 hg; have gA := ng g0 hg; replace g0 := kb g0 hb; have gB := am ((by rw [hg]; exact Nat.ne_of_lt (IsS65.lt (show IsS65 w _ g7 gD gJ from by repeat (first | (with_reducible first | exact g4.1 | apply IsS65.alloc | apply IsS65.drewN | apply IsS65.drew | apply IsS65.set_1 | refine IsS65.far ?_ g1.1 _) | exact g4.1))) : g7 ≠ g6)); have gC := am ((by rw [hg]; exact Nat.ne_of_gt (IsS65.lt (show IsS65 w _ g7 gD gJ from by repeat (first | (with_reducible first | exact g4.1 | apply IsS65.alloc | apply IsS65.drewN | apply IsS65.drew | apply IsS65.set_1 | refine IsS65.far ?_ g1.1 _) | exact g4.1))) : g6 ≠ g7)); replace g4 := am (IsS65.below ip hb); clear hb hbox hg; have h7 := gA.1; have h8 := g9.1; have h9 := gC.1; have hA := gB.1; obtain ⟨gP, gQ, gR, gS, gT, gU⟩ := cs3 gN; obtain ⟨gK, gL, rfl⟩ := Kd.N_slice g8.1; have h3 := g5.1; have h4 := g1.1; obtain ⟨gV, gW, gX, gY, gZ, h0⟩ := cs3 g0))
 refine bodyPost_ret (results_cell_row rfl _ _ g2 25 #[.int .i64 gE, .int .i64 gF, .slice gK gG.length gL] (0, 0) _ rfl (kf g0).1 Try.underlying25 rfl (by kernel_rfl)) rfl ?_
 exact ⟨_, by first | rfl | (simp [errW_none, errW_some] <;> rfl) | (simp [*, errW_none, errW_some] <;> rfl), by (with_reducible repeat (first | apply Kd.N_alloc | apply Kd.N_drewN | apply Kd.N_drew)); exact Kd.N_mono (Kd.N_far (p := ⟨g2, 2, none⟩) (Kd.N_far (p := ⟨g2, 1, none⟩) (Kd.N_far (p := ⟨g2, 0, none⟩) (Kd.N_far (p := ⟨g6, 2, none⟩) (Kd.N_far (p := ⟨g6, 1, none⟩) (Kd.N_far (p := ⟨g6, 0, none⟩) (Kd.N_mono (Kd.N_mono g8.1 (fun k_ hk => (⟨hk, hk.2⟩ : _ ∧ k_ ≠ g6))) (fun k_ hk => (⟨hk, hk.1.1.2.1⟩ : _ ∧ k_ ≠ g2))) mq (.int .i64 gE)) mq (.int .i64 gF)) mq (.slice gK gG.length gL)) mq (.int .i64 gE)) mq (.int .i64 gF)) mq (.slice gK gG.length gL)) mq, by repeat (first | (with_reducible first | exact HB.1 | apply below_alloc | apply pw_below_drewN | apply below_drew1 | refine below_set ?_ (IsS65.ge g4.1) | refine below_set ?_ gM.1 | refine below_set ?_ gO.1) | exact HB.1)⟩



/-! ### laws_FnClockPass: function 7 -/
def laws_FnClockPass.j0 : Nat → Bool → Bool → Int → Int → List (S25) → Int → Int → List (S25) → Option (Bool)
 | 0, _, _, _, _, _, _, _, _ => none
 | k + 1, x5, x38, x566000, x566001, x566002, x573000, x573001, x573002 => if x38 = true then (some false) else ((some (([(⟨x566000, x566001, x566002⟩ : S25)] : List (S25)) : List (S25))).bind fun y581 => ((impl_ClockOk.f k 2 2 y581).bind fun t585 => (if t585 = true then ((impl_ClockPass.f k 2 2 y581).bind fun bt586 => ((impl_ClockPass.f k bt586.1 bt586.2.1 bt586.2.2.1).bind fun bt593 => ((impl_ClockPass.f k bt593.1 bt593.2.1 bt593.2.2.1).bind fun bt600 => (if bt586.2.2.2 = true then (if bt593.2.2.2 = true then (if (bt600.2.2.2 == x5) = true then ((laws_mnClock.f k bt586.1 bt586.2.1 bt586.2.2.1 2 1 (([(⟨x566000, x566001, x566002⟩ : S25)] : List (S25)))).bind fun t610 => (if t610 = true then ((laws_mnClock.f k bt593.1 bt593.2.1 bt593.2.2.1 x566000 x566001 x566002).bind fun t611 => (if t611 = true then (if bt600.2.2.2 = true then ((laws_mnClock.f k bt600.1 bt600.2.1 bt600.2.2.1 x573000 x573001 x573002).bind fun t612 => (some t612)) else (some true)) else (some false))) else (some false))) else (some false)) else (some false)) else (some false))))) else (some true))))
def laws_FnClockPass.f (k : Nat) (l0 : List Int) : Option (Bool) := if (l0.length : Int) > 1048576 then (some true) else ((spec_DrawClockPass.f k l0).bind fun bt560 => ((impl_ClockPass.f k bt560.1 bt560.2.1 bt560.2.2).bind fun bt566 => ((spec_ClockPass.f k bt560.1 bt560.2.1 bt560.2.2).bind fun bt573 => ((laws_mnClock.f k bt566.1 bt566.2.1 bt566.2.2.1 bt573.1 bt573.2.1 bt573.2.2.1).bind fun t580 => (if t580 = true then (laws_FnClockPass.j0 k bt566.2.2.2 (bt566.2.2.2 != bt573.2.2.2) bt560.1 bt560.2.1 bt560.2.2 bt566.1 bt566.2.1 bt566.2.2.1) else (laws_FnClockPass.j0 k bt566.2.2.2 true bt560.1 bt560.2.1 bt560.2.2 bt566.1 bt566.2.1 bt566.2.2.1))))))
theorem laws_FnClockPass.mono_l : ∀ k, (∀ y0 y1 y2 y3 y4 y5 y6 y7, LeO (laws_FnClockPass.j0 k y0 y1 y2 y3 y4 y5 y6 y7) (laws_FnClockPass.j0 (k + 1) y0 y1 y2 y3 y4 y5 y6 y7))
 | 0 => fun _ _ _ _ _ _ _ _ r h => by simp [laws_FnClockPass.j0] at h
 | k + 1 => by
  have ih0 := laws_FnClockPass.mono_l k
  ·
   intro y0 y1 y2 y3 y4 y5 y6 y7
   unfold laws_FnClockPass.j0
   repeat' first
   | (with_reducible exact ih0 _ _ _ _ _ _ _ _)
   | (with_reducible exact impl_ClockOk.mono _ _ _ _)
   | (with_reducible exact impl_ClockPass.mono _ _ _ _)
   | (with_reducible exact laws_mnClock.mono _ _ _ _ _ _ _)
   | (with_reducible exact spec_ClockPass.mono _ _ _ _)
   | (with_reducible exact spec_DrawClockPass.mono _ _)
   | (with_reducible exact LeO.refl _)
   | (with_reducible exact LeO.none _)
   | (with_reducible refine LeO.ite ?_ ?_)
   | (with_reducible refine LeO.bind ?_ (fun _ => ?_))
   | exact ih0 _ _ _ _ _ _ _ _
   | exact impl_ClockOk.mono _ _ _ _
   | exact impl_ClockPass.mono _ _ _ _
   | exact laws_mnClock.mono _ _ _ _ _ _ _
   | exact spec_ClockPass.mono _ _ _ _
   | exact spec_DrawClockPass.mono _ _
   | exact LeO.none _
   | refine LeO.ite ?_ ?_
   | refine LeO.bind ?_ (fun _ => ?_)
theorem laws_FnClockPass.mono : ∀ a0 k, LeO (laws_FnClockPass.f k a0) (laws_FnClockPass.f (k + 1) a0) := by
 intro a0 k
 have ih0 := laws_FnClockPass.mono_l k
 unfold laws_FnClockPass.f
 repeat' first
   | (with_reducible exact ih0 _ _ _ _ _ _ _ _)
   | (with_reducible exact impl_ClockOk.mono _ _ _ _)
   | (with_reducible exact impl_ClockPass.mono _ _ _ _)
   | (with_reducible exact laws_mnClock.mono _ _ _ _ _ _ _)
   | (with_reducible exact spec_ClockPass.mono _ _ _ _)
   | (with_reducible exact spec_DrawClockPass.mono _ _)
   | (with_reducible exact LeO.refl _)
   | (with_reducible exact LeO.none _)
   | (with_reducible refine LeO.ite ?_ ?_)
   | (with_reducible refine LeO.bind ?_ (fun _ => ?_))
   | exact ih0 _ _ _ _ _ _ _ _
   | exact impl_ClockOk.mono _ _ _ _
   | exact impl_ClockPass.mono _ _ _ _
   | exact laws_mnClock.mono _ _ _ _ _ _ _
   | exact spec_ClockPass.mono _ _ _ _
   | exact spec_DrawClockPass.mono _ _
   | exact LeO.none _
   | refine LeO.ite ?_ ?_
   | refine LeO.bind ?_ (fun _ => ?_)
end Go.Proofs.Ytfnmjecofgeboaa.PAll
