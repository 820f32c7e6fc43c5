-- Laid by a program of this session out of the translation's print
import Derived.Test.YtfnmjecofgeboaaPAll0
import Derived.Test.YtfnmjecofgeboaaPAllAb
import Derived.Test.YtfnmjecofgeboaaPAllClk
import Derived.Test.YtfnmjecofgeboaaPAllDraw
import Derived.Test.YtfnmjecofgeboaaPAllIOk
import Derived.Test.YtfnmjecofgeboaaPAllIPass
import Derived.Test.YtfnmjecofgeboaaPAllMn
import Derived.Test.YtfnmjecofgeboaaPAllSPass
namespace Go.Proofs.Ytfnmjecofgeboaa.PAll
open Go.RowKit Go.Proofs.YtfnmjecofgeboaaW.PrintWords Go.Proofs.YtfnmjecofgeboaaW.PrintLast Go.Proofs.YtfnmjecofgeboaaW.PrintMore
attribute [local go_sem] max2_int min2_int max_two min_two max_three min_three max_four min_four   -- for this text's walks alone
set_option linter.unusedVariables false
set_option linter.unusedSimpArgs false

/-! ### spec_DrawClockLater: function 36 -/
def spec_DrawClockLater.f (k : Nat) (l0 : List Int) : Option (Int × Int × (List (S25)) × Int) := (spec_l6Open.f l0).bind fun bt774 => ((spec_l92Timed.f k bt774.1 bt774.2).bind fun bt777 => ((spec_l6Rd_pick.f k bt774.1 bt777.2.2.2 8).bind fun bt784 => ((spec_l6Rd_pick.f k bt774.1 bt784.2 20).bind fun bt786 => (if bt786.1 = 0 then ((some (([(-1), 100, 101] : List Int) : List Int)).bind fun y788 => ((spec_l6Rd_pick.f k bt774.1 bt786.2 3).bind fun bt791 => (if 0 ≤ bt791.1 then (if bt791.1 < (y788.length : Int) then (some (bt777.1, bt777.2.1, bt777.2.2.1, rd y788 bt791.1)) else (none)) else (none)))) else (some (bt777.1, bt777.2.1, bt777.2.2.1, bt784.1))))))
theorem spec_DrawClockLater.mono : ∀ a0 k, LeO (spec_DrawClockLater.f k a0) (spec_DrawClockLater.f (k + 1) a0) := by
 intro a0 k
 unfold spec_DrawClockLater.f
 repeat' first
   | (with_reducible exact spec_l6Rd_pick.mono _ _ _ _)
   | (with_reducible exact spec_l92Timed.mono _ _ _)
   | (with_reducible exact LeO.refl _)
   | (with_reducible exact LeO.none _)
   | (with_reducible refine LeO.ite ?_ ?_)
   | (with_reducible refine LeO.bind ?_ (fun _ => ?_))
   | exact spec_l6Rd_pick.mono _ _ _ _
   | exact spec_l92Timed.mono _ _ _
   | exact LeO.none _
   | refine LeO.ite ?_ ?_
   | refine LeO.bind ?_ (fun _ => ?_)
set_option maxHeartbeats 8000000 in
set_option maxRecDepth 100000 in
theorem spec_DrawClockLater.calls (k : Nat) (A0 : Option Addr) (c0 : Nat) (l0 : List Int) (r1 : Int) (r2 : Int) (r3 : List (S25)) (r4 : Int) (w : World) (hr0 : Kd.C (Kd.int .u8) w A0 l0.length l0) (hc0 : l0.length ≤ c0) (h : spec_DrawClockLater.f k l0 = some (r1, r2, r3, r4)) :
  Calls Try.prog 36 #[.slice A0 l0.length c0] w fun e w' => ∃ v2_ : Value, e = .returned (.tuple #[.agg #[.int .i64 r1, .int .i64 r2, v2_], .int .i64 r4]) ∧ Kd.N k25 25 w' w.heap.size (fun k_ => (w.heap.size ≤ k_)) v2_ r3 ∧ Below w.heap.size w w' := by
 have iP := Try.underlying25
 have HR0 := am hr0; have HC0 := am hc0; clear hr0 hc0; have HB := am (Below.refl w.heap.size w)
 have H : ((spec_l6Open.f l0).bind fun gO => ((spec_l92Timed.f k gO.1 gO.2).bind fun gB => ((spec_l6Rd_pick.f k gO.1 gB.2.2.2 8).bind fun gK => ((spec_l6Rd_pick.f k gO.1 gK.2 20).bind fun gD => (if gD.1 = 0 then ((some (([(-1), 100, 101] : List Int) : List Int)).bind fun gC => ((spec_l6Rd_pick.f k gO.1 gD.2 3).bind fun g2 => (if 0 ≤ g2.1 then (if g2.1 < (gC.length : Int) then (some (gB.1, gB.2.1, gB.2.2.1, rd gC g2.1)) else (none)) else (none)))) else (some (gB.1, gB.2.1, gB.2.2.1, gK.1))))))) = some (r1, r2, r3, r4) := h
 clear h
 replace H := Option.bind_eq_some_iff.mp H
 obtain ⟨⟨gA, gU⟩, A20, H⟩ := H
 replace H : ((spec_l92Timed.f k gA gU).bind fun gB => ((spec_l6Rd_pick.f k gA gB.2.2.2 8).bind fun gK => ((spec_l6Rd_pick.f k gA gK.2 20).bind fun gD => (if gD.1 = 0 then ((some (([(-1), 100, 101] : List Int) : List Int)).bind fun gC => ((spec_l6Rd_pick.f k gA gD.2 3).bind fun g2 => (if 0 ≤ g2.1 then (if g2.1 < (gC.length : Int) then (some (gB.1, gB.2.1, gB.2.2.1, rd gC g2.1)) else (none)) else (none)))) else (some (gB.1, gB.2.1, gB.2.2.1, gK.1)))))) = some (r1, r2, r3, r4) := H
 have A2 := am A20
 clear A20
 replace H := Option.bind_eq_some_iff.mp H
 obtain ⟨⟨gF, gG, gH, gN⟩, A30, H⟩ := H
 replace H : ((spec_l6Rd_pick.f k gA gN 8).bind fun gK => ((spec_l6Rd_pick.f k gA gK.2 20).bind fun gD => (if gD.1 = 0 then ((some (([(-1), 100, 101] : List Int) : List Int)).bind fun gC => ((spec_l6Rd_pick.f k gA gD.2 3).bind fun g2 => (if 0 ≤ g2.1 then (if g2.1 < (gC.length : Int) then (some (gF, gG, gH, rd gC g2.1)) else (none)) else (none)))) else (some (gF, gG, gH, gK.1))))) = some (r1, r2, r3, r4) := H
 have A3 := am A30
 clear A30
 replace H := Option.bind_eq_some_iff.mp H
 obtain ⟨⟨gY, gV⟩, A40, H⟩ := H
 replace H : ((spec_l6Rd_pick.f k gA gV 20).bind fun gD => (if gD.1 = 0 then ((some (([(-1), 100, 101] : List Int) : List Int)).bind fun gC => ((spec_l6Rd_pick.f k gA gD.2 3).bind fun g2 => (if 0 ≤ g2.1 then (if g2.1 < (gC.length : Int) then (some (gF, gG, gH, rd gC g2.1)) else (none)) else (none)))) else (some (gF, gG, gH, gY)))) = some (r1, r2, r3, r4) := H
 have A4 := am A40
 clear A40
 replace H := Option.bind_eq_some_iff.mp H
 obtain ⟨⟨gP, gS⟩, A50, H⟩ := H
 replace H : (if gP = 0 then ((some (([(-1), 100, 101] : List Int) : List Int)).bind fun gC => ((spec_l6Rd_pick.f k gA gS 3).bind fun g2 => (if 0 ≤ g2.1 then (if g2.1 < (gC.length : Int) then (some (gF, gG, gH, rd gC g2.1)) else (none)) else (none)))) else (some (gF, gG, gH, gY))) = some (r1, r2, r3, r4) := H
 have A5 := am A50
 clear A50
 by_cases c6 : gP = 0
 ·
  rw [if_pos c6] at H; have c6b0 : (gP == 0) = true := beq_iff_eq.mpr c6; have c6b1 : (gP != 0) = false := bne_eq_false_iff_eq.mpr c6; clear c6
  obtain ⟨gC, gQ⟩ : ∃ y_ : List Int, y_ = (([(-1), 100, 101] : List Int)) := ⟨_, rfl⟩
  replace H : ((spec_l6Rd_pick.f k gA gS 3).bind fun g2 => (if 0 ≤ g2.1 then (if g2.1 < (gC.length : Int) then (some (gF, gG, gH, rd gC g2.1)) else (none)) else (none))) = some (r1, r2, r3, r4) := by first | (rw [gQ]; with_reducible exact H) | (have H2_ := (Option.bind_some _ _).symm.trans H; rw [gQ]; with_reducible exact H2_) | (have H2_ := (Option.bind_some _ _).symm.trans H; with_reducible exact H2_) | with_reducible exact H | (rw [gQ]; exact H) | exact H
  have gZ := am gQ
  clear gQ
  replace H := Option.bind_eq_some_iff.mp H
  obtain ⟨⟨gL, i9⟩, A70, H⟩ := H
  replace H : (if 0 ≤ gL then (if gL < (gC.length : Int) then (some (gF, gG, gH, rd gC gL)) else (none)) else (none)) = some (r1, r2, r3, r4) := H
  have A7 := am A70
  clear A70
  by_cases c8 : 0 ≤ gL
  ·
   rw [if_pos c8] at H; have c8b0 : decide (0 ≤ gL) = true := decide_eq_true c8; clear c8
   by_cases c9 : gL < (gC.length : Int)
   ·
    rw [if_pos c9] at H; have c9b0 : decide (gL < (gC.length : Int)) = true := decide_eq_true c9; clear c9
    simp only [Option.some.injEq, Prod.mk.injEq] at H
    obtain ⟨rfl, rfl, rfl, rfl⟩ := H
    go_enter Try.func36, Try.ntmps36
    go_wp2_with (first | ((with_reducible refine gate_dst (N := 2) rfl ?_); refine bx (cs := #[.int .i64 0, .int .i64 0, .slice none 0 0]) (t := 25) fun g7 hg w10 hbox hb => ?_; have g0 := am (hbox); have h6 := bz HB hg; have gW := bz HB hg; replace HB := bs HB hb; clear hb hbox hg) | ((with_reducible refine gate_callee (f := 37) rfl ?_); refine gl (some 8) Try.func37 #[.slice A0 l0.length c0] ?_; (with_reducible refine (spec_l6Open.calls _ _ l0 gA gU w _ ?side1 ?side2 ?side3 A2.1).mono ?_); (case side1 => exact bq); (case side2 => exact HR0.1); (case side3 => exact HC0.1); rintro e w11 ⟨g8, rfl, hi, hb, hb2⟩; refine ⟨_, rfl, ?_⟩; replace HB := am (hb); have g3 := am (hi); have g5 := am (IsS65.ne_blk hi (blk_below (g := g7) (o := .cells #[.int .i64 0, .int .i64 0, .slice none 0 0] 25 (0, 0)) (kf g0).1 hb2) (by decide)); have g1 := am (Ne.symm (IsS65.ne_blk hi (blk_below (g := g7) (o := .cells #[.int .i64 0, .int .i64 0, .slice none 0 0] 25 (0, 0)) (kf g0).1 hb2) (by decide))); replace g0 := kb g0 hb2; clear hb hb2 hi) | ((with_reducible refine gate_callee (f := 38) rfl ?_); refine gl (some 10) Try.func38 #[.pointer (some ⟨g8, 0, none⟩)] ?_; (with_reducible refine (spec_l92Timed.calls k g8 gA gU gF gG gH gN w _ ?side1 ?side2 A3.1).mono ?_); (case side1 => exact ip); (case side2 => exact bq); rintro e w12 ⟨iA, rfl, ho0, hi, hb, hk⟩; refine ⟨_, rfl, ?_⟩; have g4 := nm HB ho0 (fun k_ => (w.heap.size ≤ k_) ∧ k_ ≠ g7 ∧ k_ ≠ g8) (fun k_ hk_ => ⟨(zt HB hk_), (fb g0 k_ hk_), (IsS65.fresh ip k_ hk_)⟩); replace g0 := kk g0 g1 hk; replace HB := am (hb); replace g3 := am (hi); clear hb hk hi ho0) | ((with_reducible refine gate_dst (N := 5) rfl ?_); refine bx (cs := #[.int .i64 0, .int .i64 0, .slice none 0 0]) (t := 25) fun gM hg w13 hbox hb => ?_; replace g4 := nb g4 hg hb; have g9 := am (hbox); have h7 := bz HB hg; have gX := bz HB hg; replace HB := bs HB hb; have gI := nl g0 hg; have gJ := ng g0 hg; replace g0 := kb g0 hb; have gE := am ((by rw [hg]; exact Nat.ne_of_lt (IsS65.lt (show IsS65 w _ g8 gA gN from by repeat (first | (with_reducible first | exact g3.1 | apply IsS65.alloc | apply IsS65.drewN | apply IsS65.drew | apply IsS65.set_1 | refine IsS65.far ?_ g5.1 _) | exact g3.1))) : g8 ≠ gM)); have g6 := am ((by rw [hg]; exact Nat.ne_of_gt (IsS65.lt (show IsS65 w _ g8 gA gN from by repeat (first | (with_reducible first | exact g3.1 | apply IsS65.alloc | apply IsS65.drewN | apply IsS65.drew | apply IsS65.set_1 | refine IsS65.far ?_ g5.1 _) | exact g3.1))) : gM ≠ g8)); replace g3 := am (IsS65.below ip hb); clear hb hbox hg; have iC := gJ.1; have iD := gI.1; have iE := g6.1; have iF := gE.1; obtain ⟨h8, h9, hA, hB, hC, hD⟩ := cs3 g9; obtain ⟨h0, h1, rfl⟩ := Kd.N_slice g4.1) | ((with_reducible refine gate_callee (f := 55) rfl ?_); refine gl (some 12) Try.func55 #[.pointer (some ⟨g8, 0, none⟩), .int .i64 8] ?_; (with_reducible refine (spec_l6Rd_pick.calls k g8 gA gN 8 gY gV w _ ?side1 ?side2 A4.1).mono ?_); (case side1 => exact ip); (case side2 => exact bq); rintro e w18 ⟨rfl, hi, hb, hk⟩; refine ⟨_, rfl, ?_⟩; replace g0 := kk g0 g1 hk; replace g4 := kn g4 hk; replace g9 := am (KeepBut.blk hk (g' := gM) (o := .cells #[.int .i64 gF, .int .i64 gG, .slice h0 gH.length h1] 25 (0, 0)) (kf g9).1 g6.1 (by simp)); replace HB := am (hb); replace g3 := am (hi); clear hb hk hi) | ((with_reducible refine gate_callee (f := 55) rfl ?_); refine gl (some 14) Try.func55 #[.pointer (some ⟨g8, 0, none⟩), .int .i64 20] ?_; (with_reducible refine (spec_l6Rd_pick.calls k g8 gA gV 20 gP gS w _ ?side1 ?side2 A5.1).mono ?_); (case side1 => exact ip); (case side2 => exact bq); rintro e w19 ⟨rfl, hi, hb, hk⟩; refine ⟨_, rfl, ?_⟩; replace g0 := kk g0 g1 hk; replace g4 := kn g4 hk; replace g9 := kk g9 g6 hk; replace HB := am (hb); replace g3 := am (hi); clear hb hk hi) | ((with_reducible refine gate_dst (N := 16) rfl ?_); refine Kd.R_lit (Kd.int .i64) _ 3 ?hg (N := 16) ?hd (xs := ([(-1), 100, 101] : List Int)) (inner := [.int .i64 (-1), .int .i64 100, .int .i64 101]) (ok := fun _ => True) (okp := fun _ => True) ?hr ?hp (fun _ hk => hk) trivial (Below.refl _ _) (Nat.le_refl _) (by simp) ?_; (case hd => rfl); (case hg => rfl); (case hr => first | (go_simp; done) | (go_simp; rfl)); (case hp => exact (Reps.one (show Kd.M (Kd.int .i64) _ _ _ (-1) [.int .i64 (-1)] from rfl) (Reps.one (show Kd.M (Kd.int .i64) _ _ _ 100 [.int .i64 100] from rfl) (Reps.one (show Kd.M (Kd.int .i64) _ _ _ 101 [.int .i64 101] from rfl) (Reps.none _ _))))); intro iQ w20 gT hb hg_ hnew_; clear hg_ hnew_; (first | rw [← gZ.1] at gT | (simp only [Int.reduceToNat] at gT; rw [← gZ.1] at gT)); replace g4 := am (Kd.N_elder' (n1 g4).1 (Kd.R_base gT) hb); have gR := am (Kd.R_lower (Kd.R_newM (M := fun k_ => (w.heap.size ≤ k_)) gT (below_size bq) (fun k_ h_ => h_)) (below_size bq)); replace g0 := kb g0 hb; replace g3 := am (IsS65.below ip hb); replace g9 := kb g9 hb; replace HB := bs HB hb; clear hb gT) | ((with_reducible refine gate_callee (f := 55) rfl ?_); refine gl (some 18) Try.func55 #[.pointer (some ⟨g8, 0, none⟩), .int .i64 3] ?_; (with_reducible refine (spec_l6Rd_pick.calls k g8 gA gS 3 gL i9 w _ ?side1 ?side2 A7.1).mono ?_); (case side1 => exact ip); (case side2 => exact bq); rintro e w22 ⟨rfl, hi, hb, hk⟩; refine ⟨_, rfl, ?_⟩; replace g0 := kk g0 g1 hk; replace g4 := kn g4 hk; replace g9 := kk g9 g6 hk; replace gR := am (Kd.R_mono (Kd.R_keep (IsS65.apart (show IsS65 w _ g8 gA gS from by repeat (first | (with_reducible first | exact g3.1 | apply IsS65.alloc | apply IsS65.drewN | apply IsS65.drew | apply IsS65.set_1 | refine IsS65.far ?_ g5.1 _ | refine IsS65.far ?_ gE.1 _) | exact g3.1)) (by (with_reducible repeat (first | apply Kd.R_alloc | apply Kd.R_drewN | apply Kd.R_drew)); exact gR.1) (by decide)) hk (fun _ h => h.2)) (fun _ h => h.1)); replace HB := am (hb); replace g3 := am (hi); clear hb hk hi; obtain ⟨iR, iS, rfl⟩ := Kd.R_slice gR.1; have h2 : 0 ≤ (gL : Int) := od; have h3 : gL < (gC.length : Int) := od; obtain ⟨iG, iB, hE⟩ := Kd.at_int (Kd.R_reads' gR.1).2.2 gL h2 h3; cases iB; replace h2 := eq_true h2; replace h3 := eq_true h3; obtain ⟨hF, hG, hH, hI, hJ, hK⟩ := cs3 g9; have iH := g1.1; have iI := g5.1; obtain ⟨hL, hM, hN, hO, hP, hQ⟩ := cs3 g0))
    refine bodyPost_ret (results_ct rfl _ _ g7 25 #[.int .i64 gF, .int .i64 gG, .slice h0 gH.length h1] (0, 0) _ rfl (kf g0).1 Try.underlying25 rfl (by kernel_rfl)) rfl ?_
    exact ⟨_, by first | rfl | (simp [errW_none, errW_some] <;> rfl) | (simp [*, errW_none, errW_some] <;> rfl), by (with_reducible repeat (first | apply Kd.N_alloc | apply Kd.N_drewN | apply Kd.N_drew)); exact Kd.N_mono (Kd.N_far (p := ⟨g7, 2, none⟩) (Kd.N_far (p := ⟨g7, 1, none⟩) (Kd.N_far (p := ⟨g7, 0, none⟩) (Kd.N_mono g4.1 (fun k_ hk => (⟨hk, hk.1.1.2.1⟩ : _ ∧ k_ ≠ g7))) mq (.int .i64 gF)) mq (.int .i64 gG)) mq (.slice h0 gH.length h1)) mq, by repeat (first | (with_reducible first | exact HB.1 | apply below_alloc | apply pw_below_drewN | apply below_drew1 | refine below_set ?_ (IsS65.ge g3.1) | refine below_set ?_ gW.1 | refine below_set ?_ gX.1) | exact HB.1)⟩
   ·
    rw [if_neg c9] at H
    exact absurd H (by simp)
  ·
   rw [if_neg c8] at H
   exact absurd H (by simp)
 ·
  rw [if_neg c6] at H; have c6b0 : (gP == 0) = false := beq_eq_false_iff_ne.mpr c6; have c6b1 : (gP != 0) = true := bne_iff_ne.mpr c6
  simp only [Option.some.injEq, Prod.mk.injEq] at H
  obtain ⟨rfl, rfl, rfl, rfl⟩ := H
  go_enter Try.func36, Try.ntmps36
  go_wp2_with (first | ((with_reducible refine gate_dst (N := 2) rfl ?_); refine bx (cs := #[.int .i64 0, .int .i64 0, .slice none 0 0]) (t := 25) fun g7 hg w27 hbox hb => ?_; have g0 := am (hbox); have h6 := bz HB hg; have gW := bz HB hg; replace HB := bs HB hb; clear hb hbox hg) | ((with_reducible refine gate_callee (f := 37) rfl ?_); refine gl (some 8) Try.func37 #[.slice A0 l0.length c0] ?_; (with_reducible refine (spec_l6Open.calls _ _ l0 gA gU w _ ?side1 ?side2 ?side3 A2.1).mono ?_); (case side1 => exact bq); (case side2 => exact HR0.1); (case side3 => exact HC0.1); rintro e w28 ⟨g8, rfl, hi, hb, hb2⟩; refine ⟨_, rfl, ?_⟩; replace HB := am (hb); have g3 := am (hi); have g5 := am (IsS65.ne_blk hi (blk_below (g := g7) (o := .cells #[.int .i64 0, .int .i64 0, .slice none 0 0] 25 (0, 0)) (kf g0).1 hb2) (by decide)); have g1 := am (Ne.symm (IsS65.ne_blk hi (blk_below (g := g7) (o := .cells #[.int .i64 0, .int .i64 0, .slice none 0 0] 25 (0, 0)) (kf g0).1 hb2) (by decide))); replace g0 := kb g0 hb2; clear hb hb2 hi) | ((with_reducible refine gate_callee (f := 38) rfl ?_); refine gl (some 10) Try.func38 #[.pointer (some ⟨g8, 0, none⟩)] ?_; (with_reducible refine (spec_l92Timed.calls k g8 gA gU gF gG gH gN w _ ?side1 ?side2 A3.1).mono ?_); (case side1 => exact ip); (case side2 => exact bq); rintro e w29 ⟨iA, rfl, ho0, hi, hb, hk⟩; refine ⟨_, rfl, ?_⟩; have g4 := nm HB ho0 (fun k_ => (w.heap.size ≤ k_) ∧ k_ ≠ g7 ∧ k_ ≠ g8) (fun k_ hk_ => ⟨(zt HB hk_), (fb g0 k_ hk_), (IsS65.fresh ip k_ hk_)⟩); replace g0 := kk g0 g1 hk; replace HB := am (hb); replace g3 := am (hi); clear hb hk hi ho0) | ((with_reducible refine gate_dst (N := 5) rfl ?_); refine bx (cs := #[.int .i64 0, .int .i64 0, .slice none 0 0]) (t := 25) fun gM hg w30 hbox hb => ?_; replace g4 := nb g4 hg hb; have g9 := am (hbox); have h7 := bz HB hg; have gX := bz HB hg; replace HB := bs HB hb; have gI := nl g0 hg; have gJ := ng g0 hg; replace g0 := kb g0 hb; have gE := am ((by rw [hg]; exact Nat.ne_of_lt (IsS65.lt (show IsS65 w _ g8 gA gN from by repeat (first | (with_reducible first | exact g3.1 | apply IsS65.alloc | apply IsS65.drewN | apply IsS65.drew | apply IsS65.set_1 | refine IsS65.far ?_ g5.1 _) | exact g3.1))) : g8 ≠ gM)); have g6 := am ((by rw [hg]; exact Nat.ne_of_gt (IsS65.lt (show IsS65 w _ g8 gA gN from by repeat (first | (with_reducible first | exact g3.1 | apply IsS65.alloc | apply IsS65.drewN | apply IsS65.drew | apply IsS65.set_1 | refine IsS65.far ?_ g5.1 _) | exact g3.1))) : gM ≠ g8)); replace g3 := am (IsS65.below ip hb); clear hb hbox hg; have iJ := gJ.1; have iK := gI.1; have iL := g6.1; have iM := gE.1; obtain ⟨hR, hS, hT, hU, hV, hW⟩ := cs3 g9; obtain ⟨h4, h5, rfl⟩ := Kd.N_slice g4.1) | ((with_reducible refine gate_callee (f := 55) rfl ?_); refine gl (some 12) Try.func55 #[.pointer (some ⟨g8, 0, none⟩), .int .i64 8] ?_; (with_reducible refine (spec_l6Rd_pick.calls k g8 gA gN 8 gY gV w _ ?side1 ?side2 A4.1).mono ?_); (case side1 => exact ip); (case side2 => exact bq); rintro e w35 ⟨rfl, hi, hb, hk⟩; refine ⟨_, rfl, ?_⟩; replace g0 := kk g0 g1 hk; replace g4 := kn g4 hk; replace g9 := am (KeepBut.blk hk (g' := gM) (o := .cells #[.int .i64 gF, .int .i64 gG, .slice h4 gH.length h5] 25 (0, 0)) (kf g9).1 g6.1 (by simp)); replace HB := am (hb); replace g3 := am (hi); clear hb hk hi) | ((with_reducible refine gate_callee (f := 55) rfl ?_); refine gl (some 14) Try.func55 #[.pointer (some ⟨g8, 0, none⟩), .int .i64 20] ?_; (with_reducible refine (spec_l6Rd_pick.calls k g8 gA gV 20 gP gS w _ ?side1 ?side2 A5.1).mono ?_); (case side1 => exact ip); (case side2 => exact bq); rintro e w36 ⟨rfl, hi, hb, hk⟩; refine ⟨_, rfl, ?_⟩; replace g0 := kk g0 g1 hk; replace g4 := kn g4 hk; replace g9 := kk g9 g6 hk; replace HB := am (hb); replace g3 := am (hi); clear hb hk hi; obtain ⟨hX, hY, hZ, i0, i1, i2⟩ := cs3 g9; have iN := g1.1; have iO := g5.1; obtain ⟨i3, i4, i5, i6, i7, i8⟩ := cs3 g0))
  refine bodyPost_ret (results_ct rfl _ _ g7 25 #[.int .i64 gF, .int .i64 gG, .slice h4 gH.length h5] (0, 0) _ rfl (kf g0).1 Try.underlying25 rfl (by kernel_rfl)) rfl ?_
  exact ⟨_, by first | rfl | (simp [errW_none, errW_some] <;> rfl) | (simp [*, errW_none, errW_some] <;> rfl), by (with_reducible repeat (first | apply Kd.N_alloc | apply Kd.N_drewN | apply Kd.N_drew)); exact Kd.N_mono (Kd.N_far (p := ⟨g7, 2, none⟩) (Kd.N_far (p := ⟨g7, 1, none⟩) (Kd.N_far (p := ⟨g7, 0, none⟩) (Kd.N_mono g4.1 (fun k_ hk => (⟨hk, hk.1.2.1⟩ : _ ∧ k_ ≠ g7))) mq (.int .i64 gF)) mq (.int .i64 gG)) mq (.slice h4 gH.length h5)) mq, by repeat (first | (with_reducible first | exact HB.1 | apply below_alloc | apply pw_below_drewN | apply below_drew1 | refine below_set ?_ (IsS65.ge g3.1) | refine below_set ?_ gW.1 | refine below_set ?_ gX.1) | exact HB.1)⟩


/-! ### laws_FnClockLater: function 11 -/
mutual
def laws_FnClockLater.j0 : Nat → Int → Bool → Bool → Int → Int → List (S25) → Int → Int → List (S25) → Option (Bool)
 | 0, _, _, _, _, _, _, _, _, _ => none
 | k + 1, x4, x6, x45, x801000, x801001, x801002, x808000, x808001, x808002 => if x45 = true then (some false) else (if x6 = true then (laws_FnClockLater.j1 k x4 x6 (x4 == 0) x801000 x801001 x801002 x808000 x808001 x808002) else (laws_FnClockLater.j1 k x4 x6 true x801000 x801001 x801002 x808000 x808001 x808002))
def laws_FnClockLater.j1 : Nat → Int → Bool → Bool → Int → Int → List (S25) → Int → Int → List (S25) → Option (Bool)
 | 0, _, _, _, _, _, _, _, _, _ => none
 | k + 1, x4, x6, x51, x801000, x801001, x801002, x808000, x808001, x808002 => if x51 = true then (if x6 = true then ((laws_mnClock.f k x808000 x808001 x808002 x801000 x801001 x801002).bind fun t816 => (some t816)) else (some true)) else ((impl_ClockLater.f k x801000 x801001 x801002 (wrap64 (x4 - 1))).bind fun bt817 => ((impl_ClockPass.f k bt817.1 bt817.2.1 bt817.2.2.1).bind fun bt824 => ((impl_ClockSteps.f k bt817.1 bt817.2.1 bt817.2.2.1).bind fun bt831 => ((impl_ClockSteps.f k x808000 x808001 x808002).bind fun bt835 => (if bt817.2.2.2 = true then (if bt824.2.2.2 = true then ((laws_mnClock.f k bt824.1 bt824.2.1 bt824.2.2.1 x808000 x808001 x808002).bind fun t839 => (if t839 = true then (some (decide ((bt831.1.length : Int) ≤ (bt835.1.length : Int)))) else (some false))) else (some false)) else (some false))))))
end
def laws_FnClockLater.f (k : Nat) (l0 : List Int) : Option (Bool) := if (l0.length : Int) > 1048576 then (some true) else ((spec_DrawClockLater.f k l0).bind fun bt794 => ((impl_ClockLater.f k bt794.1 bt794.2.1 bt794.2.2.1 bt794.2.2.2).bind fun bt801 => ((spec_ClockLater.f k bt794.1 bt794.2.1 bt794.2.2.1 bt794.2.2.2).bind fun bt808 => ((laws_mnClock.f k bt801.1 bt801.2.1 bt801.2.2.1 bt808.1 bt808.2.1 bt808.2.2.1).bind fun t815 => (if t815 = true then (laws_FnClockLater.j0 k bt794.2.2.2 bt801.2.2.2 (bt801.2.2.2 != bt808.2.2.2) bt794.1 bt794.2.1 bt794.2.2.1 bt801.1 bt801.2.1 bt801.2.2.1) else (laws_FnClockLater.j0 k bt794.2.2.2 bt801.2.2.2 true bt794.1 bt794.2.1 bt794.2.2.1 bt801.1 bt801.2.1 bt801.2.2.1))))))
theorem laws_FnClockLater.mono_l : ∀ k, (∀ y0 y1 y2 y3 y4 y5 y6 y7 y8, LeO (laws_FnClockLater.j0 k y0 y1 y2 y3 y4 y5 y6 y7 y8) (laws_FnClockLater.j0 (k + 1) y0 y1 y2 y3 y4 y5 y6 y7 y8)) ∧ (∀ y0 y1 y2 y3 y4 y5 y6 y7 y8, LeO (laws_FnClockLater.j1 k y0 y1 y2 y3 y4 y5 y6 y7 y8) (laws_FnClockLater.j1 (k + 1) y0 y1 y2 y3 y4 y5 y6 y7 y8))
 | 0 => ⟨fun _ _ _ _ _ _ _ _ _ r h => by simp [laws_FnClockLater.j0] at h, fun _ _ _ _ _ _ _ _ _ r h => by simp [laws_FnClockLater.j1] at h⟩
 | k + 1 => by
  obtain ⟨ih0, ih1⟩ := laws_FnClockLater.mono_l k
  refine ⟨?_, ?_⟩
  ·
   intro y0 y1 y2 y3 y4 y5 y6 y7 y8
   unfold laws_FnClockLater.j0
   repeat' first
   | (with_reducible exact ih0 _ _ _ _ _ _ _ _ _)
   | (with_reducible exact ih1 _ _ _ _ _ _ _ _ _)
   | (with_reducible exact impl_ClockLater.mono _ _ _ _ _)
   | (with_reducible exact impl_ClockPass.mono _ _ _ _)
   | (with_reducible exact impl_ClockSteps.mono _ _ _ _)
   | (with_reducible exact laws_mnClock.mono _ _ _ _ _ _ _)
   | (with_reducible exact spec_ClockLater.mono _ _ _ _ _)
   | (with_reducible exact spec_DrawClockLater.mono _ _)
   | (with_reducible exact LeO.refl _)
   | (with_reducible exact LeO.none _)
   | (with_reducible refine LeO.ite ?_ ?_)
   | (with_reducible refine LeO.bind ?_ (fun _ => ?_))
   | exact ih0 _ _ _ _ _ _ _ _ _
   | exact ih1 _ _ _ _ _ _ _ _ _
   | exact impl_ClockLater.mono _ _ _ _ _
   | exact impl_ClockPass.mono _ _ _ _
   | exact impl_ClockSteps.mono _ _ _ _
   | exact laws_mnClock.mono _ _ _ _ _ _ _
   | exact spec_ClockLater.mono _ _ _ _ _
   | exact spec_DrawClockLater.mono _ _
   | exact LeO.none _
   | refine LeO.ite ?_ ?_
   | refine LeO.bind ?_ (fun _ => ?_)
  ·
   intro y0 y1 y2 y3 y4 y5 y6 y7 y8
   unfold laws_FnClockLater.j1
   repeat' first
   | (with_reducible exact ih0 _ _ _ _ _ _ _ _ _)
   | (with_reducible exact ih1 _ _ _ _ _ _ _ _ _)
   | (with_reducible exact impl_ClockLater.mono _ _ _ _ _)
   | (with_reducible exact impl_ClockPass.mono _ _ _ _)
   | (with_reducible exact impl_ClockSteps.mono _ _ _ _)
   | (with_reducible exact laws_mnClock.mono _ _ _ _ _ _ _)
   | (with_reducible exact spec_ClockLater.mono _ _ _ _ _)
   | (with_reducible exact spec_DrawClockLater.mono _ _)
   | (with_reducible exact LeO.refl _)
   | (with_reducible exact LeO.none _)
   | (with_reducible refine LeO.ite ?_ ?_)
   | (with_reducible refine LeO.bind ?_ (fun _ => ?_))
   | exact ih0 _ _ _ _ _ _ _ _ _
   | exact ih1 _ _ _ _ _ _ _ _ _
   | exact impl_ClockLater.mono _ _ _ _ _
   | exact impl_ClockPass.mono _ _ _ _
   | exact impl_ClockSteps.mono _ _ _ _
   | exact laws_mnClock.mono _ _ _ _ _ _ _
   | exact spec_ClockLater.mono _ _ _ _ _
   | exact spec_DrawClockLater.mono _ _
   | exact LeO.none _
   | refine LeO.ite ?_ ?_
   | refine LeO.bind ?_ (fun _ => ?_)
theorem laws_FnClockLater.mono : ∀ a0 k, LeO (laws_FnClockLater.f k a0) (laws_FnClockLater.f (k + 1) a0) := by
 intro a0 k
 obtain ⟨ih0, ih1⟩ := laws_FnClockLater.mono_l k
 unfold laws_FnClockLater.f
 repeat' first
   | (with_reducible exact ih0 _ _ _ _ _ _ _ _ _)
   | (with_reducible exact ih1 _ _ _ _ _ _ _ _ _)
   | (with_reducible exact impl_ClockLater.mono _ _ _ _ _)
   | (with_reducible exact impl_ClockPass.mono _ _ _ _)
   | (with_reducible exact impl_ClockSteps.mono _ _ _ _)
   | (with_reducible exact laws_mnClock.mono _ _ _ _ _ _ _)
   | (with_reducible exact spec_ClockLater.mono _ _ _ _ _)
   | (with_reducible exact spec_DrawClockLater.mono _ _)
   | (with_reducible exact LeO.refl _)
   | (with_reducible exact LeO.none _)
   | (with_reducible refine LeO.ite ?_ ?_)
   | (with_reducible refine LeO.bind ?_ (fun _ => ?_))
   | exact ih0 _ _ _ _ _ _ _ _ _
   | exact ih1 _ _ _ _ _ _ _ _ _
   | exact impl_ClockLater.mono _ _ _ _ _
   | exact impl_ClockPass.mono _ _ _ _
   | exact impl_ClockSteps.mono _ _ _ _
   | exact laws_mnClock.mono _ _ _ _ _ _ _
   | exact spec_ClockLater.mono _ _ _ _ _
   | exact spec_DrawClockLater.mono _ _
   | exact LeO.none _
   | refine LeO.ite ?_ ?_
   | refine LeO.bind ?_ (fun _ => ?_)
end Go.Proofs.Ytfnmjecofgeboaa.PAll
