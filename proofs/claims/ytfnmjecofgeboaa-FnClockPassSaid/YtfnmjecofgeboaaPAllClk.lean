-- Laid by a program of this session out of the translation's print
import Derived.Test.YtfnmjecofgeboaaPAll0
import Derived.Test.YtfnmjecofgeboaaPAllAb
import Derived.Test.YtfnmjecofgeboaaPAllDraw
namespace Go.Proofs.Ytfnmjecofgeboaa.PAll
open Go.RowKit Go.Proofs.YtfnmjecofgeboaaW.PrintWords Go.Proofs.YtfnmjecofgeboaaW.PrintLast Go.Proofs.YtfnmjecofgeboaaW.PrintMore
attribute [local go_sem] max2_int min2_int max_two min_two max_three min_three max_four min_four   -- for this text's walks alone
set_option linter.unusedVariables false
set_option linter.unusedSimpArgs false

/-! ### spec_l92Clock: function 56 -/
def spec_l92Clock.f : Nat → List Int → Int → Int → Option (Int × Int × (List (S25)) × Int)
 | 0, _, _, _ => none
 | k + 1, s0_0, s0_1, a1 => if a1 = 0 then (some (0, 0, ([] : List (S25)), s0_1)) else ((spec_l6Rd_pick.f k s0_0 s0_1 9).bind fun bt124 => (if bt124.1 < 3 then ((spec_l91Act.f k s0_0 bt124.2).bind fun bt126 => ((spec_l92Clock.f k s0_0 bt126.2 (wrap64 (a1 - 1))).bind fun bt128 => (some (1, bt126.1, (([(⟨bt128.1, bt128.2.1, bt128.2.2.1⟩ : S25)] : List (S25))), bt128.2.2.2)))) else (if bt124.1 < 6 then ((spec_l6Rd_pick.f k s0_0 bt124.2 4).bind fun bt137 => ((spec_l6Rd_pick.f k s0_0 bt137.2 30).bind fun bt139 => (if bt139.1 = 0 then ((some (([0, 10, 9] : List Int) : List Int)).bind fun y141 => ((spec_l6Rd_pick.f k s0_0 bt139.2 3).bind fun bt144 => (if 0 ≤ bt144.1 then (if bt144.1 < (y141.length : Int) then ((spec_l92Clock.f k s0_0 bt144.2 (wrap64 (a1 - 1))).bind fun bt147 => (some (2, rd y141 bt144.1, (([(⟨bt147.1, bt147.2.1, bt147.2.2.1⟩ : S25)] : List (S25))), bt147.2.2.2))) else (none)) else (none)))) else ((spec_l92Clock.f k s0_0 bt139.2 (wrap64 (a1 - 1))).bind fun bt156 => (some (2, wrap64 (1 + bt137.1), (([(⟨bt156.1, bt156.2.1, bt156.2.2.1⟩ : S25)] : List (S25))), bt156.2.2.2)))))) else (if bt124.1 = 6 then (some (0, 0, ([] : List (S25)), bt124.2)) else (if bt124.1 = 8 then ((spec_l92Clock.f k s0_0 bt124.2 (wrap64 (a1 - 1))).bind fun bt165 => ((spec_l92Clock.f k s0_0 bt165.2.2.2 (wrap64 (a1 - 1))).bind fun bt172 => (some (4, 0, (([(⟨bt165.1, bt165.2.1, bt165.2.2.1⟩ : S25), (⟨bt172.1, bt172.2.1, bt172.2.2.1⟩ : S25)] : List (S25))), bt172.2.2.2)))) else ((spec_l92Clock.f k s0_0 bt124.2 (wrap64 (a1 - 1))).bind fun bt181 => ((spec_l92Clock.f k s0_0 bt181.2.2.2 (wrap64 (a1 - 1))).bind fun bt188 => (some (3, 0, (([(⟨bt181.1, bt181.2.1, bt181.2.2.1⟩ : S25), (⟨bt188.1, bt188.2.1, bt188.2.2.1⟩ : S25)] : List (S25))), bt188.2.2.2)))))))))
theorem spec_l92Clock.mono_l : ∀ k, (∀ y0 y1 y2, LeO (spec_l92Clock.f k y0 y1 y2) (spec_l92Clock.f (k + 1) y0 y1 y2))
 | 0 => fun _ _ _ r h => by simp [spec_l92Clock.f] at h
 | k + 1 => by
  have ih0 := spec_l92Clock.mono_l k
  ·
   intro y0 y1 y2
   unfold spec_l92Clock.f
   repeat' first
   | (with_reducible exact ih0 _ _ _)
   | (with_reducible exact spec_l6Rd_pick.mono _ _ _ _)
   | (with_reducible exact spec_l91Act.mono _ _ _)
   | (with_reducible exact LeO.refl _)
   | (with_reducible exact LeO.none _)
   | (with_reducible refine LeO.ite ?_ ?_)
   | (with_reducible refine LeO.bind ?_ (fun _ => ?_))
   | exact ih0 _ _ _
   | exact spec_l6Rd_pick.mono _ _ _ _
   | exact spec_l91Act.mono _ _ _
   | exact LeO.none _
   | refine LeO.ite ?_ ?_
   | refine LeO.bind ?_ (fun _ => ?_)
theorem spec_l92Clock.mono : ∀ a0 a1 a2 k, LeO (spec_l92Clock.f k a0 a1 a2) (spec_l92Clock.f (k + 1) a0 a1 a2) := by
 intro a0 a1 a2 k
 have ih0 := spec_l92Clock.mono_l k
 exact ih0 a0 a1 a2
def spec_l92Clock.T18 : Bool × List (List Nat × List Nat) := (true, [([], []), ([], []), ([], []), ([], []), ([3], [3]), ([2, 4], [2, 4]), ([1, 5], [1, 5]), ([0, 6], [0, 6]), ([7, 5, 0, 1, 2, 3, 4, 5, 6, 7], [7])])
def spec_l92Clock.B18 : List Nat := [0, 0, 0, 0, 8, 28, 62, 127, 255]
theorem spec_l92Clock.tab18 : rtab .any (opsOf Try.f56 18) = spec_l92Clock.T18 := by kernel_rfl
theorem spec_l92Clock.bits18 : waitsOk spec_l92Clock.T18.2 spec_l92Clock.B18 = true := by kernel_rfl
set_option maxHeartbeats 8000000 in
set_option maxRecDepth 100000 in
theorem spec_l92Clock.calls (k : Nat) : ∀ (g : Nat) (g2 : List Int) (gI : Int) (a1 : Int) (r1 : Int) (r2 : Int) (r3 : List (S25)) (r4 : Int) (w0 w : World) (hI : IsS65 w0 w g g2 gI) (hB : Below w0.heap.size w0 w) (h : spec_l92Clock.f k g2 gI a1 = some (r1, r2, r3, r4)),
  Calls Try.prog 56 #[.pointer (some ⟨g, 0, none⟩), .int .i64 a1] w fun e w' => ∃ v2_ : Value, e = .returned (.agg #[.int .i64 r1, .int .i64 r2, v2_]) ∧ Kd.N k25 25 w' w.heap.size (fun k_ => (w.heap.size ≤ k_)) v2_ r3 ∧ IsS65 w0 w' g g2 r4 ∧ Below w0.heap.size w0 w' ∧ KeepBut w w' g none := by
 induction k using Nat.strongRecOn with
 | _ k ih =>
 intro g g2 gI a1 r1 r2 r3 r4 w0 w hI hB h
 cases k with
 | zero => exact absurd h (by simp [spec_l92Clock.f])
 | succ k =>
 simp only [spec_l92Clock.f] at h
 have mR := Try.underlying25
 have HI0 := am hI
 have HK := am (KeepBut.refl w g none)
 have HL := am hB.size; clear hI
 have HW0 := am hB.size
 have HB := am hB; clear hB
 have H : (if a1 = 0 then (some (0, 0, ([] : List (S25)), gI)) else ((spec_l6Rd_pick.f k g2 gI 9).bind fun h0 => (if h0.1 < 3 then ((spec_l91Act.f k g2 h0.2).bind fun h8 => ((spec_l92Clock.f k g2 h8.2 (wrap64 (a1 - 1))).bind fun gL => (some (1, h8.1, (([(⟨gL.1, gL.2.1, gL.2.2.1⟩ : S25)] : List (S25))), gL.2.2.2)))) else (if h0.1 < 6 then ((spec_l6Rd_pick.f k g2 h0.2 4).bind fun h9 => ((spec_l6Rd_pick.f k g2 h9.2 30).bind fun gU => (if gU.1 = 0 then ((some (([0, 10, 9] : List Int) : List Int)).bind fun gD => ((spec_l6Rd_pick.f k g2 gU.2 3).bind fun gC => (if 0 ≤ gC.1 then (if gC.1 < (gD.length : Int) then ((spec_l92Clock.f k g2 gC.2 (wrap64 (a1 - 1))).bind fun g9 => (some (2, rd gD gC.1, (([(⟨g9.1, g9.2.1, g9.2.2.1⟩ : S25)] : List (S25))), g9.2.2.2))) else (none)) else (none)))) else ((spec_l92Clock.f k g2 gU.2 (wrap64 (a1 - 1))).bind fun gE => (some (2, wrap64 (1 + h9.1), (([(⟨gE.1, gE.2.1, gE.2.2.1⟩ : S25)] : List (S25))), gE.2.2.2)))))) else (if h0.1 = 6 then (some (0, 0, ([] : List (S25)), h0.2)) else (if h0.1 = 8 then ((spec_l92Clock.f k g2 h0.2 (wrap64 (a1 - 1))).bind fun h1 => ((spec_l92Clock.f k g2 h1.2.2.2 (wrap64 (a1 - 1))).bind fun gM => (some (4, 0, (([(⟨h1.1, h1.2.1, h1.2.2.1⟩ : S25), (⟨gM.1, gM.2.1, gM.2.2.1⟩ : S25)] : List (S25))), gM.2.2.2)))) else ((spec_l92Clock.f k g2 h0.2 (wrap64 (a1 - 1))).bind fun h2 => ((spec_l92Clock.f k g2 h2.2.2.2 (wrap64 (a1 - 1))).bind fun gN => (some (3, 0, (([(⟨h2.1, h2.2.1, h2.2.2.1⟩ : S25), (⟨gN.1, gN.2.1, gN.2.2.1⟩ : S25)] : List (S25))), gN.2.2.2)))))))))) = some (r1, r2, r3, r4) := h
 clear h
 by_cases c3 : a1 = 0
 ·
  rw [if_pos c3] at H; have c3b0 : (a1 == 0) = true := beq_iff_eq.mpr c3; have c3b1 : (a1 != 0) = false := bne_eq_false_iff_eq.mpr c3; clear c3
  simp only [Option.some.injEq, Prod.mk.injEq] at H
  obtain ⟨rfl, rfl, rfl, rfl⟩ := H
  go_enter Try.func56, Try.ntmps56
  go_wp2_with (first | ((with_reducible refine gate_dst (N := 4) rfl ?_); refine bx (cs := #[.int .i64 0, .int .i64 0, .slice none 0 0]) (t := 25) fun g0 hg w4 hbox hb => ?_; replace HB := bs HB hb; have g1 := am (hbox); have gO := am ((by rw [hg]; exact (keep_size (w := w) (g := g) (row := none) kq) : w.heap.size ≤ g0)); have gP := am ((Nat.le_trans HW0.1 (by rw [hg]; exact (keep_size (w := w) (g := g) (row := none) kq) : w.heap.size ≤ g0) : w0.heap.size ≤ g0)); replace HK := kt HK (KeepBut.of_below hb g none); have g6 := am ((by rw [hg]; exact Nat.ne_of_lt (IsS65.lt (show IsS65 w0 _ g g2 gI from by repeat (first | (with_reducible first | exact HI0.1 | apply IsS65.alloc | apply IsS65.drewN | apply IsS65.drew | apply IsS65.set_1) | exact HI0.1))) : g ≠ g0)); have g3 := am ((by rw [hg]; exact Nat.ne_of_gt (IsS65.lt (show IsS65 w0 _ g g2 gI from by repeat (first | (with_reducible first | exact HI0.1 | apply IsS65.alloc | apply IsS65.drewN | apply IsS65.drew | apply IsS65.set_1) | exact HI0.1))) : g0 ≠ g)); replace HI0 := am (IsS65.below ip hb); clear hb hbox hg; have mS := g3.1; have mT := g6.1; obtain ⟨lW, lX, lY, lZ, m0, m1⟩ := cs3 g1))
  refine bodyPost_ret (results_cell_row rfl _ _ g0 25 #[.int .i64 0, .int .i64 0, .slice none 0 0] (0, 0) _ rfl (kf g1).1 Try.underlying25 rfl (by kernel_rfl)) rfl ?_
  exact ⟨_, by first | rfl | (simp [errW_none, errW_some] <;> rfl) | (simp [*, errW_none, errW_some] <;> rfl), by first | exact Kd.R_nil _ _ _ _ _ | exact Kd.N_nil _ _ _ _ _ | exact Kd.V_nil _ _ _ _ _ | exact Kd.Q_nil _ _ _ _ _ | exact Kd.S_nil _ _ _ _ _, by repeat (first | (with_reducible first | exact HI0.1 | apply IsS65.alloc | apply IsS65.drewN | apply IsS65.drew | apply IsS65.set_1 | refine IsS65.far ?_ g6.1 _) | exact HI0.1), by repeat (first | (with_reducible first | exact HB.1 | apply below_alloc | apply pw_below_drewN | apply below_drew1 | refine below_set ?_ (IsS65.ge HI0.1) | refine below_set ?_ gP.1) | exact HB.1), by repeat (first | (with_reducible first | exact HK.1 | apply KeepBut.set_ | apply keep_drewN | apply keep_drew | apply keep_alloc | refine keep_far ?_ gO.1 _) | exact HK.1)⟩
 ·
  rw [if_neg c3] at H; have c3b0 : (a1 == 0) = false := beq_eq_false_iff_ne.mpr c3; have c3b1 : (a1 != 0) = true := bne_iff_ne.mpr c3
  replace H := Option.bind_eq_some_iff.mp H
  obtain ⟨⟨gF, gX⟩, A70, H⟩ := H
  replace H : (if gF < 3 then ((spec_l91Act.f k g2 gX).bind fun h8 => ((spec_l92Clock.f k g2 h8.2 (wrap64 (a1 - 1))).bind fun gL => (some (1, h8.1, (([(⟨gL.1, gL.2.1, gL.2.2.1⟩ : S25)] : List (S25))), gL.2.2.2)))) else (if gF < 6 then ((spec_l6Rd_pick.f k g2 gX 4).bind fun h9 => ((spec_l6Rd_pick.f k g2 h9.2 30).bind fun gU => (if gU.1 = 0 then ((some (([0, 10, 9] : List Int) : List Int)).bind fun gD => ((spec_l6Rd_pick.f k g2 gU.2 3).bind fun gC => (if 0 ≤ gC.1 then (if gC.1 < (gD.length : Int) then ((spec_l92Clock.f k g2 gC.2 (wrap64 (a1 - 1))).bind fun g9 => (some (2, rd gD gC.1, (([(⟨g9.1, g9.2.1, g9.2.2.1⟩ : S25)] : List (S25))), g9.2.2.2))) else (none)) else (none)))) else ((spec_l92Clock.f k g2 gU.2 (wrap64 (a1 - 1))).bind fun gE => (some (2, wrap64 (1 + h9.1), (([(⟨gE.1, gE.2.1, gE.2.2.1⟩ : S25)] : List (S25))), gE.2.2.2)))))) else (if gF = 6 then (some (0, 0, ([] : List (S25)), gX)) else (if gF = 8 then ((spec_l92Clock.f k g2 gX (wrap64 (a1 - 1))).bind fun h1 => ((spec_l92Clock.f k g2 h1.2.2.2 (wrap64 (a1 - 1))).bind fun gM => (some (4, 0, (([(⟨h1.1, h1.2.1, h1.2.2.1⟩ : S25), (⟨gM.1, gM.2.1, gM.2.2.1⟩ : S25)] : List (S25))), gM.2.2.2)))) else ((spec_l92Clock.f k g2 gX (wrap64 (a1 - 1))).bind fun h2 => ((spec_l92Clock.f k g2 h2.2.2.2 (wrap64 (a1 - 1))).bind fun gN => (some (3, 0, (([(⟨h2.1, h2.2.1, h2.2.2.1⟩ : S25), (⟨gN.1, gN.2.1, gN.2.2.1⟩ : S25)] : List (S25))), gN.2.2.2)))))))) = some (r1, r2, r3, r4) := H
  have A7 := am A70
  clear A70
  by_cases c8 : gF < 3
  ·
   rw [if_pos c8] at H; have c8b0 : decide (gF < 3) = true := decide_eq_true c8; clear c8
   replace H := Option.bind_eq_some_iff.mp H
   obtain ⟨⟨iA, iX⟩, A90, H⟩ := H
   replace H : ((spec_l92Clock.f k g2 iX (wrap64 (a1 - 1))).bind fun gL => (some (1, iA, (([(⟨gL.1, gL.2.1, gL.2.2.1⟩ : S25)] : List (S25))), gL.2.2.2))) = some (r1, r2, r3, r4) := H
   have A9 := am A90
   clear A90
   replace H := Option.bind_eq_some_iff.mp H
   obtain ⟨⟨hA, hC, hD, iY⟩, jD, H⟩ := H
   replace H : (some (1, iA, (([(⟨hA, hC, hD⟩ : S25)] : List (S25))), iY)) = some (r1, r2, r3, r4) := H
   have A10 := am jD
   clear jD
   obtain ⟨iZ, hE⟩ : ∃ y_ : List (S25), y_ = (([(⟨hA, hC, hD⟩ : S25)] : List (S25))) := ⟨_, rfl⟩
   replace H : (some (1, iA, iZ, iY)) = some (r1, r2, r3, r4) := by first | (rw [hE]; with_reducible exact H) | (have H2_ := (Option.bind_some _ _).symm.trans H; rw [hE]; with_reducible exact H2_) | (have H2_ := (Option.bind_some _ _).symm.trans H; with_reducible exact H2_) | with_reducible exact H | (rw [hE]; exact H) | exact H
   have iM := am hE
   clear hE
   simp only [Option.some.injEq, Prod.mk.injEq] at H
   obtain ⟨rfl, rfl, rfl, rfl⟩ := H
   go_enter Try.func56, Try.ntmps56
   go_wp2_with (first | ((with_reducible refine gate_dst (N := 4) rfl ?_); refine bx (cs := #[.int .i64 0, .int .i64 0, .slice none 0 0]) (t := 25) fun g0 hg w11 hbox hb => ?_; replace HB := bs HB hb; have g1 := am (hbox); have gO := am ((by rw [hg]; exact (keep_size (w := w) (g := g) (row := none) kq) : w.heap.size ≤ g0)); have gP := am ((Nat.le_trans HW0.1 (by rw [hg]; exact (keep_size (w := w) (g := g) (row := none) kq) : w.heap.size ≤ g0) : w0.heap.size ≤ g0)); replace HK := kt HK (KeepBut.of_below hb g none); have g6 := am ((by rw [hg]; exact Nat.ne_of_lt (IsS65.lt (show IsS65 w0 _ g g2 gI from by repeat (first | (with_reducible first | exact HI0.1 | apply IsS65.alloc | apply IsS65.drewN | apply IsS65.drew | apply IsS65.set_1) | exact HI0.1))) : g ≠ g0)); have g3 := am ((by rw [hg]; exact Nat.ne_of_gt (IsS65.lt (show IsS65 w0 _ g g2 gI from by repeat (first | (with_reducible first | exact HI0.1 | apply IsS65.alloc | apply IsS65.drewN | apply IsS65.drew | apply IsS65.set_1) | exact HI0.1))) : g0 ≠ g)); replace HI0 := am (IsS65.below ip hb); clear hb hbox hg) | ((with_reducible refine gate_callee (f := 55) rfl ?_); refine gl (some 14) Try.func55 #[.pointer (some ⟨g, 0, none⟩), .int .i64 9] ?_; (with_reducible refine (spec_l6Rd_pick.calls k g g2 gI 9 gF gX w0 _ ?side1 ?side2 A7.1).mono ?_); (case side1 => exact ip); (case side2 => exact bq); rintro e w12 ⟨rfl, hi, hb, hk⟩; refine ⟨_, rfl, ?_⟩; replace g1 := kk g1 g3 hk; replace HK := kt HK hk; replace HB := am (hb); replace HI0 := am (hi); clear hb hk hi) | ((with_reducible refine gate_callee (f := 66) rfl ?_); refine gl (some 19) Try.func66 #[.pointer (some ⟨g, 0, none⟩)] ?_; (with_reducible refine (spec_l91Act.calls k g g2 gX iA iX w0 _ ?side1 ?side2 A9.1).mono ?_); (case side1 => exact ip); (case side2 => exact bq); rintro e w13 ⟨rfl, hi, hb, hk⟩; refine ⟨_, rfl, ?_⟩; replace g1 := kk g1 g3 hk; replace HK := kt HK hk; replace HB := am (hb); replace HI0 := am (hi); clear hb hk hi) | ((with_reducible refine gate_callee (f := 56) rfl ?_); refine gl (some 24) Try.func56 #[.pointer (some ⟨g, 0, none⟩), .int .i64 (wrap64 (a1 - 1))] ?_; (with_reducible refine (ih k (by omega) g g2 iX (wrap64 (a1 - 1)) hA hC hD iY w0 _ ?side1 ?side2 A10.1).mono ?_); (case side1 => exact ip); (case side2 => exact bq); rintro e w14 ⟨mU, rfl, ho0, hi, hb, hk⟩; refine ⟨_, rfl, ?_⟩; have i1 := nk HK ho0 (fun k_ => (w.heap.size ≤ k_) ∧ k_ ≠ g0 ∧ k_ ≠ g) (fun k_ hk_ => ⟨(zk HK hk_), (fb g1 k_ hk_), (IsS65.fresh ip k_ hk_)⟩); replace g1 := kk g1 g3 hk; replace HK := kt HK hk; replace HB := am (hb); replace HI0 := am (hi); clear hb hk hi ho0; obtain ⟨jE, jF, rfl⟩ := Kd.N_slice i1.1) | ((with_reducible refine gate_dst (N := 25) rfl ?_); refine Kd.N_lit k25 _ 25 ?hg (N' := 25) ?hd (xs := ([(⟨hA, hC, hD⟩ : S25)] : List (S25))) (inner := [.int .i64 hA, .int .i64 hC, .slice jE hD.length jF]) (ok := (fun k_ => (w.heap.size ≤ k_) ∧ k_ ≠ g0 ∧ k_ ≠ g)) (okp := (fun k_ => (w.heap.size ≤ k_) ∧ k_ ≠ g0 ∧ k_ ≠ g)) ?hr ?hp (fun _ hk => hk) ((show ∀ k_, w14.heap.size ≤ k_ → (fun k_ => (w.heap.size ≤ k_) ∧ k_ ≠ g0 ∧ k_ ≠ g) k_ from fun k_ hk => ⟨(zk HK hk), Kd.freshB (g := g0) (o := .cells #[.int .i64 0, .int .i64 0, .slice none 0 0] 25 (0, 0)) (kf g1).1 k_ hk, IsS65.fresh ip k_ hk⟩) _ (Nat.le_refl _)) (Below.refl _ _) (Nat.le_refl _) (by simp) ?_; (case hd => rfl); (case hg => rfl); (case hr => first | (go_simp; done) | (go_simp; rfl)); (case hp => exact (Reps.c3 (show Kd.FK k25 _ _ (⟨hA, hC, hD⟩ : S25) [.int .i64 hA, .int .i64 hC, .slice jE hD.length jF] from (k25_mkF _ _ (⟨hA, hC, hD⟩ : S25) (Kd.N_reads' (Kd.N_mono (ok' := (fun k_ => (w.heap.size ≤ k_) ∧ k_ ≠ g0 ∧ k_ ≠ g)) (i1.1) mq)).2.1 (Kd.N_F (Kd.N_mono (ok' := (fun k_ => (w.heap.size ≤ k_) ∧ k_ ≠ g0 ∧ k_ ≠ g)) (i1.1) mq)))) (Reps.none _ _))); intro mV w16 iE hb hg_ hnew_; clear hg_ hnew_; (first | rw [← iM.1] at iE | (simp only [Int.reduceToNat] at iE; rw [← iM.1] at iE)); have iN := am (Kd.N_lower iE (keep_size (w := w) (g := g) (row := none) kq)); replace HI0 := am (IsS65.below ip hb); replace g1 := kb g1 hb; replace HK := kt HK (KeepBut.of_below hb g none); replace HB := bs HB hb; clear i1 hb iE; obtain ⟨jG, jH, rfl⟩ := Kd.N_slice iN.1; have m5 := g3.1; have m6 := g6.1; obtain ⟨kJ, kK, kL, kM, kN, kO⟩ := cs3 g1))
   refine bodyPost_ret (results_cell_row rfl _ _ g0 25 #[.int .i64 1, .int .i64 iA, .slice jG iZ.length jH] (0, 0) _ rfl (kf g1).1 Try.underlying25 rfl (by kernel_rfl)) rfl ?_
   exact ⟨_, by first | rfl | (simp [errW_none, errW_some] <;> rfl) | (simp [*, errW_none, errW_some] <;> rfl), by (with_reducible repeat (first | apply Kd.N_alloc | apply Kd.N_drewN | apply Kd.N_drew)); exact Kd.N_mono (Kd.N_far (p := ⟨g0, 2, none⟩) (Kd.N_far (p := ⟨g0, 1, none⟩) (Kd.N_far (p := ⟨g0, 0, none⟩) (Kd.N_mono iN.1 (fun k_ hk => (⟨hk, hk.2.1⟩ : _ ∧ k_ ≠ g0))) mq (.int .i64 1)) mq (.int .i64 iA)) mq (.slice jG iZ.length jH)) mq, by repeat (first | (with_reducible first | exact HI0.1 | apply IsS65.alloc | apply IsS65.drewN | apply IsS65.drew | apply IsS65.set_1 | refine IsS65.far ?_ g6.1 _) | exact HI0.1), by repeat (first | (with_reducible first | exact HB.1 | apply below_alloc | apply pw_below_drewN | apply below_drew1 | refine below_set ?_ (IsS65.ge HI0.1) | refine below_set ?_ gP.1) | exact HB.1), by repeat (first | (with_reducible first | exact HK.1 | apply KeepBut.set_ | apply keep_drewN | apply keep_drew | apply keep_alloc | refine keep_far ?_ gO.1 _) | exact HK.1)⟩
  ·
   rw [if_neg c8] at H; have c8b0 : decide (gF < 3) = false := decide_eq_false c8; clear c8
   by_cases c21 : gF < 6
   ·
    rw [if_pos c21] at H; have c21b0 : decide (gF < 6) = true := decide_eq_true c21; clear c21
    replace H := Option.bind_eq_some_iff.mp H
    obtain ⟨⟨hF, iF⟩, jI, H⟩ := H
    replace H : ((spec_l6Rd_pick.f k g2 iF 30).bind fun gU => (if gU.1 = 0 then ((some (([0, 10, 9] : List Int) : List Int)).bind fun gD => ((spec_l6Rd_pick.f k g2 gU.2 3).bind fun gC => (if 0 ≤ gC.1 then (if gC.1 < (gD.length : Int) then ((spec_l92Clock.f k g2 gC.2 (wrap64 (a1 - 1))).bind fun g9 => (some (2, rd gD gC.1, (([(⟨g9.1, g9.2.1, g9.2.2.1⟩ : S25)] : List (S25))), g9.2.2.2))) else (none)) else (none)))) else ((spec_l92Clock.f k g2 gU.2 (wrap64 (a1 - 1))).bind fun gE => (some (2, wrap64 (1 + hF), (([(⟨gE.1, gE.2.1, gE.2.2.1⟩ : S25)] : List (S25))), gE.2.2.2))))) = some (r1, r2, r3, r4) := H
    have A22 := am jI
    clear jI
    replace H := Option.bind_eq_some_iff.mp H
    obtain ⟨⟨hG, hH⟩, jJ, H⟩ := H
    replace H : (if hG = 0 then ((some (([0, 10, 9] : List Int) : List Int)).bind fun gD => ((spec_l6Rd_pick.f k g2 hH 3).bind fun gC => (if 0 ≤ gC.1 then (if gC.1 < (gD.length : Int) then ((spec_l92Clock.f k g2 gC.2 (wrap64 (a1 - 1))).bind fun g9 => (some (2, rd gD gC.1, (([(⟨g9.1, g9.2.1, g9.2.2.1⟩ : S25)] : List (S25))), g9.2.2.2))) else (none)) else (none)))) else ((spec_l92Clock.f k g2 hH (wrap64 (a1 - 1))).bind fun gE => (some (2, wrap64 (1 + hF), (([(⟨gE.1, gE.2.1, gE.2.2.1⟩ : S25)] : List (S25))), gE.2.2.2)))) = some (r1, r2, r3, r4) := H
    have A23 := am jJ
    clear jJ
    by_cases c24 : hG = 0
    ·
     rw [if_pos c24] at H; have c24b0 : (hG == 0) = true := beq_iff_eq.mpr c24; have c24b1 : (hG != 0) = false := bne_eq_false_iff_eq.mpr c24; clear c24
     obtain ⟨gD, hJ⟩ : ∃ y_ : List Int, y_ = (([0, 10, 9] : List Int)) := ⟨_, rfl⟩
     replace H : ((spec_l6Rd_pick.f k g2 hH 3).bind fun gC => (if 0 ≤ gC.1 then (if gC.1 < (gD.length : Int) then ((spec_l92Clock.f k g2 gC.2 (wrap64 (a1 - 1))).bind fun g9 => (some (2, rd gD gC.1, (([(⟨g9.1, g9.2.1, g9.2.2.1⟩ : S25)] : List (S25))), g9.2.2.2))) else (none)) else (none))) = some (r1, r2, r3, r4) := by first | (rw [hJ]; with_reducible exact H) | (have H2_ := (Option.bind_some _ _).symm.trans H; rw [hJ]; with_reducible exact H2_) | (have H2_ := (Option.bind_some _ _).symm.trans H; with_reducible exact H2_) | with_reducible exact H | (rw [hJ]; exact H) | exact H
     have iO := am hJ
     clear hJ
     replace H := Option.bind_eq_some_iff.mp H
     obtain ⟨⟨gZ, iL⟩, jK, H⟩ := H
     replace H : (if 0 ≤ gZ then (if gZ < (gD.length : Int) then ((spec_l92Clock.f k g2 iL (wrap64 (a1 - 1))).bind fun g9 => (some (2, rd gD gZ, (([(⟨g9.1, g9.2.1, g9.2.2.1⟩ : S25)] : List (S25))), g9.2.2.2))) else (none)) else (none)) = some (r1, r2, r3, r4) := H
     have A25 := am jK
     clear jK
     by_cases c26 : 0 ≤ gZ
     ·
      rw [if_pos c26] at H; have c26b0 : decide (0 ≤ gZ) = true := decide_eq_true c26; clear c26
      by_cases c27 : gZ < (gD.length : Int)
      ·
       rw [if_pos c27] at H; have c27b0 : decide (gZ < (gD.length : Int)) = true := decide_eq_true c27; clear c27
       replace H := Option.bind_eq_some_iff.mp H
       obtain ⟨⟨hL, hM, hN, j3⟩, jL, H⟩ := H
       replace H : (some (2, rd gD gZ, (([(⟨hL, hM, hN⟩ : S25)] : List (S25))), j3)) = some (r1, r2, r3, r4) := H
       have A28 := am jL
       clear jL
       obtain ⟨j4, hO⟩ : ∃ y_ : List (S25), y_ = (([(⟨hL, hM, hN⟩ : S25)] : List (S25))) := ⟨_, rfl⟩
       replace H : (some (2, rd gD gZ, j4, j3)) = some (r1, r2, r3, r4) := by first | (rw [hO]; with_reducible exact H) | (have H2_ := (Option.bind_some _ _).symm.trans H; rw [hO]; with_reducible exact H2_) | (have H2_ := (Option.bind_some _ _).symm.trans H; with_reducible exact H2_) | with_reducible exact H | (rw [hO]; exact H) | exact H
       have iP := am hO
       clear hO
       simp only [Option.some.injEq, Prod.mk.injEq] at H
       obtain ⟨rfl, rfl, rfl, rfl⟩ := H
       go_enter Try.func56, Try.ntmps56
       go_wp2_with (first | ((with_reducible refine gate_dst (N := 4) rfl ?_); refine bx (cs := #[.int .i64 0, .int .i64 0, .slice none 0 0]) (t := 25) fun g0 hg w29 hbox hb => ?_; replace HB := bs HB hb; have g1 := am (hbox); have gO := am ((by rw [hg]; exact (keep_size (w := w) (g := g) (row := none) kq) : w.heap.size ≤ g0)); have gP := am ((Nat.le_trans HW0.1 (by rw [hg]; exact (keep_size (w := w) (g := g) (row := none) kq) : w.heap.size ≤ g0) : w0.heap.size ≤ g0)); replace HK := kt HK (KeepBut.of_below hb g none); have g6 := am ((by rw [hg]; exact Nat.ne_of_lt (IsS65.lt (show IsS65 w0 _ g g2 gI from by repeat (first | (with_reducible first | exact HI0.1 | apply IsS65.alloc | apply IsS65.drewN | apply IsS65.drew | apply IsS65.set_1) | exact HI0.1))) : g ≠ g0)); have g3 := am ((by rw [hg]; exact Nat.ne_of_gt (IsS65.lt (show IsS65 w0 _ g g2 gI from by repeat (first | (with_reducible first | exact HI0.1 | apply IsS65.alloc | apply IsS65.drewN | apply IsS65.drew | apply IsS65.set_1) | exact HI0.1))) : g0 ≠ g)); replace HI0 := am (IsS65.below ip hb); clear hb hbox hg) | ((with_reducible refine gate_callee (f := 55) rfl ?_); refine gl (some 14) Try.func55 #[.pointer (some ⟨g, 0, none⟩), .int .i64 9] ?_; (with_reducible refine (spec_l6Rd_pick.calls k g g2 gI 9 gF gX w0 _ ?side1 ?side2 A7.1).mono ?_); (case side1 => exact ip); (case side2 => exact bq); rintro e w30 ⟨rfl, hi, hb, hk⟩; refine ⟨_, rfl, ?_⟩; replace g1 := kk g1 g3 hk; replace HK := kt HK hk; replace HB := am (hb); replace HI0 := am (hi); clear hb hk hi) | ((with_reducible refine gate_callee (f := 55) rfl ?_); refine gl (some 31) Try.func55 #[.pointer (some ⟨g, 0, none⟩), .int .i64 4] ?_; (with_reducible refine (spec_l6Rd_pick.calls k g g2 gX 4 hF iF w0 _ ?side1 ?side2 A22.1).mono ?_); (case side1 => exact ip); (case side2 => exact bq); rintro e w31 ⟨rfl, hi, hb, hk⟩; refine ⟨_, rfl, ?_⟩; replace g1 := kk g1 g3 hk; replace HK := kt HK hk; replace HB := am (hb); replace HI0 := am (hi); clear hb hk hi) | ((with_reducible refine gate_callee (f := 55) rfl ?_); refine gl (some 34) Try.func55 #[.pointer (some ⟨g, 0, none⟩), .int .i64 30] ?_; (with_reducible refine (spec_l6Rd_pick.calls k g g2 iF 30 hG hH w0 _ ?side1 ?side2 A23.1).mono ?_); (case side1 => exact ip); (case side2 => exact bq); rintro e w32 ⟨rfl, hi, hb, hk⟩; refine ⟨_, rfl, ?_⟩; replace g1 := kk g1 g3 hk; replace HK := kt HK hk; replace HB := am (hb); replace HI0 := am (hi); clear hb hk hi) | ((with_reducible refine gate_dst (N := 36) rfl ?_); refine Kd.R_lit (Kd.int .i64) _ 3 ?hg (N := 36) ?hd (xs := ([0, 10, 9] : List Int)) (inner := [.int .i64 0, .int .i64 10, .int .i64 9]) (ok := fun _ => True) (okp := fun _ => True) ?hr ?hp (fun _ hk => hk) trivial (Below.refl _ _) (Nat.le_refl _) (by simp) ?_; (case hd => rfl); (case hg => rfl); (case hr => first | (go_simp; done) | (go_simp; rfl)); (case hp => exact (Reps.one (show Kd.M (Kd.int .i64) _ _ _ 0 [.int .i64 0] from rfl) (Reps.one (show Kd.M (Kd.int .i64) _ _ _ 10 [.int .i64 10] from rfl) (Reps.one (show Kd.M (Kd.int .i64) _ _ _ 9 [.int .i64 9] from rfl) (Reps.none _ _))))); intro mW w33 iG hb hg_ hnew_; clear hg_ hnew_; (first | rw [← iO.1] at iG | (simp only [Int.reduceToNat] at iG; rw [← iO.1] at iG)); have gY := am (Kd.R_lower (Kd.R_newM (M := fun k_ => (w.heap.size ≤ k_)) iG (keep_size (w := w) (g := g) (row := none) kq) (fun k_ h_ => h_)) (keep_size (w := w) (g := g) (row := none) kq)); replace HI0 := am (IsS65.below ip hb); replace g1 := kb g1 hb; replace HK := kt HK (KeepBut.of_below hb g none); replace HB := bs HB hb; clear hb iG) | ((with_reducible refine gate_callee (f := 55) rfl ?_); refine gl (some 38) Try.func55 #[.pointer (some ⟨g, 0, none⟩), .int .i64 3] ?_; (with_reducible refine (spec_l6Rd_pick.calls k g g2 hH 3 gZ iL w0 _ ?side1 ?side2 A25.1).mono ?_); (case side1 => exact ip); (case side2 => exact bq); rintro e w35 ⟨rfl, hi, hb, hk⟩; refine ⟨_, rfl, ?_⟩; replace g1 := kk g1 g3 hk; replace gY := am (Kd.R_mono (Kd.R_keep (IsS65.apart (show IsS65 w0 _ g g2 hH from by repeat (first | (with_reducible first | exact HI0.1 | apply IsS65.alloc | apply IsS65.drewN | apply IsS65.drew | apply IsS65.set_1 | refine IsS65.far ?_ g6.1 _) | exact HI0.1)) (by (with_reducible repeat (first | apply Kd.R_alloc | apply Kd.R_drewN | apply Kd.R_drew)); exact gY.1) (by decide)) hk (fun _ h => h.2)) (fun _ h => h.1)); replace HK := kt HK hk; replace HB := am (hb); replace HI0 := am (hi); clear hb hk hi; obtain ⟨mX, iB, rfl⟩ := Kd.R_slice gY.1; have j5 : 0 ≤ (gZ : Int) := od; have j6 : gZ < (gD.length : Int) := od; obtain ⟨h7, m2, kP⟩ := Kd.at_int (Kd.R_reads' gY.1).2.2 gZ j5 j6; cases m2; replace j5 := eq_true j5; replace j6 := eq_true j6) | ((with_reducible refine gate_callee (f := 56) rfl ?_); refine gl (some 45) Try.func56 #[.pointer (some ⟨g, 0, none⟩), .int .i64 (wrap64 (a1 - 1))] ?_; (with_reducible refine (ih k (by omega) g g2 iL (wrap64 (a1 - 1)) hL hM hN j3 w0 _ ?side1 ?side2 A28.1).mono ?_); (case side1 => exact ip); (case side2 => exact bq); rintro e w37 ⟨mY, rfl, ho0, hi, hb, hk⟩; refine ⟨_, rfl, ?_⟩; have i2 := nk HK ho0 (fun k_ => (w.heap.size ≤ k_) ∧ some k_ ≠ (.slice (some h7) gD.length iB : Value).ownBlock ∧ k_ ≠ g0 ∧ k_ ≠ g) (fun k_ hk_ => ⟨(zk HK hk_), (Kd.fresh' (Kd.R_lt (by (with_reducible repeat (first | apply Kd.R_alloc | apply Kd.R_drewN | apply Kd.R_drew)); exact gY.1)) k_ hk_), (fb g1 k_ hk_), (IsS65.fresh ip k_ hk_)⟩); replace g1 := kk g1 g3 hk; replace gY := am (Kd.R_mono (Kd.R_keep (IsS65.apart (show IsS65 w0 _ g g2 iL from by repeat (first | (with_reducible first | exact HI0.1 | apply IsS65.alloc | apply IsS65.drewN | apply IsS65.drew | apply IsS65.set_1 | refine IsS65.far ?_ g6.1 _) | exact HI0.1)) (by (with_reducible repeat (first | apply Kd.R_alloc | apply Kd.R_drewN | apply Kd.R_drew)); exact gY.1) (by decide)) hk (fun _ h => h.2)) (fun _ h => h.1)); replace HK := kt HK hk; replace HB := am (hb); replace HI0 := am (hi); clear hb hk hi ho0; obtain ⟨jM, jN, rfl⟩ := Kd.N_slice i2.1) | ((with_reducible refine gate_dst (N := 46) rfl ?_); refine Kd.N_lit k25 _ 25 ?hg (N' := 46) ?hd (xs := ([(⟨hL, hM, hN⟩ : S25)] : List (S25))) (inner := [.int .i64 hL, .int .i64 hM, .slice jM hN.length jN]) (ok := (fun k_ => (w.heap.size ≤ k_) ∧ some k_ ≠ (.slice (some h7) gD.length iB : Value).ownBlock ∧ k_ ≠ g0 ∧ k_ ≠ g)) (okp := (fun k_ => (w.heap.size ≤ k_) ∧ some k_ ≠ (.slice (some h7) gD.length iB : Value).ownBlock ∧ k_ ≠ g0 ∧ k_ ≠ g)) ?hr ?hp (fun _ hk => hk) ((show ∀ k_, w37.heap.size ≤ k_ → (fun k_ => (w.heap.size ≤ k_) ∧ some k_ ≠ (.slice (some h7) gD.length iB : Value).ownBlock ∧ k_ ≠ g0 ∧ k_ ≠ g) k_ from fun k_ hk => ⟨(zk HK hk), Kd.fresh' (Kd.R_lt (by (with_reducible repeat (first | apply Kd.R_alloc | apply Kd.R_drewN | apply Kd.R_drew)); exact gY.1)) k_ hk, Kd.freshB (g := g0) (o := .cells #[.int .i64 0, .int .i64 0, .slice none 0 0] 25 (0, 0)) (kf g1).1 k_ hk, IsS65.fresh ip k_ hk⟩) _ (Nat.le_refl _)) (Below.refl _ _) (Nat.le_refl _) (by simp) ?_; (case hd => rfl); (case hg => rfl); (case hr => first | (go_simp; done) | (go_simp; rfl)); (case hp => exact (Reps.c3 (show Kd.FK k25 _ _ (⟨hL, hM, hN⟩ : S25) [.int .i64 hL, .int .i64 hM, .slice jM hN.length jN] from (k25_mkF _ _ (⟨hL, hM, hN⟩ : S25) (Kd.N_reads' (Kd.N_mono (ok' := (fun k_ => (w.heap.size ≤ k_) ∧ some k_ ≠ (.slice (some h7) gD.length iB : Value).ownBlock ∧ k_ ≠ g0 ∧ k_ ≠ g)) (i2.1) mq)).2.1 (Kd.N_F (Kd.N_mono (ok' := (fun k_ => (w.heap.size ≤ k_) ∧ some k_ ≠ (.slice (some h7) gD.length iB : Value).ownBlock ∧ k_ ≠ g0 ∧ k_ ≠ g)) (i2.1) mq)))) (Reps.none _ _))); intro mZ w39 iH hb hg_ hnew_; clear hg_ hnew_; (first | rw [← iP.1] at iH | (simp only [Int.reduceToNat] at iH; rw [← iP.1] at iH)); replace gY := am (Kd.R_below (by (with_reducible repeat (first | apply Kd.R_alloc | apply Kd.R_drewN | apply Kd.R_drew)); exact gY.1) hb); have iQ := am (Kd.N_lower iH (keep_size (w := w) (g := g) (row := none) kq)); replace HI0 := am (IsS65.below ip hb); replace g1 := kb g1 hb; replace HK := kt HK (KeepBut.of_below hb g none); replace HB := bs HB hb; clear i2 hb iH; obtain ⟨jO, jP, rfl⟩ := Kd.N_slice iQ.1; have m7 := g3.1; have m8 := g6.1; obtain ⟨kQ, kR, kS, kT, kU, kV⟩ := cs3 g1))
       refine bodyPost_ret (results_cell_row rfl _ _ g0 25 #[.int .i64 2, .int .i64 (rd gD gZ), .slice jO j4.length jP] (0, 0) _ rfl (kf g1).1 Try.underlying25 rfl (by kernel_rfl)) rfl ?_
       exact ⟨_, by first | rfl | (simp [errW_none, errW_some] <;> rfl) | (simp [*, errW_none, errW_some] <;> rfl), by (with_reducible repeat (first | apply Kd.N_alloc | apply Kd.N_drewN | apply Kd.N_drew)); exact Kd.N_mono (Kd.N_far (p := ⟨g0, 2, none⟩) (Kd.N_far (p := ⟨g0, 1, none⟩) (Kd.N_far (p := ⟨g0, 0, none⟩) (Kd.N_mono iQ.1 (fun k_ hk => (⟨hk, hk.2.2.1⟩ : _ ∧ k_ ≠ g0))) mq (.int .i64 2)) mq (.int .i64 (rd gD gZ))) mq (.slice jO j4.length jP)) mq, by repeat (first | (with_reducible first | exact HI0.1 | apply IsS65.alloc | apply IsS65.drewN | apply IsS65.drew | apply IsS65.set_1 | refine IsS65.far ?_ g6.1 _) | exact HI0.1), by repeat (first | (with_reducible first | exact HB.1 | apply below_alloc | apply pw_below_drewN | apply below_drew1 | refine below_set ?_ (IsS65.ge HI0.1) | refine below_set ?_ gP.1) | exact HB.1), by repeat (first | (with_reducible first | exact HK.1 | apply KeepBut.set_ | apply keep_drewN | apply keep_drew | apply keep_alloc | refine keep_far ?_ gO.1 _) | exact HK.1)⟩
      ·
       rw [if_neg c27] at H
       exact absurd H (by simp)
     ·
      rw [if_neg c26] at H
      exact absurd H (by simp)
    ·
     rw [if_neg c24] at H; have c24b0 : (hG == 0) = false := beq_eq_false_iff_ne.mpr c24; have c24b1 : (hG != 0) = true := bne_iff_ne.mpr c24
     replace H := Option.bind_eq_some_iff.mp H
     obtain ⟨⟨hP, hQ, hR, j7⟩, jQ, H⟩ := H
     replace H : (some (2, wrap64 (1 + hF), (([(⟨hP, hQ, hR⟩ : S25)] : List (S25))), j7)) = some (r1, r2, r3, r4) := H
     have A44 := am jQ
     clear jQ
     obtain ⟨j8, hS⟩ : ∃ y_ : List (S25), y_ = (([(⟨hP, hQ, hR⟩ : S25)] : List (S25))) := ⟨_, rfl⟩
     replace H : (some (2, wrap64 (1 + hF), j8, j7)) = some (r1, r2, r3, r4) := by first | (rw [hS]; with_reducible exact H) | (have H2_ := (Option.bind_some _ _).symm.trans H; rw [hS]; with_reducible exact H2_) | (have H2_ := (Option.bind_some _ _).symm.trans H; with_reducible exact H2_) | with_reducible exact H | (rw [hS]; exact H) | exact H
     have iR := am hS
     clear hS
     simp only [Option.some.injEq, Prod.mk.injEq] at H
     obtain ⟨rfl, rfl, rfl, rfl⟩ := H
     go_enter Try.func56, Try.ntmps56
     go_wp2_with (first | ((with_reducible refine gate_dst (N := 4) rfl ?_); refine bx (cs := #[.int .i64 0, .int .i64 0, .slice none 0 0]) (t := 25) fun g0 hg w45 hbox hb => ?_; replace HB := bs HB hb; have g1 := am (hbox); have gO := am ((by rw [hg]; exact (keep_size (w := w) (g := g) (row := none) kq) : w.heap.size ≤ g0)); have gP := am ((Nat.le_trans HW0.1 (by rw [hg]; exact (keep_size (w := w) (g := g) (row := none) kq) : w.heap.size ≤ g0) : w0.heap.size ≤ g0)); replace HK := kt HK (KeepBut.of_below hb g none); have g6 := am ((by rw [hg]; exact Nat.ne_of_lt (IsS65.lt (show IsS65 w0 _ g g2 gI from by repeat (first | (with_reducible first | exact HI0.1 | apply IsS65.alloc | apply IsS65.drewN | apply IsS65.drew | apply IsS65.set_1) | exact HI0.1))) : g ≠ g0)); have g3 := am ((by rw [hg]; exact Nat.ne_of_gt (IsS65.lt (show IsS65 w0 _ g g2 gI from by repeat (first | (with_reducible first | exact HI0.1 | apply IsS65.alloc | apply IsS65.drewN | apply IsS65.drew | apply IsS65.set_1) | exact HI0.1))) : g0 ≠ g)); replace HI0 := am (IsS65.below ip hb); clear hb hbox hg) | ((with_reducible refine gate_callee (f := 55) rfl ?_); refine gl (some 14) Try.func55 #[.pointer (some ⟨g, 0, none⟩), .int .i64 9] ?_; (with_reducible refine (spec_l6Rd_pick.calls k g g2 gI 9 gF gX w0 _ ?side1 ?side2 A7.1).mono ?_); (case side1 => exact ip); (case side2 => exact bq); rintro e w46 ⟨rfl, hi, hb, hk⟩; refine ⟨_, rfl, ?_⟩; replace g1 := kk g1 g3 hk; replace HK := kt HK hk; replace HB := am (hb); replace HI0 := am (hi); clear hb hk hi) | ((with_reducible refine gate_callee (f := 55) rfl ?_); refine gl (some 31) Try.func55 #[.pointer (some ⟨g, 0, none⟩), .int .i64 4] ?_; (with_reducible refine (spec_l6Rd_pick.calls k g g2 gX 4 hF iF w0 _ ?side1 ?side2 A22.1).mono ?_); (case side1 => exact ip); (case side2 => exact bq); rintro e w47 ⟨rfl, hi, hb, hk⟩; refine ⟨_, rfl, ?_⟩; replace g1 := kk g1 g3 hk; replace HK := kt HK hk; replace HB := am (hb); replace HI0 := am (hi); clear hb hk hi) | ((with_reducible refine gate_callee (f := 55) rfl ?_); refine gl (some 34) Try.func55 #[.pointer (some ⟨g, 0, none⟩), .int .i64 30] ?_; (with_reducible refine (spec_l6Rd_pick.calls k g g2 iF 30 hG hH w0 _ ?side1 ?side2 A23.1).mono ?_); (case side1 => exact ip); (case side2 => exact bq); rintro e w48 ⟨rfl, hi, hb, hk⟩; refine ⟨_, rfl, ?_⟩; replace g1 := kk g1 g3 hk; replace HK := kt HK hk; replace HB := am (hb); replace HI0 := am (hi); clear hb hk hi) | ((with_reducible refine gate_callee (f := 56) rfl ?_); refine gl (some 45) Try.func56 #[.pointer (some ⟨g, 0, none⟩), .int .i64 (wrap64 (a1 - 1))] ?_; (with_reducible refine (ih k (by omega) g g2 hH (wrap64 (a1 - 1)) hP hQ hR j7 w0 _ ?side1 ?side2 A44.1).mono ?_); (case side1 => exact ip); (case side2 => exact bq); rintro e w49 ⟨n0, rfl, ho0, hi, hb, hk⟩; refine ⟨_, rfl, ?_⟩; have i3 := nk HK ho0 (fun k_ => (w.heap.size ≤ k_) ∧ k_ ≠ g0 ∧ k_ ≠ g) (fun k_ hk_ => ⟨(zk HK hk_), (fb g1 k_ hk_), (IsS65.fresh ip k_ hk_)⟩); replace g1 := kk g1 g3 hk; replace HK := kt HK hk; replace HB := am (hb); replace HI0 := am (hi); clear hb hk hi ho0; obtain ⟨jR, jS, rfl⟩ := Kd.N_slice i3.1) | ((with_reducible refine gate_dst (N := 46) rfl ?_); refine Kd.N_lit k25 _ 25 ?hg (N' := 46) ?hd (xs := ([(⟨hP, hQ, hR⟩ : S25)] : List (S25))) (inner := [.int .i64 hP, .int .i64 hQ, .slice jR hR.length jS]) (ok := (fun k_ => (w.heap.size ≤ k_) ∧ k_ ≠ g0 ∧ k_ ≠ g)) (okp := (fun k_ => (w.heap.size ≤ k_) ∧ k_ ≠ g0 ∧ k_ ≠ g)) ?hr ?hp (fun _ hk => hk) ((show ∀ k_, w49.heap.size ≤ k_ → (fun k_ => (w.heap.size ≤ k_) ∧ k_ ≠ g0 ∧ k_ ≠ g) k_ from fun k_ hk => ⟨(zk HK hk), Kd.freshB (g := g0) (o := .cells #[.int .i64 0, .int .i64 0, .slice none 0 0] 25 (0, 0)) (kf g1).1 k_ hk, IsS65.fresh ip k_ hk⟩) _ (Nat.le_refl _)) (Below.refl _ _) (Nat.le_refl _) (by simp) ?_; (case hd => rfl); (case hg => rfl); (case hr => first | (go_simp; done) | (go_simp; rfl)); (case hp => exact (Reps.c3 (show Kd.FK k25 _ _ (⟨hP, hQ, hR⟩ : S25) [.int .i64 hP, .int .i64 hQ, .slice jR hR.length jS] from (k25_mkF _ _ (⟨hP, hQ, hR⟩ : S25) (Kd.N_reads' (Kd.N_mono (ok' := (fun k_ => (w.heap.size ≤ k_) ∧ k_ ≠ g0 ∧ k_ ≠ g)) (i3.1) mq)).2.1 (Kd.N_F (Kd.N_mono (ok' := (fun k_ => (w.heap.size ≤ k_) ∧ k_ ≠ g0 ∧ k_ ≠ g)) (i3.1) mq)))) (Reps.none _ _))); intro n2 w51 iI hb hg_ hnew_; clear hg_ hnew_; (first | rw [← iR.1] at iI | (simp only [Int.reduceToNat] at iI; rw [← iR.1] at iI)); have iS := am (Kd.N_lower iI (keep_size (w := w) (g := g) (row := none) kq)); replace HI0 := am (IsS65.below ip hb); replace g1 := kb g1 hb; replace HK := kt HK (KeepBut.of_below hb g none); replace HB := bs HB hb; clear i3 hb iI; obtain ⟨jT, jU, rfl⟩ := Kd.N_slice iS.1; have m9 := g3.1; have mA := g6.1; obtain ⟨kW, kX, kY, kZ, l4, l5⟩ := cs3 g1))
     refine bodyPost_ret (results_cell_row rfl _ _ g0 25 #[.int .i64 2, .int .i64 (wrap64 (1 + hF)), .slice jT j8.length jU] (0, 0) _ rfl (kf g1).1 Try.underlying25 rfl (by kernel_rfl)) rfl ?_
     exact ⟨_, by first | rfl | (simp [errW_none, errW_some] <;> rfl) | (simp [*, errW_none, errW_some] <;> rfl), by (with_reducible repeat (first | apply Kd.N_alloc | apply Kd.N_drewN | apply Kd.N_drew)); exact Kd.N_mono (Kd.N_far (p := ⟨g0, 2, none⟩) (Kd.N_far (p := ⟨g0, 1, none⟩) (Kd.N_far (p := ⟨g0, 0, none⟩) (Kd.N_mono iS.1 (fun k_ hk => (⟨hk, hk.2.1⟩ : _ ∧ k_ ≠ g0))) mq (.int .i64 2)) mq (.int .i64 (wrap64 (1 + hF)))) mq (.slice jT j8.length jU)) mq, by repeat (first | (with_reducible first | exact HI0.1 | apply IsS65.alloc | apply IsS65.drewN | apply IsS65.drew | apply IsS65.set_1 | refine IsS65.far ?_ g6.1 _) | exact HI0.1), by repeat (first | (with_reducible first | exact HB.1 | apply below_alloc | apply pw_below_drewN | apply below_drew1 | refine below_set ?_ (IsS65.ge HI0.1) | refine below_set ?_ gP.1) | exact HB.1), by repeat (first | (with_reducible first | exact HK.1 | apply KeepBut.set_ | apply keep_drewN | apply keep_drew | apply keep_alloc | refine keep_far ?_ gO.1 _) | exact HK.1)⟩
   ·
    rw [if_neg c21] at H; have c21b0 : decide (gF < 6) = false := decide_eq_false c21; clear c21
    by_cases c56 : gF = 6
    ·
     rw [if_pos c56] at H; have c56b0 : (gF == 6) = true := beq_iff_eq.mpr c56; have c56b1 : (gF != 6) = false := bne_eq_false_iff_eq.mpr c56; clear c56
     simp only [Option.some.injEq, Prod.mk.injEq] at H
     obtain ⟨rfl, rfl, rfl, rfl⟩ := H
     go_enter Try.func56, Try.ntmps56
     go_wp2_with (first | ((with_reducible refine gate_dst (N := 4) rfl ?_); refine bx (cs := #[.int .i64 0, .int .i64 0, .slice none 0 0]) (t := 25) fun g0 hg w57 hbox hb => ?_; replace HB := bs HB hb; have g1 := am (hbox); have gO := am ((by rw [hg]; exact (keep_size (w := w) (g := g) (row := none) kq) : w.heap.size ≤ g0)); have gP := am ((Nat.le_trans HW0.1 (by rw [hg]; exact (keep_size (w := w) (g := g) (row := none) kq) : w.heap.size ≤ g0) : w0.heap.size ≤ g0)); replace HK := kt HK (KeepBut.of_below hb g none); have g6 := am ((by rw [hg]; exact Nat.ne_of_lt (IsS65.lt (show IsS65 w0 _ g g2 gI from by repeat (first | (with_reducible first | exact HI0.1 | apply IsS65.alloc | apply IsS65.drewN | apply IsS65.drew | apply IsS65.set_1) | exact HI0.1))) : g ≠ g0)); have g3 := am ((by rw [hg]; exact Nat.ne_of_gt (IsS65.lt (show IsS65 w0 _ g g2 gI from by repeat (first | (with_reducible first | exact HI0.1 | apply IsS65.alloc | apply IsS65.drewN | apply IsS65.drew | apply IsS65.set_1) | exact HI0.1))) : g0 ≠ g)); replace HI0 := am (IsS65.below ip hb); clear hb hbox hg) | ((with_reducible refine gate_callee (f := 55) rfl ?_); refine gl (some 14) Try.func55 #[.pointer (some ⟨g, 0, none⟩), .int .i64 9] ?_; (with_reducible refine (spec_l6Rd_pick.calls k g g2 gI 9 gF gX w0 _ ?side1 ?side2 A7.1).mono ?_); (case side1 => exact ip); (case side2 => exact bq); rintro e w58 ⟨rfl, hi, hb, hk⟩; refine ⟨_, rfl, ?_⟩; replace g1 := kk g1 g3 hk; replace HK := kt HK hk; replace HB := am (hb); replace HI0 := am (hi); clear hb hk hi; have mB := g3.1; have mC := g6.1; obtain ⟨l6, l7, l8, l9, lA, lB⟩ := cs3 g1))
     refine bodyPost_ret (results_cell_row rfl _ _ g0 25 #[.int .i64 0, .int .i64 0, .slice none 0 0] (0, 0) _ rfl (kf g1).1 Try.underlying25 rfl (by kernel_rfl)) rfl ?_
     exact ⟨_, by first | rfl | (simp [errW_none, errW_some] <;> rfl) | (simp [*, errW_none, errW_some] <;> rfl), by first | exact Kd.R_nil _ _ _ _ _ | exact Kd.N_nil _ _ _ _ _ | exact Kd.V_nil _ _ _ _ _ | exact Kd.Q_nil _ _ _ _ _ | exact Kd.S_nil _ _ _ _ _, by repeat (first | (with_reducible first | exact HI0.1 | apply IsS65.alloc | apply IsS65.drewN | apply IsS65.drew | apply IsS65.set_1 | refine IsS65.far ?_ g6.1 _) | exact HI0.1), by repeat (first | (with_reducible first | exact HB.1 | apply below_alloc | apply pw_below_drewN | apply below_drew1 | refine below_set ?_ (IsS65.ge HI0.1) | refine below_set ?_ gP.1) | exact HB.1), by repeat (first | (with_reducible first | exact HK.1 | apply KeepBut.set_ | apply keep_drewN | apply keep_drew | apply keep_alloc | refine keep_far ?_ gO.1 _) | exact HK.1)⟩
    ·
     rw [if_neg c56] at H; have c56b0 : (gF == 6) = false := beq_eq_false_iff_ne.mpr c56; have c56b1 : (gF != 6) = true := bne_iff_ne.mpr c56
     by_cases c61 : gF = 8
     ·
      rw [if_pos c61] at H; have c61b0 : (gF == 8) = true := beq_iff_eq.mpr c61; have c61b1 : (gF != 8) = false := bne_eq_false_iff_eq.mpr c61; clear c61
      replace H := Option.bind_eq_some_iff.mp H
      obtain ⟨⟨gQ, gR, gJ, iC⟩, jV, H⟩ := H
      replace H : ((spec_l92Clock.f k g2 iC (wrap64 (a1 - 1))).bind fun gM => (some (4, 0, (([(⟨gQ, gR, gJ⟩ : S25), (⟨gM.1, gM.2.1, gM.2.2.1⟩ : S25)] : List (S25))), gM.2.2.2))) = some (r1, r2, r3, r4) := H
      have A62 := am jV
      clear jV
      replace H := Option.bind_eq_some_iff.mp H
      obtain ⟨⟨hT, hU, hV, j9⟩, jW, H⟩ := H
      replace H : (some (4, 0, (([(⟨gQ, gR, gJ⟩ : S25), (⟨hT, hU, hV⟩ : S25)] : List (S25))), j9)) = some (r1, r2, r3, r4) := H
      have A63 := am jW
      clear jW
      obtain ⟨jA, hW⟩ : ∃ y_ : List (S25), y_ = (([(⟨gQ, gR, gJ⟩ : S25), (⟨hT, hU, hV⟩ : S25)] : List (S25))) := ⟨_, rfl⟩
      replace H : (some (4, 0, jA, j9)) = some (r1, r2, r3, r4) := by first | (rw [hW]; with_reducible exact H) | (have H2_ := (Option.bind_some _ _).symm.trans H; rw [hW]; with_reducible exact H2_) | (have H2_ := (Option.bind_some _ _).symm.trans H; with_reducible exact H2_) | with_reducible exact H | (rw [hW]; exact H) | exact H
      have iT := am hW
      clear hW
      simp only [Option.some.injEq, Prod.mk.injEq] at H
      obtain ⟨rfl, rfl, rfl, rfl⟩ := H
      go_enter Try.func56, Try.ntmps56
      try go_wp2_with (first | ((with_reducible refine gate_dst (N := 4) rfl ?_); refine bx (cs := #[.int .i64 0, .int .i64 0, .slice none 0 0]) (t := 25) fun g0 hg w64 hbox hb => ?_; replace HB := bs HB hb; have g1 := am (hbox); have gO := am ((by rw [hg]; exact (keep_size (w := w) (g := g) (row := none) kq) : w.heap.size ≤ g0)); have gP := am ((Nat.le_trans HW0.1 (by rw [hg]; exact (keep_size (w := w) (g := g) (row := none) kq) : w.heap.size ≤ g0) : w0.heap.size ≤ g0)); replace HK := kt HK (KeepBut.of_below hb g none); have g6 := am ((by rw [hg]; exact Nat.ne_of_lt (IsS65.lt (show IsS65 w0 _ g g2 gI from by repeat (first | (with_reducible first | exact HI0.1 | apply IsS65.alloc | apply IsS65.drewN | apply IsS65.drew | apply IsS65.set_1) | exact HI0.1))) : g ≠ g0)); have g3 := am ((by rw [hg]; exact Nat.ne_of_gt (IsS65.lt (show IsS65 w0 _ g g2 gI from by repeat (first | (with_reducible first | exact HI0.1 | apply IsS65.alloc | apply IsS65.drewN | apply IsS65.drew | apply IsS65.set_1) | exact HI0.1))) : g0 ≠ g)); replace HI0 := am (IsS65.below ip hb); clear hb hbox hg) | ((with_reducible refine gate_callee (f := 55) rfl ?_); refine gl (some 14) Try.func55 #[.pointer (some ⟨g, 0, none⟩), .int .i64 9] ?_; (with_reducible refine (spec_l6Rd_pick.calls k g g2 gI 9 gF gX w0 _ ?side1 ?side2 A7.1).mono ?_); (case side1 => exact ip); (case side2 => exact bq); rintro e w65 ⟨rfl, hi, hb, hk⟩; refine ⟨_, rfl, ?_⟩; replace g1 := kk g1 g3 hk; replace HK := kt HK hk; replace HB := am (hb); replace HI0 := am (hi); clear hb hk hi) | ((with_reducible refine gate_callee (f := 56) rfl ?_); refine gl (some 57) Try.func56 #[.pointer (some ⟨g, 0, none⟩), .int .i64 (wrap64 (a1 - 1))] ?_; (with_reducible refine (ih k (by omega) g g2 gX (wrap64 (a1 - 1)) gQ gR gJ iC w0 _ ?side1 ?side2 A62.1).mono ?_); (case side1 => exact ip); (case side2 => exact bq); rintro e w66 ⟨n3, rfl, ho0, hi, hb, hk⟩; refine ⟨_, rfl, ?_⟩; have gG := nk HK ho0 (fun k_ => (w.heap.size ≤ k_) ∧ k_ ≠ g0 ∧ k_ ≠ g) (fun k_ hk_ => ⟨(zk HK hk_), (fb g1 k_ hk_), (IsS65.fresh ip k_ hk_)⟩); replace g1 := kk g1 g3 hk; replace HK := kt HK hk; replace HB := am (hb); replace HI0 := am (hi); clear hb hk hi ho0) | ((with_reducible refine gate_dst (N := 9) rfl ?_); refine bx (cs := #[.int .i64 0, .int .i64 0, .slice none 0 0]) (t := 25) fun g4 hg w67 hbox hb => ?_; replace gG := nb gG hg hb; replace HB := bs HB hb; have gA := am (hbox); have jX := am ((by rw [hg]; exact (keep_size (w := w) (g := g) (row := none) kq) : w.heap.size ≤ g4)); have jY := am ((Nat.le_trans HW0.1 (by rw [hg]; exact (keep_size (w := w) (g := g) (row := none) kq) : w.heap.size ≤ g4) : w0.heap.size ≤ g4)); replace HK := kt HK (KeepBut.of_below hb g none); have gV := nl g1 hg; have g7 := ng g1 hg; replace g1 := kb g1 hb; have i4 := am ((by rw [hg]; exact Nat.ne_of_lt (IsS65.lt (show IsS65 w0 _ g g2 iC from by repeat (first | (with_reducible first | exact HI0.1 | apply IsS65.alloc | apply IsS65.drewN | apply IsS65.drew | apply IsS65.set_1 | refine IsS65.far ?_ g6.1 _) | exact HI0.1))) : g ≠ g4)); have i5 := am ((by rw [hg]; exact Nat.ne_of_gt (IsS65.lt (show IsS65 w0 _ g g2 iC from by repeat (first | (with_reducible first | exact HI0.1 | apply IsS65.alloc | apply IsS65.drewN | apply IsS65.drew | apply IsS65.set_1 | refine IsS65.far ?_ g6.1 _) | exact HI0.1))) : g4 ≠ g)); replace HI0 := am (IsS65.below ip hb); clear hb hbox hg; have mD := g7.1; have mE := gV.1; have mF := i5.1; have mG := i4.1; obtain ⟨lC, lD, lE, lF, lG, lH⟩ := cs3 gA; obtain ⟨h3, h4, rfl⟩ := Kd.N_slice gG.1))
      have n0_ : Aside0 (Kd.N k25 25 (((w67.setCell ⟨g4, 0, none⟩ (.int .i64 gQ)).setCell ⟨g4, 1, none⟩ (.int .i64 gR)).setCell ⟨g4, 2, none⟩ (.slice h3 gJ.length h4)) w.heap.size (fun k_ => (w.heap.size ≤ k_) ∧ k_ ≠ g0 ∧ k_ ≠ g ∧ k_ ≠ g4) (.slice h3 gJ.length h4) gJ) := nf gG; have n1_ : Aside0 ((((w67.setCell ⟨g4, 0, none⟩ (.int .i64 gQ)).setCell ⟨g4, 1, none⟩ (.int .i64 gR)).setCell ⟨g4, 2, none⟩ (.slice h3 gJ.length h4)).heap[g0]? = some (.cells #[.int .i64 0, .int .i64 0, .slice none 0 0] 25 (0, 0))) := kf g1; have n2_ : Aside0 ((((w67.setCell ⟨g4, 0, none⟩ (.int .i64 gQ)).setCell ⟨g4, 1, none⟩ (.int .i64 gR)).setCell ⟨g4, 2, none⟩ (.slice h3 gJ.length h4)).heap[g4]? = some (.cells #[.int .i64 gQ, .int .i64 gR, .slice h3 gJ.length h4] 25 (0, 0))) := kf gA; have n3_ : Aside0 (IsS65 w0 (((w67.setCell ⟨g4, 0, none⟩ (.int .i64 gQ)).setCell ⟨g4, 1, none⟩ (.int .i64 gR)).setCell ⟨g4, 2, none⟩ (.slice h3 gJ.length h4)) g g2 iC) := ⟨ip⟩; have n4_ : Aside0 (KeepBut w (((w67.setCell ⟨g4, 0, none⟩ (.int .i64 gQ)).setCell ⟨g4, 1, none⟩ (.int .i64 gR)).setCell ⟨g4, 2, none⟩ (.slice h3 gJ.length h4)) g none) := ⟨kq⟩; have n5_ : Aside0 (Below w0.heap.size w0 (((w67.setCell ⟨g4, 0, none⟩ (.int .i64 gQ)).setCell ⟨g4, 1, none⟩ (.int .i64 gR)).setCell ⟨g4, 2, none⟩ (.slice h3 gJ.length h4))) := bw; (try clear gG); (try clear g1); (try clear gA); (try clear HI0); (try clear HK); (try clear HB)
      generalize (((w67.setCell ⟨g4, 0, none⟩ (.int .i64 gQ)).setCell ⟨g4, 1, none⟩ (.int .i64 gR)).setCell ⟨g4, 2, none⟩ (.slice h3 gJ.length h4)) = w72 at n0_ n1_ n2_ n3_ n4_ n5_ ⊢
      have gG := n0_; have g1 := n1_; have gA := n2_
      have HI0 := n3_
      have HK := n4_
      have HB := n5_; clear n0_ n1_ n2_ n3_ n4_ n5_; have n0_ := am (Kd.N_drew gG.1); have n1_ := am (blk_drew g1.1); have n2_ := am (blk_drew gA.1); have n3_ := am (IsS65.drew HI0.1); have n4_ := am (keep_drew HK.1); have n5_ := am (below_drew1 HB.1); clear gG g1 gA HI0 HK HB; have gG := n0_; have g1 := n1_; have gA := n2_
      have HI0 := n3_
      have HK := n4_
      have HB := n5_; clear n0_ n1_ n2_ n3_ n4_ n5_
      refine start_ (n := 9) (S := fun w' => w'.cell? ⟨g4, 0, none⟩ = some (.int .i64 gQ) ∧ w'.cell? ⟨g4, 1, none⟩ = some (.int .i64 gR) ∧ w'.cell? ⟨g4, 2, none⟩ = some (.slice h3 gJ.length h4)) (ds := []) #[ff,ff,ff,ff,ff,ff,ff,ff,ff] (by kernel_rfl) rfl rfl ⟨(blk_cell gA.1 0).trans rfl, (blk_cell gA.1 1).trans rfl, (blk_cell gA.1 2).trans rfl⟩ (fun hHeld => ?_); refine with_tabW spec_l92Clock.tab18 spec_l92Clock.bits18 (fun HT_ HW_ => ?_)
      generalize w72.drew = w73 at gG g1 gA HI0 HK HB hHeld ⊢
      refine pu (i := 0) (N := some 58) #[tt,ff,ff,ff,ff,ff,ff,ff,ff] HT_ ?_
      refine pu (i := 2) (N := some 60) #[tt,ff,tt,ff,ff,ff,ff,ff,ff] HT_ ?_
      refine pu (i := 3) (N := some 61) #[tt,ff,tt,tt,ff,ff,ff,ff,ff] HT_ ?_
      refine pu (i := 4) (N := some 62) #[tt,ff,tt,tt,tt,ff,ff,ff,ff] HT_ ?_
      refine tk (i := 1) (N := some 59) #[tt,tt,tt,tt,tt,ff,ff,ff,ff] HT_ HW_ hHeld ?_
      refine on (i := 5) (N := some 63) #[tt,tt,tt,tt,tt,tt,ff,ff,ff] HT_ (fun K hK => ?_)
      refine goes_ Try.func56 (by kernel_rfl) rfl #[.pointer (some ⟨g, 0, none⟩), .int .i64 (wrap64 (a1 - 1))] (by rfl) rfl rfl (by (try simp only [List.map_toArray, List.map_cons, List.map_nil]); first | done | rfl | (simp only [List.length_drop, List.length_take]; rfl)) ?_
      with_reducible refine (ih k (by omega) g g2 iC (wrap64 (a1 - 1)) hT hU hV j9 w0 _ ?side1 ?side2 A63.1).mono ?_
      (case side1 => exact ip)
      (case side2 => exact bq)
      rintro e w74 ⟨n4, rfl, ho0, hi, hb, hk⟩
      refine ⟨_, rfl, ?_⟩
      have n0_ := kk g1 g3 hk; have n1_ := am (Kd.N_mono (Kd.N_told (Kd.N_oldK (Kd.N_mono (ok := fun k_ => (((w.heap.size ≤ k_)) ∧ (k_ ≠ g0 ∧ (k_ ≠ g ∧ k_ ≠ g4)))) (n1 gG).1 (fun k_ hk_ => (⟨hk_, hk_.2.2.1⟩ : _ ∧ k_ ≠ g))) hk) (Kd.N_base ho0)) (fun _ h_ => h_.1)); have n2_ := kk gA i5 hk; have n3_ := nk HK ho0 (fun k_ => (w.heap.size ≤ k_) ∧ some k_ ≠ (.slice h3 gJ.length h4 : Value).ownBlock ∧ k_ ≠ g0 ∧ k_ ≠ g4 ∧ k_ ≠ g) (fun k_ hk_ => ⟨(zk HK hk_), (fr gG k_ hk_), (fb g1 k_ hk_), (fb gA k_ hk_), (IsS65.fresh ip k_ hk_)⟩); have n4_ := kt HK hk; have n5_ := am (hb); have n6_ := am (hi); clear g1 gG gA HK HB HI0; have g1 := n0_; have gG := n1_; have gA := n2_; have i6 := n3_
      have HK := n4_
      have HB := n5_
      have HI0 := n6_
      clear n0_ n1_ n2_ n3_ n4_ n5_ n6_; (try clear hb); (try clear hb2); (try clear hk); (try clear hi); (try clear ho0)
      obtain ⟨jZ, k0, k1⟩ := Kd.N_slice i6.1
      (first | subst k1 | (injection k1 with f1_ f2_ f3_; have f4_ := f1_.symm; have f5_ := f3_.symm; clear f1_ f2_ f3_; subst f4_; subst f5_))
      refine hK.out _ _ ⟨(blk_cell gA.1 0).trans rfl, (blk_cell gA.1 1).trans rfl, (blk_cell gA.1 2).trans rfl⟩ (fun hHeld => ?_)
      clear hK K
      refine norm_ (a' := ?_) ?_ ?_
      rotate_left
      ·
       show Act.put _ (some 63) _ = _
       simp only [Act.put, List.setIfInBounds_toArray, List.set_cons_zero, List.set_cons_succ, i64_w, i32_w]
       rfl
      refine on (i := 6) (N := some 64) #[tt,tt,tt,tt,tt,tt,tt,ff,ff] HT_ (fun K hK => ?_)
      refine Kd.N_lit_step k25 _ 25 ?hg (N' := 64) ?hd (xs := ([(⟨gQ, gR, gJ⟩ : S25), (⟨hT, hU, hV⟩ : S25)] : List (S25))) (inner := [.int .i64 gQ, .int .i64 gR, .slice h3 gJ.length h4, .int .i64 hT, .int .i64 hU, .slice jZ hV.length k0]) (ok := (fun k_ => (w.heap.size ≤ k_) ∧ k_ ≠ g0 ∧ k_ ≠ g4 ∧ k_ ≠ g)) (okp := (fun k_ => (w.heap.size ≤ k_) ∧ k_ ≠ g0 ∧ k_ ≠ g4 ∧ k_ ≠ g)) ?hr ?hp (fun _ hk => hk) ((show ∀ k_, w74.heap.size ≤ k_ → (fun k_ => (w.heap.size ≤ k_) ∧ k_ ≠ g0 ∧ k_ ≠ g4 ∧ k_ ≠ g) k_ from fun k_ hk => ⟨(zk HK hk), Kd.freshB (g := g0) (o := .cells #[.int .i64 0, .int .i64 0, .slice none 0 0] 25 (0, 0)) (kf g1).1 k_ hk, Kd.freshB (g := g4) (o := .cells #[.int .i64 gQ, .int .i64 gR, .slice h3 gJ.length h4] 25 (0, 0)) (kf gA).1 k_ hk, IsS65.fresh ip k_ hk⟩) _ (Nat.le_refl _)) (Below.refl _ _) (Nat.le_refl _) (by simp) ?_; (case hd => rfl); (case hg => rfl); (case hr => first | (go_simp; done) | (go_simp; rfl)); (case hp => exact (Reps.c3 (show Kd.FK k25 _ _ (⟨gQ, gR, gJ⟩ : S25) [.int .i64 gQ, .int .i64 gR, .slice h3 gJ.length h4] from (k25_mkF _ _ (⟨gQ, gR, gJ⟩ : S25) (Kd.N_reads' (Kd.N_mono (ok' := (fun k_ => (w.heap.size ≤ k_) ∧ k_ ≠ g0 ∧ k_ ≠ g4 ∧ k_ ≠ g)) (gG.1) mq)).2.1 (Kd.N_F (Kd.N_mono (ok' := (fun k_ => (w.heap.size ≤ k_) ∧ k_ ≠ g0 ∧ k_ ≠ g4 ∧ k_ ≠ g)) (gG.1) mq)))) (Reps.c3 (show Kd.FK k25 _ _ (⟨hT, hU, hV⟩ : S25) [.int .i64 hT, .int .i64 hU, .slice jZ hV.length k0] from (k25_mkF _ _ (⟨hT, hU, hV⟩ : S25) (Kd.N_reads' (Kd.N_mono (ok' := (fun k_ => (w.heap.size ≤ k_) ∧ k_ ≠ g0 ∧ k_ ≠ g4 ∧ k_ ≠ g)) (i6.1) mq)).2.1 (Kd.N_F (Kd.N_mono (ok' := (fun k_ => (w.heap.size ≤ k_) ∧ k_ ≠ g0 ∧ k_ ≠ g4 ∧ k_ ≠ g)) (i6.1) mq)))) (Reps.none _ _))))
      intro n5 w76 iJ hb hg_ hnew_
      clear hg_ hnew_
      (first | rw [← iT.1] at iJ | (simp only [Int.reduceToNat] at iJ; rw [← iT.1] at iJ))
      have n0_ := am (Kd.N_lower iJ (keep_size (w := w) (g := g) (row := none) kq)); have n1_ := am (IsS65.below ip hb); have n2_ := kb g1 hb; have n3_ := kb gA hb; have n4_ := kt HK (KeepBut.of_below hb g none); have n5_ := bs HB hb; clear HI0 g1 gA HK HB gG i6; have iU := n0_
      have HI0 := n1_
      have g1 := n2_; have gA := n3_
      have HK := n4_
      have HB := n5_; clear n0_ n1_ n2_ n3_ n4_ n5_ hb iJ
      obtain ⟨k2, k3, k4⟩ := Kd.N_slice iU.1
      (first | subst k4 | (injection k4 with f1_ f2_ f3_; have f4_ := f1_.symm; have f5_ := f3_.symm; clear f1_ f2_ f3_; subst f4_; subst f5_))
      refine hK.out _ _ ⟨(blk_cell gA.1 0).trans rfl, (blk_cell gA.1 1).trans rfl, (blk_cell gA.1 2).trans rfl⟩ (fun hHeld => ?_)
      clear hK K
      refine norm_ (a' := ?_) ?_ ?_
      rotate_left
      ·
       show Act.put _ (some 64) _ = _
       simp only [Act.put, List.setIfInBounds_toArray, List.set_cons_zero, List.set_cons_succ, i64_w, i32_w]
       rfl
      refine pu (i := 7) (N := some 65) #[tt,tt,tt,tt,tt,tt,tt,tt,ff] HT_ ?_
      refine on (i := 8) (N := none) #[tt,tt,tt,tt,tt,tt,tt,tt,tt] HT_ (fun K hK => ?_)
      have n6 : w76.cell? ⟨g0, 0, none⟩ = some (.int .i64 0) := (blk_cell g1.1 0).trans rfl
      have mH := blk_frozen g1.1 0
      have lI := g7.1
      have lJ := gV.1
      have n7 : w76.cell? ⟨g0, 1, none⟩ = some (.int .i64 0) := (blk_cell g1.1 1).trans rfl
      have mI := blk_frozen g1.1 1
      have lK := g7.1
      have lL := gV.1
      have n8 : w76.cell? ⟨g0, 2, none⟩ = some (.slice none 0 0) := (blk_cell g1.1 2).trans rfl
      have mJ := blk_frozen g1.1 2
      have lM := g7.1
      have lN := gV.1
      refine skip_ (w1 := ?_) (by rfl) rfl ?_ ?_
      rotate_left
      ·
       go_simp
       rfl
      refine hK.out _ _ ⟨((cell_far (p := ⟨g0, _, none⟩) g7.1 _).trans (((cell_far (p := ⟨g0, _, none⟩) g7.1 _).trans (((cell_far (p := ⟨g0, _, none⟩) g7.1 _).trans (hHeld.1)))))), ((cell_far (p := ⟨g0, _, none⟩) g7.1 _).trans (((cell_far (p := ⟨g0, _, none⟩) g7.1 _).trans (((cell_far (p := ⟨g0, _, none⟩) g7.1 _).trans (hHeld.2.1)))))), ((cell_far (p := ⟨g0, _, none⟩) g7.1 _).trans (((cell_far (p := ⟨g0, _, none⟩) g7.1 _).trans (((cell_far (p := ⟨g0, _, none⟩) g7.1 _).trans (hHeld.2.2))))))⟩ (fun hHeld => ?_)
      clear hK K
      refine done_ (done_of HT_.1 (by kernel_rfl)) ?_
      try go_wp2
      refine bodyPost_ret (results_cell_row rfl _ _ g0 25 #[.int .i64 4, .int .i64 0, .slice k2 jA.length k3] (0, 0) _ rfl (kf g1).1 Try.underlying25 rfl (by kernel_rfl)) rfl ?_
      exact ⟨_, by first | rfl | (simp [errW_none, errW_some] <;> rfl) | (simp [*, errW_none, errW_some] <;> rfl), by (with_reducible repeat (first | apply Kd.N_alloc | apply Kd.N_drewN | apply Kd.N_drew)); exact Kd.N_mono (Kd.N_far (p := ⟨g0, 2, none⟩) (Kd.N_far (p := ⟨g0, 1, none⟩) (Kd.N_far (p := ⟨g0, 0, none⟩) (Kd.N_mono iU.1 (fun k_ hk => (⟨hk, hk.2.1⟩ : _ ∧ k_ ≠ g0))) mq (.int .i64 4)) mq (.int .i64 0)) mq (.slice k2 jA.length k3)) mq, by repeat (first | (with_reducible first | exact HI0.1 | apply IsS65.alloc | apply IsS65.drewN | apply IsS65.drew | apply IsS65.set_1 | refine IsS65.far ?_ g6.1 _ | refine IsS65.far ?_ i4.1 _) | exact HI0.1), by repeat (first | (with_reducible first | exact HB.1 | apply below_alloc | apply pw_below_drewN | apply below_drew1 | refine below_set ?_ (IsS65.ge HI0.1) | refine below_set ?_ gP.1 | refine below_set ?_ jY.1) | exact HB.1), by repeat (first | (with_reducible first | exact HK.1 | apply KeepBut.set_ | apply keep_drewN | apply keep_drew | apply keep_alloc | refine keep_far ?_ gO.1 _ | refine keep_far ?_ jX.1 _) | exact HK.1)⟩
     ·
      rw [if_neg c61] at H; have c61b0 : (gF == 8) = false := beq_eq_false_iff_ne.mpr c61; have c61b1 : (gF != 8) = true := bne_iff_ne.mpr c61
      replace H := Option.bind_eq_some_iff.mp H
      obtain ⟨⟨gS, gT, gK, iD⟩, k5, H⟩ := H
      replace H : ((spec_l92Clock.f k g2 iD (wrap64 (a1 - 1))).bind fun gN => (some (3, 0, (([(⟨gS, gT, gK⟩ : S25), (⟨gN.1, gN.2.1, gN.2.2.1⟩ : S25)] : List (S25))), gN.2.2.2))) = some (r1, r2, r3, r4) := H
      have A82 := am k5
      clear k5
      replace H := Option.bind_eq_some_iff.mp H
      obtain ⟨⟨hX, hY, hZ, jB⟩, k6, H⟩ := H
      replace H : (some (3, 0, (([(⟨gS, gT, gK⟩ : S25), (⟨hX, hY, hZ⟩ : S25)] : List (S25))), jB)) = some (r1, r2, r3, r4) := H
      have A83 := am k6
      clear k6
      obtain ⟨jC, i0⟩ : ∃ y_ : List (S25), y_ = (([(⟨gS, gT, gK⟩ : S25), (⟨hX, hY, hZ⟩ : S25)] : List (S25))) := ⟨_, rfl⟩
      replace H : (some (3, 0, jC, jB)) = some (r1, r2, r3, r4) := by first | (rw [i0]; with_reducible exact H) | (have H2_ := (Option.bind_some _ _).symm.trans H; rw [i0]; with_reducible exact H2_) | (have H2_ := (Option.bind_some _ _).symm.trans H; with_reducible exact H2_) | with_reducible exact H | (rw [i0]; exact H) | exact H
      have iV := am i0
      clear i0
      simp only [Option.some.injEq, Prod.mk.injEq] at H
      obtain ⟨rfl, rfl, rfl, rfl⟩ := H
      go_enter Try.func56, Try.ntmps56
      try go_wp2_with (first | ((with_reducible refine gate_dst (N := 4) rfl ?_); refine bx (cs := #[.int .i64 0, .int .i64 0, .slice none 0 0]) (t := 25) fun g0 hg w84 hbox hb => ?_; replace HB := bs HB hb; have g1 := am (hbox); have gO := am ((by rw [hg]; exact (keep_size (w := w) (g := g) (row := none) kq) : w.heap.size ≤ g0)); have gP := am ((Nat.le_trans HW0.1 (by rw [hg]; exact (keep_size (w := w) (g := g) (row := none) kq) : w.heap.size ≤ g0) : w0.heap.size ≤ g0)); replace HK := kt HK (KeepBut.of_below hb g none); have g6 := am ((by rw [hg]; exact Nat.ne_of_lt (IsS65.lt (show IsS65 w0 _ g g2 gI from by repeat (first | (with_reducible first | exact HI0.1 | apply IsS65.alloc | apply IsS65.drewN | apply IsS65.drew | apply IsS65.set_1) | exact HI0.1))) : g ≠ g0)); have g3 := am ((by rw [hg]; exact Nat.ne_of_gt (IsS65.lt (show IsS65 w0 _ g g2 gI from by repeat (first | (with_reducible first | exact HI0.1 | apply IsS65.alloc | apply IsS65.drewN | apply IsS65.drew | apply IsS65.set_1) | exact HI0.1))) : g0 ≠ g)); replace HI0 := am (IsS65.below ip hb); clear hb hbox hg) | ((with_reducible refine gate_callee (f := 55) rfl ?_); refine gl (some 14) Try.func55 #[.pointer (some ⟨g, 0, none⟩), .int .i64 9] ?_; (with_reducible refine (spec_l6Rd_pick.calls k g g2 gI 9 gF gX w0 _ ?side1 ?side2 A7.1).mono ?_); (case side1 => exact ip); (case side2 => exact bq); rintro e w85 ⟨rfl, hi, hb, hk⟩; refine ⟨_, rfl, ?_⟩; replace g1 := kk g1 g3 hk; replace HK := kt HK hk; replace HB := am (hb); replace HI0 := am (hi); clear hb hk hi) | ((with_reducible refine gate_callee (f := 56) rfl ?_); refine gl (some 57) Try.func56 #[.pointer (some ⟨g, 0, none⟩), .int .i64 (wrap64 (a1 - 1))] ?_; (with_reducible refine (ih k (by omega) g g2 gX (wrap64 (a1 - 1)) gS gT gK iD w0 _ ?side1 ?side2 A82.1).mono ?_); (case side1 => exact ip); (case side2 => exact bq); rintro e w86 ⟨n9, rfl, ho0, hi, hb, hk⟩; refine ⟨_, rfl, ?_⟩; have gH := nk HK ho0 (fun k_ => (w.heap.size ≤ k_) ∧ k_ ≠ g0 ∧ k_ ≠ g) (fun k_ hk_ => ⟨(zk HK hk_), (fb g1 k_ hk_), (IsS65.fresh ip k_ hk_)⟩); replace g1 := kk g1 g3 hk; replace HK := kt HK hk; replace HB := am (hb); replace HI0 := am (hi); clear hb hk hi ho0) | ((with_reducible refine gate_dst (N := 9) rfl ?_); refine bx (cs := #[.int .i64 0, .int .i64 0, .slice none 0 0]) (t := 25) fun g5 hg w87 hbox hb => ?_; replace gH := nb gH hg hb; replace HB := bs HB hb; have gB := am (hbox); have k7 := am ((by rw [hg]; exact (keep_size (w := w) (g := g) (row := none) kq) : w.heap.size ≤ g5)); have k8 := am ((Nat.le_trans HW0.1 (by rw [hg]; exact (keep_size (w := w) (g := g) (row := none) kq) : w.heap.size ≤ g5) : w0.heap.size ≤ g5)); replace HK := kt HK (KeepBut.of_below hb g none); have gW := nl g1 hg; have g8 := ng g1 hg; replace g1 := kb g1 hb; have i7 := am ((by rw [hg]; exact Nat.ne_of_lt (IsS65.lt (show IsS65 w0 _ g g2 iD from by repeat (first | (with_reducible first | exact HI0.1 | apply IsS65.alloc | apply IsS65.drewN | apply IsS65.drew | apply IsS65.set_1 | refine IsS65.far ?_ g6.1 _) | exact HI0.1))) : g ≠ g5)); have i8 := am ((by rw [hg]; exact Nat.ne_of_gt (IsS65.lt (show IsS65 w0 _ g g2 iD from by repeat (first | (with_reducible first | exact HI0.1 | apply IsS65.alloc | apply IsS65.drewN | apply IsS65.drew | apply IsS65.set_1 | refine IsS65.far ?_ g6.1 _) | exact HI0.1))) : g5 ≠ g)); replace HI0 := am (IsS65.below ip hb); clear hb hbox hg; have mK := g8.1; have mL := gW.1; have mM := i8.1; have mN := i7.1; obtain ⟨lO, lP, lQ, lR, lS, lT⟩ := cs3 gB; obtain ⟨h5, h6, rfl⟩ := Kd.N_slice gH.1))
      have n0_ : Aside0 (Kd.N k25 25 (((w87.setCell ⟨g5, 0, none⟩ (.int .i64 gS)).setCell ⟨g5, 1, none⟩ (.int .i64 gT)).setCell ⟨g5, 2, none⟩ (.slice h5 gK.length h6)) w.heap.size (fun k_ => (w.heap.size ≤ k_) ∧ k_ ≠ g0 ∧ k_ ≠ g ∧ k_ ≠ g5) (.slice h5 gK.length h6) gK) := nf gH; have n1_ : Aside0 ((((w87.setCell ⟨g5, 0, none⟩ (.int .i64 gS)).setCell ⟨g5, 1, none⟩ (.int .i64 gT)).setCell ⟨g5, 2, none⟩ (.slice h5 gK.length h6)).heap[g0]? = some (.cells #[.int .i64 0, .int .i64 0, .slice none 0 0] 25 (0, 0))) := kf g1; have n2_ : Aside0 ((((w87.setCell ⟨g5, 0, none⟩ (.int .i64 gS)).setCell ⟨g5, 1, none⟩ (.int .i64 gT)).setCell ⟨g5, 2, none⟩ (.slice h5 gK.length h6)).heap[g5]? = some (.cells #[.int .i64 gS, .int .i64 gT, .slice h5 gK.length h6] 25 (0, 0))) := kf gB; have n3_ : Aside0 (IsS65 w0 (((w87.setCell ⟨g5, 0, none⟩ (.int .i64 gS)).setCell ⟨g5, 1, none⟩ (.int .i64 gT)).setCell ⟨g5, 2, none⟩ (.slice h5 gK.length h6)) g g2 iD) := ⟨ip⟩; have n4_ : Aside0 (KeepBut w (((w87.setCell ⟨g5, 0, none⟩ (.int .i64 gS)).setCell ⟨g5, 1, none⟩ (.int .i64 gT)).setCell ⟨g5, 2, none⟩ (.slice h5 gK.length h6)) g none) := ⟨kq⟩; have n5_ : Aside0 (Below w0.heap.size w0 (((w87.setCell ⟨g5, 0, none⟩ (.int .i64 gS)).setCell ⟨g5, 1, none⟩ (.int .i64 gT)).setCell ⟨g5, 2, none⟩ (.slice h5 gK.length h6))) := bw; (try clear gH); (try clear g1); (try clear gB); (try clear HI0); (try clear HK); (try clear HB)
      generalize (((w87.setCell ⟨g5, 0, none⟩ (.int .i64 gS)).setCell ⟨g5, 1, none⟩ (.int .i64 gT)).setCell ⟨g5, 2, none⟩ (.slice h5 gK.length h6)) = w92 at n0_ n1_ n2_ n3_ n4_ n5_ ⊢
      have gH := n0_; have g1 := n1_; have gB := n2_
      have HI0 := n3_
      have HK := n4_
      have HB := n5_; clear n0_ n1_ n2_ n3_ n4_ n5_; have n0_ := am (Kd.N_drew gH.1); have n1_ := am (blk_drew g1.1); have n2_ := am (blk_drew gB.1); have n3_ := am (IsS65.drew HI0.1); have n4_ := am (keep_drew HK.1); have n5_ := am (below_drew1 HB.1); clear gH g1 gB HI0 HK HB; have gH := n0_; have g1 := n1_; have gB := n2_
      have HI0 := n3_
      have HK := n4_
      have HB := n5_; clear n0_ n1_ n2_ n3_ n4_ n5_
      refine start_ (n := 9) (S := fun w' => w'.cell? ⟨g5, 0, none⟩ = some (.int .i64 gS) ∧ w'.cell? ⟨g5, 1, none⟩ = some (.int .i64 gT) ∧ w'.cell? ⟨g5, 2, none⟩ = some (.slice h5 gK.length h6)) (ds := []) #[ff,ff,ff,ff,ff,ff,ff,ff,ff] (by kernel_rfl) rfl rfl ⟨(blk_cell gB.1 0).trans rfl, (blk_cell gB.1 1).trans rfl, (blk_cell gB.1 2).trans rfl⟩ (fun hHeld => ?_); refine with_tabW spec_l92Clock.tab18 spec_l92Clock.bits18 (fun HT_ HW_ => ?_)
      generalize w92.drew = w93 at gH g1 gB HI0 HK HB hHeld ⊢
      refine pu (i := 0) (N := some 58) #[tt,ff,ff,ff,ff,ff,ff,ff,ff] HT_ ?_
      refine pu (i := 2) (N := some 60) #[tt,ff,tt,ff,ff,ff,ff,ff,ff] HT_ ?_
      refine pu (i := 3) (N := some 61) #[tt,ff,tt,tt,ff,ff,ff,ff,ff] HT_ ?_
      refine pu (i := 4) (N := some 62) #[tt,ff,tt,tt,tt,ff,ff,ff,ff] HT_ ?_
      refine tk (i := 1) (N := some 59) #[tt,tt,tt,tt,tt,ff,ff,ff,ff] HT_ HW_ hHeld ?_
      refine on (i := 5) (N := some 63) #[tt,tt,tt,tt,tt,tt,ff,ff,ff] HT_ (fun K hK => ?_)
      refine goes_ Try.func56 (by kernel_rfl) rfl #[.pointer (some ⟨g, 0, none⟩), .int .i64 (wrap64 (a1 - 1))] (by rfl) rfl rfl (by (try simp only [List.map_toArray, List.map_cons, List.map_nil]); first | done | rfl | (simp only [List.length_drop, List.length_take]; rfl)) ?_
      with_reducible refine (ih k (by omega) g g2 iD (wrap64 (a1 - 1)) hX hY hZ jB w0 _ ?side1 ?side2 A83.1).mono ?_
      (case side1 => exact ip)
      (case side2 => exact bq)
      rintro e w94 ⟨nA, rfl, ho0, hi, hb, hk⟩
      refine ⟨_, rfl, ?_⟩
      have n0_ := kk g1 g3 hk; have n1_ := am (Kd.N_mono (Kd.N_told (Kd.N_oldK (Kd.N_mono (ok := fun k_ => (((w.heap.size ≤ k_)) ∧ (k_ ≠ g0 ∧ (k_ ≠ g ∧ k_ ≠ g5)))) (n1 gH).1 (fun k_ hk_ => (⟨hk_, hk_.2.2.1⟩ : _ ∧ k_ ≠ g))) hk) (Kd.N_base ho0)) (fun _ h_ => h_.1)); have n2_ := kk gB i8 hk; have n3_ := nk HK ho0 (fun k_ => (w.heap.size ≤ k_) ∧ some k_ ≠ (.slice h5 gK.length h6 : Value).ownBlock ∧ k_ ≠ g0 ∧ k_ ≠ g5 ∧ k_ ≠ g) (fun k_ hk_ => ⟨(zk HK hk_), (fr gH k_ hk_), (fb g1 k_ hk_), (fb gB k_ hk_), (IsS65.fresh ip k_ hk_)⟩); have n4_ := kt HK hk; have n5_ := am (hb); have n6_ := am (hi); clear g1 gH gB HK HB HI0; have g1 := n0_; have gH := n1_; have gB := n2_; have i9 := n3_
      have HK := n4_
      have HB := n5_
      have HI0 := n6_
      clear n0_ n1_ n2_ n3_ n4_ n5_ n6_; (try clear hb); (try clear hb2); (try clear hk); (try clear hi); (try clear ho0)
      obtain ⟨k9, kA, kB⟩ := Kd.N_slice i9.1
      (first | subst kB | (injection kB with f1_ f2_ f3_; have f4_ := f1_.symm; have f5_ := f3_.symm; clear f1_ f2_ f3_; subst f4_; subst f5_))
      refine hK.out _ _ ⟨(blk_cell gB.1 0).trans rfl, (blk_cell gB.1 1).trans rfl, (blk_cell gB.1 2).trans rfl⟩ (fun hHeld => ?_)
      clear hK K
      refine norm_ (a' := ?_) ?_ ?_
      rotate_left
      ·
       show Act.put _ (some 63) _ = _
       simp only [Act.put, List.setIfInBounds_toArray, List.set_cons_zero, List.set_cons_succ, i64_w, i32_w]
       rfl
      refine on (i := 6) (N := some 64) #[tt,tt,tt,tt,tt,tt,tt,ff,ff] HT_ (fun K hK => ?_)
      refine Kd.N_lit_step k25 _ 25 ?hg (N' := 64) ?hd (xs := ([(⟨gS, gT, gK⟩ : S25), (⟨hX, hY, hZ⟩ : S25)] : List (S25))) (inner := [.int .i64 gS, .int .i64 gT, .slice h5 gK.length h6, .int .i64 hX, .int .i64 hY, .slice k9 hZ.length kA]) (ok := (fun k_ => (w.heap.size ≤ k_) ∧ k_ ≠ g0 ∧ k_ ≠ g5 ∧ k_ ≠ g)) (okp := (fun k_ => (w.heap.size ≤ k_) ∧ k_ ≠ g0 ∧ k_ ≠ g5 ∧ k_ ≠ g)) ?hr ?hp (fun _ hk => hk) ((show ∀ k_, w94.heap.size ≤ k_ → (fun k_ => (w.heap.size ≤ k_) ∧ k_ ≠ g0 ∧ k_ ≠ g5 ∧ k_ ≠ g) k_ from fun k_ hk => ⟨(zk HK hk), Kd.freshB (g := g0) (o := .cells #[.int .i64 0, .int .i64 0, .slice none 0 0] 25 (0, 0)) (kf g1).1 k_ hk, Kd.freshB (g := g5) (o := .cells #[.int .i64 gS, .int .i64 gT, .slice h5 gK.length h6] 25 (0, 0)) (kf gB).1 k_ hk, IsS65.fresh ip k_ hk⟩) _ (Nat.le_refl _)) (Below.refl _ _) (Nat.le_refl _) (by simp) ?_; (case hd => rfl); (case hg => rfl); (case hr => first | (go_simp; done) | (go_simp; rfl)); (case hp => exact (Reps.c3 (show Kd.FK k25 _ _ (⟨gS, gT, gK⟩ : S25) [.int .i64 gS, .int .i64 gT, .slice h5 gK.length h6] from (k25_mkF _ _ (⟨gS, gT, gK⟩ : S25) (Kd.N_reads' (Kd.N_mono (ok' := (fun k_ => (w.heap.size ≤ k_) ∧ k_ ≠ g0 ∧ k_ ≠ g5 ∧ k_ ≠ g)) (gH.1) mq)).2.1 (Kd.N_F (Kd.N_mono (ok' := (fun k_ => (w.heap.size ≤ k_) ∧ k_ ≠ g0 ∧ k_ ≠ g5 ∧ k_ ≠ g)) (gH.1) mq)))) (Reps.c3 (show Kd.FK k25 _ _ (⟨hX, hY, hZ⟩ : S25) [.int .i64 hX, .int .i64 hY, .slice k9 hZ.length kA] from (k25_mkF _ _ (⟨hX, hY, hZ⟩ : S25) (Kd.N_reads' (Kd.N_mono (ok' := (fun k_ => (w.heap.size ≤ k_) ∧ k_ ≠ g0 ∧ k_ ≠ g5 ∧ k_ ≠ g)) (i9.1) mq)).2.1 (Kd.N_F (Kd.N_mono (ok' := (fun k_ => (w.heap.size ≤ k_) ∧ k_ ≠ g0 ∧ k_ ≠ g5 ∧ k_ ≠ g)) (i9.1) mq)))) (Reps.none _ _))))
      intro nB w96 iK hb hg_ hnew_
      clear hg_ hnew_
      (first | rw [← iV.1] at iK | (simp only [Int.reduceToNat] at iK; rw [← iV.1] at iK))
      have n0_ := am (Kd.N_lower iK (keep_size (w := w) (g := g) (row := none) kq)); have n1_ := am (IsS65.below ip hb); have n2_ := kb g1 hb; have n3_ := kb gB hb; have n4_ := kt HK (KeepBut.of_below hb g none); have n5_ := bs HB hb; clear HI0 g1 gB HK HB gH i9; have iW := n0_
      have HI0 := n1_
      have g1 := n2_; have gB := n3_
      have HK := n4_
      have HB := n5_; clear n0_ n1_ n2_ n3_ n4_ n5_ hb iK
      obtain ⟨kC, kD, kE⟩ := Kd.N_slice iW.1
      (first | subst kE | (injection kE with f1_ f2_ f3_; have f4_ := f1_.symm; have f5_ := f3_.symm; clear f1_ f2_ f3_; subst f4_; subst f5_))
      refine hK.out _ _ ⟨(blk_cell gB.1 0).trans rfl, (blk_cell gB.1 1).trans rfl, (blk_cell gB.1 2).trans rfl⟩ (fun hHeld => ?_)
      clear hK K
      refine norm_ (a' := ?_) ?_ ?_
      rotate_left
      ·
       show Act.put _ (some 64) _ = _
       simp only [Act.put, List.setIfInBounds_toArray, List.set_cons_zero, List.set_cons_succ, i64_w, i32_w]
       rfl
      refine pu (i := 7) (N := some 65) #[tt,tt,tt,tt,tt,tt,tt,tt,ff] HT_ ?_
      refine on (i := 8) (N := none) #[tt,tt,tt,tt,tt,tt,tt,tt,tt] HT_ (fun K hK => ?_)
      have nC : w96.cell? ⟨g0, 0, none⟩ = some (.int .i64 0) := (blk_cell g1.1 0).trans rfl
      have mO := blk_frozen g1.1 0
      have lU := g8.1
      have lV := gW.1
      have mP : w96.cell? ⟨g0, 1, none⟩ = some (.int .i64 0) := (blk_cell g1.1 1).trans rfl
      have m3 := blk_frozen g1.1 1
      have kF := g8.1
      have kG := gW.1
      have mQ : w96.cell? ⟨g0, 2, none⟩ = some (.slice none 0 0) := (blk_cell g1.1 2).trans rfl
      have m4 := blk_frozen g1.1 2
      have kH := g8.1
      have kI := gW.1
      refine skip_ (w1 := ?_) (by rfl) rfl ?_ ?_
      rotate_left
      ·
       go_simp
       rfl
      refine hK.out _ _ ⟨((cell_far (p := ⟨g0, _, none⟩) g8.1 _).trans (((cell_far (p := ⟨g0, _, none⟩) g8.1 _).trans (((cell_far (p := ⟨g0, _, none⟩) g8.1 _).trans (hHeld.1)))))), ((cell_far (p := ⟨g0, _, none⟩) g8.1 _).trans (((cell_far (p := ⟨g0, _, none⟩) g8.1 _).trans (((cell_far (p := ⟨g0, _, none⟩) g8.1 _).trans (hHeld.2.1)))))), ((cell_far (p := ⟨g0, _, none⟩) g8.1 _).trans (((cell_far (p := ⟨g0, _, none⟩) g8.1 _).trans (((cell_far (p := ⟨g0, _, none⟩) g8.1 _).trans (hHeld.2.2))))))⟩ (fun hHeld => ?_)
      clear hK K
      refine done_ (done_of HT_.1 (by kernel_rfl)) ?_
      try go_wp2
      refine bodyPost_ret (results_cell_row rfl _ _ g0 25 #[.int .i64 3, .int .i64 0, .slice kC jC.length kD] (0, 0) _ rfl (kf g1).1 Try.underlying25 rfl (by kernel_rfl)) rfl ?_
      exact ⟨_, by first | rfl | (simp [errW_none, errW_some] <;> rfl) | (simp [*, errW_none, errW_some] <;> rfl), by (with_reducible repeat (first | apply Kd.N_alloc | apply Kd.N_drewN | apply Kd.N_drew)); exact Kd.N_mono (Kd.N_far (p := ⟨g0, 2, none⟩) (Kd.N_far (p := ⟨g0, 1, none⟩) (Kd.N_far (p := ⟨g0, 0, none⟩) (Kd.N_mono iW.1 (fun k_ hk => (⟨hk, hk.2.1⟩ : _ ∧ k_ ≠ g0))) mq (.int .i64 3)) mq (.int .i64 0)) mq (.slice kC jC.length kD)) mq, by repeat (first | (with_reducible first | exact HI0.1 | apply IsS65.alloc | apply IsS65.drewN | apply IsS65.drew | apply IsS65.set_1 | refine IsS65.far ?_ g6.1 _ | refine IsS65.far ?_ i7.1 _) | exact HI0.1), by repeat (first | (with_reducible first | exact HB.1 | apply below_alloc | apply pw_below_drewN | apply below_drew1 | refine below_set ?_ (IsS65.ge HI0.1) | refine below_set ?_ gP.1 | refine below_set ?_ k8.1) | exact HB.1), by repeat (first | (with_reducible first | exact HK.1 | apply KeepBut.set_ | apply keep_drewN | apply keep_drew | apply keep_alloc | refine keep_far ?_ gO.1 _ | refine keep_far ?_ k7.1 _) | exact HK.1)⟩


/-! ### spec_l92Timed: function 38 -/
def spec_l92Timed.f (k : Nat) (s0_0 : List Int) (s0_1 : Int) : Option (Int × Int × (List (S25)) × Int) := (spec_l6Rd_pick.f k s0_0 s0_1 4).bind fun bt198 => ((spec_l92Clock.f k s0_0 bt198.2 (wrap64 (1 + bt198.1))).bind fun bt200 => ((spec_l6Rd_pick.f k s0_0 bt200.2.2.2 30).bind fun bt207 => (if bt207.1 = 0 then ((spec_l6Rd_pick.f k s0_0 bt207.2 7).bind fun bt209 => (some (bt209.1, bt200.2.1, bt200.2.2.1, bt209.2))) else (if bt207.1 = 1 then (some (bt200.1, (-1), bt200.2.2.1, bt207.2)) else (some (bt200.1, bt200.2.1, bt200.2.2.1, bt207.2))))))
theorem spec_l92Timed.mono : ∀ a0 a1 k, LeO (spec_l92Timed.f k a0 a1) (spec_l92Timed.f (k + 1) a0 a1) := by
 intro a0 a1 k
 unfold spec_l92Timed.f
 repeat' first
   | (with_reducible exact spec_l6Rd_pick.mono _ _ _ _)
   | (with_reducible exact spec_l92Clock.mono _ _ _ _)
   | (with_reducible exact LeO.refl _)
   | (with_reducible exact LeO.none _)
   | (with_reducible refine LeO.ite ?_ ?_)
   | (with_reducible refine LeO.bind ?_ (fun _ => ?_))
   | exact spec_l6Rd_pick.mono _ _ _ _
   | exact spec_l92Clock.mono _ _ _ _
   | exact LeO.none _
   | refine LeO.ite ?_ ?_
   | refine LeO.bind ?_ (fun _ => ?_)
set_option maxHeartbeats 8000000 in
set_option maxRecDepth 100000 in
theorem spec_l92Timed.calls (k : Nat) (g : Nat) (g5 : List Int) (gK : Int) (r1 : Int) (r2 : Int) (r3 : List (S25)) (r4 : Int) (w0 w : World) (hI : IsS65 w0 w g g5 gK) (hB : Below w0.heap.size w0 w) (h : spec_l92Timed.f k g5 gK = some (r1, r2, r3, r4)) :
  Calls Try.prog 38 #[.pointer (some ⟨g, 0, none⟩)] w fun e w' => ∃ v2_ : Value, e = .returned (.agg #[.int .i64 r1, .int .i64 r2, v2_]) ∧ Kd.N k25 25 w' w.heap.size (fun k_ => (w.heap.size ≤ k_)) v2_ r3 ∧ IsS65 w0 w' g g5 r4 ∧ Below w0.heap.size w0 w' ∧ KeepBut w w' g none := by
 have j7 := Try.underlying25
 have HI0 := am hI
 have HK := am (KeepBut.refl w g none)
 have HL := am hB.size; clear hI
 have HW0 := am hB.size
 have HB := am hB; clear hB
 have H : ((spec_l6Rd_pick.f k g5 gK 4).bind fun gT => ((spec_l92Clock.f k g5 gT.2 (wrap64 (1 + gT.1))).bind fun g7 => ((spec_l6Rd_pick.f k g5 g7.2.2.2 30).bind fun g8 => (if g8.1 = 0 then ((spec_l6Rd_pick.f k g5 g8.2 7).bind fun gF => (some (gF.1, g7.2.1, g7.2.2.1, gF.2))) else (if g8.1 = 1 then (some (g7.1, (-1), g7.2.2.1, g8.2)) else (some (g7.1, g7.2.1, g7.2.2.1, g8.2))))))) = some (r1, r2, r3, r4) := h
 clear h
 replace H := Option.bind_eq_some_iff.mp H
 obtain ⟨⟨gL, gQ⟩, A20, H⟩ := H
 replace H : ((spec_l92Clock.f k g5 gQ (wrap64 (1 + gL))).bind fun g7 => ((spec_l6Rd_pick.f k g5 g7.2.2.2 30).bind fun g8 => (if g8.1 = 0 then ((spec_l6Rd_pick.f k g5 g8.2 7).bind fun gF => (some (gF.1, g7.2.1, g7.2.2.1, gF.2))) else (if g8.1 = 1 then (some (g7.1, (-1), g7.2.2.1, g8.2)) else (some (g7.1, g7.2.1, g7.2.2.1, g8.2)))))) = some (r1, r2, r3, r4) := H
 have A2 := am A20
 clear A20
 replace H := Option.bind_eq_some_iff.mp H
 obtain ⟨⟨gI, gG, gE, gJ⟩, A30, H⟩ := H
 replace H : ((spec_l6Rd_pick.f k g5 gJ 30).bind fun g8 => (if g8.1 = 0 then ((spec_l6Rd_pick.f k g5 g8.2 7).bind fun gF => (some (gF.1, gG, gE, gF.2))) else (if g8.1 = 1 then (some (gI, (-1), gE, g8.2)) else (some (gI, gG, gE, g8.2))))) = some (r1, r2, r3, r4) := H
 have A3 := am A30
 clear A30
 replace H := Option.bind_eq_some_iff.mp H
 obtain ⟨⟨gH, gR⟩, A40, H⟩ := H
 replace H : (if gH = 0 then ((spec_l6Rd_pick.f k g5 gR 7).bind fun gF => (some (gF.1, gG, gE, gF.2))) else (if gH = 1 then (some (gI, (-1), gE, gR)) else (some (gI, gG, gE, gR)))) = some (r1, r2, r3, r4) := H
 have A4 := am A40
 clear A40
 by_cases c5 : gH = 0
 ·
  rw [if_pos c5] at H; have c5b0 : (gH == 0) = true := beq_iff_eq.mpr c5; have c5b1 : (gH != 0) = false := bne_eq_false_iff_eq.mpr c5; clear c5
  replace H := Option.bind_eq_some_iff.mp H
  obtain ⟨⟨gS, h0⟩, A60, H⟩ := H
  replace H : (some (gS, gG, gE, h0)) = some (r1, r2, r3, r4) := H
  have A6 := am A60
  clear A60
  simp only [Option.some.injEq, Prod.mk.injEq] at H
  obtain ⟨rfl, rfl, rfl, rfl⟩ := H
  go_enter Try.func38, Try.ntmps38
  go_wp2_with (first | ((with_reducible refine gate_dst (N := 2) rfl ?_); refine bx (cs := #[.int .i64 0, .int .i64 0, .slice none 0 0]) (t := 25) fun g1 hg w7 hbox hb => ?_; replace HB := bs HB hb; have g0 := am (hbox); have gM := am ((by rw [hg]; exact (keep_size (w := w) (g := g) (row := none) kq) : w.heap.size ≤ g1)); have gN := am ((Nat.le_trans HW0.1 (by rw [hg]; exact (keep_size (w := w) (g := g) (row := none) kq) : w.heap.size ≤ g1) : w0.heap.size ≤ g1)); replace HK := kt HK (KeepBut.of_below hb g none); have g3 := am ((by rw [hg]; exact Nat.ne_of_lt (IsS65.lt (show IsS65 w0 _ g g5 gK from by repeat (first | (with_reducible first | exact HI0.1 | apply IsS65.alloc | apply IsS65.drewN | apply IsS65.drew | apply IsS65.set_1) | exact HI0.1))) : g ≠ g1)); have g2 := am ((by rw [hg]; exact Nat.ne_of_gt (IsS65.lt (show IsS65 w0 _ g g5 gK from by repeat (first | (with_reducible first | exact HI0.1 | apply IsS65.alloc | apply IsS65.drewN | apply IsS65.drew | apply IsS65.set_1) | exact HI0.1))) : g1 ≠ g)); replace HI0 := am (IsS65.below ip hb); clear hb hbox hg) | ((with_reducible refine gate_callee (f := 55) rfl ?_); refine gl (some 6) Try.func55 #[.pointer (some ⟨g, 0, none⟩), .int .i64 4] ?_; (with_reducible refine (spec_l6Rd_pick.calls k g g5 gK 4 gL gQ w0 _ ?side1 ?side2 A2.1).mono ?_); (case side1 => exact ip); (case side2 => exact bq); rintro e w8 ⟨rfl, hi, hb, hk⟩; refine ⟨_, rfl, ?_⟩; replace g0 := kk g0 g2 hk; replace HK := kt HK hk; replace HB := am (hb); replace HI0 := am (hi); clear hb hk hi) | ((with_reducible refine gate_callee (f := 56) rfl ?_); refine gl (some 8) Try.func56 #[.pointer (some ⟨g, 0, none⟩), .int .i64 (wrap64 (1 + gL))] ?_; (with_reducible refine (spec_l92Clock.calls k g g5 gQ (wrap64 (1 + gL)) gI gG gE gJ w0 _ ?side1 ?side2 A3.1).mono ?_); (case side1 => exact ip); (case side2 => exact bq); rintro e w9 ⟨h1, rfl, ho0, hi, hb, hk⟩; refine ⟨_, rfl, ?_⟩; have g6 := nk HK ho0 (fun k_ => (w.heap.size ≤ k_) ∧ k_ ≠ g1 ∧ k_ ≠ g) (fun k_ hk_ => ⟨(zk HK hk_), (fb g0 k_ hk_), (IsS65.fresh ip k_ hk_)⟩); replace g0 := kk g0 g2 hk; replace HK := kt HK hk; replace HB := am (hb); replace HI0 := am (hi); clear hb hk hi ho0) | ((with_reducible refine gate_dst (N := 3) rfl ?_); refine bx (cs := #[.int .i64 0, .int .i64 0, .slice none 0 0]) (t := 25) fun g4 hg w10 hbox hb => ?_; replace g6 := nb g6 hg hb; replace HB := bs HB hb; have g9 := am (hbox); have gO := am ((by rw [hg]; exact (keep_size (w := w) (g := g) (row := none) kq) : w.heap.size ≤ g4)); have gP := am ((Nat.le_trans HW0.1 (by rw [hg]; exact (keep_size (w := w) (g := g) (row := none) kq) : w.heap.size ≤ g4) : w0.heap.size ≤ g4)); replace HK := kt HK (KeepBut.of_below hb g none); have gC := nl g0 hg; have gD := ng g0 hg; replace g0 := kb g0 hb; have gB := am ((by rw [hg]; exact Nat.ne_of_lt (IsS65.lt (show IsS65 w0 _ g g5 gJ from by repeat (first | (with_reducible first | exact HI0.1 | apply IsS65.alloc | apply IsS65.drewN | apply IsS65.drew | apply IsS65.set_1 | refine IsS65.far ?_ g3.1 _) | exact HI0.1))) : g ≠ g4)); have gA := am ((by rw [hg]; exact Nat.ne_of_gt (IsS65.lt (show IsS65 w0 _ g g5 gJ from by repeat (first | (with_reducible first | exact HI0.1 | apply IsS65.alloc | apply IsS65.drewN | apply IsS65.drew | apply IsS65.set_1 | refine IsS65.far ?_ g3.1 _) | exact HI0.1))) : g4 ≠ g)); replace HI0 := am (IsS65.below ip hb); clear hb hbox hg; have iM := gD.1; have iN := gC.1; have iO := gA.1; have iP := gB.1; obtain ⟨h2, h3, h4, h5, h6, h7⟩ := cs3 g9; obtain ⟨gU, gV, rfl⟩ := Kd.N_slice g6.1) | ((with_reducible refine gate_callee (f := 55) rfl ?_); refine gl (some 10) Try.func55 #[.pointer (some ⟨g, 0, none⟩), .int .i64 30] ?_; (with_reducible refine (spec_l6Rd_pick.calls k g g5 gJ 30 gH gR w0 _ ?side1 ?side2 A4.1).mono ?_); (case side1 => exact ip); (case side2 => exact bq); rintro e w15 ⟨rfl, hi, hb, hk⟩; refine ⟨_, rfl, ?_⟩; replace g0 := kk g0 g2 hk; replace g6 := kn g6 hk; replace g9 := am (KeepBut.blk hk (g' := g4) (o := .cells #[.int .i64 gI, .int .i64 gG, .slice gU gE.length gV] 25 (0, 0)) (kf g9).1 gA.1 (by simp)); replace HK := kt HK hk; replace HB := am (hb); replace HI0 := am (hi); clear hb hk hi) | ((with_reducible refine gate_callee (f := 55) rfl ?_); refine gl (some 14) Try.func55 #[.pointer (some ⟨g, 0, none⟩), .int .i64 7] ?_; (with_reducible refine (spec_l6Rd_pick.calls k g g5 gR 7 gS h0 w0 _ ?side1 ?side2 A6.1).mono ?_); (case side1 => exact ip); (case side2 => exact bq); rintro e w16 ⟨rfl, hi, hb, hk⟩; refine ⟨_, rfl, ?_⟩; replace g0 := kk g0 g2 hk; replace g6 := kn g6 hk; replace g9 := kk g9 gA hk; replace HK := kt HK hk; replace HB := am (hb); replace HI0 := am (hi); clear hb hk hi; obtain ⟨h8, h9, hA, hC, hD, hE⟩ := cs3 g9; have iQ := g2.1; have iR := g3.1; obtain ⟨hF, hG, hH, hJ, hK, hL⟩ := cs3 g0))
  refine bodyPost_ret (results_cell_row rfl _ _ g1 25 #[.int .i64 gS, .int .i64 gG, .slice gU gE.length gV] (0, 0) _ rfl (kf g0).1 Try.underlying25 rfl (by kernel_rfl)) rfl ?_
  exact ⟨_, by first | rfl | (simp [errW_none, errW_some] <;> rfl) | (simp [*, errW_none, errW_some] <;> rfl), by (with_reducible repeat (first | apply Kd.N_alloc | apply Kd.N_drewN | apply Kd.N_drew)); exact Kd.N_mono (Kd.N_far (p := ⟨g1, 2, none⟩) (Kd.N_far (p := ⟨g1, 1, none⟩) (Kd.N_far (p := ⟨g1, 0, none⟩) (Kd.N_far (p := ⟨g4, 0, none⟩) (Kd.N_mono (Kd.N_mono g6.1 (fun k_ hk => (⟨hk, hk.2⟩ : _ ∧ k_ ≠ g4))) (fun k_ hk => (⟨hk, hk.1.1.2.1⟩ : _ ∧ k_ ≠ g1))) mq (.int .i64 gS)) mq (.int .i64 gS)) mq (.int .i64 gG)) mq (.slice gU gE.length gV)) mq, by repeat (first | (with_reducible first | exact HI0.1 | apply IsS65.alloc | apply IsS65.drewN | apply IsS65.drew | apply IsS65.set_1 | refine IsS65.far ?_ g3.1 _ | refine IsS65.far ?_ gB.1 _) | exact HI0.1), by repeat (first | (with_reducible first | exact HB.1 | apply below_alloc | apply pw_below_drewN | apply below_drew1 | refine below_set ?_ (IsS65.ge HI0.1) | refine below_set ?_ gN.1 | refine below_set ?_ gP.1) | exact HB.1), by repeat (first | (with_reducible first | exact HK.1 | apply KeepBut.set_ | apply keep_drewN | apply keep_drew | apply keep_alloc | refine keep_far ?_ gM.1 _ | refine keep_far ?_ gO.1 _) | exact HK.1)⟩
 ·
  rw [if_neg c5] at H; have c5b0 : (gH == 0) = false := beq_eq_false_iff_ne.mpr c5; have c5b1 : (gH != 0) = true := bne_iff_ne.mpr c5
  by_cases c20 : gH = 1
  ·
   rw [if_pos c20] at H; have c20b0 : (gH == 1) = true := beq_iff_eq.mpr c20; have c20b1 : (gH != 1) = false := bne_eq_false_iff_eq.mpr c20; clear c20
   simp only [Option.some.injEq, Prod.mk.injEq] at H
   obtain ⟨rfl, rfl, rfl, rfl⟩ := H
   go_enter Try.func38, Try.ntmps38
   go_wp2_with (first | ((with_reducible refine gate_dst (N := 2) rfl ?_); refine bx (cs := #[.int .i64 0, .int .i64 0, .slice none 0 0]) (t := 25) fun g1 hg w21 hbox hb => ?_; replace HB := bs HB hb; have g0 := am (hbox); have gM := am ((by rw [hg]; exact (keep_size (w := w) (g := g) (row := none) kq) : w.heap.size ≤ g1)); have gN := am ((Nat.le_trans HW0.1 (by rw [hg]; exact (keep_size (w := w) (g := g) (row := none) kq) : w.heap.size ≤ g1) : w0.heap.size ≤ g1)); replace HK := kt HK (KeepBut.of_below hb g none); have g3 := am ((by rw [hg]; exact Nat.ne_of_lt (IsS65.lt (show IsS65 w0 _ g g5 gK from by repeat (first | (with_reducible first | exact HI0.1 | apply IsS65.alloc | apply IsS65.drewN | apply IsS65.drew | apply IsS65.set_1) | exact HI0.1))) : g ≠ g1)); have g2 := am ((by rw [hg]; exact Nat.ne_of_gt (IsS65.lt (show IsS65 w0 _ g g5 gK from by repeat (first | (with_reducible first | exact HI0.1 | apply IsS65.alloc | apply IsS65.drewN | apply IsS65.drew | apply IsS65.set_1) | exact HI0.1))) : g1 ≠ g)); replace HI0 := am (IsS65.below ip hb); clear hb hbox hg) | ((with_reducible refine gate_callee (f := 55) rfl ?_); refine gl (some 6) Try.func55 #[.pointer (some ⟨g, 0, none⟩), .int .i64 4] ?_; (with_reducible refine (spec_l6Rd_pick.calls k g g5 gK 4 gL gQ w0 _ ?side1 ?side2 A2.1).mono ?_); (case side1 => exact ip); (case side2 => exact bq); rintro e w22 ⟨rfl, hi, hb, hk⟩; refine ⟨_, rfl, ?_⟩; replace g0 := kk g0 g2 hk; replace HK := kt HK hk; replace HB := am (hb); replace HI0 := am (hi); clear hb hk hi) | ((with_reducible refine gate_callee (f := 56) rfl ?_); refine gl (some 8) Try.func56 #[.pointer (some ⟨g, 0, none⟩), .int .i64 (wrap64 (1 + gL))] ?_; (with_reducible refine (spec_l92Clock.calls k g g5 gQ (wrap64 (1 + gL)) gI gG gE gJ w0 _ ?side1 ?side2 A3.1).mono ?_); (case side1 => exact ip); (case side2 => exact bq); rintro e w23 ⟨h1, rfl, ho0, hi, hb, hk⟩; refine ⟨_, rfl, ?_⟩; have g6 := nk HK ho0 (fun k_ => (w.heap.size ≤ k_) ∧ k_ ≠ g1 ∧ k_ ≠ g) (fun k_ hk_ => ⟨(zk HK hk_), (fb g0 k_ hk_), (IsS65.fresh ip k_ hk_)⟩); replace g0 := kk g0 g2 hk; replace HK := kt HK hk; replace HB := am (hb); replace HI0 := am (hi); clear hb hk hi ho0) | ((with_reducible refine gate_dst (N := 3) rfl ?_); refine bx (cs := #[.int .i64 0, .int .i64 0, .slice none 0 0]) (t := 25) fun g4 hg w24 hbox hb => ?_; replace g6 := nb g6 hg hb; replace HB := bs HB hb; have g9 := am (hbox); have gO := am ((by rw [hg]; exact (keep_size (w := w) (g := g) (row := none) kq) : w.heap.size ≤ g4)); have gP := am ((Nat.le_trans HW0.1 (by rw [hg]; exact (keep_size (w := w) (g := g) (row := none) kq) : w.heap.size ≤ g4) : w0.heap.size ≤ g4)); replace HK := kt HK (KeepBut.of_below hb g none); have gC := nl g0 hg; have gD := ng g0 hg; replace g0 := kb g0 hb; have gB := am ((by rw [hg]; exact Nat.ne_of_lt (IsS65.lt (show IsS65 w0 _ g g5 gJ from by repeat (first | (with_reducible first | exact HI0.1 | apply IsS65.alloc | apply IsS65.drewN | apply IsS65.drew | apply IsS65.set_1 | refine IsS65.far ?_ g3.1 _) | exact HI0.1))) : g ≠ g4)); have gA := am ((by rw [hg]; exact Nat.ne_of_gt (IsS65.lt (show IsS65 w0 _ g g5 gJ from by repeat (first | (with_reducible first | exact HI0.1 | apply IsS65.alloc | apply IsS65.drewN | apply IsS65.drew | apply IsS65.set_1 | refine IsS65.far ?_ g3.1 _) | exact HI0.1))) : g4 ≠ g)); replace HI0 := am (IsS65.below ip hb); clear hb hbox hg; have iS := gD.1; have iT := gC.1; have iU := gA.1; have iV := gB.1; obtain ⟨hM, hN, hO, hP, hQ, hR⟩ := cs3 g9; obtain ⟨gW, gX, rfl⟩ := Kd.N_slice g6.1) | ((with_reducible refine gate_callee (f := 55) rfl ?_); refine gl (some 10) Try.func55 #[.pointer (some ⟨g, 0, none⟩), .int .i64 30] ?_; (with_reducible refine (spec_l6Rd_pick.calls k g g5 gJ 30 gH gR w0 _ ?side1 ?side2 A4.1).mono ?_); (case side1 => exact ip); (case side2 => exact bq); rintro e w29 ⟨rfl, hi, hb, hk⟩; refine ⟨_, rfl, ?_⟩; replace g0 := kk g0 g2 hk; replace g6 := kn g6 hk; replace g9 := am (KeepBut.blk hk (g' := g4) (o := .cells #[.int .i64 gI, .int .i64 gG, .slice gW gE.length gX] 25 (0, 0)) (kf g9).1 gA.1 (by simp)); replace HK := kt HK hk; replace HB := am (hb); replace HI0 := am (hi); clear hb hk hi; obtain ⟨hS, hT, hU, hV, hW, hX⟩ := cs3 g9; have iW := g2.1; have iX := g3.1; obtain ⟨hY, hZ, i0, i1, i2, i3⟩ := cs3 g0))
   refine bodyPost_ret (results_cell_row rfl _ _ g1 25 #[.int .i64 gI, .int .i64 (-1), .slice gW gE.length gX] (0, 0) _ rfl (kf g0).1 Try.underlying25 rfl (by kernel_rfl)) rfl ?_
   exact ⟨_, by first | rfl | (simp [errW_none, errW_some] <;> rfl) | (simp [*, errW_none, errW_some] <;> rfl), by (with_reducible repeat (first | apply Kd.N_alloc | apply Kd.N_drewN | apply Kd.N_drew)); exact Kd.N_mono (Kd.N_far (p := ⟨g1, 2, none⟩) (Kd.N_far (p := ⟨g1, 1, none⟩) (Kd.N_far (p := ⟨g1, 0, none⟩) (Kd.N_far (p := ⟨g4, 1, none⟩) (Kd.N_mono (Kd.N_mono g6.1 (fun k_ hk => (⟨hk, hk.2⟩ : _ ∧ k_ ≠ g4))) (fun k_ hk => (⟨hk, hk.1.1.2.1⟩ : _ ∧ k_ ≠ g1))) mq (.int .i64 (-1))) mq (.int .i64 gI)) mq (.int .i64 (-1))) mq (.slice gW gE.length gX)) mq, by repeat (first | (with_reducible first | exact HI0.1 | apply IsS65.alloc | apply IsS65.drewN | apply IsS65.drew | apply IsS65.set_1 | refine IsS65.far ?_ g3.1 _ | refine IsS65.far ?_ gB.1 _) | exact HI0.1), by repeat (first | (with_reducible first | exact HB.1 | apply below_alloc | apply pw_below_drewN | apply below_drew1 | refine below_set ?_ (IsS65.ge HI0.1) | refine below_set ?_ gN.1 | refine below_set ?_ gP.1) | exact HB.1), by repeat (first | (with_reducible first | exact HK.1 | apply KeepBut.set_ | apply keep_drewN | apply keep_drew | apply keep_alloc | refine keep_far ?_ gM.1 _ | refine keep_far ?_ gO.1 _) | exact HK.1)⟩
  ·
   rw [if_neg c20] at H; have c20b0 : (gH == 1) = false := beq_eq_false_iff_ne.mpr c20; have c20b1 : (gH != 1) = true := bne_iff_ne.mpr c20
   simp only [Option.some.injEq, Prod.mk.injEq] at H
   obtain ⟨rfl, rfl, rfl, rfl⟩ := H
   go_enter Try.func38, Try.ntmps38
   go_wp2_with (first | ((with_reducible refine gate_dst (N := 2) rfl ?_); refine bx (cs := #[.int .i64 0, .int .i64 0, .slice none 0 0]) (t := 25) fun g1 hg w33 hbox hb => ?_; replace HB := bs HB hb; have g0 := am (hbox); have gM := am ((by rw [hg]; exact (keep_size (w := w) (g := g) (row := none) kq) : w.heap.size ≤ g1)); have gN := am ((Nat.le_trans HW0.1 (by rw [hg]; exact (keep_size (w := w) (g := g) (row := none) kq) : w.heap.size ≤ g1) : w0.heap.size ≤ g1)); replace HK := kt HK (KeepBut.of_below hb g none); have g3 := am ((by rw [hg]; exact Nat.ne_of_lt (IsS65.lt (show IsS65 w0 _ g g5 gK from by repeat (first | (with_reducible first | exact HI0.1 | apply IsS65.alloc | apply IsS65.drewN | apply IsS65.drew | apply IsS65.set_1) | exact HI0.1))) : g ≠ g1)); have g2 := am ((by rw [hg]; exact Nat.ne_of_gt (IsS65.lt (show IsS65 w0 _ g g5 gK from by repeat (first | (with_reducible first | exact HI0.1 | apply IsS65.alloc | apply IsS65.drewN | apply IsS65.drew | apply IsS65.set_1) | exact HI0.1))) : g1 ≠ g)); replace HI0 := am (IsS65.below ip hb); clear hb hbox hg) | ((with_reducible refine gate_callee (f := 55) rfl ?_); refine gl (some 6) Try.func55 #[.pointer (some ⟨g, 0, none⟩), .int .i64 4] ?_; (with_reducible refine (spec_l6Rd_pick.calls k g g5 gK 4 gL gQ w0 _ ?side1 ?side2 A2.1).mono ?_); (case side1 => exact ip); (case side2 => exact bq); rintro e w34 ⟨rfl, hi, hb, hk⟩; refine ⟨_, rfl, ?_⟩; replace g0 := kk g0 g2 hk; replace HK := kt HK hk; replace HB := am (hb); replace HI0 := am (hi); clear hb hk hi) | ((with_reducible refine gate_callee (f := 56) rfl ?_); refine gl (some 8) Try.func56 #[.pointer (some ⟨g, 0, none⟩), .int .i64 (wrap64 (1 + gL))] ?_; (with_reducible refine (spec_l92Clock.calls k g g5 gQ (wrap64 (1 + gL)) gI gG gE gJ w0 _ ?side1 ?side2 A3.1).mono ?_); (case side1 => exact ip); (case side2 => exact bq); rintro e w35 ⟨h1, rfl, ho0, hi, hb, hk⟩; refine ⟨_, rfl, ?_⟩; have g6 := nk HK ho0 (fun k_ => (w.heap.size ≤ k_) ∧ k_ ≠ g1 ∧ k_ ≠ g) (fun k_ hk_ => ⟨(zk HK hk_), (fb g0 k_ hk_), (IsS65.fresh ip k_ hk_)⟩); replace g0 := kk g0 g2 hk; replace HK := kt HK hk; replace HB := am (hb); replace HI0 := am (hi); clear hb hk hi ho0) | ((with_reducible refine gate_dst (N := 3) rfl ?_); refine bx (cs := #[.int .i64 0, .int .i64 0, .slice none 0 0]) (t := 25) fun g4 hg w36 hbox hb => ?_; replace g6 := nb g6 hg hb; replace HB := bs HB hb; have g9 := am (hbox); have gO := am ((by rw [hg]; exact (keep_size (w := w) (g := g) (row := none) kq) : w.heap.size ≤ g4)); have gP := am ((Nat.le_trans HW0.1 (by rw [hg]; exact (keep_size (w := w) (g := g) (row := none) kq) : w.heap.size ≤ g4) : w0.heap.size ≤ g4)); replace HK := kt HK (KeepBut.of_below hb g none); have gC := nl g0 hg; have gD := ng g0 hg; replace g0 := kb g0 hb; have gB := am ((by rw [hg]; exact Nat.ne_of_lt (IsS65.lt (show IsS65 w0 _ g g5 gJ from by repeat (first | (with_reducible first | exact HI0.1 | apply IsS65.alloc | apply IsS65.drewN | apply IsS65.drew | apply IsS65.set_1 | refine IsS65.far ?_ g3.1 _) | exact HI0.1))) : g ≠ g4)); have gA := am ((by rw [hg]; exact Nat.ne_of_gt (IsS65.lt (show IsS65 w0 _ g g5 gJ from by repeat (first | (with_reducible first | exact HI0.1 | apply IsS65.alloc | apply IsS65.drewN | apply IsS65.drew | apply IsS65.set_1 | refine IsS65.far ?_ g3.1 _) | exact HI0.1))) : g4 ≠ g)); replace HI0 := am (IsS65.below ip hb); clear hb hbox hg; have iY := gD.1; have iZ := gC.1; have j3 := gA.1; have j4 := gB.1; obtain ⟨i4, i5, i6, i7, i8, i9⟩ := cs3 g9; obtain ⟨gY, gZ, rfl⟩ := Kd.N_slice g6.1) | ((with_reducible refine gate_callee (f := 55) rfl ?_); refine gl (some 10) Try.func55 #[.pointer (some ⟨g, 0, none⟩), .int .i64 30] ?_; (with_reducible refine (spec_l6Rd_pick.calls k g g5 gJ 30 gH gR w0 _ ?side1 ?side2 A4.1).mono ?_); (case side1 => exact ip); (case side2 => exact bq); rintro e w41 ⟨rfl, hi, hb, hk⟩; refine ⟨_, rfl, ?_⟩; replace g0 := kk g0 g2 hk; replace g6 := kn g6 hk; replace g9 := am (KeepBut.blk hk (g' := g4) (o := .cells #[.int .i64 gI, .int .i64 gG, .slice gY gE.length gZ] 25 (0, 0)) (kf g9).1 gA.1 (by simp)); replace HK := kt HK hk; replace HB := am (hb); replace HI0 := am (hi); clear hb hk hi; obtain ⟨iA, iB, iC, iD, iE, iF⟩ := cs3 g9; have j5 := g2.1; have j6 := g3.1; obtain ⟨iG, iH, iI, iJ, iK, iL⟩ := cs3 g0))
   refine bodyPost_ret (results_cell_row rfl _ _ g1 25 #[.int .i64 gI, .int .i64 gG, .slice gY gE.length gZ] (0, 0) _ rfl (kf g0).1 Try.underlying25 rfl (by kernel_rfl)) rfl ?_
   exact ⟨_, by first | rfl | (simp [errW_none, errW_some] <;> rfl) | (simp [*, errW_none, errW_some] <;> rfl), by (with_reducible repeat (first | apply Kd.N_alloc | apply Kd.N_drewN | apply Kd.N_drew)); exact Kd.N_mono (Kd.N_far (p := ⟨g1, 2, none⟩) (Kd.N_far (p := ⟨g1, 1, none⟩) (Kd.N_far (p := ⟨g1, 0, none⟩) (Kd.N_mono g6.1 (fun k_ hk => (⟨hk, hk.1.2.1⟩ : _ ∧ k_ ≠ g1))) mq (.int .i64 gI)) mq (.int .i64 gG)) mq (.slice gY gE.length gZ)) mq, by repeat (first | (with_reducible first | exact HI0.1 | apply IsS65.alloc | apply IsS65.drewN | apply IsS65.drew | apply IsS65.set_1 | refine IsS65.far ?_ g3.1 _ | refine IsS65.far ?_ gB.1 _) | exact HI0.1), by repeat (first | (with_reducible first | exact HB.1 | apply below_alloc | apply pw_below_drewN | apply below_drew1 | refine below_set ?_ (IsS65.ge HI0.1) | refine below_set ?_ gN.1 | refine below_set ?_ gP.1) | exact HB.1), by repeat (first | (with_reducible first | exact HK.1 | apply KeepBut.set_ | apply keep_drewN | apply keep_drew | apply keep_alloc | refine keep_far ?_ gM.1 _ | refine keep_far ?_ gO.1 _) | exact HK.1)⟩
end Go.Proofs.Ytfnmjecofgeboaa.PAll
