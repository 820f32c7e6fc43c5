-- Laid by a program of this session out of the translation's print
import Derived.Test.YtfnmjecofgeboaaPAll0
import Derived.Test.YtfnmjecofgeboaaPAllAb
namespace Go.Proofs.Ytfnmjecofgeboaa.PAll
open Go.RowKit Go.Proofs.YtfnmjecofgeboaaW.PrintWords Go.Proofs.YtfnmjecofgeboaaW.PrintLast Go.Proofs.YtfnmjecofgeboaaW.PrintMore
attribute [local go_sem] max2_int min2_int max_two min_two max_three min_three max_four min_four   -- for this text's walks alone
set_option linter.unusedVariables false
set_option linter.unusedSimpArgs false

/-! ### laws_mnClock: function 31 -/
mutual
def laws_mnClock.j0 : Nat → Bool → Int → Int → List (S25) → Int → Int → List (S25) → Option (Bool)
 | 0, _, _, _, _, _, _, _ => none
 | k + 1, x26, x516000, x516001, x516002, x517000, x517001, x517002 => if x26 = true then (some false) else (laws_mnClock.l0 k 0 x516000 x516001 x516002 x517000 x517001 x517002)
def laws_mnClock.l0 : Nat → Int → Int → Int → List (S25) → Int → Int → List (S25) → Option (Bool)
 | 0, _, _, _, _, _, _, _ => none
 | k + 1, x5, x516000, x516001, x516002, x517000, x517001, x517002 => if x5 < (x516002.length : Int) then (if 0 ≤ x5 then (if x5 < (x517002.length : Int) then ((laws_mnClock.f k ((rd_T25 x516002 x5).f0) ((rd_T25 x516002 x5).f1) ((rd_T25 x516002 x5).f2) ((rd_T25 x517002 x5).f0) ((rd_T25 x517002 x5).f1) ((rd_T25 x517002 x5).f2)).bind fun t519 => (if t519 = true then (laws_mnClock.l0 k (wrap64 (x5 + 1)) x516000 x516001 x516002 x517000 x517001 x517002) else (some false))) else (none)) else (none)) else (some true)
def laws_mnClock.f : Nat → Int → Int → List (S25) → Int → Int → List (S25) → Option (Bool)
 | 0, _, _, _, _, _, _ => none
 | k + 1, a0_0, a0_1, l0_2, a1_0, a1_1, l1_2 => if a0_0 = a1_0 then (if a0_1 = a1_1 then (laws_mnClock.j0 k ((l0_2.length : Int) != (l1_2.length : Int)) a0_0 a0_1 l0_2 a1_0 a1_1 l1_2) else (laws_mnClock.j0 k true a0_0 a0_1 l0_2 a1_0 a1_1 l1_2)) else (laws_mnClock.j0 k true a0_0 a0_1 l0_2 a1_0 a1_1 l1_2)
end
theorem laws_mnClock.mono_l : ∀ k, (∀ y0 y1 y2 y3 y4 y5, LeO (laws_mnClock.f k y0 y1 y2 y3 y4 y5) (laws_mnClock.f (k + 1) y0 y1 y2 y3 y4 y5)) ∧ (∀ y0 y1 y2 y3 y4 y5 y6, LeO (laws_mnClock.j0 k y0 y1 y2 y3 y4 y5 y6) (laws_mnClock.j0 (k + 1) y0 y1 y2 y3 y4 y5 y6)) ∧ (∀ y0 y1 y2 y3 y4 y5 y6, LeO (laws_mnClock.l0 k y0 y1 y2 y3 y4 y5 y6) (laws_mnClock.l0 (k + 1) y0 y1 y2 y3 y4 y5 y6))
 | 0 => ⟨fun _ _ _ _ _ _ r h => by simp [laws_mnClock.f] at h, fun _ _ _ _ _ _ _ r h => by simp [laws_mnClock.j0] at h, fun _ _ _ _ _ _ _ r h => by simp [laws_mnClock.l0] at h⟩
 | k + 1 => by
  obtain ⟨ih0, ih1, ih2⟩ := laws_mnClock.mono_l k
  refine ⟨?_, ?_, ?_⟩
  ·
   intro y0 y1 y2 y3 y4 y5
   unfold laws_mnClock.f
   repeat' first
   | (with_reducible exact ih0 _ _ _ _ _ _)
   | (with_reducible exact ih1 _ _ _ _ _ _ _)
   | (with_reducible exact ih2 _ _ _ _ _ _ _)
   | (with_reducible exact LeO.refl _)
   | (with_reducible exact LeO.none _)
   | (with_reducible refine LeO.ite ?_ ?_)
   | (with_reducible refine LeO.bind ?_ (fun _ => ?_))
   | exact ih0 _ _ _ _ _ _
   | exact ih1 _ _ _ _ _ _ _
   | exact ih2 _ _ _ _ _ _ _
   | exact LeO.none _
   | refine LeO.ite ?_ ?_
   | refine LeO.bind ?_ (fun _ => ?_)
  ·
   intro y0 y1 y2 y3 y4 y5 y6
   unfold laws_mnClock.j0
   repeat' first
   | (with_reducible exact ih0 _ _ _ _ _ _)
   | (with_reducible exact ih1 _ _ _ _ _ _ _)
   | (with_reducible exact ih2 _ _ _ _ _ _ _)
   | (with_reducible exact LeO.refl _)
   | (with_reducible exact LeO.none _)
   | (with_reducible refine LeO.ite ?_ ?_)
   | (with_reducible refine LeO.bind ?_ (fun _ => ?_))
   | exact ih0 _ _ _ _ _ _
   | exact ih1 _ _ _ _ _ _ _
   | exact ih2 _ _ _ _ _ _ _
   | exact LeO.none _
   | refine LeO.ite ?_ ?_
   | refine LeO.bind ?_ (fun _ => ?_)
  ·
   intro y0 y1 y2 y3 y4 y5 y6
   unfold laws_mnClock.l0
   repeat' first
   | (with_reducible exact ih0 _ _ _ _ _ _)
   | (with_reducible exact ih1 _ _ _ _ _ _ _)
   | (with_reducible exact ih2 _ _ _ _ _ _ _)
   | (with_reducible exact LeO.refl _)
   | (with_reducible exact LeO.none _)
   | (with_reducible refine LeO.ite ?_ ?_)
   | (with_reducible refine LeO.bind ?_ (fun _ => ?_))
   | exact ih0 _ _ _ _ _ _
   | exact ih1 _ _ _ _ _ _ _
   | exact ih2 _ _ _ _ _ _ _
   | exact LeO.none _
   | refine LeO.ite ?_ ?_
   | refine LeO.bind ?_ (fun _ => ?_)
theorem laws_mnClock.mono : ∀ a0 a1 a2 a3 a4 a5 k, LeO (laws_mnClock.f k a0 a1 a2 a3 a4 a5) (laws_mnClock.f (k + 1) a0 a1 a2 a3 a4 a5) := by
 intro a0 a1 a2 a3 a4 a5 k
 obtain ⟨ih0, ih1, ih2⟩ := laws_mnClock.mono_l k
 exact ih0 a0 a1 a2 a3 a4 a5
def laws_mnClock.T6 : Bool × List (List Nat × List Nat) := (true, [([], []), ([0], [0]), ([], []), ([1, 2], [1, 2]), ([3], [3]), ([], []), ([5], [5]), ([], []), ([6, 7], [6, 7]), ([8], [8]), ([4, 9], [4, 9]), ([10], [10])])
def laws_mnClock.B6 : List Nat := [0, 1, 0, 7, 15, 0, 32, 0, 224, 480, 1023, 2047]
theorem laws_mnClock.tab6 : rtab .any (opsOf Try.f31 6) = laws_mnClock.T6 := by kernel_rfl
theorem laws_mnClock.bits6 : waitsOk laws_mnClock.T6.2 laws_mnClock.B6 = true := by kernel_rfl
set_option maxHeartbeats 8000000 in
set_option maxRecDepth 100000 in
theorem laws_mnClock.calls (k : Nat) : ∀ (gJ : Int) (gK : Int) (i5 : Option Addr) (h3 : Nat) (g3 : List (S25)) (gL : Int) (gM : Int) (i6 : Option Addr) (h4 : Nat) (g4 : List (S25)) (r : Bool) (w : World) (i7 : Kd.C k25 w i5 g3.length g3) (i8 : g3.length ≤ h3) (i9 : Kd.C k25 w i6 g4.length g4) (iA : g4.length ≤ h4) (h : laws_mnClock.f k gJ gK g3 gL gM g4 = some r),
  Calls Try.prog 31 #[.agg #[.int .i64 gJ, .int .i64 gK, .slice i5 g3.length h3], .agg #[.int .i64 gL, .int .i64 gM, .slice i6 g4.length h4]] w fun e w' => e = .returned (.bool r) ∧ Below w.heap.size w w' := by
 induction k using Nat.strongRecOn with
 | _ k ih =>
 intro gJ gK i5 h3 g3 gL gM i6 h4 g4 r w i7 i8 i9 iA h
 cases k with
 | zero => exact absurd h (by simp [laws_mnClock.f])
 | succ k =>
 simp only [laws_mnClock.f] at h
 have jO := Try.underlying25
 have iJ := am i7; have jA := am i8; clear i7 i8; have iK := am i9; have jB := am iA; clear i9 iA; have HB := am (Below.refl w.heap.size w)
 have H : (if gJ = gL then (if gK = gM then (laws_mnClock.j0 k ((g3.length : Int) != (g4.length : Int)) gJ gK g3 gL gM g4) else (laws_mnClock.j0 k true gJ gK g3 gL gM g4)) else (laws_mnClock.j0 k true gJ gK g3 gL gM g4)) = some r := h
 clear h; have HC3 := am H; clear H
 go_enter Try.func31, Try.ntmps31
 go_upto_region 1 with (first | ((with_reducible refine gate_dst (N := 2) rfl ?_); (try (refine gate_guard (by rfl) ?_; dsimp only)); refine bx (cs := #[.int .i64 gJ, .int .i64 gK, .slice i5 g3.length h3]) (t := 25) fun gV hg w4 hbox hb => ?_; have g1 := am (hbox); have jC := bz HB hg; have iB := bz HB hg; replace HB := bs HB hb; clear hb hbox hg) | ((with_reducible refine gate_dst (N := 3) rfl ?_); (try (refine gate_guard (by rfl) ?_; dsimp only)); refine bx (cs := #[.int .i64 gL, .int .i64 gM, .slice i6 g4.length h4]) (t := 25) fun gW hg w5 hbox hb => ?_; have g2 := am (hbox); have jD := bz HB hg; have iC := bz HB hg; replace HB := bs HB hb; have gH := nl g1 hg; have gI := ng g1 hg; replace g1 := kb g1 hb; clear hb hbox hg))
 (try simp only [Act.put, List.setIfInBounds_toArray, List.set_cons_zero, List.set_cons_succ])
 go_cut [26] (fun v26 wc => ∃ (kq : Nat) (h9 : Bool), v26 = .bool h9 ∧ Aside0 (laws_mnClock.j0 kq h9 gJ gK g3 gL gM g4 = some r) ∧ Aside0 (kq ≤ k) ∧ Aside0 (wc.heap[gV]? = some (.cells #[.int .i64 gJ, .int .i64 gK, (.slice i5 g3.length h3)] 25 (0, 0))) ∧ Aside0 (wc.heap[gW]? = some (.cells #[.int .i64 gL, .int .i64 gM, (.slice i6 g4.length h4)] 25 (0, 0))) ∧ Aside0 (Below w.heap.size w wc))
 case first =>
  have H := HC3.1
  clear HC3
  by_cases c6 : gJ = gL
  ·
   rw [if_pos c6] at H; have c6b0 : (gJ == gL) = true := beq_iff_eq.mpr c6; have c6b1 : (gJ != gL) = false := bne_eq_false_iff_eq.mpr c6; clear c6
   (first | rw [c6b0] | (simp only [i64_w, i32_w]; rw [c6b0]) | skip)
   by_cases c7 : gK = gM
   ·
    rw [if_pos c7] at H; have c7b0 : (gK == gM) = true := beq_iff_eq.mpr c7; have c7b1 : (gK != gM) = false := bne_eq_false_iff_eq.mpr c7; clear c7
    have H' := am H
    clear H; have jP := gH.1; have jQ := gI.1; obtain ⟨iD, iE, iF, iG, iH, iI⟩ := cs3 g1; obtain ⟨hA, hB, hC, hD, hE, hF⟩ := cs3 g2
    go_wp2
    go_meet
    case rel => exact ⟨_, (((g3.length : Int) != (g4.length : Int))), rq, H', ⟨by first | omega | exact Nat.le_refl _⟩, kf g1, kf g2, bw⟩
   ·
    rw [if_neg c7] at H; have c7b0 : (gK == gM) = false := beq_eq_false_iff_ne.mpr c7; have c7b1 : (gK != gM) = true := bne_iff_ne.mpr c7
    have H' := am H
    clear H; have jE := gH.1; have jF := gI.1; obtain ⟨hG, hH, hI, hJ, hL, hM⟩ := cs3 g1; obtain ⟨hN, hO, hP, hQ, hR, hS⟩ := cs3 g2
    go_wp2
    go_meet
    case rel => exact ⟨_, (true), rq, H', ⟨by first | omega | exact Nat.le_refl _⟩, kf g1, kf g2, bw⟩
  ·
   rw [if_neg c6] at H; have c6b0 : (gJ == gL) = false := beq_eq_false_iff_ne.mpr c6; have c6b1 : (gJ != gL) = true := bne_iff_ne.mpr c6
   (first | rw [c6b0] | (simp only [i64_w, i32_w]; rw [c6b0]) | skip)
   have H' := am H
   clear H; have jG := gH.1; have jH := gI.1; obtain ⟨hT, hU, hV, hW, hX, hY⟩ := cs3 g1; obtain ⟨hZ, i0, i1, i2, i3, i4⟩ := cs3 g2
   go_wp2
   go_meet
   case rel => exact ⟨_, (true), rq, H', ⟨by first | omega | exact Nat.le_refl _⟩, kf g1, kf g2, bw⟩
 case rest =>
  clear HC3; (try clear c1); (try clear p2); (try clear c3); (try clear c6); (try clear c6b0); (try clear c6b1); (try clear c7); (try clear c7b0); (try clear c7b1); (try clear c8); (try clear c11); (try clear c14); (try clear hA); (try clear hB); (try clear hC); (try clear hG); (try clear hH); (try clear hI); (try clear hN); (try clear hO); (try clear hP); (try clear hT); (try clear hU); (try clear hV); (try clear hZ); (try clear i0); (try clear i1); (try clear iD); (try clear iE); (try clear iF); (try clear hD); (try clear hE); (try clear hF); (try clear hJ); (try clear hL); (try clear hM); (try clear hQ); (try clear hR); (try clear hS); (try clear hW); (try clear hX); (try clear hY); (try clear i2); (try clear i3); (try clear i4); (try clear iG); (try clear iH); (try clear iI)
  obtain ⟨kq, h9, rfl, HA, HJ2, g1, g2, HB⟩ := hcut
  cases kq with
  | zero => exact absurd HA.1 (by simp [laws_mnClock.j0])
  | succ kj2 =>
   have H := HA.1
   clear HA
   simp only [laws_mnClock.j0] at H
   by_cases c17 : h9 = true
   ·
    subst c17
    have H1 : (some false) = some r := by rw [if_pos rfl] at H; exact H
    clear H
    have H := H1
    clear H1
    obtain rfl := Option.some.inj H
    go_wp2
    go_ret
    exact ⟨by first | rfl | (simp [errW_none, errW_some] <;> rfl) | (simp [*, errW_none, errW_some] <;> rfl), by repeat (first | (with_reducible first | exact HB.1 | apply below_alloc | apply pw_below_drewN | apply below_drew1 | refine below_set ?_ iB.1 | refine below_set ?_ iC.1) | exact HB.1)⟩
   ·
    replace c17 := Bool.eq_false_iff.mpr c17
    subst c17
    have H1 : (laws_mnClock.l0 kj2 0 gJ gK g3 gL gM g4) = some r := by rw [if_neg (show ¬ (false = true) by decide)] at H; exact H
    clear H
    have H := H1
    clear H1
    have H' := am H
    clear H
    go_wp2
    go_loopg [5] kj2 (fun kq v5 w' => ∃ (g0 : Int), v5 = .int .i64 g0 ∧ Aside0 (laws_mnClock.l0 kq g0 gJ gK g3 gL gM g4 = some r) ∧ Aside0 (kq ≤ kj2) ∧ Aside0 (w'.heap[gV]? = some (.cells #[.int .i64 gJ, .int .i64 gK, (.slice i5 g3.length h3)] 25 (0, 0))) ∧ Aside0 (w'.heap[gW]? = some (.cells #[.int .i64 gL, .int .i64 gM, (.slice i6 g4.length h4)] 25 (0, 0))) ∧ Aside0 (Below w.heap.size w w'))
    case atStart => exact ⟨(0), rq, H', ⟨Nat.le_refl _⟩, kf g1, kf g2, bw⟩
    case round =>
     clear H'; (try clear c1); (try clear p2); (try clear c3); (try clear c6); (try clear c6b0); (try clear c6b1); (try clear c7); (try clear c7b0); (try clear c7b1); (try clear c8); (try clear c11); (try clear c14); (try clear c17); (try clear hA); (try clear hB); (try clear hC); (try clear hG); (try clear hH); (try clear hI); (try clear hN); (try clear hO); (try clear hP); (try clear hT); (try clear hU); (try clear hV); (try clear hZ); (try clear i0); (try clear i1); (try clear iD); (try clear iE); (try clear iF); (try clear hD); (try clear hE); (try clear hF); (try clear hJ); (try clear hL); (try clear hM); (try clear hQ); (try clear hR); (try clear hS); (try clear hW); (try clear hX); (try clear hY); (try clear i2); (try clear i3); (try clear i4); (try clear iG); (try clear iH); (try clear iI); (try clear p2); (try clear g1); (try clear g2); (try clear HB)
     obtain ⟨g0, rfl, HA, HK2, g1, g2, HB⟩ := hrel
     cases gk with
     | zero => exact absurd HA.1 (by simp [laws_mnClock.l0])
     | succ k2 =>
      have H := HA.1
      clear HA
      simp only [laws_mnClock.l0] at H
      by_cases c18 : g0 < (g3.length : Int)
      ·
       rw [if_pos c18] at H; have c18b0 : decide (g0 < (g3.length : Int)) = true := decide_eq_true c18; clear c18
       by_cases c19 : 0 ≤ g0
       ·
        rw [if_pos c19] at H; have c19b0 : decide (0 ≤ g0) = true := decide_eq_true c19; clear c19
        by_cases c20 : g0 < (g4.length : Int)
        ·
         rw [if_pos c20] at H; have c20b0 : decide (g0 < (g4.length : Int)) = true := decide_eq_true c20; clear c20
         replace H := Option.bind_eq_some_iff.mp H
         obtain ⟨iN, iO, H⟩ := H
         replace H : (if iN = true then (laws_mnClock.l0 k2 (wrap64 (g0 + 1)) gJ gK g3 gL gM g4) else (some false)) = some r := H
         have A21 := am iO
         clear iO
         by_cases c22 : iN = true
         ·
          subst c22
          have H1 : (laws_mnClock.l0 k2 (wrap64 (g0 + 1)) gJ gK g3 gL gM g4) = some r := by rw [if_pos rfl] at H; exact H
          clear H
          have H := H1
          clear H1
          have H' := am H
          clear H; have jI := gH.1; have jJ := gI.1; obtain ⟨iP, iQ, iR, iS, iT, iU⟩ := cs3 g1
          try go_wp2
          replace g1 := am (blk_drew g1.1); replace g2 := am (blk_drew g2.1); replace HB := am (below_drew1 HB.1); have h5 : 0 ≤ (g0 : Int) := od; have h6 : g0 < (g3.length : Int) := od
          obtain ⟨gN, gX, gY, iL, g5, g6, g7, gP, gQ⟩ := at_T25 iJ.1 g0 h5 h6
          have g8 := g7
          have g9 := g6
          have gA := g5
          cases iL; replace g5 := hc HB g5; replace g6 := hc HB g6; replace g7 := hc HB g7; have gR := am gQ; have h1 := am gP; clear gQ gP; replace h5 := eq_true h5; replace h6 := eq_true h6; have h7 : 0 ≤ (g0 : Int) := od; have h8 : g0 < (g4.length : Int) := od
          obtain ⟨gO, gZ, h0, iM, gB, gC, gD, gS, gT⟩ := at_T25 iK.1 g0 h7 h8
          have gE := gD
          have gF := gC
          have gG := gB
          cases iM; replace gB := hc HB gB; replace gC := hc HB gC; replace gD := hc HB gD; have gU := am gT; have h2 := am gS; clear gT gS; replace h7 := eq_true h7; replace h8 := eq_true h8
          refine start_ (n := 12) (S := fun w' => w'.cell? ⟨gV, 0, none⟩ = some (.int .i64 gJ) ∧ w'.cell? ⟨gV, 1, none⟩ = some (.int .i64 gK) ∧ w'.cell? ⟨gV, 2, none⟩ = some (.slice (some gN) g3.length h3) ∧ w'.cell? ⟨gW, 0, none⟩ = some (.int .i64 gL) ∧ w'.cell? ⟨gW, 1, none⟩ = some (.int .i64 gM) ∧ w'.cell? ⟨gW, 2, none⟩ = some (.slice (some gO) g4.length h4) ∧ w'.cell? (gN.add ((g0).toNat * 3)) = some (.int .i64 ((rd_T25 g3 g0).f0)) ∧ w'.cell? ⟨(gN.add ((g0).toNat * 3)).block, (gN.add ((g0).toNat * 3)).off + 1, none⟩ = some (.int .i64 ((rd_T25 g3 g0).f1)) ∧ w'.cell? ⟨(gN.add ((g0).toNat * 3)).block, (gN.add ((g0).toNat * 3)).off + 2, none⟩ = some (.slice gX ((rd_T25 g3 g0).f2).length gY) ∧ w'.cell? (gO.add ((g0).toNat * 3)) = some (.int .i64 ((rd_T25 g4 g0).f0)) ∧ w'.cell? ⟨(gO.add ((g0).toNat * 3)).block, (gO.add ((g0).toNat * 3)).off + 1, none⟩ = some (.int .i64 ((rd_T25 g4 g0).f1)) ∧ w'.cell? ⟨(gO.add ((g0).toNat * 3)).block, (gO.add ((g0).toNat * 3)).off + 2, none⟩ = some (.slice gZ ((rd_T25 g4 g0).f2).length h0)) (ds := []) #[ff,ff,ff,ff,ff,ff,ff,ff,ff,ff,ff,ff] (by kernel_rfl) rfl rfl ⟨(blk_cell g1.1 0).trans rfl, (blk_cell g1.1 1).trans rfl, (blk_cell g1.1 2).trans rfl, (blk_cell g2.1 0).trans rfl, (blk_cell g2.1 1).trans rfl, (blk_cell g2.1 2).trans rfl, ((HB.1.cell (World.block_lt_of_cell? w _ gA)).trans gA), ((HB.1.cell (World.block_lt_of_cell? w _ g9)).trans g9), ((HB.1.cell (World.block_lt_of_cell? w _ g8)).trans g8), ((HB.1.cell (World.block_lt_of_cell? w _ gG)).trans gG), ((HB.1.cell (World.block_lt_of_cell? w _ gF)).trans gF), ((HB.1.cell (World.block_lt_of_cell? w _ gE)).trans gE)⟩ (fun hHeld => ?_); refine with_tabW laws_mnClock.tab6 laws_mnClock.bits6 (fun HT_ HW_ => ?_)
          generalize wr.drew = w25 at g1 g2 HB gR gU g5 g6 g7 gB gC gD hHeld ⊢
          refine pu (i := 0) (N := some 34) #[tt,ff,ff,ff,ff,ff,ff,ff,ff,ff,ff,ff] HT_ ?_
          refine pu (i := 2) (N := some 36) #[tt,ff,tt,ff,ff,ff,ff,ff,ff,ff,ff,ff] HT_ ?_
          refine pu (i := 5) (N := some 39) #[tt,ff,tt,ff,ff,tt,ff,ff,ff,ff,ff,ff] HT_ ?_
          refine pu (i := 7) (N := some 41) #[tt,ff,tt,ff,ff,tt,ff,tt,ff,ff,ff,ff] HT_ ?_
          refine tk (i := 1) (N := some 35) #[tt,tt,tt,ff,ff,tt,ff,tt,ff,ff,ff,ff] HT_ HW_ hHeld ?_
          refine pu (i := 3) (N := some 37) #[tt,tt,tt,tt,ff,tt,ff,tt,ff,ff,ff,ff] HT_ ?_
          refine tk (i := 4) (N := some 38) #[tt,tt,tt,tt,tt,tt,ff,tt,ff,ff,ff,ff] HT_ HW_ hHeld ?_
          refine tk (i := 6) (N := some 40) #[tt,tt,tt,tt,tt,tt,tt,tt,ff,ff,ff,ff] HT_ HW_ hHeld ?_
          refine pu (i := 8) (N := some 42) #[tt,tt,tt,tt,tt,tt,tt,tt,tt,ff,ff,ff] HT_ ?_
          refine tk (i := 9) (N := some 43) #[tt,tt,tt,tt,tt,tt,tt,tt,tt,tt,ff,ff] HT_ HW_ hHeld ?_
          refine on (i := 10) (N := some 44) #[tt,tt,tt,tt,tt,tt,tt,tt,tt,tt,tt,ff] HT_ (fun K hK => ?_)
          refine goes_ Try.func31 (by kernel_rfl) rfl #[.agg #[.int .i64 ((rd_T25 g3 g0).f0), .int .i64 ((rd_T25 g3 g0).f1), .slice gX ((rd_T25 g3 g0).f2).length gY], .agg #[.int .i64 ((rd_T25 g4 g0).f0), .int .i64 ((rd_T25 g4 g0).f1), .slice gZ ((rd_T25 g4 g0).f2).length h0]] (by rfl) rfl rfl (by (try simp only [List.map_toArray, List.map_cons, List.map_nil]); first | done | rfl | (simp only [List.length_drop, List.length_take]; rfl)) ?_
          with_reducible refine (ih k2 (by have := HJ2.1; have := HK2.1; omega) ((rd_T25 g3 g0).f0) ((rd_T25 g3 g0).f1) _ _ ((rd_T25 g3 g0).f2) ((rd_T25 g4 g0).f0) ((rd_T25 g4 g0).f1) _ _ ((rd_T25 g4 g0).f2) true _ ?side1 ?side2 ?side3 ?side4 A21.1).mono ?_
          (case side1 => exact cq (Kd.C_below gR.1 HB.1))
          (case side2 => exact h1.1)
          (case side3 => exact cq (Kd.C_below gU.1 HB.1))
          (case side4 => exact h2.1)
          rintro e w26 ⟨rfl, hb⟩
          refine ⟨_, rfl, ?_⟩
          replace g1 := kb g1 hb; replace g2 := kb g2 hb; replace HB := bs HB hb; (try clear hb); (try clear hb2); (try clear hk); (try clear hi)
          refine hK.out _ _ ⟨(blk_cell g1.1 0).trans rfl, (blk_cell g1.1 1).trans rfl, (blk_cell g1.1 2).trans rfl, (blk_cell g2.1 0).trans rfl, (blk_cell g2.1 1).trans rfl, (blk_cell g2.1 2).trans rfl, ((HB.1.cell (World.block_lt_of_cell? w _ gA)).trans gA), ((HB.1.cell (World.block_lt_of_cell? w _ g9)).trans g9), ((HB.1.cell (World.block_lt_of_cell? w _ g8)).trans g8), ((HB.1.cell (World.block_lt_of_cell? w _ gG)).trans gG), ((HB.1.cell (World.block_lt_of_cell? w _ gF)).trans gF), ((HB.1.cell (World.block_lt_of_cell? w _ gE)).trans gE)⟩ (fun hHeld => ?_)
          clear hK K
          refine norm_ (a' := ?_) ?_ ?_
          rotate_left
          ·
           show Act.put _ (some 44) _ = _
           simp only [Act.put, List.setIfInBounds_toArray, List.set_cons_zero, List.set_cons_succ, i64_w, i32_w]
           rfl
          refine pu (i := 11) (N := some 45) #[tt,tt,tt,tt,tt,tt,tt,tt,tt,tt,tt,tt] HT_ ?_
          refine done_ (done_of HT_.1 (by kernel_rfl)) ?_
          try go_wp2
          go_roundg k2
          case measure => have := HJ2.1; have := HK2.1; omega
          case rel => exact ⟨(wrap64 (g0 + 1)), rq, H', ⟨by have := HJ2.1; have := HK2.1; omega⟩, kf g1, kf g2, bw⟩
         ·
          replace c22 := Bool.eq_false_iff.mpr c22
          subst c22
          have H1 : (some false) = some r := by rw [if_neg (show ¬ (false = true) by decide)] at H; exact H
          clear H
          have H := H1
          clear H1
          obtain rfl := Option.some.inj H
          have jK := gH.1; have jL := gI.1; obtain ⟨iV, iW, iX, iY, iZ, j3⟩ := cs3 g1
          try go_wp2
          replace g1 := am (blk_drew g1.1); replace g2 := am (blk_drew g2.1); replace HB := am (below_drew1 HB.1); have h5 : 0 ≤ (g0 : Int) := od; have h6 : g0 < (g3.length : Int) := od
          obtain ⟨gN, gX, gY, iL, g5, g6, g7, gP, gQ⟩ := at_T25 iJ.1 g0 h5 h6
          have g8 := g7
          have g9 := g6
          have gA := g5
          cases iL; replace g5 := hc HB g5; replace g6 := hc HB g6; replace g7 := hc HB g7; have gR := am gQ; have h1 := am gP; clear gQ gP; replace h5 := eq_true h5; replace h6 := eq_true h6; have h7 : 0 ≤ (g0 : Int) := od; have h8 : g0 < (g4.length : Int) := od
          obtain ⟨gO, gZ, h0, iM, gB, gC, gD, gS, gT⟩ := at_T25 iK.1 g0 h7 h8
          have gE := gD
          have gF := gC
          have gG := gB
          cases iM; replace gB := hc HB gB; replace gC := hc HB gC; replace gD := hc HB gD; have gU := am gT; have h2 := am gS; clear gT gS; replace h7 := eq_true h7; replace h8 := eq_true h8
          refine start_ (n := 12) (S := fun w' => w'.cell? ⟨gV, 0, none⟩ = some (.int .i64 gJ) ∧ w'.cell? ⟨gV, 1, none⟩ = some (.int .i64 gK) ∧ w'.cell? ⟨gV, 2, none⟩ = some (.slice (some gN) g3.length h3) ∧ w'.cell? ⟨gW, 0, none⟩ = some (.int .i64 gL) ∧ w'.cell? ⟨gW, 1, none⟩ = some (.int .i64 gM) ∧ w'.cell? ⟨gW, 2, none⟩ = some (.slice (some gO) g4.length h4) ∧ w'.cell? (gN.add ((g0).toNat * 3)) = some (.int .i64 ((rd_T25 g3 g0).f0)) ∧ w'.cell? ⟨(gN.add ((g0).toNat * 3)).block, (gN.add ((g0).toNat * 3)).off + 1, none⟩ = some (.int .i64 ((rd_T25 g3 g0).f1)) ∧ w'.cell? ⟨(gN.add ((g0).toNat * 3)).block, (gN.add ((g0).toNat * 3)).off + 2, none⟩ = some (.slice gX ((rd_T25 g3 g0).f2).length gY) ∧ w'.cell? (gO.add ((g0).toNat * 3)) = some (.int .i64 ((rd_T25 g4 g0).f0)) ∧ w'.cell? ⟨(gO.add ((g0).toNat * 3)).block, (gO.add ((g0).toNat * 3)).off + 1, none⟩ = some (.int .i64 ((rd_T25 g4 g0).f1)) ∧ w'.cell? ⟨(gO.add ((g0).toNat * 3)).block, (gO.add ((g0).toNat * 3)).off + 2, none⟩ = some (.slice gZ ((rd_T25 g4 g0).f2).length h0)) (ds := []) #[ff,ff,ff,ff,ff,ff,ff,ff,ff,ff,ff,ff] (by kernel_rfl) rfl rfl ⟨(blk_cell g1.1 0).trans rfl, (blk_cell g1.1 1).trans rfl, (blk_cell g1.1 2).trans rfl, (blk_cell g2.1 0).trans rfl, (blk_cell g2.1 1).trans rfl, (blk_cell g2.1 2).trans rfl, ((HB.1.cell (World.block_lt_of_cell? w _ gA)).trans gA), ((HB.1.cell (World.block_lt_of_cell? w _ g9)).trans g9), ((HB.1.cell (World.block_lt_of_cell? w _ g8)).trans g8), ((HB.1.cell (World.block_lt_of_cell? w _ gG)).trans gG), ((HB.1.cell (World.block_lt_of_cell? w _ gF)).trans gF), ((HB.1.cell (World.block_lt_of_cell? w _ gE)).trans gE)⟩ (fun hHeld => ?_); refine with_tabW laws_mnClock.tab6 laws_mnClock.bits6 (fun HT_ HW_ => ?_)
          generalize wr.drew = w29 at g1 g2 HB gR gU g5 g6 g7 gB gC gD hHeld ⊢
          refine pu (i := 0) (N := some 34) #[tt,ff,ff,ff,ff,ff,ff,ff,ff,ff,ff,ff] HT_ ?_
          refine pu (i := 2) (N := some 36) #[tt,ff,tt,ff,ff,ff,ff,ff,ff,ff,ff,ff] HT_ ?_
          refine pu (i := 5) (N := some 39) #[tt,ff,tt,ff,ff,tt,ff,ff,ff,ff,ff,ff] HT_ ?_
          refine pu (i := 7) (N := some 41) #[tt,ff,tt,ff,ff,tt,ff,tt,ff,ff,ff,ff] HT_ ?_
          refine tk (i := 1) (N := some 35) #[tt,tt,tt,ff,ff,tt,ff,tt,ff,ff,ff,ff] HT_ HW_ hHeld ?_
          refine pu (i := 3) (N := some 37) #[tt,tt,tt,tt,ff,tt,ff,tt,ff,ff,ff,ff] HT_ ?_
          refine tk (i := 4) (N := some 38) #[tt,tt,tt,tt,tt,tt,ff,tt,ff,ff,ff,ff] HT_ HW_ hHeld ?_
          refine tk (i := 6) (N := some 40) #[tt,tt,tt,tt,tt,tt,tt,tt,ff,ff,ff,ff] HT_ HW_ hHeld ?_
          refine pu (i := 8) (N := some 42) #[tt,tt,tt,tt,tt,tt,tt,tt,tt,ff,ff,ff] HT_ ?_
          refine tk (i := 9) (N := some 43) #[tt,tt,tt,tt,tt,tt,tt,tt,tt,tt,ff,ff] HT_ HW_ hHeld ?_
          refine on (i := 10) (N := some 44) #[tt,tt,tt,tt,tt,tt,tt,tt,tt,tt,tt,ff] HT_ (fun K hK => ?_)
          refine goes_ Try.func31 (by kernel_rfl) rfl #[.agg #[.int .i64 ((rd_T25 g3 g0).f0), .int .i64 ((rd_T25 g3 g0).f1), .slice gX ((rd_T25 g3 g0).f2).length gY], .agg #[.int .i64 ((rd_T25 g4 g0).f0), .int .i64 ((rd_T25 g4 g0).f1), .slice gZ ((rd_T25 g4 g0).f2).length h0]] (by rfl) rfl rfl (by (try simp only [List.map_toArray, List.map_cons, List.map_nil]); first | done | rfl | (simp only [List.length_drop, List.length_take]; rfl)) ?_
          with_reducible refine (ih k2 (by have := HJ2.1; have := HK2.1; omega) ((rd_T25 g3 g0).f0) ((rd_T25 g3 g0).f1) _ _ ((rd_T25 g3 g0).f2) ((rd_T25 g4 g0).f0) ((rd_T25 g4 g0).f1) _ _ ((rd_T25 g4 g0).f2) false _ ?side1 ?side2 ?side3 ?side4 A21.1).mono ?_
          (case side1 => exact cq (Kd.C_below gR.1 HB.1))
          (case side2 => exact h1.1)
          (case side3 => exact cq (Kd.C_below gU.1 HB.1))
          (case side4 => exact h2.1)
          rintro e w30 ⟨rfl, hb⟩
          refine ⟨_, rfl, ?_⟩
          replace g1 := kb g1 hb; replace g2 := kb g2 hb; replace HB := bs HB hb; (try clear hb); (try clear hb2); (try clear hk); (try clear hi)
          refine hK.out _ _ ⟨(blk_cell g1.1 0).trans rfl, (blk_cell g1.1 1).trans rfl, (blk_cell g1.1 2).trans rfl, (blk_cell g2.1 0).trans rfl, (blk_cell g2.1 1).trans rfl, (blk_cell g2.1 2).trans rfl, ((HB.1.cell (World.block_lt_of_cell? w _ gA)).trans gA), ((HB.1.cell (World.block_lt_of_cell? w _ g9)).trans g9), ((HB.1.cell (World.block_lt_of_cell? w _ g8)).trans g8), ((HB.1.cell (World.block_lt_of_cell? w _ gG)).trans gG), ((HB.1.cell (World.block_lt_of_cell? w _ gF)).trans gF), ((HB.1.cell (World.block_lt_of_cell? w _ gE)).trans gE)⟩ (fun hHeld => ?_)
          clear hK K
          refine norm_ (a' := ?_) ?_ ?_
          rotate_left
          ·
           show Act.put _ (some 44) _ = _
           simp only [Act.put, List.setIfInBounds_toArray, List.set_cons_zero, List.set_cons_succ, i64_w, i32_w]
           rfl
          refine pu (i := 11) (N := some 45) #[tt,tt,tt,tt,tt,tt,tt,tt,tt,tt,tt,tt] HT_ ?_
          refine done_ (done_of HT_.1 (by kernel_rfl)) ?_
          try go_wp2
          go_ret
          exact ⟨by first | rfl | (simp [errW_none, errW_some] <;> rfl) | (simp [*, errW_none, errW_some] <;> rfl), by repeat (first | (with_reducible first | exact HB.1 | apply below_alloc | apply pw_below_drewN | apply below_drew1 | refine below_set ?_ iB.1 | refine below_set ?_ iC.1) | exact HB.1)⟩
        ·
         rw [if_neg c20] at H
         exact absurd H (by simp)
       ·
        rw [if_neg c19] at H
        exact absurd H (by simp)
      ·
       rw [if_neg c18] at H; have c18b0 : decide (g0 < (g3.length : Int)) = false := decide_eq_false c18; clear c18
       obtain rfl := Option.some.inj H
       have jM := gH.1; have jN := gI.1; obtain ⟨j4, j5, j6, j7, j8, j9⟩ := cs3 g1
       go_wp2
       go_ret
       exact ⟨by first | rfl | (simp [errW_none, errW_some] <;> rfl) | (simp [*, errW_none, errW_some] <;> rfl), by repeat (first | (with_reducible first | exact HB.1 | apply below_alloc | apply pw_below_drewN | apply below_drew1 | refine below_set ?_ iB.1 | refine below_set ?_ iC.1) | exact HB.1)⟩


/-! ### laws_mnTicks: function 23 -/
def laws_mnTicks.l0 : Nat → List (S44) → List (S44) → Int → Option (Bool)
 | 0, _, _, _ => none
 | k + 1, x0, x1, x5 => if x5 < (x0.length : Int) then (if 0 ≤ x5 then (if x5 < (x1.length : Int) then (if ((rd_T44 x0 x5).f0) = ((rd_T44 x1 x5).f0) then ((laws_mnClock.f k ((rd_T44 x0 x5).f1.f0) ((rd_T44 x0 x5).f1.f1) ((rd_T44 x0 x5).f1.f2) ((rd_T44 x1 x5).f1.f0) ((rd_T44 x1 x5).f1.f1) ((rd_T44 x1 x5).f1.f2)).bind fun t524 => (if t524 = true then (laws_mnTicks.l0 k x0 x1 (wrap64 (x5 + 1))) else (some false))) else (some false)) else (none)) else (none)) else (some true)
def laws_mnTicks.f (k : Nat) (l0 : List (S44)) (l1 : List (S44)) : Option (Bool) := if (l0.length : Int) = (l1.length : Int) then (laws_mnTicks.l0 k l0 l1 0) else (some false)
theorem laws_mnTicks.mono_l : ∀ k, (∀ y0 y1 y2, LeO (laws_mnTicks.l0 k y0 y1 y2) (laws_mnTicks.l0 (k + 1) y0 y1 y2))
 | 0 => fun _ _ _ r h => by simp [laws_mnTicks.l0] at h
 | k + 1 => by
  have ih0 := laws_mnTicks.mono_l k
  ·
   intro y0 y1 y2
   unfold laws_mnTicks.l0
   repeat' first
   | (with_reducible exact ih0 _ _ _)
   | (with_reducible exact laws_mnClock.mono _ _ _ _ _ _ _)
   | (with_reducible exact LeO.refl _)
   | (with_reducible exact LeO.none _)
   | (with_reducible refine LeO.ite ?_ ?_)
   | (with_reducible refine LeO.bind ?_ (fun _ => ?_))
   | exact ih0 _ _ _
   | exact laws_mnClock.mono _ _ _ _ _ _ _
   | exact LeO.none _
   | refine LeO.ite ?_ ?_
   | refine LeO.bind ?_ (fun _ => ?_)
theorem laws_mnTicks.mono : ∀ a0 a1 k, LeO (laws_mnTicks.f k a0 a1) (laws_mnTicks.f (k + 1) a0 a1) := by
 intro a0 a1 k
 have ih0 := laws_mnTicks.mono_l k
 unfold laws_mnTicks.f
 repeat' first
   | (with_reducible exact ih0 _ _ _)
   | (with_reducible exact laws_mnClock.mono _ _ _ _ _ _ _)
   | (with_reducible exact LeO.refl _)
   | (with_reducible exact LeO.none _)
   | (with_reducible refine LeO.ite ?_ ?_)
   | (with_reducible refine LeO.bind ?_ (fun _ => ?_))
   | exact ih0 _ _ _
   | exact laws_mnClock.mono _ _ _ _ _ _ _
   | exact LeO.none _
   | refine LeO.ite ?_ ?_
   | refine LeO.bind ?_ (fun _ => ?_)
def laws_mnTicks.T6 : Bool × List (List Nat × List Nat) := (true, [([], []), ([], []), ([0, 1], [0, 1]), ([2], [2]), ([3], [3]), ([], []), ([], []), ([5, 6], [5, 6]), ([7], [7]), ([8], [8]), ([4, 9], [4, 9]), ([10], [10]), ([11], [11]), ([11], [11]), ([12, 13, 11], [11, 12, 13]), ([14, 11], [11, 14]), ([15, 11], [11, 15]), ([11], [11]), ([11], [11]), ([17, 18, 11], [11, 17, 18]), ([19, 11], [11, 19]), ([20, 11], [11, 20]), ([16, 21, 11, 11], [11, 16, 21]), ([22, 11], [11, 22]), ([11, 23], [11, 23])])
def laws_mnTicks.B6 : List Nat := [0, 0, 3, 7, 15, 0, 0, 96, 224, 480, 1023, 2047, 4095, 4095, 16383, 32767, 65535, 4095, 4095, 397311, 921599, 1970175, 4194303, 8388607, 16777215]
theorem laws_mnTicks.tab6 : rtab .any (opsOf Try.f23 6) = laws_mnTicks.T6 := by kernel_rfl
theorem laws_mnTicks.bits6 : waitsOk laws_mnTicks.T6.2 laws_mnTicks.B6 = true := by kernel_rfl
set_option maxHeartbeats 8000000 in
set_option maxRecDepth 100000 in
theorem laws_mnTicks.calls (k : Nat) (A0 : Option Addr) (c0 : Nat) (l0 : List (S44)) (A1 : Option Addr) (c1 : Nat) (l1 : List (S44)) (r : Bool) (w : World) (hr0 : Kd.C k44 w A0 l0.length l0) (hc0 : l0.length ≤ c0) (hr1 : Kd.C k44 w A1 l1.length l1) (hc1 : l1.length ≤ c1) (h : laws_mnTicks.f k l0 l1 = some r) :
  Calls Try.prog 23 #[.slice A0 l0.length c0, .slice A1 l1.length c1] w fun e w' => e = .returned (.bool r) ∧ Below w.heap.size w w' := by
 have i3 := Try.underlying25
 have HR0 := am hr0; have HC0 := am hc0; clear hr0 hc0; have HR1 := am hr1; have HC1 := am hc1; clear hr1 hc1; have HB := am (Below.refl w.heap.size w)
 have H : (if (l0.length : Int) = (l1.length : Int) then (laws_mnTicks.l0 k l0 l1 0) else (some false)) = some r := h
 clear h
 by_cases c3 : (l0.length : Int) = (l1.length : Int)
 ·
  rw [if_pos c3] at H; have c3b0 : ((l0.length : Int) == (l1.length : Int)) = true := beq_iff_eq.mpr c3; have c3b1 : ((l0.length : Int) != (l1.length : Int)) = false := bne_eq_false_iff_eq.mpr c3
  have c3b2 : (l0.length == l1.length) = true := by first | simpa using c3 | (simp at c3 ⊢; omega)
  clear c3
  have H' := am H
  clear H
  go_enter Try.func23, Try.ntmps23
  go_wp2
  go_loopg [5] k (fun kq v5 w' => ∃ (g0 : Int), v5 = .int .i64 g0 ∧ Aside0 (laws_mnTicks.l0 kq l0 l1 g0 = some r) ∧ Aside0 (kq ≤ k) ∧ Aside0 (Below w.heap.size w w'))
  case atStart => exact ⟨(0), rq, H', ⟨Nat.le_refl _⟩, bw⟩
  case round =>
   clear H'; (try clear c1); (try clear c2); (try clear p2); (try clear c3); (try clear c3b0); (try clear c3b1); (try clear c3b2); (try clear HB)
   obtain ⟨g0, rfl, HA, HK1, HB⟩ := hrel
   cases gk with
   | zero => exact absurd HA.1 (by simp [laws_mnTicks.l0])
   | succ k1 =>
    have H := HA.1
    clear HA
    simp only [laws_mnTicks.l0] at H
    by_cases c4 : g0 < (l0.length : Int)
    ·
     rw [if_pos c4] at H; have c4b0 : decide (g0 < (l0.length : Int)) = true := decide_eq_true c4; clear c4
     by_cases c5 : 0 ≤ g0
     ·
      rw [if_pos c5] at H; have c5b0 : decide (0 ≤ g0) = true := decide_eq_true c5; clear c5
      by_cases c6 : g0 < (l1.length : Int)
      ·
       rw [if_pos c6] at H; have c6b0 : decide (g0 < (l1.length : Int)) = true := decide_eq_true c6; clear c6
       by_cases c7 : ((rd_T44 l0 g0).f0) = ((rd_T44 l1 g0).f0)
       ·
        rw [if_pos c7] at H; have c7b0 : (((rd_T44 l0 g0).f0) == ((rd_T44 l1 g0).f0)) = true := beq_iff_eq.mpr c7; have c7b1 : (((rd_T44 l0 g0).f0) != ((rd_T44 l1 g0).f0)) = false := bne_eq_false_iff_eq.mpr c7; clear c7
        replace H := Option.bind_eq_some_iff.mp H
        obtain ⟨i2, A80, H⟩ := H
        replace H : (if i2 = true then (laws_mnTicks.l0 k1 l0 l1 (wrap64 (g0 + 1))) else (some false)) = some r := H
        have A8 := am A80
        clear A80
        by_cases c9 : i2 = true
        ·
         subst c9
         have H1 : (laws_mnTicks.l0 k1 l0 l1 (wrap64 (g0 + 1))) = some r := by rw [if_pos rfl] at H; exact H
         clear H
         have H := H1
         clear H1
         have H' := am H
         clear H
         try go_wp2
         replace HB := am (below_drew1 HB.1); have hF : 0 ≤ (g0 : Int) := od; have hG : g0 < (l0.length : Int) := od
         obtain ⟨g1, h3, h4, hS, g5, g6, g7, g3, gZ, h0⟩ := at_T44 HR0.1 g0 hF hG
         have gB := g3
         have gC := g7
         have gD := g6
         have gE := g5
         cases hS; replace g5 := hc HB g5; replace g6 := hc HB g6; replace g7 := hc HB g7; replace g3 := hc HB g3; have h7 := am h0; have hQ := am gZ; clear h0 gZ; replace hF := eq_true hF; replace hG := eq_true hG; have hH : 0 ≤ (g0 : Int) := od; have hI : g0 < (l1.length : Int) := od
         obtain ⟨g2, h5, h6, hT, g8, g9, gA, g4, h1, h2⟩ := at_T44 HR1.1 g0 hH hI
         have gF := g4
         have gG := gA
         have gH := g9
         have gI := g8
         cases hT; replace g8 := hc HB g8; replace g9 := hc HB g9; replace gA := hc HB gA; replace g4 := hc HB g4; have h8 := am h2; have hR := am h1; clear h2 h1; replace hH := eq_true hH; replace hI := eq_true hI; have hM : 0 ≤ (g0 : Int) := od; have hN : g0 < (l0.length : Int) := od
         obtain ⟨hU, hW, hX, hY, gL, gM, gN, gJ, h9, hA⟩ := at_T44 HR0.1 g0 hM hN
         have gO := gJ
         have gP := gN
         have gQ := gM
         have gR := gL
         obtain rfl : g1 = hU := (by injection hY)
         replace gL := hc HB gL; replace gM := hc HB gM; replace gN := hc HB gN; replace gJ := hc HB gJ; have hB := am hA; have hJ := am h9; clear hA h9; replace hM := eq_true hM; replace hN := eq_true hN
         have ea_ := Option.some.inj (g3.symm.trans gJ)
         injection ea_ with ea_ en_ ec_
         subst ea_
         subst ec_
         clear en_; have hO : 0 ≤ (g0 : Int) := od; have hP : g0 < (l1.length : Int) := od
         obtain ⟨hV, hZ, i0, i1, gS, gT, gU, gK, hC, hD⟩ := at_T44 HR1.1 g0 hO hP
         have gV := gK
         have gW := gU
         have gX := gT
         have gY := gS
         obtain rfl : g2 = hV := (by injection i1)
         replace gS := hc HB gS; replace gT := hc HB gT; replace gU := hc HB gU; replace gK := hc HB gK; have hE := am hD; have hL := am hC; clear hD hC; replace hO := eq_true hO; replace hP := eq_true hP
         have ea_ := Option.some.inj (g4.symm.trans gK)
         injection ea_ with ea_ en_ ec_
         subst ea_
         subst ec_
         clear en_
         refine start_ (n := 25) (S := fun w' => w'.cell? (g1.add ((g0).toNat * 4)) = some (.int .i64 ((rd_T44 l0 g0).f0)) ∧ w'.cell? ⟨(g1.add ((g0).toNat * 4)).block, (g1.add ((g0).toNat * 4)).off + 1, none⟩ = some (.int .i64 ((rd_T44 l0 g0).f1.f0)) ∧ w'.cell? ⟨(g1.add ((g0).toNat * 4)).block, (g1.add ((g0).toNat * 4)).off + 2, none⟩ = some (.int .i64 ((rd_T44 l0 g0).f1.f1)) ∧ w'.cell? ⟨(g1.add ((g0).toNat * 4)).block, (g1.add ((g0).toNat * 4)).off + 3, none⟩ = some (.slice h3 ((rd_T44 l0 g0).f1.f2).length h4) ∧ w'.cell? (g2.add ((g0).toNat * 4)) = some (.int .i64 ((rd_T44 l1 g0).f0)) ∧ w'.cell? ⟨(g2.add ((g0).toNat * 4)).block, (g2.add ((g0).toNat * 4)).off + 1, none⟩ = some (.int .i64 ((rd_T44 l1 g0).f1.f0)) ∧ w'.cell? ⟨(g2.add ((g0).toNat * 4)).block, (g2.add ((g0).toNat * 4)).off + 2, none⟩ = some (.int .i64 ((rd_T44 l1 g0).f1.f1)) ∧ w'.cell? ⟨(g2.add ((g0).toNat * 4)).block, (g2.add ((g0).toNat * 4)).off + 3, none⟩ = some (.slice h5 ((rd_T44 l1 g0).f1.f2).length h6) ∧ w'.cell? (g1.add ((g0).toNat * 4)) = some (.int .i64 ((rd_T44 l0 g0).f0)) ∧ w'.cell? ⟨(g1.add ((g0).toNat * 4)).block, (g1.add ((g0).toNat * 4)).off + 1, none⟩ = some (.int .i64 ((rd_T44 l0 g0).f1.f0)) ∧ w'.cell? ⟨(g1.add ((g0).toNat * 4)).block, (g1.add ((g0).toNat * 4)).off + 2, none⟩ = some (.int .i64 ((rd_T44 l0 g0).f1.f1)) ∧ w'.cell? ⟨(g1.add ((g0).toNat * 4)).block, (g1.add ((g0).toNat * 4)).off + 3, none⟩ = some (.slice h3 ((rd_T44 l0 g0).f1.f2).length h4) ∧ w'.cell? (g2.add ((g0).toNat * 4)) = some (.int .i64 ((rd_T44 l1 g0).f0)) ∧ w'.cell? ⟨(g2.add ((g0).toNat * 4)).block, (g2.add ((g0).toNat * 4)).off + 1, none⟩ = some (.int .i64 ((rd_T44 l1 g0).f1.f0)) ∧ w'.cell? ⟨(g2.add ((g0).toNat * 4)).block, (g2.add ((g0).toNat * 4)).off + 2, none⟩ = some (.int .i64 ((rd_T44 l1 g0).f1.f1)) ∧ w'.cell? ⟨(g2.add ((g0).toNat * 4)).block, (g2.add ((g0).toNat * 4)).off + 3, none⟩ = some (.slice h5 ((rd_T44 l1 g0).f1.f2).length h6)) (ds := []) #[ff,ff,ff,ff,ff,ff,ff,ff,ff,ff,ff,ff,ff,ff,ff,ff,ff,ff,ff,ff,ff,ff,ff,ff,ff] (by kernel_rfl) rfl rfl ⟨((HB.1.cell (World.block_lt_of_cell? w _ gE)).trans gE), ((HB.1.cell (World.block_lt_of_cell? w _ gD)).trans gD), ((HB.1.cell (World.block_lt_of_cell? w _ gC)).trans gC), ((HB.1.cell (World.block_lt_of_cell? w _ gB)).trans gB), ((HB.1.cell (World.block_lt_of_cell? w _ gI)).trans gI), ((HB.1.cell (World.block_lt_of_cell? w _ gH)).trans gH), ((HB.1.cell (World.block_lt_of_cell? w _ gG)).trans gG), ((HB.1.cell (World.block_lt_of_cell? w _ gF)).trans gF), ((HB.1.cell (World.block_lt_of_cell? w _ gR)).trans gR), ((HB.1.cell (World.block_lt_of_cell? w _ gQ)).trans gQ), ((HB.1.cell (World.block_lt_of_cell? w _ gP)).trans gP), ((HB.1.cell (World.block_lt_of_cell? w _ gO)).trans gO), ((HB.1.cell (World.block_lt_of_cell? w _ gY)).trans gY), ((HB.1.cell (World.block_lt_of_cell? w _ gX)).trans gX), ((HB.1.cell (World.block_lt_of_cell? w _ gW)).trans gW), ((HB.1.cell (World.block_lt_of_cell? w _ gV)).trans gV)⟩ (fun hHeld => ?_); refine with_tabW laws_mnTicks.tab6 laws_mnTicks.bits6 (fun HT_ HW_ => ?_)
         generalize wr.drew = w10 at HB h7 h8 hB hE g5 g6 g7 g3 g8 g9 gA g4 gL gM gN gJ gS gT gU gK hHeld ⊢
         refine pu (i := 0) (N := some 17) #[tt,ff,ff,ff,ff,ff,ff,ff,ff,ff,ff,ff,ff,ff,ff,ff,ff,ff,ff,ff,ff,ff,ff,ff,ff] HT_ ?_
         refine pu (i := 1) (N := some 18) #[tt,tt,ff,ff,ff,ff,ff,ff,ff,ff,ff,ff,ff,ff,ff,ff,ff,ff,ff,ff,ff,ff,ff,ff,ff] HT_ ?_
         refine pu (i := 2) (N := some 19) #[tt,tt,tt,ff,ff,ff,ff,ff,ff,ff,ff,ff,ff,ff,ff,ff,ff,ff,ff,ff,ff,ff,ff,ff,ff] HT_ ?_
         refine pu (i := 3) (N := some 20) #[tt,tt,tt,tt,ff,ff,ff,ff,ff,ff,ff,ff,ff,ff,ff,ff,ff,ff,ff,ff,ff,ff,ff,ff,ff] HT_ ?_
         refine pu (i := 5) (N := some 22) #[tt,tt,tt,tt,ff,tt,ff,ff,ff,ff,ff,ff,ff,ff,ff,ff,ff,ff,ff,ff,ff,ff,ff,ff,ff] HT_ ?_
         refine pu (i := 6) (N := some 23) #[tt,tt,tt,tt,ff,tt,tt,ff,ff,ff,ff,ff,ff,ff,ff,ff,ff,ff,ff,ff,ff,ff,ff,ff,ff] HT_ ?_
         refine pu (i := 7) (N := some 24) #[tt,tt,tt,tt,ff,tt,tt,tt,ff,ff,ff,ff,ff,ff,ff,ff,ff,ff,ff,ff,ff,ff,ff,ff,ff] HT_ ?_
         refine pu (i := 8) (N := some 25) #[tt,tt,tt,tt,ff,tt,tt,tt,tt,ff,ff,ff,ff,ff,ff,ff,ff,ff,ff,ff,ff,ff,ff,ff,ff] HT_ ?_
         refine tk (i := 4) (N := some 21) #[tt,tt,tt,tt,tt,tt,tt,tt,tt,ff,ff,ff,ff,ff,ff,ff,ff,ff,ff,ff,ff,ff,ff,ff,ff] HT_ HW_ hHeld ?_
         refine tk (i := 9) (N := some 26) #[tt,tt,tt,tt,tt,tt,tt,tt,tt,tt,ff,ff,ff,ff,ff,ff,ff,ff,ff,ff,ff,ff,ff,ff,ff] HT_ HW_ hHeld ?_
         refine pu (i := 10) (N := some 27) #[tt,tt,tt,tt,tt,tt,tt,tt,tt,tt,tt,ff,ff,ff,ff,ff,ff,ff,ff,ff,ff,ff,ff,ff,ff] HT_ ?_
         refine pu (i := 11) (N := some 28) #[tt,tt,tt,tt,tt,tt,tt,tt,tt,tt,tt,tt,ff,ff,ff,ff,ff,ff,ff,ff,ff,ff,ff,ff,ff] HT_ ?_
         refine pu (i := 12) (N := some 29) #[tt,tt,tt,tt,tt,tt,tt,tt,tt,tt,tt,tt,tt,ff,ff,ff,ff,ff,ff,ff,ff,ff,ff,ff,ff] HT_ ?_
         refine pu (i := 13) (N := some 30) #[tt,tt,tt,tt,tt,tt,tt,tt,tt,tt,tt,tt,tt,tt,ff,ff,ff,ff,ff,ff,ff,ff,ff,ff,ff] HT_ ?_
         refine pu (i := 14) (N := some 31) #[tt,tt,tt,tt,tt,tt,tt,tt,tt,tt,tt,tt,tt,tt,tt,ff,ff,ff,ff,ff,ff,ff,ff,ff,ff] HT_ ?_
         refine pu (i := 15) (N := some 32) #[tt,tt,tt,tt,tt,tt,tt,tt,tt,tt,tt,tt,tt,tt,tt,tt,ff,ff,ff,ff,ff,ff,ff,ff,ff] HT_ ?_
         refine pu (i := 17) (N := some 34) #[tt,tt,tt,tt,tt,tt,tt,tt,tt,tt,tt,tt,tt,tt,tt,tt,ff,tt,ff,ff,ff,ff,ff,ff,ff] HT_ ?_
         refine pu (i := 18) (N := some 35) #[tt,tt,tt,tt,tt,tt,tt,tt,tt,tt,tt,tt,tt,tt,tt,tt,ff,tt,tt,ff,ff,ff,ff,ff,ff] HT_ ?_
         refine pu (i := 19) (N := some 36) #[tt,tt,tt,tt,tt,tt,tt,tt,tt,tt,tt,tt,tt,tt,tt,tt,ff,tt,tt,tt,ff,ff,ff,ff,ff] HT_ ?_
         refine pu (i := 20) (N := some 37) #[tt,tt,tt,tt,tt,tt,tt,tt,tt,tt,tt,tt,tt,tt,tt,tt,ff,tt,tt,tt,tt,ff,ff,ff,ff] HT_ ?_
         refine tk (i := 16) (N := some 33) #[tt,tt,tt,tt,tt,tt,tt,tt,tt,tt,tt,tt,tt,tt,tt,tt,tt,tt,tt,tt,tt,ff,ff,ff,ff] HT_ HW_ hHeld ?_
         refine tk (i := 21) (N := some 38) #[tt,tt,tt,tt,tt,tt,tt,tt,tt,tt,tt,tt,tt,tt,tt,tt,tt,tt,tt,tt,tt,tt,ff,ff,ff] HT_ HW_ hHeld ?_
         refine on (i := 22) (N := some 39) #[tt,tt,tt,tt,tt,tt,tt,tt,tt,tt,tt,tt,tt,tt,tt,tt,tt,tt,tt,tt,tt,tt,tt,ff,ff] HT_ (fun K hK => ?_)
         refine goes_ Try.func31 (by kernel_rfl) rfl #[.agg #[.int .i64 ((rd_T44 l0 g0).f1.f0), .int .i64 ((rd_T44 l0 g0).f1.f1), .slice h3 ((rd_T44 l0 g0).f1.f2).length h4], .agg #[.int .i64 ((rd_T44 l1 g0).f1.f0), .int .i64 ((rd_T44 l1 g0).f1.f1), .slice h5 ((rd_T44 l1 g0).f1.f2).length h6]] (by rfl) rfl rfl (by (try simp only [List.map_toArray, List.map_cons, List.map_nil]); first | done | rfl | (simp only [List.length_drop, List.length_take]; rfl)) ?_
         with_reducible refine (laws_mnClock.calls k1 ((rd_T44 l0 g0).f1.f0) ((rd_T44 l0 g0).f1.f1) _ _ ((rd_T44 l0 g0).f1.f2) ((rd_T44 l1 g0).f1.f0) ((rd_T44 l1 g0).f1.f1) _ _ ((rd_T44 l1 g0).f1.f2) true _ ?side1 ?side2 ?side3 ?side4 A8.1).mono ?_
         (case side1 => exact cq (Kd.C_below hB.1 HB.1))
         (case side2 => exact hJ.1)
         (case side3 => exact cq (Kd.C_below hE.1 HB.1))
         (case side4 => exact hL.1)
         rintro e w11 ⟨rfl, hb⟩
         refine ⟨_, rfl, ?_⟩
         replace HB := bs HB hb; (try clear hb); (try clear hb2); (try clear hk); (try clear hi)
         refine hK.out _ _ ⟨((HB.1.cell (World.block_lt_of_cell? w _ gE)).trans gE), ((HB.1.cell (World.block_lt_of_cell? w _ gD)).trans gD), ((HB.1.cell (World.block_lt_of_cell? w _ gC)).trans gC), ((HB.1.cell (World.block_lt_of_cell? w _ gB)).trans gB), ((HB.1.cell (World.block_lt_of_cell? w _ gI)).trans gI), ((HB.1.cell (World.block_lt_of_cell? w _ gH)).trans gH), ((HB.1.cell (World.block_lt_of_cell? w _ gG)).trans gG), ((HB.1.cell (World.block_lt_of_cell? w _ gF)).trans gF), ((HB.1.cell (World.block_lt_of_cell? w _ gR)).trans gR), ((HB.1.cell (World.block_lt_of_cell? w _ gQ)).trans gQ), ((HB.1.cell (World.block_lt_of_cell? w _ gP)).trans gP), ((HB.1.cell (World.block_lt_of_cell? w _ gO)).trans gO), ((HB.1.cell (World.block_lt_of_cell? w _ gY)).trans gY), ((HB.1.cell (World.block_lt_of_cell? w _ gX)).trans gX), ((HB.1.cell (World.block_lt_of_cell? w _ gW)).trans gW), ((HB.1.cell (World.block_lt_of_cell? w _ gV)).trans gV)⟩ (fun hHeld => ?_)
         clear hK K
         refine norm_ (a' := ?_) ?_ ?_
         rotate_left
         ·
          show Act.put _ (some 39) _ = _
          simp only [Act.put, List.setIfInBounds_toArray, List.set_cons_zero, List.set_cons_succ, i64_w, i32_w]
          rfl
         refine pu (i := 23) (N := some 40) #[tt,tt,tt,tt,tt,tt,tt,tt,tt,tt,tt,tt,tt,tt,tt,tt,tt,tt,tt,tt,tt,tt,tt,tt,ff] HT_ ?_
         refine pu (i := 24) (N := some 41) #[tt,tt,tt,tt,tt,tt,tt,tt,tt,tt,tt,tt,tt,tt,tt,tt,tt,tt,tt,tt,tt,tt,tt,tt,tt] HT_ ?_
         refine done_ (done_of HT_.1 (by kernel_rfl)) ?_
         try go_wp2
         go_roundg k1
         case measure => have := HK1.1; omega
         case rel => exact ⟨(wrap64 (g0 + 1)), rq, H', km, bw⟩
        ·
         replace c9 := Bool.eq_false_iff.mpr c9
         subst c9
         have H1 : (some false) = some r := by rw [if_neg (show ¬ (false = true) by decide)] at H; exact H
         clear H
         have H := H1
         clear H1
         obtain rfl := Option.some.inj H
         try go_wp2
         replace HB := am (below_drew1 HB.1); have hF : 0 ≤ (g0 : Int) := od; have hG : g0 < (l0.length : Int) := od
         obtain ⟨g1, h3, h4, hS, g5, g6, g7, g3, gZ, h0⟩ := at_T44 HR0.1 g0 hF hG
         have gB := g3
         have gC := g7
         have gD := g6
         have gE := g5
         cases hS; replace g5 := hc HB g5; replace g6 := hc HB g6; replace g7 := hc HB g7; replace g3 := hc HB g3; have h7 := am h0; have hQ := am gZ; clear h0 gZ; replace hF := eq_true hF; replace hG := eq_true hG; have hH : 0 ≤ (g0 : Int) := od; have hI : g0 < (l1.length : Int) := od
         obtain ⟨g2, h5, h6, hT, g8, g9, gA, g4, h1, h2⟩ := at_T44 HR1.1 g0 hH hI
         have gF := g4
         have gG := gA
         have gH := g9
         have gI := g8
         cases hT; replace g8 := hc HB g8; replace g9 := hc HB g9; replace gA := hc HB gA; replace g4 := hc HB g4; have h8 := am h2; have hR := am h1; clear h2 h1; replace hH := eq_true hH; replace hI := eq_true hI; have hM : 0 ≤ (g0 : Int) := od; have hN : g0 < (l0.length : Int) := od
         obtain ⟨hU, hW, hX, hY, gL, gM, gN, gJ, h9, hA⟩ := at_T44 HR0.1 g0 hM hN
         have gO := gJ
         have gP := gN
         have gQ := gM
         have gR := gL
         obtain rfl : g1 = hU := (by injection hY)
         replace gL := hc HB gL; replace gM := hc HB gM; replace gN := hc HB gN; replace gJ := hc HB gJ; have hB := am hA; have hJ := am h9; clear hA h9; replace hM := eq_true hM; replace hN := eq_true hN
         have ea_ := Option.some.inj (g3.symm.trans gJ)
         injection ea_ with ea_ en_ ec_
         subst ea_
         subst ec_
         clear en_; have hO : 0 ≤ (g0 : Int) := od; have hP : g0 < (l1.length : Int) := od
         obtain ⟨hV, hZ, i0, i1, gS, gT, gU, gK, hC, hD⟩ := at_T44 HR1.1 g0 hO hP
         have gV := gK
         have gW := gU
         have gX := gT
         have gY := gS
         obtain rfl : g2 = hV := (by injection i1)
         replace gS := hc HB gS; replace gT := hc HB gT; replace gU := hc HB gU; replace gK := hc HB gK; have hE := am hD; have hL := am hC; clear hD hC; replace hO := eq_true hO; replace hP := eq_true hP
         have ea_ := Option.some.inj (g4.symm.trans gK)
         injection ea_ with ea_ en_ ec_
         subst ea_
         subst ec_
         clear en_
         refine start_ (n := 25) (S := fun w' => w'.cell? (g1.add ((g0).toNat * 4)) = some (.int .i64 ((rd_T44 l0 g0).f0)) ∧ w'.cell? ⟨(g1.add ((g0).toNat * 4)).block, (g1.add ((g0).toNat * 4)).off + 1, none⟩ = some (.int .i64 ((rd_T44 l0 g0).f1.f0)) ∧ w'.cell? ⟨(g1.add ((g0).toNat * 4)).block, (g1.add ((g0).toNat * 4)).off + 2, none⟩ = some (.int .i64 ((rd_T44 l0 g0).f1.f1)) ∧ w'.cell? ⟨(g1.add ((g0).toNat * 4)).block, (g1.add ((g0).toNat * 4)).off + 3, none⟩ = some (.slice h3 ((rd_T44 l0 g0).f1.f2).length h4) ∧ w'.cell? (g2.add ((g0).toNat * 4)) = some (.int .i64 ((rd_T44 l1 g0).f0)) ∧ w'.cell? ⟨(g2.add ((g0).toNat * 4)).block, (g2.add ((g0).toNat * 4)).off + 1, none⟩ = some (.int .i64 ((rd_T44 l1 g0).f1.f0)) ∧ w'.cell? ⟨(g2.add ((g0).toNat * 4)).block, (g2.add ((g0).toNat * 4)).off + 2, none⟩ = some (.int .i64 ((rd_T44 l1 g0).f1.f1)) ∧ w'.cell? ⟨(g2.add ((g0).toNat * 4)).block, (g2.add ((g0).toNat * 4)).off + 3, none⟩ = some (.slice h5 ((rd_T44 l1 g0).f1.f2).length h6) ∧ w'.cell? (g1.add ((g0).toNat * 4)) = some (.int .i64 ((rd_T44 l0 g0).f0)) ∧ w'.cell? ⟨(g1.add ((g0).toNat * 4)).block, (g1.add ((g0).toNat * 4)).off + 1, none⟩ = some (.int .i64 ((rd_T44 l0 g0).f1.f0)) ∧ w'.cell? ⟨(g1.add ((g0).toNat * 4)).block, (g1.add ((g0).toNat * 4)).off + 2, none⟩ = some (.int .i64 ((rd_T44 l0 g0).f1.f1)) ∧ w'.cell? ⟨(g1.add ((g0).toNat * 4)).block, (g1.add ((g0).toNat * 4)).off + 3, none⟩ = some (.slice h3 ((rd_T44 l0 g0).f1.f2).length h4) ∧ w'.cell? (g2.add ((g0).toNat * 4)) = some (.int .i64 ((rd_T44 l1 g0).f0)) ∧ w'.cell? ⟨(g2.add ((g0).toNat * 4)).block, (g2.add ((g0).toNat * 4)).off + 1, none⟩ = some (.int .i64 ((rd_T44 l1 g0).f1.f0)) ∧ w'.cell? ⟨(g2.add ((g0).toNat * 4)).block, (g2.add ((g0).toNat * 4)).off + 2, none⟩ = some (.int .i64 ((rd_T44 l1 g0).f1.f1)) ∧ w'.cell? ⟨(g2.add ((g0).toNat * 4)).block, (g2.add ((g0).toNat * 4)).off + 3, none⟩ = some (.slice h5 ((rd_T44 l1 g0).f1.f2).length h6)) (ds := []) #[ff,ff,ff,ff,ff,ff,ff,ff,ff,ff,ff,ff,ff,ff,ff,ff,ff,ff,ff,ff,ff,ff,ff,ff,ff] (by kernel_rfl) rfl rfl ⟨((HB.1.cell (World.block_lt_of_cell? w _ gE)).trans gE), ((HB.1.cell (World.block_lt_of_cell? w _ gD)).trans gD), ((HB.1.cell (World.block_lt_of_cell? w _ gC)).trans gC), ((HB.1.cell (World.block_lt_of_cell? w _ gB)).trans gB), ((HB.1.cell (World.block_lt_of_cell? w _ gI)).trans gI), ((HB.1.cell (World.block_lt_of_cell? w _ gH)).trans gH), ((HB.1.cell (World.block_lt_of_cell? w _ gG)).trans gG), ((HB.1.cell (World.block_lt_of_cell? w _ gF)).trans gF), ((HB.1.cell (World.block_lt_of_cell? w _ gR)).trans gR), ((HB.1.cell (World.block_lt_of_cell? w _ gQ)).trans gQ), ((HB.1.cell (World.block_lt_of_cell? w _ gP)).trans gP), ((HB.1.cell (World.block_lt_of_cell? w _ gO)).trans gO), ((HB.1.cell (World.block_lt_of_cell? w _ gY)).trans gY), ((HB.1.cell (World.block_lt_of_cell? w _ gX)).trans gX), ((HB.1.cell (World.block_lt_of_cell? w _ gW)).trans gW), ((HB.1.cell (World.block_lt_of_cell? w _ gV)).trans gV)⟩ (fun hHeld => ?_); refine with_tabW laws_mnTicks.tab6 laws_mnTicks.bits6 (fun HT_ HW_ => ?_)
         generalize wr.drew = w12 at HB h7 h8 hB hE g5 g6 g7 g3 g8 g9 gA g4 gL gM gN gJ gS gT gU gK hHeld ⊢
         refine pu (i := 0) (N := some 17) #[tt,ff,ff,ff,ff,ff,ff,ff,ff,ff,ff,ff,ff,ff,ff,ff,ff,ff,ff,ff,ff,ff,ff,ff,ff] HT_ ?_
         refine pu (i := 1) (N := some 18) #[tt,tt,ff,ff,ff,ff,ff,ff,ff,ff,ff,ff,ff,ff,ff,ff,ff,ff,ff,ff,ff,ff,ff,ff,ff] HT_ ?_
         refine pu (i := 2) (N := some 19) #[tt,tt,tt,ff,ff,ff,ff,ff,ff,ff,ff,ff,ff,ff,ff,ff,ff,ff,ff,ff,ff,ff,ff,ff,ff] HT_ ?_
         refine pu (i := 3) (N := some 20) #[tt,tt,tt,tt,ff,ff,ff,ff,ff,ff,ff,ff,ff,ff,ff,ff,ff,ff,ff,ff,ff,ff,ff,ff,ff] HT_ ?_
         refine pu (i := 5) (N := some 22) #[tt,tt,tt,tt,ff,tt,ff,ff,ff,ff,ff,ff,ff,ff,ff,ff,ff,ff,ff,ff,ff,ff,ff,ff,ff] HT_ ?_
         refine pu (i := 6) (N := some 23) #[tt,tt,tt,tt,ff,tt,tt,ff,ff,ff,ff,ff,ff,ff,ff,ff,ff,ff,ff,ff,ff,ff,ff,ff,ff] HT_ ?_
         refine pu (i := 7) (N := some 24) #[tt,tt,tt,tt,ff,tt,tt,tt,ff,ff,ff,ff,ff,ff,ff,ff,ff,ff,ff,ff,ff,ff,ff,ff,ff] HT_ ?_
         refine pu (i := 8) (N := some 25) #[tt,tt,tt,tt,ff,tt,tt,tt,tt,ff,ff,ff,ff,ff,ff,ff,ff,ff,ff,ff,ff,ff,ff,ff,ff] HT_ ?_
         refine tk (i := 4) (N := some 21) #[tt,tt,tt,tt,tt,tt,tt,tt,tt,ff,ff,ff,ff,ff,ff,ff,ff,ff,ff,ff,ff,ff,ff,ff,ff] HT_ HW_ hHeld ?_
         refine tk (i := 9) (N := some 26) #[tt,tt,tt,tt,tt,tt,tt,tt,tt,tt,ff,ff,ff,ff,ff,ff,ff,ff,ff,ff,ff,ff,ff,ff,ff] HT_ HW_ hHeld ?_
         refine pu (i := 10) (N := some 27) #[tt,tt,tt,tt,tt,tt,tt,tt,tt,tt,tt,ff,ff,ff,ff,ff,ff,ff,ff,ff,ff,ff,ff,ff,ff] HT_ ?_
         refine pu (i := 11) (N := some 28) #[tt,tt,tt,tt,tt,tt,tt,tt,tt,tt,tt,tt,ff,ff,ff,ff,ff,ff,ff,ff,ff,ff,ff,ff,ff] HT_ ?_
         refine pu (i := 12) (N := some 29) #[tt,tt,tt,tt,tt,tt,tt,tt,tt,tt,tt,tt,tt,ff,ff,ff,ff,ff,ff,ff,ff,ff,ff,ff,ff] HT_ ?_
         refine pu (i := 13) (N := some 30) #[tt,tt,tt,tt,tt,tt,tt,tt,tt,tt,tt,tt,tt,tt,ff,ff,ff,ff,ff,ff,ff,ff,ff,ff,ff] HT_ ?_
         refine pu (i := 14) (N := some 31) #[tt,tt,tt,tt,tt,tt,tt,tt,tt,tt,tt,tt,tt,tt,tt,ff,ff,ff,ff,ff,ff,ff,ff,ff,ff] HT_ ?_
         refine pu (i := 15) (N := some 32) #[tt,tt,tt,tt,tt,tt,tt,tt,tt,tt,tt,tt,tt,tt,tt,tt,ff,ff,ff,ff,ff,ff,ff,ff,ff] HT_ ?_
         refine pu (i := 17) (N := some 34) #[tt,tt,tt,tt,tt,tt,tt,tt,tt,tt,tt,tt,tt,tt,tt,tt,ff,tt,ff,ff,ff,ff,ff,ff,ff] HT_ ?_
         refine pu (i := 18) (N := some 35) #[tt,tt,tt,tt,tt,tt,tt,tt,tt,tt,tt,tt,tt,tt,tt,tt,ff,tt,tt,ff,ff,ff,ff,ff,ff] HT_ ?_
         refine pu (i := 19) (N := some 36) #[tt,tt,tt,tt,tt,tt,tt,tt,tt,tt,tt,tt,tt,tt,tt,tt,ff,tt,tt,tt,ff,ff,ff,ff,ff] HT_ ?_
         refine pu (i := 20) (N := some 37) #[tt,tt,tt,tt,tt,tt,tt,tt,tt,tt,tt,tt,tt,tt,tt,tt,ff,tt,tt,tt,tt,ff,ff,ff,ff] HT_ ?_
         refine tk (i := 16) (N := some 33) #[tt,tt,tt,tt,tt,tt,tt,tt,tt,tt,tt,tt,tt,tt,tt,tt,tt,tt,tt,tt,tt,ff,ff,ff,ff] HT_ HW_ hHeld ?_
         refine tk (i := 21) (N := some 38) #[tt,tt,tt,tt,tt,tt,tt,tt,tt,tt,tt,tt,tt,tt,tt,tt,tt,tt,tt,tt,tt,tt,ff,ff,ff] HT_ HW_ hHeld ?_
         refine on (i := 22) (N := some 39) #[tt,tt,tt,tt,tt,tt,tt,tt,tt,tt,tt,tt,tt,tt,tt,tt,tt,tt,tt,tt,tt,tt,tt,ff,ff] HT_ (fun K hK => ?_)
         refine goes_ Try.func31 (by kernel_rfl) rfl #[.agg #[.int .i64 ((rd_T44 l0 g0).f1.f0), .int .i64 ((rd_T44 l0 g0).f1.f1), .slice h3 ((rd_T44 l0 g0).f1.f2).length h4], .agg #[.int .i64 ((rd_T44 l1 g0).f1.f0), .int .i64 ((rd_T44 l1 g0).f1.f1), .slice h5 ((rd_T44 l1 g0).f1.f2).length h6]] (by rfl) rfl rfl (by (try simp only [List.map_toArray, List.map_cons, List.map_nil]); first | done | rfl | (simp only [List.length_drop, List.length_take]; rfl)) ?_
         with_reducible refine (laws_mnClock.calls k1 ((rd_T44 l0 g0).f1.f0) ((rd_T44 l0 g0).f1.f1) _ _ ((rd_T44 l0 g0).f1.f2) ((rd_T44 l1 g0).f1.f0) ((rd_T44 l1 g0).f1.f1) _ _ ((rd_T44 l1 g0).f1.f2) false _ ?side1 ?side2 ?side3 ?side4 A8.1).mono ?_
         (case side1 => exact cq (Kd.C_below hB.1 HB.1))
         (case side2 => exact hJ.1)
         (case side3 => exact cq (Kd.C_below hE.1 HB.1))
         (case side4 => exact hL.1)
         rintro e w13 ⟨rfl, hb⟩
         refine ⟨_, rfl, ?_⟩
         replace HB := bs HB hb; (try clear hb); (try clear hb2); (try clear hk); (try clear hi)
         refine hK.out _ _ ⟨((HB.1.cell (World.block_lt_of_cell? w _ gE)).trans gE), ((HB.1.cell (World.block_lt_of_cell? w _ gD)).trans gD), ((HB.1.cell (World.block_lt_of_cell? w _ gC)).trans gC), ((HB.1.cell (World.block_lt_of_cell? w _ gB)).trans gB), ((HB.1.cell (World.block_lt_of_cell? w _ gI)).trans gI), ((HB.1.cell (World.block_lt_of_cell? w _ gH)).trans gH), ((HB.1.cell (World.block_lt_of_cell? w _ gG)).trans gG), ((HB.1.cell (World.block_lt_of_cell? w _ gF)).trans gF), ((HB.1.cell (World.block_lt_of_cell? w _ gR)).trans gR), ((HB.1.cell (World.block_lt_of_cell? w _ gQ)).trans gQ), ((HB.1.cell (World.block_lt_of_cell? w _ gP)).trans gP), ((HB.1.cell (World.block_lt_of_cell? w _ gO)).trans gO), ((HB.1.cell (World.block_lt_of_cell? w _ gY)).trans gY), ((HB.1.cell (World.block_lt_of_cell? w _ gX)).trans gX), ((HB.1.cell (World.block_lt_of_cell? w _ gW)).trans gW), ((HB.1.cell (World.block_lt_of_cell? w _ gV)).trans gV)⟩ (fun hHeld => ?_)
         clear hK K
         refine norm_ (a' := ?_) ?_ ?_
         rotate_left
         ·
          show Act.put _ (some 39) _ = _
          simp only [Act.put, List.setIfInBounds_toArray, List.set_cons_zero, List.set_cons_succ, i64_w, i32_w]
          rfl
         refine pu (i := 23) (N := some 40) #[tt,tt,tt,tt,tt,tt,tt,tt,tt,tt,tt,tt,tt,tt,tt,tt,tt,tt,tt,tt,tt,tt,tt,tt,ff] HT_ ?_
         refine pu (i := 24) (N := some 41) #[tt,tt,tt,tt,tt,tt,tt,tt,tt,tt,tt,tt,tt,tt,tt,tt,tt,tt,tt,tt,tt,tt,tt,tt,tt] HT_ ?_
         refine done_ (done_of HT_.1 (by kernel_rfl)) ?_
         try go_wp2
         go_ret
         exact ⟨by first | rfl | (simp [errW_none, errW_some] <;> rfl) | (simp [*, errW_none, errW_some] <;> rfl), by repeat (first | (with_reducible first | exact HB.1 | apply below_alloc | apply pw_below_drewN | apply below_drew1) | exact HB.1)⟩
       ·
        rw [if_neg c7] at H; have c7b0 : (((rd_T44 l0 g0).f0) == ((rd_T44 l1 g0).f0)) = false := beq_eq_false_iff_ne.mpr c7; have c7b1 : (((rd_T44 l0 g0).f0) != ((rd_T44 l1 g0).f0)) = true := bne_iff_ne.mpr c7
        obtain rfl := Option.some.inj H
        try go_wp2
        replace HB := am (below_drew1 HB.1); have hF : 0 ≤ (g0 : Int) := od; have hG : g0 < (l0.length : Int) := od
        obtain ⟨g1, h3, h4, hS, g5, g6, g7, g3, gZ, h0⟩ := at_T44 HR0.1 g0 hF hG
        have gB := g3
        have gC := g7
        have gD := g6
        have gE := g5
        cases hS; replace g5 := hc HB g5; replace g6 := hc HB g6; replace g7 := hc HB g7; replace g3 := hc HB g3; have h7 := am h0; have hQ := am gZ; clear h0 gZ; replace hF := eq_true hF; replace hG := eq_true hG; have hH : 0 ≤ (g0 : Int) := od; have hI : g0 < (l1.length : Int) := od
        obtain ⟨g2, h5, h6, hT, g8, g9, gA, g4, h1, h2⟩ := at_T44 HR1.1 g0 hH hI
        have gF := g4
        have gG := gA
        have gH := g9
        have gI := g8
        cases hT; replace g8 := hc HB g8; replace g9 := hc HB g9; replace gA := hc HB gA; replace g4 := hc HB g4; have h8 := am h2; have hR := am h1; clear h2 h1; replace hH := eq_true hH; replace hI := eq_true hI
        refine start_ (n := 25) (S := fun w' => w'.cell? (g1.add ((g0).toNat * 4)) = some (.int .i64 ((rd_T44 l0 g0).f0)) ∧ w'.cell? ⟨(g1.add ((g0).toNat * 4)).block, (g1.add ((g0).toNat * 4)).off + 1, none⟩ = some (.int .i64 ((rd_T44 l0 g0).f1.f0)) ∧ w'.cell? ⟨(g1.add ((g0).toNat * 4)).block, (g1.add ((g0).toNat * 4)).off + 2, none⟩ = some (.int .i64 ((rd_T44 l0 g0).f1.f1)) ∧ w'.cell? ⟨(g1.add ((g0).toNat * 4)).block, (g1.add ((g0).toNat * 4)).off + 3, none⟩ = some (.slice h3 ((rd_T44 l0 g0).f1.f2).length h4) ∧ w'.cell? (g2.add ((g0).toNat * 4)) = some (.int .i64 ((rd_T44 l1 g0).f0)) ∧ w'.cell? ⟨(g2.add ((g0).toNat * 4)).block, (g2.add ((g0).toNat * 4)).off + 1, none⟩ = some (.int .i64 ((rd_T44 l1 g0).f1.f0)) ∧ w'.cell? ⟨(g2.add ((g0).toNat * 4)).block, (g2.add ((g0).toNat * 4)).off + 2, none⟩ = some (.int .i64 ((rd_T44 l1 g0).f1.f1)) ∧ w'.cell? ⟨(g2.add ((g0).toNat * 4)).block, (g2.add ((g0).toNat * 4)).off + 3, none⟩ = some (.slice h5 ((rd_T44 l1 g0).f1.f2).length h6)) (ds := []) #[ff,ff,ff,ff,ff,ff,ff,ff,ff,ff,ff,ff,ff,ff,ff,ff,ff,ff,ff,ff,ff,ff,ff,ff,ff] (by kernel_rfl) rfl rfl ⟨((HB.1.cell (World.block_lt_of_cell? w _ gE)).trans gE), ((HB.1.cell (World.block_lt_of_cell? w _ gD)).trans gD), ((HB.1.cell (World.block_lt_of_cell? w _ gC)).trans gC), ((HB.1.cell (World.block_lt_of_cell? w _ gB)).trans gB), ((HB.1.cell (World.block_lt_of_cell? w _ gI)).trans gI), ((HB.1.cell (World.block_lt_of_cell? w _ gH)).trans gH), ((HB.1.cell (World.block_lt_of_cell? w _ gG)).trans gG), ((HB.1.cell (World.block_lt_of_cell? w _ gF)).trans gF)⟩ (fun hHeld => ?_); refine with_tabW laws_mnTicks.tab6 laws_mnTicks.bits6 (fun HT_ HW_ => ?_)
        generalize wr.drew = w14 at HB h7 h8 g5 g6 g7 g3 g8 g9 gA g4 hHeld ⊢
        refine pu (i := 0) (N := some 17) #[tt,ff,ff,ff,ff,ff,ff,ff,ff,ff,ff,ff,ff,ff,ff,ff,ff,ff,ff,ff,ff,ff,ff,ff,ff] HT_ ?_
        refine pu (i := 1) (N := some 18) #[tt,tt,ff,ff,ff,ff,ff,ff,ff,ff,ff,ff,ff,ff,ff,ff,ff,ff,ff,ff,ff,ff,ff,ff,ff] HT_ ?_
        refine pu (i := 2) (N := some 19) #[tt,tt,tt,ff,ff,ff,ff,ff,ff,ff,ff,ff,ff,ff,ff,ff,ff,ff,ff,ff,ff,ff,ff,ff,ff] HT_ ?_
        refine pu (i := 3) (N := some 20) #[tt,tt,tt,tt,ff,ff,ff,ff,ff,ff,ff,ff,ff,ff,ff,ff,ff,ff,ff,ff,ff,ff,ff,ff,ff] HT_ ?_
        refine pu (i := 5) (N := some 22) #[tt,tt,tt,tt,ff,tt,ff,ff,ff,ff,ff,ff,ff,ff,ff,ff,ff,ff,ff,ff,ff,ff,ff,ff,ff] HT_ ?_
        refine pu (i := 6) (N := some 23) #[tt,tt,tt,tt,ff,tt,tt,ff,ff,ff,ff,ff,ff,ff,ff,ff,ff,ff,ff,ff,ff,ff,ff,ff,ff] HT_ ?_
        refine pu (i := 7) (N := some 24) #[tt,tt,tt,tt,ff,tt,tt,tt,ff,ff,ff,ff,ff,ff,ff,ff,ff,ff,ff,ff,ff,ff,ff,ff,ff] HT_ ?_
        refine pu (i := 8) (N := some 25) #[tt,tt,tt,tt,ff,tt,tt,tt,tt,ff,ff,ff,ff,ff,ff,ff,ff,ff,ff,ff,ff,ff,ff,ff,ff] HT_ ?_
        refine tk (i := 4) (N := some 21) #[tt,tt,tt,tt,tt,tt,tt,tt,tt,ff,ff,ff,ff,ff,ff,ff,ff,ff,ff,ff,ff,ff,ff,ff,ff] HT_ HW_ hHeld ?_
        refine tk (i := 9) (N := some 26) #[tt,tt,tt,tt,tt,tt,tt,tt,tt,tt,ff,ff,ff,ff,ff,ff,ff,ff,ff,ff,ff,ff,ff,ff,ff] HT_ HW_ hHeld ?_
        refine pu (i := 10) (N := some 27) #[tt,tt,tt,tt,tt,tt,tt,tt,tt,tt,tt,ff,ff,ff,ff,ff,ff,ff,ff,ff,ff,ff,ff,ff,ff] HT_ ?_
        refine pu (i := 11) (N := some 28) #[tt,tt,tt,tt,tt,tt,tt,tt,tt,tt,tt,tt,ff,ff,ff,ff,ff,ff,ff,ff,ff,ff,ff,ff,ff] HT_ ?_
        refine pr (i := 12) (N := some 29) #[tt,tt,tt,tt,tt,tt,tt,tt,tt,tt,tt,tt,tt,ff,ff,ff,ff,ff,ff,ff,ff,ff,ff,ff,ff] HT_ ?_
        refine pr (i := 13) (N := some 30) #[tt,tt,tt,tt,tt,tt,tt,tt,tt,tt,tt,tt,tt,tt,ff,ff,ff,ff,ff,ff,ff,ff,ff,ff,ff] HT_ ?_
        refine pr (i := 14) (N := some 31) #[tt,tt,tt,tt,tt,tt,tt,tt,tt,tt,tt,tt,tt,tt,tt,ff,ff,ff,ff,ff,ff,ff,ff,ff,ff] HT_ ?_
        refine pr (i := 15) (N := some 32) #[tt,tt,tt,tt,tt,tt,tt,tt,tt,tt,tt,tt,tt,tt,tt,tt,ff,ff,ff,ff,ff,ff,ff,ff,ff] HT_ ?_
        refine pr (i := 16) (N := some 33) #[tt,tt,tt,tt,tt,tt,tt,tt,tt,tt,tt,tt,tt,tt,tt,tt,tt,ff,ff,ff,ff,ff,ff,ff,ff] HT_ ?_
        refine pr (i := 17) (N := some 34) #[tt,tt,tt,tt,tt,tt,tt,tt,tt,tt,tt,tt,tt,tt,tt,tt,tt,tt,ff,ff,ff,ff,ff,ff,ff] HT_ ?_
        refine pr (i := 18) (N := some 35) #[tt,tt,tt,tt,tt,tt,tt,tt,tt,tt,tt,tt,tt,tt,tt,tt,tt,tt,tt,ff,ff,ff,ff,ff,ff] HT_ ?_
        refine pr (i := 19) (N := some 36) #[tt,tt,tt,tt,tt,tt,tt,tt,tt,tt,tt,tt,tt,tt,tt,tt,tt,tt,tt,tt,ff,ff,ff,ff,ff] HT_ ?_
        refine pr (i := 20) (N := some 37) #[tt,tt,tt,tt,tt,tt,tt,tt,tt,tt,tt,tt,tt,tt,tt,tt,tt,tt,tt,tt,tt,ff,ff,ff,ff] HT_ ?_
        refine pr (i := 21) (N := some 38) #[tt,tt,tt,tt,tt,tt,tt,tt,tt,tt,tt,tt,tt,tt,tt,tt,tt,tt,tt,tt,tt,tt,ff,ff,ff] HT_ ?_
        refine pr (i := 22) (N := some 39) #[tt,tt,tt,tt,tt,tt,tt,tt,tt,tt,tt,tt,tt,tt,tt,tt,tt,tt,tt,tt,tt,tt,tt,ff,ff] HT_ ?_
        refine pr (i := 23) (N := some 40) #[tt,tt,tt,tt,tt,tt,tt,tt,tt,tt,tt,tt,tt,tt,tt,tt,tt,tt,tt,tt,tt,tt,tt,tt,ff] HT_ ?_
        refine pu (i := 24) (N := some 41) #[tt,tt,tt,tt,tt,tt,tt,tt,tt,tt,tt,tt,tt,tt,tt,tt,tt,tt,tt,tt,tt,tt,tt,tt,tt] HT_ ?_
        refine done_ (done_of HT_.1 (by kernel_rfl)) ?_
        try go_wp2
        go_ret
        exact ⟨by first | rfl | (simp [errW_none, errW_some] <;> rfl) | (simp [*, errW_none, errW_some] <;> rfl), by repeat (first | (with_reducible first | exact HB.1 | apply below_alloc | apply pw_below_drewN | apply below_drew1) | exact HB.1)⟩
      ·
       rw [if_neg c6] at H
       exact absurd H (by simp)
     ·
      rw [if_neg c5] at H
      exact absurd H (by simp)
    ·
     rw [if_neg c4] at H; have c4b0 : decide (g0 < (l0.length : Int)) = false := decide_eq_false c4; clear c4
     obtain rfl := Option.some.inj H
     go_wp2
     go_ret
     exact ⟨by first | rfl | (simp [errW_none, errW_some] <;> rfl) | (simp [*, errW_none, errW_some] <;> rfl), by repeat (first | (with_reducible first | exact HB.1 | apply below_alloc | apply pw_below_drewN | apply below_drew1) | exact HB.1)⟩
 ·
  rw [if_neg c3] at H; have c3b0 : ((l0.length : Int) == (l1.length : Int)) = false := beq_eq_false_iff_ne.mpr c3; have c3b1 : ((l0.length : Int) != (l1.length : Int)) = true := bne_iff_ne.mpr c3
  have c3b2 : (l0.length == l1.length) = false := by first | simpa using c3 | (simp at c3 ⊢; omega)
  obtain rfl := Option.some.inj H
  go_enter Try.func23, Try.ntmps23
  go_wp2
  go_ret
  exact ⟨by first | rfl | (simp [errW_none, errW_some] <;> rfl) | (simp [*, errW_none, errW_some] <;> rfl), by repeat (first | (with_reducible first | exact HB.1 | apply below_alloc | apply pw_below_drewN | apply below_drew1) | exact HB.1)⟩
end Go.Proofs.Ytfnmjecofgeboaa.PAll
