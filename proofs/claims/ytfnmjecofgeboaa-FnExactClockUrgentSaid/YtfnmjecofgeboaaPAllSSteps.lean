-- Laid by a program of this session out of the translation's print
import Derived.Test.YtfnmjecofgeboaaPAll0
import Derived.Test.YtfnmjecofgeboaaPAllAb
import Derived.Test.YtfnmjecofgeboaaPAllSOk
import Derived.Test.YtfnmjecofgeboaaPAllSpecl17Steps
namespace Go.Proofs.Ytfnmjecofgeboaa.PAll
open Go.RowKit Go.Proofs.YtfnmjecofgeboaaW.PrintWords Go.Proofs.YtfnmjecofgeboaaW.PrintLast Go.Proofs.YtfnmjecofgeboaaW.PrintMore
attribute [local go_sem] max2_int min2_int max_two min_two max_three min_three max_four min_four   -- for this text's walks alone
set_option linter.unusedVariables false
set_option linter.unusedSimpArgs false

/-! ### spec_l17Copy: function 51 -/
mutual
def spec_l17Copy.l0 : Nat → Int → Int → Int → List (S25) → Int → Int → List (S25) → Option (Int × Int × (List (S25)))
 | 0, _, _, _, _, _, _, _ => none
 | k + 1, x4, x492000, x492001, x492002, x494000, x494001, x494002 => if x4 < (x492002.length : Int) then (if 0 ≤ x4 then ((spec_l17Copy.f k ((rd_T25 x492002 x4).f0) ((rd_T25 x492002 x4).f1) ((rd_T25 x492002 x4).f2)).bind fun bt495 => (if x494002.length < 3518437208883 then (spec_l17Copy.l0 k (wrap64 (x4 + 1)) x492000 x492001 x492002 x494000 x494001 (x494002 ++ [(⟨bt495.1, bt495.2.1, bt495.2.2⟩ : S25)])) else (none))) else (none)) else (some (x494000, x494001, x494002))
def spec_l17Copy.f : Nat → Int → Int → List (S25) → Option (Int × Int × (List (S25)))
 | 0, _, _, _ => none
 | k + 1, a0_0, a0_1, l0_2 => spec_l17Copy.l0 k 0 a0_0 a0_1 l0_2 a0_0 a0_1 ([] : List (S25))
end
theorem spec_l17Copy.mono_l : ∀ k, (∀ y0 y1 y2, LeO (spec_l17Copy.f k y0 y1 y2) (spec_l17Copy.f (k + 1) y0 y1 y2)) ∧ (∀ y0 y1 y2 y3 y4 y5 y6, LeO (spec_l17Copy.l0 k y0 y1 y2 y3 y4 y5 y6) (spec_l17Copy.l0 (k + 1) y0 y1 y2 y3 y4 y5 y6))
 | 0 => ⟨fun _ _ _ r h => by simp [spec_l17Copy.f] at h, fun _ _ _ _ _ _ _ r h => by simp [spec_l17Copy.l0] at h⟩
 | k + 1 => by
  obtain ⟨ih0, ih1⟩ := spec_l17Copy.mono_l k
  refine ⟨?_, ?_⟩
  ·
   intro y0 y1 y2
   unfold spec_l17Copy.f
   repeat' first
   | (with_reducible exact ih0 _ _ _)
   | (with_reducible exact ih1 _ _ _ _ _ _ _)
   | (with_reducible exact LeO.refl _)
   | (with_reducible exact LeO.none _)
   | (with_reducible refine LeO.ite ?_ ?_)
   | (with_reducible refine LeO.bind ?_ (fun _ => ?_))
   | exact ih0 _ _ _
   | exact ih1 _ _ _ _ _ _ _
   | exact LeO.none _
   | refine LeO.ite ?_ ?_
   | refine LeO.bind ?_ (fun _ => ?_)
  ·
   intro y0 y1 y2 y3 y4 y5 y6
   unfold spec_l17Copy.l0
   repeat' first
   | (with_reducible exact ih0 _ _ _)
   | (with_reducible exact ih1 _ _ _ _ _ _ _)
   | (with_reducible exact LeO.refl _)
   | (with_reducible exact LeO.none _)
   | (with_reducible refine LeO.ite ?_ ?_)
   | (with_reducible refine LeO.bind ?_ (fun _ => ?_))
   | exact ih0 _ _ _
   | exact ih1 _ _ _ _ _ _ _
   | exact LeO.none _
   | refine LeO.ite ?_ ?_
   | refine LeO.bind ?_ (fun _ => ?_)
theorem spec_l17Copy.mono : ∀ a0 a1 a2 k, LeO (spec_l17Copy.f k a0 a1 a2) (spec_l17Copy.f (k + 1) a0 a1 a2) := by
 intro a0 a1 a2 k
 obtain ⟨ih0, ih1⟩ := spec_l17Copy.mono_l k
 exact ih0 a0 a1 a2
def spec_l17Copy.T5 : Bool × List (List Nat × List Nat) := (true, [([], []), ([0], [0]), ([], []), ([2], [2]), ([], []), ([3, 4], [3, 4]), ([5], [5]), ([6], [6]), ([7], [7]), ([1, 8, 7], [1, 8]), ([0, 1, 2, 3, 4, 5, 6, 7, 8, 9], []), ([10, 9, 9, 0, 1, 2, 3, 4, 5, 6, 7, 8, 9], [9, 10])])
def spec_l17Copy.B5 : List Nat := [0, 1, 0, 4, 0, 28, 60, 124, 252, 511, 1023, 2047]
theorem spec_l17Copy.tab5 : rtab .any (opsOf Try.f51 5) = spec_l17Copy.T5 := by kernel_rfl
theorem spec_l17Copy.bits5 : waitsOk spec_l17Copy.T5.2 spec_l17Copy.B5 = true := by kernel_rfl
set_option maxHeartbeats 8000000 in
set_option maxRecDepth 100000 in
theorem spec_l17Copy.calls (k : Nat) : ∀ (gB : Int) (gC : Int) (gY : Option Addr) (gQ : Nat) (g5 : List (S25)) (r1 : Int) (r2 : Int) (r3 : List (S25)) (w : World) (gZ : Kd.C k25 w gY g5.length g5) (h0 : g5.length ≤ gQ) (h : spec_l17Copy.f k gB gC g5 = some (r1, r2, r3)),
  Calls Try.prog 51 #[.agg #[.int .i64 gB, .int .i64 gC, .slice gY g5.length gQ]] w fun e w' => ∃ v2_ : Value, e = .returned (.agg #[.int .i64 r1, .int .i64 r2, v2_]) ∧ Kd.R k25 25 w' w.heap.size (fun _ => True) v2_ r3 ∧ Below w.heap.size w w' := by
 induction k using Nat.strongRecOn with
 | _ k ih =>
 intro gB gC gY gQ g5 r1 r2 r3 w gZ h0 h
 cases k with
 | zero => exact absurd h (by simp [spec_l17Copy.f])
 | succ k =>
 simp only [spec_l17Copy.f] at h
 have jD := Try.underlying25
 have hM := am gZ; have iV := am h0; clear gZ h0; have HB := am (Below.refl w.heap.size w)
 have H : (spec_l17Copy.l0 k 0 gB gC g5 gB gC ([] : List (S25))) = some (r1, r2, r3) := h
 clear h
 have H' := am H
 clear H
 go_enter Try.func51, Try.ntmps51
 go_wp2_with (first | ((with_reducible refine gate_dst (N := 1) rfl ?_); refine bx (cs := #[.int .i64 gB, .int .i64 gC, .slice gY g5.length gQ]) (t := 25) fun gH hg w2 hbox hb => ?_; have g0 := am (hbox); have iW := bz HB hg; have hN := bz HB hg; replace HB := bs HB hb; clear hb hbox hg) | ((with_reducible refine gate_dst (N := 2) rfl ?_); refine bx (cs := #[.int .i64 0, .int .i64 0, .slice none 0 0]) (t := 25) fun gE hg w3 hbox hb => ?_; have g4 := am (hbox); have iX := bz HB hg; have hO := bz HB hg; replace HB := bs HB hb; have gI := nl g0 hg; have gJ := ng g0 hg; replace g0 := kb g0 hb; clear hb hbox hg; have jE := gI.1; have jF := gJ.1; obtain ⟨h7, h8, h9, hA, hB, hC⟩ := cs3 g0) | ((with_reducible refine gate_dst (N := 3) rfl ?_); refine bx (cs := #[.int .i64 0, .int .i64 0, .slice none 0 0]) (t := 25) fun gD hg w6 hbox hb => ?_; have g2 := am (hbox); have iY := bz HB hg; have hP := bz HB hg; replace HB := bs HB hb; have gF := nl g0 hg; have gG := ng g0 hg; replace g0 := kb g0 hb; have gK := nl g4 hg; have gL := ng g4 hg; replace g4 := kb g4 hb; clear hb hbox hg; have jG := gG.1; have jH := gF.1; have jI := gL.1; have jJ := gK.1; obtain ⟨hD, hE, hF, hG, hH, hI⟩ := cs3 g2))
 go_loopg [4] k (fun kq v4 w' => ∃ (g6 : Int) (g3 : List (S25)) (gA : Value), v4 = .int .i64 g6 ∧ Aside0 (spec_l17Copy.l0 kq g6 gB gC g5 gB gC g3 = some (r1, r2, r3)) ∧ Aside0 (kq ≤ k) ∧ Aside0 (Kd.R k25 25 w' w.heap.size (fun k_ => k_ ≠ gH ∧ k_ ≠ gE ∧ k_ ≠ gD) gA g3) ∧ Aside0 (w'.heap[gH]? = some (.cells #[.int .i64 gB, .int .i64 gC, (.slice gY g5.length gQ)] 25 (0, 0))) ∧ Aside0 (w'.heap[gE]? = some (.cells #[.int .i64 0, .int .i64 0, (.slice none 0 0)] 25 (0, 0))) ∧ Aside0 (w'.heap[gD]? = some (.cells #[.int .i64 gB, .int .i64 gC, gA] 25 (0, 0))) ∧ Aside0 (Below w.heap.size w w'))
 case atStart => exact ⟨(0), (([] : List (S25))), (.slice none 0 0), rq, H', ⟨Nat.le_refl _⟩, ⟨by first | exact Kd.R_nil _ _ _ _ _ | exact Kd.N_nil _ _ _ _ _ | exact Kd.V_nil _ _ _ _ _ | exact Kd.Q_nil _ _ _ _ _ | exact Kd.S_nil _ _ _ _ _⟩, kf g0, kf g4, kf g2, bw⟩
 case round =>
  clear H'; (try clear p2); (try clear c4); (try clear c5); (try clear c7); (try clear c8); (try clear h7); (try clear h8); (try clear h9); (try clear hD); (try clear hE); (try clear hF); (try clear hA); (try clear hB); (try clear hC); (try clear hG); (try clear hH); (try clear hI); (try clear g1); (try clear g0); (try clear g4); (try clear g2); (try clear HB)
  obtain ⟨g6, g3, gA, rfl, HA, HK1, g1, g0, g4, g2, HB⟩ := hrel
  cases gk with
  | zero => exact absurd HA.1 (by simp [spec_l17Copy.l0])
  | succ k1 =>
   have H := HA.1
   clear HA
   simp only [spec_l17Copy.l0] at H
   by_cases c10 : g6 < (g5.length : Int)
   ·
    rw [if_pos c10] at H; have c10b0 : decide (g6 < (g5.length : Int)) = true := decide_eq_true c10; clear c10
    by_cases c11 : 0 ≤ g6
    ·
     rw [if_pos c11] at H; have c11b0 : decide (0 ≤ g6) = true := decide_eq_true c11; clear c11
     replace H := Option.bind_eq_some_iff.mp H
     obtain ⟨⟨gV, gW, gX⟩, hQ, H⟩ := H
     replace H : (if g3.length < 3518437208883 then (spec_l17Copy.l0 k1 (wrap64 (g6 + 1)) gB gC g5 gB gC (g3 ++ [(⟨gV, gW, gX⟩ : S25)])) else (none)) = some (r1, r2, r3) := H
     have A12 := am hQ
     clear hQ
     by_cases c13 : g3.length < 3518437208883
     ·
      rw [if_pos c13] at H
      have hR := am c13
      clear c13
      obtain ⟨h4, gR⟩ : ∃ y_ : List (S25), y_ = (g3 ++ [(⟨gV, gW, gX⟩ : S25)]) := ⟨_, rfl⟩
      replace H : (spec_l17Copy.l0 k1 (wrap64 (g6 + 1)) gB gC g5 gB gC h4) = some (r1, r2, r3) := by first | (rw [gR]; with_reducible exact H) | (have H2_ := (Option.bind_some _ _).symm.trans H; rw [gR]; with_reducible exact H2_) | (have H2_ := (Option.bind_some _ _).symm.trans H; with_reducible exact H2_) | with_reducible exact H | (rw [gR]; exact H) | exact H
      have hS := am gR
      clear gR
      have H' := am H
      clear H; have iZ := gI.1; have j3 := gJ.1; have j4 := gF.1; have j5 := gG.1; obtain ⟨hZ, i0, i1, i2, i3, i4⟩ := cs3 g0
      try go_wp2
      replace g1 := am (Kd.R_drew g1.1); replace g0 := am (blk_drew g0.1); replace g4 := am (blk_drew g4.1); replace g2 := am (blk_drew g2.1); replace HB := am (below_drew1 HB.1); have hJ : 0 ≤ (g6 : Int) := od; have hL : g6 < (g5.length : Int) := od
      obtain ⟨gM, h1, h2, iR, gN, gO, gP, gS, gT⟩ := at_T25 hM.1 g6 hJ hL
      have g7 := gP
      have g8 := gO
      have g9 := gN
      cases iR; replace gN := hc HB gN; replace gO := hc HB gO; replace gP := hc HB gP; have gU := am gT; have h5 := am gS; clear gT gS; replace hJ := eq_true hJ; replace hL := eq_true hL
      refine start_ (n := 12) (S := fun w' => w'.cell? ⟨gD, 0, none⟩ = some (.int .i64 gB) ∧ w'.cell? ⟨gD, 1, none⟩ = some (.int .i64 gC) ∧ w'.cell? ⟨gD, 2, none⟩ = some (gA) ∧ w'.cell? ⟨gH, 0, none⟩ = some (.int .i64 gB) ∧ w'.cell? ⟨gH, 1, none⟩ = some (.int .i64 gC) ∧ w'.cell? ⟨gH, 2, none⟩ = some (.slice (some gM) g5.length gQ) ∧ w'.cell? (gM.add ((g6).toNat * 3)) = some (.int .i64 ((rd_T25 g5 g6).f0)) ∧ w'.cell? ⟨(gM.add ((g6).toNat * 3)).block, (gM.add ((g6).toNat * 3)).off + 1, none⟩ = some (.int .i64 ((rd_T25 g5 g6).f1)) ∧ w'.cell? ⟨(gM.add ((g6).toNat * 3)).block, (gM.add ((g6).toNat * 3)).off + 2, none⟩ = some (.slice h1 ((rd_T25 g5 g6).f2).length h2)) (ds := [11]) #[ff,ff,ff,ff,ff,ff,ff,ff,ff,ff,ff,ff] (by kernel_rfl) rfl rfl ⟨(blk_cell g2.1 0).trans rfl, (blk_cell g2.1 1).trans rfl, (blk_cell g2.1 2).trans rfl, (blk_cell g0.1 0).trans rfl, (blk_cell g0.1 1).trans rfl, (blk_cell g0.1 2).trans rfl, ((HB.1.cell (World.block_lt_of_cell? w _ g9)).trans g9), ((HB.1.cell (World.block_lt_of_cell? w _ g8)).trans g8), ((HB.1.cell (World.block_lt_of_cell? w _ g7)).trans g7)⟩ (fun hHeld => ?_); refine with_tabW spec_l17Copy.tab5 spec_l17Copy.bits5 (fun HT_ HW_ => ?_)
      generalize wr.drew = w17 at g1 g0 g4 g2 HB gU gN gO gP hHeld ⊢
      refine pu (i := 0) (N := some 17) #[tt,ff,ff,ff,ff,ff,ff,ff,ff,ff,ff,ff] HT_ ?_
      refine pu (i := 2) (N := some 19) #[tt,ff,tt,ff,ff,ff,ff,ff,ff,ff,ff,ff] HT_ ?_
      refine pu (i := 4) (N := some 21) #[tt,ff,tt,ff,tt,ff,ff,ff,ff,ff,ff,ff] HT_ ?_
      refine tk (i := 1) (N := some 18) #[tt,tt,tt,ff,tt,ff,ff,ff,ff,ff,ff,ff] HT_ HW_ hHeld ?_
      refine tk (i := 3) (N := some 20) #[tt,tt,tt,tt,tt,ff,ff,ff,ff,ff,ff,ff] HT_ HW_ hHeld ?_
      refine pu (i := 5) (N := some 22) #[tt,tt,tt,tt,tt,tt,ff,ff,ff,ff,ff,ff] HT_ ?_
      refine tk (i := 6) (N := some 23) #[tt,tt,tt,tt,tt,tt,tt,ff,ff,ff,ff,ff] HT_ HW_ hHeld ?_
      refine on (i := 7) (N := some 24) #[tt,tt,tt,tt,tt,tt,tt,tt,ff,ff,ff,ff] HT_ (fun K hK => ?_)
      refine goes_ Try.func51 (by kernel_rfl) rfl #[.agg #[.int .i64 ((rd_T25 g5 g6).f0), .int .i64 ((rd_T25 g5 g6).f1), .slice h1 ((rd_T25 g5 g6).f2).length h2]] (by rfl) rfl rfl (by (try simp only [List.map_toArray, List.map_cons, List.map_nil]); first | done | rfl | (simp only [List.length_drop, List.length_take]; rfl)) ?_
      with_reducible refine (ih k1 (by have := HK1.1; omega) ((rd_T25 g5 g6).f0) ((rd_T25 g5 g6).f1) _ _ ((rd_T25 g5 g6).f2) gV gW gX _ ?side1 ?side2 A12.1).mono ?_
      (case side1 => exact cq (Kd.C_below gU.1 HB.1))
      (case side2 => exact h5.1)
      rintro e w18 ⟨jK, rfl, ho0, hb⟩
      refine ⟨_, rfl, ?_⟩
      have h3 := am (Kd.R_lower (Kd.R_newB (Kd.R_newB (Kd.R_newB (Kd.R_new' ho0 (Kd.R_lt (by (with_reducible repeat (first | apply Kd.R_alloc | apply Kd.R_drewN | apply Kd.R_drew)); exact g1.1))) (g := gH) (o := .cells #[.int .i64 gB, .int .i64 gC, .slice (some gM) g5.length gQ] 25 (0, 0)) (kf g0).1) (g := gE) (o := .cells #[.int .i64 0, .int .i64 0, .slice none 0 0] 25 (0, 0)) (kf g4).1) (g := gD) (o := .cells #[.int .i64 gB, .int .i64 gC, gA] 25 (0, 0)) (kf g2).1) (below_size bq)); replace g1 := am (Kd.R_elder' (by (with_reducible repeat (first | apply Kd.R_alloc | apply Kd.R_drewN | apply Kd.R_drew)); exact g1.1) (Kd.R_base ho0) hb); replace g0 := kb g0 hb; replace g4 := kb g4 hb; replace g2 := kb g2 hb; replace HB := bs HB hb; (try clear hb); (try clear hb2); (try clear hk); (try clear hi); (try clear ho0)
      obtain ⟨iS, iT, hT⟩ := Kd.R_slice h3.1
      (first | subst hT | (injection hT with f1_ f2_ f3_; have f4_ := f1_.symm; have f5_ := f3_.symm; clear f1_ f2_ f3_; subst f4_; subst f5_))
      refine hK.out _ _ ⟨(blk_cell g2.1 0).trans rfl, (blk_cell g2.1 1).trans rfl, (blk_cell g2.1 2).trans rfl, (blk_cell g0.1 0).trans rfl, (blk_cell g0.1 1).trans rfl, (blk_cell g0.1 2).trans rfl, ((HB.1.cell (World.block_lt_of_cell? w _ g9)).trans g9), ((HB.1.cell (World.block_lt_of_cell? w _ g8)).trans g8), ((HB.1.cell (World.block_lt_of_cell? w _ g7)).trans g7)⟩ (fun hHeld => ?_)
      clear hK K
      refine norm_ (a' := ?_) ?_ ?_
      rotate_left
      ·
       show Act.put _ (some 24) _ = _
       simp only [Act.put, List.setIfInBounds_toArray, List.set_cons_zero, List.set_cons_succ, i64_w, i32_w]
       rfl
      refine on (i := 8) (N := some 25) #[tt,tt,tt,tt,tt,tt,tt,tt,tt,ff,ff,ff] HT_ (fun K hK => ?_)
      refine value_ (w1 := ?_) (v := ?_) (by rfl) rfl ?_ ?_
      rotate_left 2
      ·
       go_simp
       constructor
       ·
        rfl
       ·
        rfl
      refine hK.out _ _ ⟨(blk_cell (blk_alloc g2.1 _) 0).trans rfl, (blk_cell (blk_alloc g2.1 _) 1).trans rfl, (blk_cell (blk_alloc g2.1 _) 2).trans rfl, (blk_cell (blk_alloc g0.1 _) 0).trans rfl, (blk_cell (blk_alloc g0.1 _) 1).trans rfl, (blk_cell (blk_alloc g0.1 _) 2).trans rfl, (World.cell?_alloc_lt _ _ _ (World.block_lt_of_cell? _ _ (((HB.1.cell (World.block_lt_of_cell? w _ g9)).trans g9)))).trans (((HB.1.cell (World.block_lt_of_cell? w _ g9)).trans g9)), (World.cell?_alloc_lt _ _ _ (World.block_lt_of_cell? _ _ (((HB.1.cell (World.block_lt_of_cell? w _ g8)).trans g8)))).trans (((HB.1.cell (World.block_lt_of_cell? w _ g8)).trans g8)), (World.cell?_alloc_lt _ _ _ (World.block_lt_of_cell? _ _ (((HB.1.cell (World.block_lt_of_cell? w _ g7)).trans g7)))).trans (((HB.1.cell (World.block_lt_of_cell? w _ g7)).trans g7))⟩ (fun hHeld => ?_)
      clear hK K
      refine norm_ (a' := ?_) ?_ ?_
      rotate_left
      ·
       show Act.put _ (some 25) _ = _
       simp only [Act.put, List.setIfInBounds_toArray, List.set_cons_zero, List.set_cons_succ, i64_w, i32_w]
       rfl
      refine on (i := 9) (N := some 26) #[tt,tt,tt,tt,tt,tt,tt,tt,tt,tt,ff,ff] HT_ (fun K hK => ?_)
      refine Kd.R_append_step k25 (w0 := w) w.heap.size (by rfl) (.tmp 18) (.tmp 25) 23 25 (.agg #[(.int .i64 0), (.int .i64 0), (.slice none 0 0)]) 40 rfl Try.underlying23 info25 rfl (by decide) (by omega) gA g3 (⟨gV, gW, gX⟩ : S25) [.int .i64 gV, .int .i64 gW, .slice iS gX.length iT] (fun k_ => k_ ≠ gH ∧ k_ ≠ gE ∧ k_ ≠ gD) (fun k_ => ((fun k_ => k_ ≠ gH ∧ k_ ≠ gE ∧ k_ ≠ gD)) k_ ∧ some k_ ≠ (gA : Value).ownBlock) rfl rfl ?aP (fun _ hk => hk) ?aF ?aO ?aB ?aS ?aL ?_
      (case aP => exact k25_mkM _ _ _ (⟨gV, gW, gX⟩ : S25) (Kd.R_mono (h3.1) mq))
      (case aB => exact bq)
      (case aF => exact (fun k_ hk => ⟨Kd.freshB (g := gH) (o := .cells #[.int .i64 gB, .int .i64 gC, .slice (some gM) g5.length gQ] 25 (0, 0)) (kf g0).1 k_ hk, Kd.freshB (g := gE) (o := .cells #[.int .i64 0, .int .i64 0, .slice none 0 0] 25 (0, 0)) (kf g4).1 k_ hk, Kd.freshB (g := gD) (o := .cells #[.int .i64 gB, .int .i64 gC, gA] 25 (0, 0)) (kf g2).1 k_ hk⟩))
      (case aO => exact (by (with_reducible repeat (first | apply Kd.R_alloc | apply Kd.R_drewN | apply Kd.R_drew)); exact Kd.R_mono g1.1 mq))
      (case aS => exact (below_size bq))
      (case aL => have := hR.1; omega)
      intro jL w19 ho hb hg hat
      rw [← hS.1] at ho; have n0_ := kg g0 hg (Kd.R_away g1.1 mq); have n1_ := kg g4 hg (Kd.R_away g1.1 mq); have n2_ := kg g2 hg (Kd.R_away g1.1 mq); have n3_ := am (hb); have n4_ := am (ho); clear g0 g4 g2 HB g1 h3; have g0 := n0_; have g4 := n1_; have g2 := n2_; have HB := n3_; have h6 := n4_; clear n0_ n1_ n2_ n3_ n4_ ho hb hg hat
      obtain ⟨hU, hV, hW⟩ := Kd.R_slice h6.1
      (first | subst hW | (injection hW with f1_ f2_ f3_; have f4_ := f1_.symm; have f5_ := f3_.symm; clear f1_ f2_ f3_; subst f4_; subst f5_))
      refine hK.out _ _ ⟨(blk_cell g2.1 0).trans rfl, (blk_cell g2.1 1).trans rfl, (blk_cell g2.1 2).trans rfl, (blk_cell g0.1 0).trans rfl, (blk_cell g0.1 1).trans rfl, (blk_cell g0.1 2).trans rfl, ((HB.1.cell (World.block_lt_of_cell? w _ g9)).trans g9), ((HB.1.cell (World.block_lt_of_cell? w _ g8)).trans g8), ((HB.1.cell (World.block_lt_of_cell? w _ g7)).trans g7)⟩ (fun hHeld => ?_)
      clear hK K
      refine norm_ (a' := ?_) ?_ ?_
      rotate_left
      ·
       show Act.put _ (some 26) _ = _
       simp only [Act.put, List.setIfInBounds_toArray, List.set_cons_zero, List.set_cons_succ, i64_w, i32_w]
       rfl
      refine pu (i := 10) (N := some 27) #[tt,tt,tt,tt,tt,tt,tt,tt,tt,tt,tt,ff] HT_ ?_
      refine la (i := 11) (N := none) #[tt,tt,tt,tt,tt,tt,tt,tt,tt,tt,tt,tt] HT_ (fun K hK => ?_)
      have jM : w19.cell? ⟨gD, 2, none⟩ = some (gA) := (blk_cell g2.1 2).trans rfl
      have j6 := blk_frozen g2.1 2
      have i5 := gF.1
      have i6 := gK.1
      have i7 := gG.1
      have i8 := gL.1
      refine skip_ (w1 := ?_) (by rfl) rfl ?_ ?_
      rotate_left
      ·
       go_simp
       rfl
      refine hK.out _ _ ?_
      clear hK K
      refine done_ (done_of HT_.1 (by kernel_rfl)) ?_
      try go_wp2
      go_roundg k1
      case measure => have := HK1.1; omega
      case rel => exact ⟨(wrap64 (g6 + 1)), (h4), (.slice hU h4.length hV), rq, H', km, ⟨by (with_reducible repeat (first | apply Kd.R_alloc | apply Kd.R_drewN | apply Kd.R_drew)); exact Kd.R_mono (Kd.R_far (p := ⟨gD, 2, none⟩) (Kd.R_mono h6.1 (fun k_ hk => (⟨hk, hk.2.2⟩ : _ ∧ k_ ≠ gD))) mq (.slice hU h4.length hV)) mq⟩, kf g0, kf g4, kf g2, bw⟩
     ·
      rw [if_neg c13] at H
      exact absurd H (by simp)
    ·
     rw [if_neg c11] at H
     exact absurd H (by simp)
   ·
    rw [if_neg c10] at H; have c10b0 : decide (g6 < (g5.length : Int)) = false := decide_eq_false c10; clear c10
    simp only [Option.some.injEq, Prod.mk.injEq] at H
    obtain ⟨rfl, rfl, rfl⟩ := H
    have j7 := gI.1; have j8 := gJ.1; have j9 := gF.1; have jA := gG.1; obtain ⟨i9, iA, iB, iC, iD, iE⟩ := cs3 g0; have jB := gL.1; have jC := gK.1; obtain ⟨iF, iG, iH, iI, iJ, iK⟩ := cs3 g2; obtain ⟨iL, iM, iN, iO, iP, iQ⟩ := cs3 g4
    obtain ⟨hX, hY, iU⟩ := Kd.R_slice g1.1
    subst iU
    go_wp2
    refine bodyPost_ret (results_cell_row rfl _ _ gE 25 #[.int .i64 gB, .int .i64 gC, .slice hX g3.length hY] (0, 0) _ rfl (kf g4).1 Try.underlying25 rfl (by kernel_rfl)) rfl ?_
    exact ⟨_, by first | rfl | (simp [errW_none, errW_some] <;> rfl) | (simp [*, errW_none, errW_some] <;> rfl), by (with_reducible repeat (first | apply Kd.R_alloc | apply Kd.R_drewN | apply Kd.R_drew)); exact Kd.R_mono (Kd.R_far (p := ⟨gE, 2, none⟩) (Kd.R_far (p := ⟨gE, 1, none⟩) (Kd.R_far (p := ⟨gE, 0, none⟩) (Kd.R_mono g1.1 (fun k_ hk => (⟨hk, hk.2.1⟩ : _ ∧ k_ ≠ gE))) mq (.int .i64 gB)) mq (.int .i64 gC)) mq (.slice hX g3.length hY)) (fun _ hk => trivial), by repeat (first | (with_reducible first | exact HB.1 | apply below_alloc | apply pw_below_drewN | apply below_drew1 | refine below_set ?_ hN.1 | refine below_set ?_ hO.1 | refine below_set ?_ hP.1) | exact HB.1)⟩


/-! ### spec_ClockSteps: function 22 -/
def spec_ClockSteps.l0 : Nat → List (S44) → Int → Option ((List (S44)) × Bool)
 | 0, _, _ => none
 | k + 1, x4, x5 => if x5 < (x4.length : Int) then (if 0 ≤ x5 then ((spec_l17Copy.f k ((rd_T44 x4 x5).f1.f0) ((rd_T44 x4 x5).f1.f1) ((rd_T44 x4 x5).f1.f2)).bind fun bt509 => (spec_ClockSteps.l0 k (x4.set (x5 : Int).toNat (⟨(rd_T44 x4 x5).f0, (⟨bt509.1, bt509.2.1, bt509.2.2⟩ : S25)⟩ : S44)) (wrap64 (x5 + 1)))) else (none)) else (some (x4, true))
def spec_ClockSteps.f (k : Nat) (a0_0 : Int) (a0_1 : Int) (l0_2 : List (S25)) : Option ((List (S44)) × Bool) := (spec_ClockOk.f k a0_0 a0_1 l0_2).bind fun t504 => (if t504 = true then ((spec_l17Steps.f k a0_0 a0_1 l0_2).bind fun t505 => (spec_ClockSteps.l0 k t505 0)) else (some (([] : List (S44)), false)))
theorem spec_ClockSteps.mono_l : ∀ k, (∀ y0 y1, LeO (spec_ClockSteps.l0 k y0 y1) (spec_ClockSteps.l0 (k + 1) y0 y1))
 | 0 => fun _ _ r h => by simp [spec_ClockSteps.l0] at h
 | k + 1 => by
  have ih0 := spec_ClockSteps.mono_l k
  ·
   intro y0 y1
   unfold spec_ClockSteps.l0
   repeat' first
   | (with_reducible exact ih0 _ _)
   | (with_reducible exact spec_ClockOk.mono _ _ _ _)
   | (with_reducible exact spec_l17Copy.mono _ _ _ _)
   | (with_reducible exact spec_l17Steps.mono _ _ _ _)
   | (with_reducible exact LeO.refl _)
   | (with_reducible exact LeO.none _)
   | (with_reducible refine LeO.ite ?_ ?_)
   | (with_reducible refine LeO.bind ?_ (fun _ => ?_))
   | exact ih0 _ _
   | exact spec_ClockOk.mono _ _ _ _
   | exact spec_l17Copy.mono _ _ _ _
   | exact spec_l17Steps.mono _ _ _ _
   | exact LeO.none _
   | refine LeO.ite ?_ ?_
   | refine LeO.bind ?_ (fun _ => ?_)
theorem spec_ClockSteps.mono : ∀ a0 a1 a2 k, LeO (spec_ClockSteps.f k a0 a1 a2) (spec_ClockSteps.f (k + 1) a0 a1 a2) := by
 intro a0 a1 a2 k
 have ih0 := spec_ClockSteps.mono_l k
 unfold spec_ClockSteps.f
 repeat' first
   | (with_reducible exact ih0 _ _)
   | (with_reducible exact spec_ClockOk.mono _ _ _ _)
   | (with_reducible exact spec_l17Copy.mono _ _ _ _)
   | (with_reducible exact spec_l17Steps.mono _ _ _ _)
   | (with_reducible exact LeO.refl _)
   | (with_reducible exact LeO.none _)
   | (with_reducible refine LeO.ite ?_ ?_)
   | (with_reducible refine LeO.bind ?_ (fun _ => ?_))
   | exact ih0 _ _
   | exact spec_ClockOk.mono _ _ _ _
   | exact spec_l17Copy.mono _ _ _ _
   | exact spec_l17Steps.mono _ _ _ _
   | exact LeO.none _
   | refine LeO.ite ?_ ?_
   | refine LeO.bind ?_ (fun _ => ?_)
set_option maxHeartbeats 8000000 in
set_option maxRecDepth 100000 in
theorem spec_ClockSteps.calls (k : Nat) (gA : Int) (gB : Int) (g5 : Nat → Prop) (gE : Option Addr) (gF : Nat) (g7 : List (S25)) (r1 : List (S44)) (r2 : Bool) (w : World) (i0 : Kd.V k25 25 w w.heap.size (fun k_ => g5 k_) (.slice gE g7.length gF) g7) (h : spec_ClockSteps.f k gA gB g7 = some (r1, r2)) :
  Calls Try.prog 22 #[.agg #[.int .i64 gA, .int .i64 gB, .slice gE g7.length gF]] w fun e w' => ∃ v0_ : Value, e = .returned (.tuple #[v0_, .bool r2]) ∧ Kd.N k44 44 w' w.heap.size (fun k_ => (g5 k_ ∨ w.heap.size ≤ k_)) v0_ r1 ∧ Below w.heap.size w w' := by
 have j9 := Try.underlying25
 have g3 := am (show Kd.V k25 25 w w.heap.size (fun k_ => (g5 k_ ∨ w.heap.size ≤ k_)) (.slice gE g7.length gF) g7 from Kd.V_mono i0 (fun k_ hk => .inl hk)); have HB := am (Below.refl w.heap.size w)
 have H : ((spec_ClockOk.f k gA gB g7).bind fun h1 => (if h1 = true then ((spec_l17Steps.f k gA gB g7).bind fun gH => (spec_ClockSteps.l0 k gH 0)) else (some (([] : List (S44)), false)))) = some (r1, r2) := h
 clear h
 replace H := Option.bind_eq_some_iff.mp H
 obtain ⟨h1, A20, H⟩ := H
 replace H : (if h1 = true then ((spec_l17Steps.f k gA gB g7).bind fun gH => (spec_ClockSteps.l0 k gH 0)) else (some (([] : List (S44)), false))) = some (r1, r2) := H
 have A2 := am A20
 clear A20
 by_cases c3 : h1 = true
 ·
  subst c3
  have H1 : ((spec_l17Steps.f k gA gB g7).bind fun gH => (spec_ClockSteps.l0 k gH 0)) = some (r1, r2) := by rw [if_pos rfl] at H; exact H
  clear H
  have H := H1
  clear H1
  replace H := Option.bind_eq_some_iff.mp H
  obtain ⟨gH, A40, H⟩ := H
  replace H : (spec_ClockSteps.l0 k gH 0) = some (r1, r2) := H
  have A4 := am A40
  clear A40
  have H' := am H
  clear H
  go_enter Try.func22, Try.ntmps22
  go_wp2_with (first | ((with_reducible refine gate_dst (N := 1) rfl ?_); refine bx (cs := #[.int .i64 gA, .int .i64 gB, .slice gE g7.length gF]) (t := 25) fun g6 hg w5 hbox hb => ?_; replace g3 := vb g3 hg hb; have g2 := am (hbox); have i1 := bz HB hg; have gZ := bz HB hg; replace HB := bs HB hb; clear hb hbox hg; obtain ⟨h9, hA, hB, hC, hD, hE⟩ := cs3 g2) | ((with_reducible refine gate_callee (f := 14) rfl ?_); refine gl (some 7) Try.func14 #[.agg #[.int .i64 gA, .int .i64 gB, .slice gE g7.length gF]] ?_; (with_reducible refine (spec_ClockOk.calls k gA gB _ _ g7 true _ ?side1 ?side2 A2.1).mono ?_); (case side1 => exact cq (Kd.V_reads' g3.1).2.2); (case side2 => exact (Kd.V_reads' g3.1).2.1); rintro e w7 ⟨rfl, hb⟩; refine ⟨_, rfl, ?_⟩; replace g3 := vw g3 hb; replace g2 := kb g2 hb; replace HB := bs HB hb; clear hb; obtain ⟨hF, hG, hH, hI, hJ, hK⟩ := cs3 g2) | ((with_reducible refine gate_callee (f := 50) rfl ?_); refine gl (some 10) Try.func50 #[.agg #[.int .i64 gA, .int .i64 gB, .slice gE g7.length gF]] ?_; (with_reducible refine (spec_l17Steps.calls k gA gB (fun k_ => ((g5 k_ ∨ w.heap.size ≤ k_) ∧ k_ ≠ g6)) _ _ g7 gH _ ?side1 A4.1).mono ?_); (case side1 => first | exact g3.1 | exact (vg g3).1 | exact (nf g3).1); rintro e w9 ⟨i2, rfl, ho0, hb⟩; refine ⟨_, rfl, ?_⟩; replace g3 := ve g3 hb; have i3 := nm HB ho0 (fun k_ => (g5 k_ ∨ w.heap.size ≤ k_) ∧ k_ ≠ g6) (fun k_ hk_ => ⟨Or.elim hk_ (fun hs_ => hs_.1) (fun hn_ => (.inr (zt HB hn_))), Or.elim hk_ (fun hs_ => hs_.2) (fun hn_ => (fb g2 k_ hn_))⟩); replace g2 := kb g2 hb; replace HB := bs HB hb; clear hb ho0))
  go_loopg [5] k (fun kq v5 w' => ∃ (g1 : List (S44)) (g0 : Int), v5 = .int .i64 g0 ∧ Aside0 (spec_ClockSteps.l0 kq g1 g0 = some (r1, r2)) ∧ Aside0 (kq ≤ k) ∧ Aside0 (Kd.N k44 44 w' w.heap.size (fun k_ => (g5 k_ ∨ w.heap.size ≤ k_) ∧ k_ ≠ g6) i2 g1) ∧ Aside0 (Kd.V k25 25 w' w.heap.size (fun k_ => (g5 k_ ∨ w.heap.size ≤ k_) ∧ some k_ ≠ (i2 : Value).ownBlock ∧ k_ ≠ g6) (.slice gE g7.length gF) g7) ∧ Aside0 (w'.heap[g6]? = some (.cells #[.int .i64 gA, .int .i64 gB, (.slice gE g7.length gF)] 25 (0, 0))) ∧ Aside0 (Below w.heap.size w w'))
  case atStart => exact ⟨(gH), (0), rq, H', ⟨Nat.le_refl _⟩, nf i3, vf g3, kf g2, bw⟩
  case round =>
   clear H'; (try clear c1); (try clear c2); (try clear p2); (try clear c3); (try clear c5); (try clear h9); (try clear hA); (try clear hB); (try clear hF); (try clear hG); (try clear hH); (try clear hC); (try clear hD); (try clear hE); (try clear hI); (try clear hJ); (try clear hK); (try clear g8); (try clear g4); (try clear g2); (try clear HB)
   obtain ⟨g1, g0, rfl, HA, HK1, g8, g4, g2, HB⟩ := hrel
   cases gk with
   | zero => exact absurd HA.1 (by simp [spec_ClockSteps.l0])
   | succ k1 =>
    have H := HA.1
    clear HA
    simp only [spec_ClockSteps.l0] at H
    by_cases c10 : g0 < (g1.length : Int)
    ·
     rw [if_pos c10] at H; have c10b0 : decide (g0 < (g1.length : Int)) = true := decide_eq_true c10; clear c10
     by_cases c11 : 0 ≤ g0
     ·
      rw [if_pos c11] at H; have c11b0 : decide (0 ≤ g0) = true := decide_eq_true c11; clear c11
      replace H := Option.bind_eq_some_iff.mp H
      obtain ⟨⟨gR, gS, gG⟩, i4, H⟩ := H
      replace H : (spec_ClockSteps.l0 k1 (g1.set (g0 : Int).toNat (⟨(rd_T44 g1 g0).f0, (⟨gR, gS, gG⟩ : S25)⟩ : S44)) (wrap64 (g0 + 1))) = some (r1, r2) := H
      have A12 := am i4
      clear i4
      obtain ⟨hL, gL⟩ : ∃ y_ : List (S44), y_ = (g1.set (g0 : Int).toNat (⟨(rd_T44 g1 g0).f0, (⟨gR, gS, gG⟩ : S25)⟩ : S44)) := ⟨_, rfl⟩
      replace H : (spec_ClockSteps.l0 k1 hL (wrap64 (g0 + 1))) = some (r1, r2) := by first | (rw [gL]; with_reducible exact H) | (have H2_ := (Option.bind_some _ _).symm.trans H; rw [gL]; with_reducible exact H2_) | (have H2_ := (Option.bind_some _ _).symm.trans H; with_reducible exact H2_) | with_reducible exact H | (rw [gL]; exact H) | exact H
      have i5 := am gL
      clear gL
      have H' := am H
      clear H
      obtain ⟨jA, gT, iN⟩ := Kd.N_slice g8.1
      subst iN
      have h2 : 0 ≤ (g0 : Int) := od; have h3 : g0 < (g1.length : Int) := od
      obtain ⟨i6, hM, hN, iO, h4, h5, h6, gU, gV, gW⟩ := at_T44 (Kd.N_reads' g8.1).2.2 g0 h2 h3
      cases iO
      obtain ⟨j8, hO, hP, h0⟩ := Kd.N_get g8.1 z44 g0 h2 (by first | exact h3 | exact od | (have e_ := (Kd.N_reads' g8.1).1; omega))
      obtain ⟨iF, iG, rfl, gI, gJ⟩ := k44_openF hP
      have gC := h0 3 _ rfl; rw [add_field _ _ 3 (by omega)] at gC; replace gC := Option.some.inj (gC.symm.trans gU); injection gC with hva_ hvn_ hvc_; rw [hva_] at gJ; rw [hvc_] at gI; have gD := am (show Kd.V k25 25 _ w.heap.size _ _ ((rd_T44 g1 g0).f1.f2) from Kd.V_mk gI gJ); clear hva_ hvn_ hvc_ gJ gI h0 hO; have gK := am gW; have h7 := am gV; clear gW gV; replace h2 := eq_true h2; replace h3 := eq_true h3
      go_wp2_with (first | ((with_reducible refine gate_callee (f := 51) rfl ?_); refine gl (some 24) Try.func51 #[.agg #[.int .i64 ((rd_T44 g1 g0).f1.f0), .int .i64 ((rd_T44 g1 g0).f1.f1), .slice hM ((rd_T44 g1 g0).f1.f2).length hN]] ?_; (with_reducible refine (spec_l17Copy.calls k1 ((rd_T44 g1 g0).f1.f0) ((rd_T44 g1 g0).f1.f1) _ _ ((rd_T44 g1 g0).f1.f2) gR gS gG _ ?side1 ?side2 A12.1).mono ?_); (case side1 => exact cq (cq gK.1)); (case side2 => exact h7.1); rintro e w15 ⟨jB, rfl, ho0, hb⟩; refine ⟨_, rfl, ?_⟩; replace g4 := ve g4 hb; replace gD := ve gD hb; have gX := nm HB (Kd.R_N (Kd.R_bound ho0)) (fun k_ => (g5 k_ ∨ w.heap.size ≤ k_) ∧ some k_ ≠ (.slice (some i6) g1.length gT : Value).ownBlock ∧ k_ ≠ g6) (fun k_ hk_ => ⟨(.inr (zt HB hk_.2.1)), (fr g8 k_ hk_.2.1), (fb g2 k_ hk_.2.1)⟩); replace g8 := ne g8 hb; replace g2 := kb g2 hb; replace gK := cb gK hb; replace HB := bs HB hb; clear hb ho0; obtain ⟨gM, gN, i7⟩ := Kd.N_slice gX.1; subst i7; have p13 : 0 ≤ (g0 : Int) := od; have q13 : (g0 : Int) < ((g1.length : Int) : Int) := od; obtain ⟨g9, jC, i8, i9, iP, jD, iA⟩ := Kd.N_form g8.1 (by omega); (first | cases i8 | (injection i8 with ea_ en_ ec_; (first | subst ea_ | (injection ea_ with ea_; subst ea_)); subst ec_; clear en_)); have hQ := am i9; have jE := am iA; clear i9 iP iA; (first | simp only [add_plain] at h4 | skip); (first | simp only [add_plain] at h5 | skip); (first | simp only [add_plain] at h6 | skip); (first | simp only [add_plain] at gU | skip); obtain ⟨jF, iB, iC, gO, gP⟩ := Kd.N_elem g8.1 z44 (g0 : Int) p13 q13; obtain ⟨hR, hS, rfl, iQ, iR⟩ := k44_openF iC; have iS : w15.cell? ⟨g9, (g0 : Int).toNat * 4, none⟩ = some (.int .i64 ((rd_T44 g1 g0).f0)) := gO 0 _ rfl; have iT : w15.cell? ⟨g9, (g0 : Int).toNat * 4 + 1, none⟩ = some (.int .i64 ((rd_T44 g1 g0).f1.f0)) := gO 1 _ rfl; have iU : w15.cell? ⟨g9, (g0 : Int).toNat * 4 + 2, none⟩ = some (.int .i64 ((rd_T44 g1 g0).f1.f1)) := gO 2 _ rfl; have iV : w15.cell? ⟨g9, (g0 : Int).toNat * 4 + 3, none⟩ = some (.slice hR ((rd_T44 g1 g0).f1.f2).length hS) := gO 3 _ rfl; have iW : w15.frozen? ⟨g9, (g0 : Int).toNat * 4, none⟩ = false := gP 0; have iX : w15.frozen? ⟨g9, (g0 : Int).toNat * 4 + 1, none⟩ = false := gP 1; have iY : w15.frozen? ⟨g9, (g0 : Int).toNat * 4 + 2, none⟩ = false := gP 2; have iZ : w15.frozen? ⟨g9, (g0 : Int).toNat * 4 + 3, none⟩ = false := gP 3; clear iB gO gP iC; replace p13 := eq_true p13; replace q13 := eq_true q13; have n_ := am (Kd.N_mono (ok' := (fun k_ => (g5 k_ ∨ w.heap.size ≤ k_) ∧ some k_ ≠ ((.slice gM gG.length gN) : Value).ownBlock ∧ k_ ≠ g6)) g8.1 mq); clear g8; have g8 := n_; clear n_; have iD := am (show Kd.N k44 44 w15 w.heap.size (fun k_ => (g5 k_ ∨ w.heap.size ≤ k_) ∧ k_ ≠ g6) (.slice (some ⟨g9, 0, none⟩) g1.length gT) g1 from (nf g8).1); obtain ⟨jG, h8, iE, gQ, gY⟩ := Kd.N_elem iD.1 z44 (g0 : Int) (od) (by have h_ : (g0 : Int) < ((g1.length : Int) : Int) := od; first | exact h_ | (have e_ := (Kd.N_reads' g8.1).1; omega) | simpa using h_); obtain ⟨j3, j4, rfl, j5, j6⟩ := k44_openF iE; have hT := Kd.N_seg iD.1 (g0 : Int) (od) (by have h_ : (g0 : Int) < ((g1.length : Int) : Int) := od; first | exact h_ | (have e_ := (Kd.N_reads' g8.1).1; omega) | simpa using h_) (seg := [.int .i64 gR, .int .i64 gS, (.slice gM gG.length gN)]) (j := 1) h8 gQ (show 4 ≤ 4 from by decide) (x' := (⟨(rd_T44 g1 g0).f0, (⟨gR, gS, gG⟩ : S25)⟩ : S44)) (k44_mkF _ _ (⟨(rd_T44 g1 g0).f0, (⟨gR, gS, gG⟩ : S25)⟩ : S44) (Kd.N_reads' (Kd.N_mono (ok' := (fun k_ => ((fun k_ => (g5 k_ ∨ w.heap.size ≤ k_) ∧ k_ ≠ g6)) k_ ∧ k_ ≠ g9)) (gX.1) (fun k_ hk => ⟨⟨hk.1, hk.2.2⟩, fun e_ => (hk.2.1) (by rw [e_]; rfl)⟩))).2.1 (Kd.N_F (Kd.N_mono (ok' := (fun k_ => ((fun k_ => (g5 k_ ∨ w.heap.size ≤ k_) ∧ k_ ≠ g6)) k_ ∧ k_ ≠ g9)) (gX.1) (fun k_ hk => ⟨⟨hk.1, hk.2.2⟩, fun e_ => (hk.2.1) (by rw [e_]; rfl)⟩)))) (fun _ hk => hk); have hU := gQ 1 _ rfl; (try simp only [show (k44).sz = 4 from rfl, Nat.mul_one, Nat.add_zero] at hU); have hV := gY 1; (try simp only [show (k44).sz = 4 from rfl, Nat.mul_one, Nat.add_zero] at hV); have hW := gQ 2 _ rfl; (try simp only [show (k44).sz = 4 from rfl, Nat.mul_one, Nat.add_zero] at hW); have hX := gY 2; (try simp only [show (k44).sz = 4 from rfl, Nat.mul_one, Nat.add_zero] at hX); have hY := gQ 3 _ rfl; (try simp only [show (k44).sz = 4 from rfl, Nat.mul_one, Nat.add_zero] at hY); have hZ := gY 3; (try simp only [show (k44).sz = 4 from rfl, Nat.mul_one, Nat.add_zero] at hZ); clear h8 gQ gY iE) | ((with_reducible refine gate_store (t := 25) (p := 26) rfl ?_); refine se (((w15.setCell ⟨g9, (g0 : Int).toNat * 4 + 1, none⟩ (.int .i64 gR)).setCell ⟨g9, (g0 : Int).toNat * 4 + 2, none⟩ (.int .i64 gS)).setCell ⟨g9, (g0 : Int).toNat * 4 + 3, none⟩ ((.slice gM gG.length gN))) fun w17 hw => ?_; have hg : w15.grownBy w17 (some g9) := (by rw [hw]; exact hT.2); have hp_ : Kd.N k44 44 w17 w.heap.size (fun k_ => (g5 k_ ∨ w.heap.size ≤ k_) ∧ k_ ≠ g6) (.slice (some ⟨g9, 0, none⟩) g1.length gT) hL := (by rw [hw, i5.1]; exact hT.1); clear hT; replace g4 := am (Kd.V_afterv (v := (.slice (some ⟨g9, 0, none⟩) g1.length gT)) (v1 := (.slice (some ⟨g9, 0, none⟩) g1.length gT)) (ok := (fun k_ => (g5 k_ ∨ w.heap.size ≤ k_) ∧ some k_ ≠ ((.slice gM gG.length gN) : Value).ownBlock ∧ k_ ≠ g6)) (vf g4).1 hg (.inl rfl)); replace g2 := kg g2 hg (Kd.N_ne g8.1 g2.1 (by decide)); replace g8 := am (hp_); replace gD := am (Kd.V_afterv (v := (.slice (some ⟨g9, 0, none⟩) g1.length gT)) (v1 := (.slice (some ⟨g9, 0, none⟩) g1.length gT)) (ok := (fun k_ => (g5 k_ ∨ w.heap.size ≤ k_) ∧ some k_ ≠ ((.slice gM gG.length gN) : Value).ownBlock ∧ k_ ≠ g6)) (vf gD).1 hg (.inl rfl)); replace HB := am ((by rw [hw]; exact below_set (below_set (below_set (HB.1) hQ.1) hQ.1) hQ.1 : Below w.heap.size w w17)); clear gX hg hw hp_))
      go_roundg k1
      case measure => have := HK1.1; omega
      case rel => exact ⟨(hL), (wrap64 (g0 + 1)), rq, H', km, nf g8, vf g4, kf g2, bw⟩
     ·
      rw [if_neg c11] at H
      exact absurd H (by simp)
    ·
     rw [if_neg c10] at H; have c10b0 : decide (g0 < (g1.length : Int)) = false := decide_eq_false c10; clear c10
     simp only [Option.some.injEq, Prod.mk.injEq] at H
     obtain ⟨rfl, rfl⟩ := H
     obtain ⟨jH, jI, j7⟩ := Kd.N_slice g8.1
     subst j7
     go_wp2
     go_ret2
     exact ⟨_, by first | rfl | (simp [errW_none, errW_some] <;> rfl) | (simp [*, errW_none, errW_some] <;> rfl), by (with_reducible repeat (first | apply Kd.N_alloc | apply Kd.N_drewN | apply Kd.N_drew)); exact Kd.N_mono g8.1 mq, by repeat (first | (with_reducible first | exact HB.1 | apply below_alloc | apply pw_below_drewN | apply below_drew1 | refine below_set ?_ gZ.1) | exact HB.1)⟩
 ·
  replace c3 := Bool.eq_false_iff.mpr c3
  subst c3
  have H1 : (some (([] : List (S44)), false)) = some (r1, r2) := by rw [if_neg (show ¬ (false = true) by decide)] at H; exact H
  clear H
  have H := H1
  clear H1
  simp only [Option.some.injEq, Prod.mk.injEq] at H
  obtain ⟨rfl, rfl⟩ := H
  go_enter Try.func22, Try.ntmps22
  go_wp2_with (first | ((with_reducible refine gate_dst (N := 1) rfl ?_); refine bx (cs := #[.int .i64 gA, .int .i64 gB, .slice gE g7.length gF]) (t := 25) fun g6 hg w19 hbox hb => ?_; replace g3 := vb g3 hg hb; have g2 := am (hbox); have i1 := bz HB hg; have gZ := bz HB hg; replace HB := bs HB hb; clear hb hbox hg; obtain ⟨iH, iI, iJ, iK, iL, iM⟩ := cs3 g2) | ((with_reducible refine gate_callee (f := 14) rfl ?_); refine gl (some 7) Try.func14 #[.agg #[.int .i64 gA, .int .i64 gB, .slice gE g7.length gF]] ?_; (with_reducible refine (spec_ClockOk.calls k gA gB _ _ g7 false _ ?side1 ?side2 A2.1).mono ?_); (case side1 => exact cq (Kd.V_reads' g3.1).2.2); (case side2 => exact (Kd.V_reads' g3.1).2.1); rintro e w21 ⟨rfl, hb⟩; refine ⟨_, rfl, ?_⟩; replace g3 := vw g3 hb; replace g2 := kb g2 hb; replace HB := bs HB hb; clear hb))
  go_ret2
  exact ⟨_, by first | rfl | (simp [errW_none, errW_some] <;> rfl) | (simp [*, errW_none, errW_some] <;> rfl), by first | exact Kd.R_nil _ _ _ _ _ | exact Kd.N_nil _ _ _ _ _ | exact Kd.V_nil _ _ _ _ _ | exact Kd.Q_nil _ _ _ _ _ | exact Kd.S_nil _ _ _ _ _, by repeat (first | (with_reducible first | exact HB.1 | apply below_alloc | apply pw_below_drewN | apply below_drew1 | refine below_set ?_ gZ.1) | exact HB.1)⟩
end Go.Proofs.Ytfnmjecofgeboaa.PAll
