-- Laid by a program of this session out of the translation's print
import Derived.Test.YtfnmjecofgeboaaPAll0
import Derived.Test.YtfnmjecofgeboaaPAllAb
import Derived.Test.YtfnmjecofgeboaaPAllSmall
import Derived.Test.YtfnmjecofgeboaaPAllImplticksOf
import Derived.Test.YtfnmjecofgeboaaHa3
namespace Go.Proofs.Ytfnmjecofgeboaa.PAll
open Go.RowKit Go.Proofs.YtfnmjecofgeboaaW.PrintWords Go.Proofs.YtfnmjecofgeboaaW.PrintLast Go.Proofs.YtfnmjecofgeboaaW.PrintMore
attribute [local go_sem] max2_int min2_int max_two min_two max_three min_three max_four min_four   -- for this text's walks alone
set_option linter.unusedVariables false
set_option linter.unusedSimpArgs false

/-! ### impl_pass: function 45 -/
mutual
def impl_pass.j0 : Nat → Bool → Int → Int → List (S25) → Option (Int × Int × (List (S25)) × Bool)
 | 0, _, _, _, _ => none
 | k + 1, x37, x331000, x331001, x331002 => if x37 = true then (if 0 < (x331002.length : Int) then ((impl_pass.f k ((rd_T25 x331002 0).f0) ((rd_T25 x331002 0).f1) ((rd_T25 x331002 0).f2)).bind fun bt350 => (if 1 < (x331002.length : Int) then ((impl_pass.f k ((rd_T25 x331002 1).f0) ((rd_T25 x331002 1).f1) ((rd_T25 x331002 1).f2)).bind fun bt358 => (if bt350.2.2.2 = true then (impl_pass.j1 k (!bt358.2.2.2) x331000 x331001 x331002 bt350.1 bt350.2.1 bt350.2.2.1 bt358.1 bt358.2.1 bt358.2.2.1) else (impl_pass.j1 k true x331000 x331001 x331002 bt350.1 bt350.2.1 bt350.2.2.1 bt358.1 bt358.2.1 bt358.2.2.1))) else (none))) else (none)) else ((impl_copyClock.f k x331000 x331001 x331002).bind fun bt382 => (some (bt382.1, bt382.2.1, bt382.2.2, true)))
def impl_pass.j1 : Nat → Bool → Int → Int → List (S25) → Int → Int → List (S25) → Int → Int → List (S25) → Option (Int × Int × (List (S25)) × Bool)
 | 0, _, _, _, _, _, _, _, _, _, _ => none
 | k + 1, x61, x331000, x331001, x331002, x357000, x357001, x357002, x365000, x365001, x365002 => if x61 = true then (some (0, 0, ([] : List (S25)), false)) else (if x331000 = 4 then (if 0 < (x331002.length : Int) then ((impl_ticksOf.f k ((rd_T25 x331002 0).f0) ((rd_T25 x331002 0).f1) ((rd_T25 x331002 0).f2)).bind fun t366 => (impl_pass.l0 k t366 (t366.length : Int) 0 x331000 x331001 x331002 x357000 x357001 x357002 x365000 x365001 x365002)) else (none)) else (some (x331000, 0, (([(⟨x357000, x357001, x357002⟩ : S25), (⟨x365000, x365001, x365002⟩ : S25)] : List (S25))), true)))
def impl_pass.l0 : Nat → List (S44) → Int → Int → Int → Int → List (S25) → Int → Int → List (S25) → Int → Int → List (S25) → Option (Int × Int × (List (S25)) × Bool)
 | 0, _, _, _, _, _, _, _, _, _, _, _, _ => none
 | k + 1, x70, x71, x72, x331000, x331001, x331002, x357000, x357001, x357002, x365000, x365001, x365002 => if x72 < x71 then (if 0 ≤ x72 then (if x72 < (x70.length : Int) then (if ((rd_T44 x70 x72).f0) = 0 then (impl_pass.l0 k x70 x71 (wrap64 (x72 + 1)) x331000 x331001 x331002 x357000 x357001 x357002 x365000 x365001 x365002) else (if 1 < (x331002.length : Int) then ((impl_ticksOf.f k ((rd_T25 x331002 1).f0) ((rd_T25 x331002 1).f1) ((rd_T25 x331002 1).f2)).bind fun t375 => ((any63.f t375 ((rd_T44 x70 x72).f0)).bind fun t378 => (if t378 = true then (some (0, 0, ([] : List (S25)), false)) else (impl_pass.l0 k x70 x71 (wrap64 (x72 + 1)) x331000 x331001 x331002 x357000 x357001 x357002 x365000 x365001 x365002)))) else (none))) else (none)) else (none)) else (some (x331000, 0, (([(⟨x357000, x357001, x357002⟩ : S25), (⟨x365000, x365001, x365002⟩ : S25)] : List (S25))), true))
def impl_pass.f : Nat → Int → Int → List (S25) → Option (Int × Int × (List (S25)) × Bool)
 | 0, _, _, _ => none
 | k + 1, a0_0, a0_1, l0_2 => if a0_0 = 1 then ((impl_copyClock.f k a0_0 a0_1 l0_2).bind fun bt332 => (some (bt332.1, bt332.2.1, bt332.2.2, (a0_1 != 0)))) else (if a0_0 = 2 then (if a0_1 = 1 then (if 0 < (l0_2.length : Int) then ((impl_copyClock.f k ((rd_T25 l0_2 0).f0) ((rd_T25 l0_2 0).f1) ((rd_T25 l0_2 0).f2)).bind fun bt338 => (some (bt338.1, bt338.2.1, bt338.2.2, true))) else (none)) else ((impl_copyClock.f k a0_0 a0_1 l0_2).bind fun bt343 => (some (bt343.1, wrap64 (bt343.2.1 - 1), bt343.2.2, true)))) else (if a0_0 = 3 then (impl_pass.j0 k (a0_0 == 3) a0_0 a0_1 l0_2) else (impl_pass.j0 k (a0_0 == 4) a0_0 a0_1 l0_2)))
end
theorem impl_pass.mono_l : ∀ k, (∀ y0 y1 y2, LeO (impl_pass.f k y0 y1 y2) (impl_pass.f (k + 1) y0 y1 y2)) ∧ (∀ y0 y1 y2 y3, LeO (impl_pass.j0 k y0 y1 y2 y3) (impl_pass.j0 (k + 1) y0 y1 y2 y3)) ∧ (∀ y0 y1 y2 y3 y4 y5 y6 y7 y8 y9, LeO (impl_pass.j1 k y0 y1 y2 y3 y4 y5 y6 y7 y8 y9) (impl_pass.j1 (k + 1) y0 y1 y2 y3 y4 y5 y6 y7 y8 y9)) ∧ (∀ y0 y1 y2 y3 y4 y5 y6 y7 y8 y9 y10 y11, LeO (impl_pass.l0 k y0 y1 y2 y3 y4 y5 y6 y7 y8 y9 y10 y11) (impl_pass.l0 (k + 1) y0 y1 y2 y3 y4 y5 y6 y7 y8 y9 y10 y11))
 | 0 => ⟨fun _ _ _ r h => by simp [impl_pass.f] at h, fun _ _ _ _ r h => by simp [impl_pass.j0] at h, fun _ _ _ _ _ _ _ _ _ _ r h => by simp [impl_pass.j1] at h, fun _ _ _ _ _ _ _ _ _ _ _ _ r h => by simp [impl_pass.l0] at h⟩
 | k + 1 => by
  obtain ⟨ih0, ih1, ih2, ih3⟩ := impl_pass.mono_l k
  refine ⟨?_, ?_, ?_, ?_⟩
  ·
   intro y0 y1 y2
   unfold impl_pass.f
   repeat' first
   | (with_reducible exact ih0 _ _ _)
   | (with_reducible exact ih1 _ _ _ _)
   | (with_reducible exact ih2 _ _ _ _ _ _ _ _ _ _)
   | (with_reducible exact ih3 _ _ _ _ _ _ _ _ _ _ _ _)
   | (with_reducible exact impl_copyClock.mono _ _ _ _)
   | (with_reducible exact impl_ticksOf.mono _ _ _ _)
   | (with_reducible exact LeO.refl _)
   | (with_reducible exact LeO.none _)
   | (with_reducible refine LeO.ite ?_ ?_)
   | (with_reducible refine LeO.bind ?_ (fun _ => ?_))
   | exact ih0 _ _ _
   | exact ih1 _ _ _ _
   | exact ih2 _ _ _ _ _ _ _ _ _ _
   | exact ih3 _ _ _ _ _ _ _ _ _ _ _ _
   | exact impl_copyClock.mono _ _ _ _
   | exact impl_ticksOf.mono _ _ _ _
   | exact LeO.none _
   | refine LeO.ite ?_ ?_
   | refine LeO.bind ?_ (fun _ => ?_)
  ·
   intro y0 y1 y2 y3
   unfold impl_pass.j0
   repeat' first
   | (with_reducible exact ih0 _ _ _)
   | (with_reducible exact ih1 _ _ _ _)
   | (with_reducible exact ih2 _ _ _ _ _ _ _ _ _ _)
   | (with_reducible exact ih3 _ _ _ _ _ _ _ _ _ _ _ _)
   | (with_reducible exact impl_copyClock.mono _ _ _ _)
   | (with_reducible exact impl_ticksOf.mono _ _ _ _)
   | (with_reducible exact LeO.refl _)
   | (with_reducible exact LeO.none _)
   | (with_reducible refine LeO.ite ?_ ?_)
   | (with_reducible refine LeO.bind ?_ (fun _ => ?_))
   | exact ih0 _ _ _
   | exact ih1 _ _ _ _
   | exact ih2 _ _ _ _ _ _ _ _ _ _
   | exact ih3 _ _ _ _ _ _ _ _ _ _ _ _
   | exact impl_copyClock.mono _ _ _ _
   | exact impl_ticksOf.mono _ _ _ _
   | exact LeO.none _
   | refine LeO.ite ?_ ?_
   | refine LeO.bind ?_ (fun _ => ?_)
  ·
   intro y0 y1 y2 y3 y4 y5 y6 y7 y8 y9
   unfold impl_pass.j1
   repeat' first
   | (with_reducible exact ih0 _ _ _)
   | (with_reducible exact ih1 _ _ _ _)
   | (with_reducible exact ih2 _ _ _ _ _ _ _ _ _ _)
   | (with_reducible exact ih3 _ _ _ _ _ _ _ _ _ _ _ _)
   | (with_reducible exact impl_copyClock.mono _ _ _ _)
   | (with_reducible exact impl_ticksOf.mono _ _ _ _)
   | (with_reducible exact LeO.refl _)
   | (with_reducible exact LeO.none _)
   | (with_reducible refine LeO.ite ?_ ?_)
   | (with_reducible refine LeO.bind ?_ (fun _ => ?_))
   | exact ih0 _ _ _
   | exact ih1 _ _ _ _
   | exact ih2 _ _ _ _ _ _ _ _ _ _
   | exact ih3 _ _ _ _ _ _ _ _ _ _ _ _
   | exact impl_copyClock.mono _ _ _ _
   | exact impl_ticksOf.mono _ _ _ _
   | exact LeO.none _
   | refine LeO.ite ?_ ?_
   | refine LeO.bind ?_ (fun _ => ?_)
  ·
   intro y0 y1 y2 y3 y4 y5 y6 y7 y8 y9 y10 y11
   unfold impl_pass.l0
   repeat' first
   | (with_reducible exact ih0 _ _ _)
   | (with_reducible exact ih1 _ _ _ _)
   | (with_reducible exact ih2 _ _ _ _ _ _ _ _ _ _)
   | (with_reducible exact ih3 _ _ _ _ _ _ _ _ _ _ _ _)
   | (with_reducible exact impl_copyClock.mono _ _ _ _)
   | (with_reducible exact impl_ticksOf.mono _ _ _ _)
   | (with_reducible exact LeO.refl _)
   | (with_reducible exact LeO.none _)
   | (with_reducible refine LeO.ite ?_ ?_)
   | (with_reducible refine LeO.bind ?_ (fun _ => ?_))
   | exact ih0 _ _ _
   | exact ih1 _ _ _ _
   | exact ih2 _ _ _ _ _ _ _ _ _ _
   | exact ih3 _ _ _ _ _ _ _ _ _ _ _ _
   | exact impl_copyClock.mono _ _ _ _
   | exact impl_ticksOf.mono _ _ _ _
   | exact LeO.none _
   | refine LeO.ite ?_ ?_
   | refine LeO.bind ?_ (fun _ => ?_)
theorem impl_pass.mono : ∀ a0 a1 a2 k, LeO (impl_pass.f k a0 a1 a2) (impl_pass.f (k + 1) a0 a1 a2) := by
 intro a0 a1 a2 k
 obtain ⟨ih0, ih1, ih2, ih3⟩ := impl_pass.mono_l k
 exact ih0 a0 a1 a2
set_option maxHeartbeats 8000000 in
set_option maxRecDepth 100000 in
theorem impl_pass.calls (k : Nat) : ∀ (gB : Int) (gM : Int) (gG : Nat → Prop) (iF : Option Addr) (hH : Nat) (g5 : List (S25)) (r1 : Int) (r2 : Int) (r3 : List (S25)) (r4 : Bool) (w : World) (o8 : Kd.V k25 25 w w.heap.size (fun k_ => gG k_) (.slice iF g5.length hH) g5) (h : impl_pass.f k gB gM g5 = some (r1, r2, r3, r4)),
  Calls Try.prog 45 #[.agg #[.int .i64 gB, .int .i64 gM, .slice iF g5.length hH]] w fun e w' => ∃ v2_ : Value, e = .returned (.tuple #[.agg #[.int .i64 r1, .int .i64 r2, v2_], .bool r4]) ∧ Kd.N k25 25 w' w.heap.size (fun k_ => (gG k_ ∨ w.heap.size ≤ k_)) v2_ r3 ∧ Below w.heap.size w w' := by
 induction k using Nat.strongRecOn with
 | _ k ih =>
 intro gB gM gG iF hH g5 r1 r2 r3 r4 w o8 h
 cases k with
 | zero => exact absurd h (by simp [impl_pass.f])
 | succ k =>
 simp only [impl_pass.f] at h
 have xQ := Try.underlying25
 have xR := Try.underlying44
 have hmf : ∀ (fn : Fn) (first cap : Array Value) (w : World), (Instr.makeFunc fn first cap).run Try.prog w = .ok (.func fn first cap) w := fun _ _ _ _ => rfl
 have gI := am (show Kd.V k25 25 w w.heap.size (fun k_ => (gG k_ ∨ w.heap.size ≤ k_)) (.slice iF g5.length hH) g5 from Kd.V_mono o8 (fun k_ hk => .inl hk)); have HB := am (Below.refl w.heap.size w)
 have H : (if gB = 1 then ((impl_copyClock.f k gB gM g5).bind fun mX => (some (mX.1, mX.2.1, mX.2.2, (gM != 0)))) else (if gB = 2 then (if gM = 1 then (if 0 < (g5.length : Int) then ((impl_copyClock.f k ((rd_T25 g5 0).f0) ((rd_T25 g5 0).f1) ((rd_T25 g5 0).f2)).bind fun mY => (some (mY.1, mY.2.1, mY.2.2, true))) else (none)) else ((impl_copyClock.f k gB gM g5).bind fun mZ => (some (mZ.1, wrap64 (mZ.2.1 - 1), mZ.2.2, true)))) else (if gB = 3 then (impl_pass.j0 k (gB == 3) gB gM g5) else (impl_pass.j0 k (gB == 4) gB gM g5)))) = some (r1, r2, r3, r4) := h
 clear h
 by_cases c2 : gB = 1
 ·
  rw [if_pos c2] at H; have c2b0 : (gB == 1) = true := beq_iff_eq.mpr c2; have c2b1 : (gB != 1) = false := bne_eq_false_iff_eq.mpr c2; clear c2
  replace H := Option.bind_eq_some_iff.mp H
  obtain ⟨⟨nF, nG, nH⟩, A30, H⟩ := H
  replace H : (some (nF, nG, nH, (gM != 0))) = some (r1, r2, r3, r4) := H
  have A3 := am A30
  clear A30
  simp only [Option.some.injEq, Prod.mk.injEq] at H
  obtain ⟨rfl, rfl, rfl, rfl⟩ := H
  go_enter Try.func45, Try.ntmps45
  try go_wp2_with (first | ((with_reducible refine gate_dst (N := 1) rfl ?_); refine bx (cs := #[.int .i64 gB, .int .i64 gM, .slice iF g5.length hH]) (t := 25) fun gC hg w4 hbox hb => ?_; replace gI := vb gI hg hb; have g1 := am (hbox); have n0 := bz HB hg; have i4 := bz HB hg; replace HB := bs HB hb; clear hb hbox hg) | ((with_reducible refine gate_dst (N := 2) rfl ?_); refine bx (cs := #[.int .i64 0, .int .i64 0, .slice none 0 0]) (t := 25) fun g6 hg w5 hbox hb => ?_; replace gI := vb gI hg hb; have g2 := am (hbox); have n2 := bz HB hg; have i5 := bz HB hg; replace HB := bs HB hb; have g7 := nl g1 hg; have gD := ng g1 hg; replace g1 := kb g1 hb; clear hb hbox hg; have xS := g7.1; have xT := gD.1; obtain ⟨l7, l8, l9, lA, lB, lC⟩ := cs3 g1))
  replace gI := am (Kd.V_drew gI.1); replace g1 := am (blk_drew g1.1); replace g2 := am (blk_drew g2.1); replace HB := am (below_drew1 HB.1)
  refine start_ (n := 7) (S := fun w' => w'.cell? ⟨gC, 0, none⟩ = some (.int .i64 gB) ∧ w'.cell? ⟨gC, 1, none⟩ = some (.int .i64 gM) ∧ w'.cell? ⟨gC, 2, none⟩ = some (.slice iF g5.length hH)) (ds := []) #[ff,ff,ff,ff,ff,ff,ff] (by kernel_rfl) rfl rfl ⟨(blk_cell g1.1 0).trans rfl, (blk_cell g1.1 1).trans rfl, (blk_cell g1.1 2).trans rfl⟩ (fun hHeld => ?_)
  generalize w5.drew = w8 at gI g1 g2 HB hHeld ⊢
  refine pure_ (i := 2) (N := some 17) (v := ?_) (a' := ?_) #[ff,ff,tt,ff,ff,ff,ff] rfl rfl (by kernel_rfl) (fun _ _ _ h => h) (Or.inl ⟨by rfl, ?_⟩) ?_ ?_
  rotate_left
  ·
   intro w'
   go_simp
   with_reducible rfl
  rotate_left
  ·
   simp only [Act.put, List.setIfInBounds_toArray, List.set_cons_zero, List.set_cons_succ, i64_w, i32_w]
   rfl
  refine take_ (i := 0) (N := some 15) (v := ?_) (a' := ?_) #[tt,ff,tt,ff,ff,ff,ff] rfl rfl (by kernel_rfl) (fun _ _ _ h => h) (Or.inl ⟨by rfl, ?_⟩) hHeld ?_ ?_
  rotate_left
  ·
   rintro w' ⟨s0, s1, s2⟩
   go_simp
   with_reducible rfl
  rotate_left
  ·
   simp only [Act.put, List.setIfInBounds_toArray, List.set_cons_zero, List.set_cons_succ, i64_w, i32_w]
   rfl
  refine take_ (i := 3) (N := some 18) (v := ?_) (a' := ?_) #[tt,ff,tt,tt,ff,ff,ff] rfl rfl (by kernel_rfl) (fun _ _ _ h => h) (Or.inl ⟨by rfl, ?_⟩) hHeld ?_ ?_
  rotate_left
  ·
   rintro w' ⟨s0, s1, s2⟩
   go_simp
   with_reducible rfl
  rotate_left
  ·
   simp only [Act.put, List.setIfInBounds_toArray, List.set_cons_zero, List.set_cons_succ, i64_w, i32_w]
   rfl
  refine pure_ (i := 4) (N := some 19) (v := ?_) (a' := ?_) #[tt,ff,tt,tt,tt,ff,ff] rfl rfl (by kernel_rfl) (fun _ _ _ h => h) (Or.inl ⟨by rfl, ?_⟩) ?_ ?_
  rotate_left
  ·
   intro w'
   go_simp
   with_reducible rfl
  rotate_left
  ·
   simp only [Act.put, List.setIfInBounds_toArray, List.set_cons_zero, List.set_cons_succ, i64_w, i32_w]
   rfl
  refine one_ (i := 1) (N := some 16) #[tt,tt,tt,tt,tt,ff,ff] rfl rfl (by kernel_rfl) (by decide) (fun K hK => ?_)
  refine goes_ Try.func44 (by kernel_rfl) rfl #[.agg #[.int .i64 gB, .int .i64 gM, .slice iF g5.length hH]] (by rfl) rfl rfl (by (try simp only [List.map_toArray, List.map_cons, List.map_nil]); first | done | rfl | (simp only [List.length_drop, List.length_take]; rfl)) ?_
  with_reducible refine (impl_copyClock.calls k gB gM _ _ g5 nF nG nH _ ?side1 ?side2 A3.1).mono ?_
  (case side1 => exact cq (Kd.V_reads' gI.1).2.2)
  (case side2 => exact (Kd.V_reads' gI.1).2.1)
  rintro e w9 ⟨xU, rfl, ho0, hb⟩
  refine ⟨_, rfl, ?_⟩
  replace gI := ve gI hb; have o9 := nm HB (Kd.R_N (Kd.R_bound ho0)) (fun k_ => (gG k_ ∨ w.heap.size ≤ k_) ∧ k_ ≠ gC ∧ k_ ≠ g6) (fun k_ hk_ => ⟨(.inr (zt HB hk_.2.1)), (fb g1 k_ hk_.2.1), (fb g2 k_ hk_.2.1)⟩); replace g1 := kb g1 hb; replace g2 := kb g2 hb; replace HB := bs HB hb; (try clear hb); (try clear hb2); (try clear hk); (try clear hi); (try clear ho0)
  obtain ⟨pG, pH, pI⟩ := Kd.N_slice o9.1
  (first | subst pI | (injection pI with f1_ f2_ f3_; have f4_ := f1_.symm; have f5_ := f3_.symm; clear f1_ f2_ f3_; subst f4_; subst f5_))
  refine hK.out _ _ ⟨(blk_cell g1.1 0).trans rfl, (blk_cell g1.1 1).trans rfl, (blk_cell g1.1 2).trans rfl⟩ (fun hHeld => ?_)
  clear hK K
  refine norm_ (a' := ?_) ?_ ?_
  rotate_left
  ·
   show Act.put _ (some 16) _ = _
   simp only [Act.put, List.setIfInBounds_toArray, List.set_cons_zero, List.set_cons_succ, i64_w, i32_w]
   rfl
  refine one_ (i := 5) (N := none) #[tt,tt,tt,tt,tt,tt,ff] rfl rfl (by kernel_rfl) (by decide) (fun K hK => ?_)
  have xV : w9.cell? ⟨g6, 0, none⟩ = some (.int .i64 0) := (blk_cell g2.1 0).trans rfl
  have vO := blk_frozen g2.1 0
  have t9 := g7.1
  have tA := gD.1
  have xW : w9.cell? ⟨g6, 1, none⟩ = some (.int .i64 0) := (blk_cell g2.1 1).trans rfl
  have vP := blk_frozen g2.1 1
  have tB := g7.1
  have tC := gD.1
  have xX : w9.cell? ⟨g6, 2, none⟩ = some (.slice none 0 0) := (blk_cell g2.1 2).trans rfl
  have vQ := blk_frozen g2.1 2
  have tD := g7.1
  have tE := gD.1
  refine skip_ (w1 := ?_) (by rfl) rfl ?_ ?_
  rotate_left
  ·
   go_simp
   rfl
  refine hK.out _ _ ⟨((cell_far (p := ⟨g6, _, none⟩) g7.1 _).trans (((cell_far (p := ⟨g6, _, none⟩) g7.1 _).trans (((cell_far (p := ⟨g6, _, none⟩) g7.1 _).trans (hHeld.1)))))), ((cell_far (p := ⟨g6, _, none⟩) g7.1 _).trans (((cell_far (p := ⟨g6, _, none⟩) g7.1 _).trans (((cell_far (p := ⟨g6, _, none⟩) g7.1 _).trans (hHeld.2.1)))))), ((cell_far (p := ⟨g6, _, none⟩) g7.1 _).trans (((cell_far (p := ⟨g6, _, none⟩) g7.1 _).trans (((cell_far (p := ⟨g6, _, none⟩) g7.1 _).trans (hHeld.2.2))))))⟩ (fun hHeld => ?_)
  clear hK K
  refine pure_ (i := 6) (N := some 3) (v := ?_) (a' := ?_) #[tt,tt,tt,tt,tt,tt,tt] rfl rfl (by kernel_rfl) (fun _ _ _ h => h) (Or.inl ⟨by rfl, ?_⟩) ?_ ?_
  rotate_left
  ·
   intro w'
   go_simp
   with_reducible rfl
  rotate_left
  ·
   simp only [Act.put, List.setIfInBounds_toArray, List.set_cons_zero, List.set_cons_succ, i64_w, i32_w]
   rfl
  refine done_ (by kernel_rfl) ?_
  try go_wp2
  refine bodyPost_ret (results_ct rfl _ _ g6 25 #[.int .i64 nF, .int .i64 nG, .slice pG nH.length pH] (0, 0) _ rfl (kf g2).1 Try.underlying25 rfl (by kernel_rfl)) rfl ?_
  exact ⟨_, by first | rfl | (simp [errW_none, errW_some] <;> rfl) | (simp [*, errW_none, errW_some] <;> rfl), by (with_reducible repeat (first | apply Kd.N_alloc | apply Kd.N_drewN | apply Kd.N_drew)); exact Kd.N_mono (Kd.N_far (p := ⟨g6, 2, none⟩) (Kd.N_far (p := ⟨g6, 1, none⟩) (Kd.N_far (p := ⟨g6, 0, none⟩) (Kd.N_mono o9.1 (fun k_ hk => (⟨hk, hk.2.2⟩ : _ ∧ k_ ≠ g6))) mq (.int .i64 nF)) mq (.int .i64 nG)) mq (.slice pG nH.length pH)) mq, by repeat (first | (with_reducible first | exact HB.1 | apply below_alloc | apply pw_below_drewN | apply below_drew1 | refine below_set ?_ i4.1 | refine below_set ?_ i5.1) | exact HB.1)⟩
 ·
  rw [if_neg c2] at H; have c2b0 : (gB == 1) = false := beq_eq_false_iff_ne.mpr c2; have c2b1 : (gB != 1) = true := bne_iff_ne.mpr c2
  by_cases c14 : gB = 2
  ·
   rw [if_pos c14] at H; have c14b0 : (gB == 2) = true := beq_iff_eq.mpr c14; have c14b1 : (gB != 2) = false := bne_eq_false_iff_eq.mpr c14; clear c14
   by_cases c15 : gM = 1
   ·
    rw [if_pos c15] at H; have c15b0 : (gM == 1) = true := beq_iff_eq.mpr c15; have c15b1 : (gM != 1) = false := bne_eq_false_iff_eq.mpr c15; clear c15
    by_cases c16 : 0 < (g5.length : Int)
    ·
     rw [if_pos c16] at H; have c16b0 : decide (0 < (g5.length : Int)) = true := decide_eq_true c16; have c16b1 : decide (0 < g5.length) = true := decide_eq_true (by omega); clear c16
     replace H := Option.bind_eq_some_iff.mp H
     obtain ⟨⟨nI, nJ, nK⟩, pJ, H⟩ := H
     replace H : (some (nI, nJ, nK, true)) = some (r1, r2, r3, r4) := H
     have A17 := am pJ
     clear pJ
     simp only [Option.some.injEq, Prod.mk.injEq] at H
     obtain ⟨rfl, rfl, rfl, rfl⟩ := H
     go_enter Try.func45, Try.ntmps45
     go_wp2_with (first | ((with_reducible refine gate_dst (N := 1) rfl ?_); refine bx (cs := #[.int .i64 gB, .int .i64 gM, .slice iF g5.length hH]) (t := 25) fun gC hg w18 hbox hb => ?_; replace gI := vb gI hg hb; have g1 := am (hbox); have n0 := bz HB hg; have i4 := bz HB hg; replace HB := bs HB hb; clear hb hbox hg) | ((with_reducible refine gate_dst (N := 2) rfl ?_); refine bx (cs := #[.int .i64 0, .int .i64 0, .slice none 0 0]) (t := 25) fun g6 hg w19 hbox hb => ?_; replace gI := vb gI hg hb; have g2 := am (hbox); have n2 := bz HB hg; have i5 := bz HB hg; replace HB := bs HB hb; have g7 := nl g1 hg; have gD := ng g1 hg; replace g1 := kb g1 hb; clear hb hbox hg; have vR := g7.1; have vS := gD.1; obtain ⟨jJ, jK, jL, jM, jN, jO⟩ := cs3 g1; have lD : 0 ≤ (0 : Int) := (by omega); have lE : 0 < (g5.length : Int) := od; obtain ⟨vT, oR, oS, tY, i7, i8, hY, lH, lI⟩ := at_T25 (Kd.V_reads' gI.1).2.2 0 lD lE; cases tY; obtain ⟨vU, oT, oU, n3⟩ := Kd.V_get gI.1 z25 0 lD (by first | exact lE | exact od | (have e_ := (Kd.V_reads' gI.1).1; omega)); obtain ⟨tF, tG, rfl, jP, jQ⟩ := k25_openF oU; have iW := n3 2 _ rfl; rw [add_field _ _ 2 (by omega)] at iW; replace iW := Option.some.inj (iW.symm.trans hY); injection iW with hva_ hvn_ hvc_; rw [hva_] at jQ; rw [hvc_] at jP; have lJ := am (show Kd.V k25 25 _ w.heap.size _ _ ((rd_T25 g5 0).f2) from Kd.V_mk jP jQ); clear hva_ hvn_ hvc_ jQ jP n3 oT; have vV : (0 < g5.length) = True := eq_true (by omega); (try rw [tz] at i7); (try rw [z3] at i7); (try rw [Addr.add_zero'] at i7); (try rw [tz] at i8); (try rw [z3] at i8); (try rw [Addr.add_zero'] at i8); (try rw [tz] at hY); (try rw [z3] at hY); (try rw [Addr.add_zero'] at hY); have jR := am lI; have nL := am lH; clear lI lH; replace lD := eq_true lD; replace lE := eq_true lE) | ((with_reducible refine gate_callee (f := 44) rfl ?_); refine gl (some 29) Try.func44 #[.agg #[.int .i64 ((rd_T25 g5 0).f0), .int .i64 ((rd_T25 g5 0).f1), .slice oR ((rd_T25 g5 0).f2).length oS]] ?_; (with_reducible refine (impl_copyClock.calls k ((rd_T25 g5 0).f0) ((rd_T25 g5 0).f1) _ _ ((rd_T25 g5 0).f2) nI nJ nK _ ?side1 ?side2 A17.1).mono ?_); (case side1 => exact cq (cq jR.1)); (case side2 => exact nL.1); rintro e w22 ⟨xY, rfl, ho0, hb⟩; refine ⟨_, rfl, ?_⟩; replace gI := ve gI hb; replace lJ := ve lJ hb; have oA := nm HB (Kd.R_N (Kd.R_bound ho0)) (fun k_ => (gG k_ ∨ w.heap.size ≤ k_) ∧ k_ ≠ gC ∧ k_ ≠ g6) (fun k_ hk_ => ⟨(.inr (zt HB hk_.2.1)), (fb g1 k_ hk_.2.1), (fb g2 k_ hk_.2.1)⟩); replace g1 := kb g1 hb; replace g2 := kb g2 hb; replace jR := cb jR hb; replace HB := bs HB hb; clear hb ho0; obtain ⟨jS, jT, jU, jV, jW, jX⟩ := cs3 g2; obtain ⟨pK, pL, rfl⟩ := Kd.N_slice oA.1))
     refine bodyPost_ret (results_ct rfl _ _ g6 25 #[.int .i64 nI, .int .i64 nJ, .slice pK nK.length pL] (0, 0) _ rfl (kf g2).1 Try.underlying25 rfl (by kernel_rfl)) rfl ?_
     exact ⟨_, by first | rfl | (simp [errW_none, errW_some] <;> rfl) | (simp [*, errW_none, errW_some] <;> rfl), by (with_reducible repeat (first | apply Kd.N_alloc | apply Kd.N_drewN | apply Kd.N_drew)); exact Kd.N_mono (Kd.N_far (p := ⟨g6, 2, none⟩) (Kd.N_far (p := ⟨g6, 1, none⟩) (Kd.N_far (p := ⟨g6, 0, none⟩) (Kd.N_mono oA.1 (fun k_ hk => (⟨hk, hk.2.2⟩ : _ ∧ k_ ≠ g6))) mq (.int .i64 nI)) mq (.int .i64 nJ)) mq (.slice pK nK.length pL)) mq, by repeat (first | (with_reducible first | exact HB.1 | apply below_alloc | apply pw_below_drewN | apply below_drew1 | refine below_set ?_ i4.1 | refine below_set ?_ i5.1) | exact HB.1)⟩
    ·
     rw [if_neg c16] at H
     exact absurd H (by simp)
   ·
    rw [if_neg c15] at H; have c15b0 : (gM == 1) = false := beq_eq_false_iff_ne.mpr c15; have c15b1 : (gM != 1) = true := bne_iff_ne.mpr c15
    replace H := Option.bind_eq_some_iff.mp H
    obtain ⟨⟨jG, iD, jH⟩, pM, H⟩ := H
    replace H : (some (jG, wrap64 (iD - 1), jH, true)) = some (r1, r2, r3, r4) := H
    have A25 := am pM
    clear pM
    simp only [Option.some.injEq, Prod.mk.injEq] at H
    obtain ⟨rfl, rfl, rfl, rfl⟩ := H
    go_enter Try.func45, Try.ntmps45
    go_wp2_with (first | ((with_reducible refine gate_dst (N := 1) rfl ?_); refine bx (cs := #[.int .i64 gB, .int .i64 gM, .slice iF g5.length hH]) (t := 25) fun gC hg w26 hbox hb => ?_; replace gI := vb gI hg hb; have g1 := am (hbox); have n0 := bz HB hg; have i4 := bz HB hg; replace HB := bs HB hb; clear hb hbox hg) | ((with_reducible refine gate_dst (N := 2) rfl ?_); refine bx (cs := #[.int .i64 0, .int .i64 0, .slice none 0 0]) (t := 25) fun g6 hg w27 hbox hb => ?_; replace gI := vb gI hg hb; have g2 := am (hbox); have n2 := bz HB hg; have i5 := bz HB hg; replace HB := bs HB hb; have g7 := nl g1 hg; have gD := ng g1 hg; replace g1 := kb g1 hb; clear hb hbox hg; have vW := g7.1; have vX := gD.1; obtain ⟨jY, jZ, k0, k1, k2, k4⟩ := cs3 g1) | ((with_reducible refine gate_callee (f := 44) rfl ?_); refine gl (some 31) Try.func44 #[.agg #[.int .i64 gB, .int .i64 gM, .slice iF g5.length hH]] ?_; (with_reducible refine (impl_copyClock.calls k gB gM _ _ g5 jG iD jH _ ?side1 ?side2 A25.1).mono ?_); (case side1 => exact cq (Kd.V_reads' gI.1).2.2); (case side2 => exact (Kd.V_reads' gI.1).2.1); rintro e w30 ⟨xZ, rfl, ho0, hb⟩; refine ⟨_, rfl, ?_⟩; replace gI := ve gI hb; have lK := nm HB (Kd.R_N (Kd.R_bound ho0)) (fun k_ => (gG k_ ∨ w.heap.size ≤ k_) ∧ k_ ≠ gC ∧ k_ ≠ g6) (fun k_ hk_ => ⟨(.inr (zt HB hk_.2.1)), (fb g1 k_ hk_.2.1), (fb g2 k_ hk_.2.1)⟩); replace g1 := kb g1 hb; replace g2 := kb g2 hb; replace HB := bs HB hb; clear hb ho0) | ((with_reducible refine gate_dst (N := 4) rfl ?_); refine bx (cs := #[.int .i64 0, .int .i64 0, .slice none 0 0]) (t := 25) fun gV hg w31 hbox hb => ?_; replace gI := vb gI hg hb; replace lK := nb lK hg hb; have oB := am (hbox); have vY := bz HB hg; have pN := bz HB hg; replace HB := bs HB hb; have mO := nl g1 hg; have mP := ng g1 hg; replace g1 := kb g1 hb; have mQ := nl g2 hg; have mR := ng g2 hg; replace g2 := kb g2 hb; clear hb hbox hg; have vZ := mP.1; have w0 := mO.1; have w2 := mR.1; have w3 := mQ.1; obtain ⟨k5, k6, k7, k8, k9, kA⟩ := cs3 oB; obtain ⟨kX, kY, rfl⟩ := Kd.N_slice lK.1; obtain ⟨kB, kC, kD, kE, kF, kG⟩ := cs3 g2; have hqA := blk_put (blk_put (blk_put (blk_put oB.1 0 (.int .i64 jG) rfl) 1 (.int .i64 iD) rfl) 2 (.slice kX jH.length kY) rfl) 1 (.int .i64 (wrap64 (iD - 1))) rfl; have hq0 : ((((w31.setCell ⟨gV, 0, none⟩ (.int .i64 jG)).setCell ⟨gV, 1, none⟩ (.int .i64 iD)).setCell ⟨gV, 2, none⟩ (.slice kX jH.length kY)).setCell ⟨gV, 1, none⟩ (.int .i64 (wrap64 (iD - 1)))).cell? ⟨gV, 0, none⟩ = some (.int .i64 jG) := (blk_cell hqA 0).trans rfl; have hq1 : ((((w31.setCell ⟨gV, 0, none⟩ (.int .i64 jG)).setCell ⟨gV, 1, none⟩ (.int .i64 iD)).setCell ⟨gV, 2, none⟩ (.slice kX jH.length kY)).setCell ⟨gV, 1, none⟩ (.int .i64 (wrap64 (iD - 1)))).cell? ⟨gV, 1, none⟩ = some (.int .i64 (wrap64 (iD - 1))) := (blk_cell hqA 1).trans rfl; have hq2 : ((((w31.setCell ⟨gV, 0, none⟩ (.int .i64 jG)).setCell ⟨gV, 1, none⟩ (.int .i64 iD)).setCell ⟨gV, 2, none⟩ (.slice kX jH.length kY)).setCell ⟨gV, 1, none⟩ (.int .i64 (wrap64 (iD - 1)))).cell? ⟨gV, 2, none⟩ = some (.slice kX jH.length kY) := (blk_cell hqA 2).trans rfl; clear hqA))
    refine bodyPost_ret (results_ct rfl _ _ g6 25 #[.int .i64 jG, .int .i64 (wrap64 (iD - 1)), .slice kX jH.length kY] (0, 0) _ rfl (kf g2).1 Try.underlying25 rfl (by kernel_rfl)) rfl ?_
    exact ⟨_, by first | rfl | (simp [errW_none, errW_some] <;> rfl) | (simp [*, errW_none, errW_some] <;> rfl), by (with_reducible repeat (first | apply Kd.N_alloc | apply Kd.N_drewN | apply Kd.N_drew)); exact Kd.N_mono (Kd.N_far (p := ⟨g6, 2, none⟩) (Kd.N_far (p := ⟨g6, 1, none⟩) (Kd.N_far (p := ⟨g6, 0, none⟩) (Kd.N_far (p := ⟨gV, 1, none⟩) (Kd.N_far (p := ⟨gV, 2, none⟩) (Kd.N_far (p := ⟨gV, 1, none⟩) (Kd.N_far (p := ⟨gV, 0, none⟩) (Kd.N_mono (Kd.N_mono lK.1 (fun k_ hk => (⟨hk, hk.2⟩ : _ ∧ k_ ≠ gV))) (fun k_ hk => (⟨hk, hk.1.1.2.2⟩ : _ ∧ k_ ≠ g6))) mq (.int .i64 jG)) mq (.int .i64 iD)) mq (.slice kX jH.length kY)) mq (.int .i64 (wrap64 (iD - 1)))) mq (.int .i64 jG)) mq (.int .i64 (wrap64 (iD - 1)))) mq (.slice kX jH.length kY)) mq, by repeat (first | (with_reducible first | exact HB.1 | apply below_alloc | apply pw_below_drewN | apply below_drew1 | refine below_set ?_ i4.1 | refine below_set ?_ i5.1 | refine below_set ?_ pN.1) | exact HB.1)⟩
  ·
   rw [if_neg c14] at H; have c14b0 : (gB == 2) = false := beq_eq_false_iff_ne.mpr c14; have c14b1 : (gB != 2) = true := bne_iff_ne.mpr c14; have oV := am H; clear H
   go_enter Try.func45, Try.ntmps45
   go_upto_if 37 with (first | ((with_reducible refine gate_dst (N := 1) rfl ?_); refine bx (cs := #[.int .i64 gB, .int .i64 gM, .slice iF g5.length hH]) (t := 25) fun gC hg w38 hbox hb => ?_; replace gI := vb gI hg hb; have g1 := am (hbox); have n0 := bz HB hg; have i4 := bz HB hg; replace HB := bs HB hb; clear hb hbox hg) | ((with_reducible refine gate_dst (N := 2) rfl ?_); refine bx (cs := #[.int .i64 0, .int .i64 0, .slice none 0 0]) (t := 25) fun g6 hg w39 hbox hb => ?_; replace gI := vb gI hg hb; have g2 := am (hbox); have n2 := bz HB hg; have i5 := bz HB hg; replace HB := bs HB hb; have g7 := nl g1 hg; have gD := ng g1 hg; replace g1 := kb g1 hb; clear hb hbox hg; have w6 := g7.1; have w7 := gD.1; obtain ⟨kH, kI, kJ, kK, kL, kM⟩ := cs3 g1))
   (try simp only [Act.put, List.setIfInBounds_toArray, List.set_cons_zero, List.set_cons_succ])
   go_cut [37] (fun v37 wc => ∃ (kq : Nat) (kN : Bool), v37 = .bool kN ∧ Aside0 (impl_pass.j0 kq kN gB gM g5 = some (r1, r2, r3, r4)) ∧ Aside0 (kq ≤ k) ∧ Aside0 (Kd.V k25 25 wc w.heap.size (fun k_ => (gG k_ ∨ w.heap.size ≤ k_) ∧ k_ ≠ gC ∧ k_ ≠ g6) (.slice iF g5.length hH) g5) ∧ Aside0 (wc.heap[gC]? = some (.cells #[.int .i64 gB, .int .i64 gM, (.slice iF g5.length hH)] 25 (0, 0))) ∧ Aside0 (wc.heap[g6]? = some (.cells #[.int .i64 0, .int .i64 0, (.slice none 0 0)] 25 (0, 0))) ∧ Aside0 (Below w.heap.size w wc))
   case first =>
    have H := oV.1
    clear oV
    by_cases c42 : gB = 3
    ·
     rw [if_pos c42] at H; have c42b0 : (gB == 3) = true := beq_iff_eq.mpr c42; have c42b1 : (gB != 3) = false := bne_eq_false_iff_eq.mpr c42; clear c42
     (first | rw [c42b0] | (simp only [i64_w, i32_w]; rw [c42b0]) | skip)
     have H' := am H
     clear H
     go_wp2
     go_meet
     case rel => exact ⟨_, ((gB == 3)), rq, H', ⟨by first | omega | exact Nat.le_refl _⟩, vf gI, kf g1, kf g2, bw⟩
    ·
     rw [if_neg c42] at H; have c42b0 : (gB == 3) = false := beq_eq_false_iff_ne.mpr c42; have c42b1 : (gB != 3) = true := bne_iff_ne.mpr c42
     (first | rw [c42b0] | (simp only [i64_w, i32_w]; rw [c42b0]) | skip)
     have H' := am H
     clear H
     go_wp2
     go_meet
     case rel => exact ⟨_, ((gB == 4)), rq, H', ⟨by first | omega | exact Nat.le_refl _⟩, vf gI, kf g1, kf g2, bw⟩
   case rest =>
    clear oV; (try clear c1); (try clear c2); (try clear c2b0); (try clear c2b1); (try clear p2); (try clear c3); (try clear p3); (try clear q3); (try clear hx3); (try clear qi3); (try clear c4); (try clear c6); (try clear p6); (try clear c14); (try clear c14b0); (try clear c14b1); (try clear c15); (try clear c15b0); (try clear c15b1); (try clear c16); (try clear c16b0); (try clear c16b1); (try clear c20); (try clear c28); (try clear c32); (try clear c33); (try clear p33); (try clear q33); (try clear pO); (try clear pP); (try clear c40); (try clear c42); (try clear c42b0); (try clear c42b1); (try clear jJ); (try clear jK); (try clear jL); (try clear jS); (try clear jT); (try clear jU); (try clear jY); (try clear jZ); (try clear k0); (try clear k5); (try clear k6); (try clear k7); (try clear kB); (try clear kC); (try clear kD); (try clear kH); (try clear kI); (try clear kJ); (try clear l7); (try clear l8); (try clear l9); (try clear jM); (try clear jN); (try clear jO); (try clear jV); (try clear jW); (try clear jX); (try clear k1); (try clear k2); (try clear k4); (try clear k8); (try clear k9); (try clear kA); (try clear kE); (try clear kF); (try clear kG); (try clear kK); (try clear kL); (try clear kM); (try clear lA); (try clear lB); (try clear lC); (try clear i7); (try clear i8); (try clear hY); (try clear lD); (try clear lE)
    obtain ⟨kq, kN, rfl, HA, kZ, g0, g1, g2, HB⟩ := hcut
    cases kq with
    | zero => exact absurd HA.1 (by simp [impl_pass.j0])
    | succ iB =>
     have H := HA.1
     clear HA
     simp only [impl_pass.j0] at H
     by_cases c43 : kN = true
     ·
      subst c43
      have H1 : (if 0 < (g5.length : Int) then ((impl_pass.f iB ((rd_T25 g5 0).f0) ((rd_T25 g5 0).f1) ((rd_T25 g5 0).f2)).bind fun j6 => (if 1 < (g5.length : Int) then ((impl_pass.f iB ((rd_T25 g5 1).f0) ((rd_T25 g5 1).f1) ((rd_T25 g5 1).f2)).bind fun hB => (if j6.2.2.2 = true then (impl_pass.j1 iB (!hB.2.2.2) gB gM g5 j6.1 j6.2.1 j6.2.2.1 hB.1 hB.2.1 hB.2.2.1) else (impl_pass.j1 iB true gB gM g5 j6.1 j6.2.1 j6.2.2.1 hB.1 hB.2.1 hB.2.2.1))) else (none))) else (none)) = some (r1, r2, r3, r4) := by rw [if_pos rfl] at H; exact H
      clear H
      have H := H1
      clear H1
      by_cases c44 : 0 < (g5.length : Int)
      ·
       rw [if_pos c44] at H; have c44b0 : decide (0 < (g5.length : Int)) = true := decide_eq_true c44; have c44b1 : decide (0 < g5.length) = true := decide_eq_true (by omega); clear c44
       replace H := Option.bind_eq_some_iff.mp H
       obtain ⟨⟨gT, gU, gK, nM⟩, pQ, H⟩ := H
       replace H : (if 1 < (g5.length : Int) then ((impl_pass.f iB ((rd_T25 g5 1).f0) ((rd_T25 g5 1).f1) ((rd_T25 g5 1).f2)).bind fun hB => (if nM = true then (impl_pass.j1 iB (!hB.2.2.2) gB gM g5 gT gU gK hB.1 hB.2.1 hB.2.2.1) else (impl_pass.j1 iB true gB gM g5 gT gU gK hB.1 hB.2.1 hB.2.2.1))) else (none)) = some (r1, r2, r3, r4) := H
       have A45 := am pQ
       clear pQ
       by_cases c46 : 1 < (g5.length : Int)
       ·
        rw [if_pos c46] at H; have c46b0 : decide (1 < (g5.length : Int)) = true := decide_eq_true c46; have c46b1 : decide (1 < g5.length) = true := decide_eq_true (by omega); clear c46
        replace H := Option.bind_eq_some_iff.mp H
        obtain ⟨⟨gW, gX, gO, nN⟩, pR, H⟩ := H
        replace H : (if nM = true then (impl_pass.j1 iB (!nN) gB gM g5 gT gU gK gW gX gO) else (impl_pass.j1 iB true gB gM g5 gT gU gK gW gX gO)) = some (r1, r2, r3, r4) := H
        have A47 := am pR
        clear pR; have oW := am H; clear H; have wA := g7.1; have wB := gD.1; obtain ⟨lL, lM, lN, lO, lP, lQ⟩ := cs3 g1; have mS : 0 ≤ (0 : Int) := (by omega); have mT : 0 < (g5.length : Int) := od
        obtain ⟨iC, oX, oY, tZ, iG, iH, i9, lR, lS⟩ := at_T25 (Kd.V_reads' g0.1).2.2 0 mS mT
        cases tZ
        obtain ⟨wC, oZ, p0, n4⟩ := Kd.V_get g0.1 z25 0 mS (by first | exact mT | exact od | (have e_ := (Kd.V_reads' g0.1).1; omega))
        obtain ⟨tH, tI, rfl, kO, kP⟩ := k25_openF p0
        have iX := n4 2 _ rfl; rw [add_field _ _ 2 (by omega)] at iX; replace iX := Option.some.inj (iX.symm.trans i9); injection iX with hva_ hvn_ hvc_; rw [hva_] at kP; rw [hvc_] at kO; have gR := am (show Kd.V k25 25 _ w.heap.size _ _ ((rd_T25 g5 0).f2) from Kd.V_mk kO kP); clear hva_ hvn_ hvc_ kP kO n4 oZ
        have wD : (0 < g5.length) = True := eq_true (by omega)
        (try rw [tz] at iG)
        (try rw [z3] at iG)
        (try rw [Addr.add_zero'] at iG)
        (try rw [tz] at iH)
        (try rw [z3] at iH)
        (try rw [Addr.add_zero'] at iH)
        (try rw [tz] at i9)
        (try rw [z3] at i9)
        (try rw [Addr.add_zero'] at i9)
        have iY := am lS; have tJ := am lR; clear lS lR; replace mS := eq_true mS; replace mT := eq_true mT
        go_upto_region 14 with (first | ((with_reducible refine gate_callee (f := 45) rfl ?_); refine gl (some 45) Try.func45 #[.agg #[.int .i64 ((rd_T25 g5 0).f0), .int .i64 ((rd_T25 g5 0).f1), .slice oX ((rd_T25 g5 0).f2).length oY]] ?_; (with_reducible refine (ih iB (by have := kZ.1; omega) ((rd_T25 g5 0).f0) ((rd_T25 g5 0).f1) (fun k_ => ((gG k_ ∨ w.heap.size ≤ k_) ∧ (k_ ≠ gC ∧ k_ ≠ g6))) _ _ ((rd_T25 g5 0).f2) gT gU gK nM _ ?side1 A45.1).mono ?_); (case side1 => first | exact gR.1 | exact (vg gR).1 | exact (nf gR).1); rintro e w51 ⟨y0, rfl, ho0, hb⟩; refine ⟨_, rfl, ?_⟩; replace g0 := ve g0 hb; replace gR := ve gR hb; have i3 := nm HB ho0 (fun k_ => (gG k_ ∨ w.heap.size ≤ k_) ∧ k_ ≠ gC ∧ k_ ≠ g6) (fun k_ hk_ => ⟨Or.elim hk_ (fun hs_ => hs_.1) (fun hn_ => (.inr (zt HB hn_))), Or.elim hk_ (fun hs_ => hs_.2.1) (fun hn_ => (fb g1 k_ hn_)), Or.elim hk_ (fun hs_ => hs_.2.2) (fun hn_ => (fb g2 k_ hn_))⟩); replace g1 := kb g1 hb; replace g2 := kb g2 hb; replace iY := cb iY hb; replace HB := bs HB hb; clear hb ho0) | ((with_reducible refine gate_dst (N := 5) rfl ?_); refine bx (cs := #[.int .i64 0, .int .i64 0, .slice none 0 0]) (t := 25) fun gJ hg w52 hbox hb => ?_; replace g0 := vb g0 hg hb; replace gR := vb gR hg hb; replace i3 := nb i3 hg hb; replace iY := cb iY hb; have g8 := am (hbox); have wE := bz HB hg; have lT := bz HB hg; replace HB := bs HB hb; have h7 := nl g1 hg; have h8 := ng g1 hg; replace g1 := kb g1 hb; have hI := nl g2 hg; have hJ := ng g2 hg; replace g2 := kb g2 hb; clear hb hbox hg; have wF := h8.1; have wG := h7.1; have wH := hJ.1; have wI := hI.1; obtain ⟨lU, lV, lW, lX, lY, lZ⟩ := cs3 g8; obtain ⟨h0, h1, rfl⟩ := Kd.N_slice i3.1) | ((with_reducible refine gate_store (t := 25) (p := 5) rfl ?_); refine se (((w52.setCell ⟨gJ, 0, none⟩ (.int .i64 gT)).setCell ⟨gJ, 1, none⟩ (.int .i64 gU)).setCell ⟨gJ, 2, none⟩ (.slice h0 gK.length h1)) fun w57 hw => ?_; replace g0 := vh g0 hw; replace gR := vh gR hw; replace i3 := nh i3 hw; replace g1 := kh g1 hw; replace g2 := kh g2 hw; replace g8 := kp g8 hw #[.int .i64 gT, .int .i64 gU, .slice h0 gK.length h1]; replace HB := bh HB hw; clear hw; obtain ⟨m0, m1, m2, m3, m4, m5⟩ := cs3 g1; have mU : 0 ≤ (1 : Int) := (by omega); have mV : 1 < (g5.length : Int) := od; obtain ⟨pS, n5, p1, u0, iI, iJ, iA, m6, m7⟩ := at_T25 (Kd.V_reads' g0.1).2.2 1 mU mV; obtain rfl : iC = pS := (by injection u0); obtain ⟨wJ, p4, p5, n6⟩ := Kd.V_get g0.1 z25 1 mU (by first | exact mV | exact od | (have e_ := (Kd.V_reads' g0.1).1; omega)); obtain ⟨tK, tL, rfl, kQ, kR⟩ := k25_openF p5; have iZ := n6 2 _ rfl; rw [add_field _ _ 2 (by omega)] at iZ; replace iZ := Option.some.inj (iZ.symm.trans iA); injection iZ with hva_ hvn_ hvc_; rw [hva_] at kR; rw [hvc_] at kQ; have h3 := am (show Kd.V k25 25 _ w.heap.size _ _ ((rd_T25 g5 1).f2) from Kd.V_mk kQ kR); clear hva_ hvn_ hvc_ kR kQ n6 p4; (try simp only [show (1 : Int).toNat = 1 from rfl, Nat.reduceMul, Nat.reduceEqDiff, Go.Addr.add, ↓reduceIte] at iI); (try simp only [show (1 : Int).toNat = 1 from rfl, Nat.reduceMul, Nat.reduceEqDiff, Go.Addr.add, ↓reduceIte] at iJ); (try simp only [show (1 : Int).toNat = 1 from rfl, Nat.reduceMul, Nat.reduceEqDiff, Go.Addr.add, ↓reduceIte] at iA); have wK : (1 < g5.length) = True := eq_true (by omega); (try rw [show ((1 : Int)).toNat = 1 from rfl] at iI); (try rw [show 1 * 3 = 3 from rfl] at iI); (try rw [show ((1 : Int)).toNat = 1 from rfl] at iJ); (try rw [show 1 * 3 = 3 from rfl] at iJ); (try rw [show ((1 : Int)).toNat = 1 from rfl] at iA); (try rw [show 1 * 3 = 3 from rfl] at iA); have h4 := am m7; have tM := am m6; clear m7 m6; replace mU := eq_true mU; replace mV := eq_true mV) | ((with_reducible refine gate_callee (f := 45) rfl ?_); refine gl (some 53) Try.func45 #[.agg #[.int .i64 ((rd_T25 g5 1).f0), .int .i64 ((rd_T25 g5 1).f1), .slice n5 ((rd_T25 g5 1).f2).length p1]] ?_; (with_reducible refine (ih iB (by have := kZ.1; omega) ((rd_T25 g5 1).f0) ((rd_T25 g5 1).f1) (fun k_ => ((gG k_ ∨ w.heap.size ≤ k_) ∧ (some k_ ≠ (.slice h0 gK.length h1 : Value).ownBlock ∧ (k_ ≠ gC ∧ (k_ ≠ g6 ∧ k_ ≠ gJ))))) _ _ ((rd_T25 g5 1).f2) gW gX gO nN _ ?side1 A47.1).mono ?_); (case side1 => first | exact h3.1 | exact (vg h3).1 | exact (nf h3).1); rintro e w59 ⟨y1, rfl, ho0, hb⟩; refine ⟨_, rfl, ?_⟩; replace g0 := ve g0 hb; replace gR := ve gR hb; replace h3 := ve h3 hb; have l4 := nm HB ho0 (fun k_ => (gG k_ ∨ w.heap.size ≤ k_) ∧ some k_ ≠ (.slice h0 gK.length h1 : Value).ownBlock ∧ k_ ≠ gC ∧ k_ ≠ g6 ∧ k_ ≠ gJ) (fun k_ hk_ => ⟨Or.elim hk_ (fun hs_ => hs_.1) (fun hn_ => (.inr (zt HB hn_))), Or.elim hk_ (fun hs_ => hs_.2.1) (fun hn_ => (fr i3 k_ hn_)), Or.elim hk_ (fun hs_ => hs_.2.2.1) (fun hn_ => (fb g1 k_ hn_)), Or.elim hk_ (fun hs_ => hs_.2.2.2.1) (fun hn_ => (fb g2 k_ hn_)), Or.elim hk_ (fun hs_ => hs_.2.2.2.2) (fun hn_ => (fb g8 k_ hn_))⟩); replace i3 := ne i3 hb; replace g1 := kb g1 hb; replace g2 := kb g2 hb; replace g8 := kb g8 hb; replace h4 := cb h4 hb; replace HB := bs HB hb; clear hb ho0) | ((with_reducible refine gate_dst (N := 7) rfl ?_); refine bx (cs := #[.int .i64 0, .int .i64 0, .slice none 0 0]) (t := 25) fun gN hg w60 hbox hb => ?_; replace g0 := vb g0 hg hb; replace gR := vb gR hg hb; replace i3 := nb i3 hg hb; replace h3 := vb h3 hg hb; replace l4 := nb l4 hg hb; replace h4 := cb h4 hb; have gA := am (hbox); have wL := bz HB hg; have m8 := bz HB hg; replace HB := bs HB hb; have h9 := nl g1 hg; have hA := ng g1 hg; replace g1 := kb g1 hb; have hL := nl g2 hg; have hM := ng g2 hg; replace g2 := kb g2 hb; have iS := nl g8 hg; have iT := ng g8 hg; replace g8 := kb g8 hb; clear hb hbox hg; have wM := hA.1; have wN := h9.1; have wO := hM.1; have wP := hL.1; have wQ := iT.1; have wR := iS.1; obtain ⟨m9, mA, mB, mC, mD, mE⟩ := cs3 gA; obtain ⟨hF, hG, rfl⟩ := Kd.N_slice l4.1))
        (try simp only [Act.put, List.setIfInBounds_toArray, List.set_cons_zero, List.set_cons_succ])
        go_cut [61] (fun v61 wc => ∃ (kq : Nat) (kS : Bool), v61 = .bool kS ∧ Aside0 (impl_pass.j1 kq kS gB gM g5 gT gU gK gW gX gO = some (r1, r2, r3, r4)) ∧ Aside0 (kq ≤ iB) ∧ Aside0 (Kd.V k25 25 wc w.heap.size (fun k_ => (gG k_ ∨ w.heap.size ≤ k_) ∧ some k_ ≠ ((.slice h0 gK.length h1) : Value).ownBlock ∧ some k_ ≠ ((.slice hF gO.length hG) : Value).ownBlock ∧ k_ ≠ gC ∧ k_ ≠ g6 ∧ k_ ≠ gJ ∧ k_ ≠ gN) (.slice (some iC) g5.length hH) g5) ∧ Aside0 (Kd.N k25 25 wc w.heap.size (fun k_ => (gG k_ ∨ w.heap.size ≤ k_) ∧ some k_ ≠ ((.slice hF gO.length hG) : Value).ownBlock ∧ k_ ≠ gC ∧ k_ ≠ g6 ∧ k_ ≠ gJ ∧ k_ ≠ gN) (.slice h0 gK.length h1) gK) ∧ Aside0 (Kd.N k25 25 wc w.heap.size (fun k_ => (gG k_ ∨ w.heap.size ≤ k_) ∧ some k_ ≠ ((.slice h0 gK.length h1) : Value).ownBlock ∧ k_ ≠ gC ∧ k_ ≠ g6 ∧ k_ ≠ gJ ∧ k_ ≠ gN) (.slice hF gO.length hG) gO) ∧ Aside0 (wc.heap[gC]? = some (.cells #[.int .i64 gB, .int .i64 gM, (.slice (some iC) g5.length hH)] 25 (0, 0))) ∧ Aside0 (wc.heap[g6]? = some (.cells #[.int .i64 0, .int .i64 0, (.slice none 0 0)] 25 (0, 0))) ∧ Aside0 (wc.heap[gJ]? = some (.cells #[.int .i64 gT, .int .i64 gU, (.slice h0 gK.length h1)] 25 (0, 0))) ∧ Aside0 (wc.heap[gN]? = some (.cells #[.int .i64 gW, .int .i64 gX, (.slice hF gO.length hG)] 25 (0, 0))) ∧ Aside0 (Kd.C k25 wc n5 ((rd_T25 g5 1).f2).length ((rd_T25 g5 1).f2)) ∧ Aside0 (Below w.heap.size w wc))
        case first =>
         have H := oW.1
         clear oW
         by_cases c66 : nM = true
         ·
          subst c66
          have H1 : (impl_pass.j1 iB (!nN) gB gM g5 gT gU gK gW gX gO) = some (r1, r2, r3, r4) := by rw [if_pos rfl] at H; exact H
          clear H
          have H := H1
          clear H1
          have H' := am H
          clear H
          go_wp2
          go_meet
          case rel => exact ⟨_, (!nN), rq, H', ⟨by have := kZ.1; first | omega | exact Nat.le_refl _⟩, vf g0, nf i3, nf l4, kf g1, kf g2, kf g8, kf gA, ⟨(Kd.V_reads' (v1 h3).1).2.2⟩, bw⟩
         ·
          replace c66 := Bool.eq_false_iff.mpr c66
          subst c66
          have H1 : (impl_pass.j1 iB true gB gM g5 gT gU gK gW gX gO) = some (r1, r2, r3, r4) := by rw [if_neg (show ¬ (false = true) by decide)] at H; exact H
          clear H
          have H := H1
          clear H1
          have H' := am H
          clear H
          go_wp2
          go_meet
          case rel => exact ⟨_, (true), rq, H', ⟨by have := kZ.1; first | omega | exact Nat.le_refl _⟩, vf g0, nf i3, nf l4, kf g1, kf g2, kf g8, kf gA, ⟨(Kd.V_reads' (v1 h3).1).2.2⟩, bw⟩
        case rest =>
         clear oW; (try clear c1); (try clear c2); (try clear c2b0); (try clear c2b1); (try clear p2); (try clear c3); (try clear p3); (try clear q3); (try clear hx3); (try clear qi3); (try clear c4); (try clear c5); (try clear c6); (try clear p6); (try clear c14); (try clear c14b0); (try clear c14b1); (try clear c15); (try clear c15b0); (try clear c15b1); (try clear c16); (try clear c16b0); (try clear c16b1); (try clear c20); (try clear c28); (try clear c32); (try clear c33); (try clear p33); (try clear q33); (try clear pO); (try clear pP); (try clear c34); (try clear p34); (try clear q34); (try clear u1); (try clear u2); (try clear c35); (try clear p35); (try clear q35); (try clear u3); (try clear u4); (try clear c40); (try clear c42); (try clear c42b0); (try clear c42b1); (try clear c43); (try clear c44); (try clear c44b0); (try clear c44b1); (try clear c45); (try clear c46); (try clear c46b0); (try clear c46b1); (try clear c49); (try clear c53); (try clear c54); (try clear c61); (try clear c62); (try clear c63); (try clear p64); (try clear c66); (try clear jJ); (try clear jK); (try clear jL); (try clear jS); (try clear jT); (try clear jU); (try clear jY); (try clear jZ); (try clear k0); (try clear k5); (try clear k6); (try clear k7); (try clear kB); (try clear kC); (try clear kD); (try clear kH); (try clear kI); (try clear kJ); (try clear lL); (try clear lM); (try clear lN); (try clear lU); (try clear lV); (try clear lW); (try clear m0); (try clear m1); (try clear m2); (try clear m9); (try clear mA); (try clear mB); (try clear l7); (try clear l8); (try clear l9); (try clear jM); (try clear jN); (try clear jO); (try clear jV); (try clear jW); (try clear jX); (try clear k1); (try clear k2); (try clear k4); (try clear k8); (try clear k9); (try clear kA); (try clear kE); (try clear kF); (try clear kG); (try clear kK); (try clear kL); (try clear kM); (try clear lO); (try clear lP); (try clear lQ); (try clear lX); (try clear lY); (try clear lZ); (try clear m3); (try clear m4); (try clear m5); (try clear mC); (try clear mD); (try clear mE); (try clear lA); (try clear lB); (try clear lC); (try clear i7); (try clear i8); (try clear hY); (try clear iG); (try clear iH); (try clear i9); (try clear iI); (try clear iJ); (try clear iA); (try clear p2); (try clear p3); (try clear p33); (try clear lD); (try clear mS); (try clear mU); (try clear p6); (try clear q3); (try clear q33); (try clear lE); (try clear mT); (try clear mV)
         obtain ⟨kq, kS, rfl, HA, nO, g0, g3, g4, g1, g2, g8, gA, h4, HB⟩ := hcut
         cases kq with
         | zero => exact absurd HA.1 (by simp [impl_pass.j1])
         | succ mW =>
          have H := HA.1
          clear HA
          simp only [impl_pass.j1] at H
          by_cases c67 : kS = true
          ·
           subst c67
           have H1 : (some (0, 0, ([] : List (S25)), false)) = some (r1, r2, r3, r4) := by rw [if_pos rfl] at H; exact H
           clear H
           have H := H1
           clear H1
           simp only [Option.some.injEq, Prod.mk.injEq] at H
           obtain ⟨rfl, rfl, rfl, rfl⟩ := H
           have wS := gD.1; have wT := g7.1; have wU := hI.1; have wV := hJ.1; have wW := hL.1; have wX := hM.1; obtain ⟨nP, nQ, nR, nS, nT, nU⟩ := cs3 g2
           go_wp2
           refine bodyPost_ret (results_ct rfl _ _ g6 25 #[.int .i64 0, .int .i64 0, .slice none 0 0] (0, 0) _ rfl (kf g2).1 Try.underlying25 rfl (by kernel_rfl)) rfl ?_
           exact ⟨_, by first | rfl | (simp [errW_none, errW_some] <;> rfl) | (simp [*, errW_none, errW_some] <;> rfl), by first | exact Kd.R_nil _ _ _ _ _ | exact Kd.N_nil _ _ _ _ _ | exact Kd.V_nil _ _ _ _ _ | exact Kd.Q_nil _ _ _ _ _ | exact Kd.S_nil _ _ _ _ _, by repeat (first | (with_reducible first | exact HB.1 | apply below_alloc | apply pw_below_drewN | apply below_drew1 | refine below_set ?_ i4.1 | refine below_set ?_ i5.1 | refine below_set ?_ lT.1 | refine below_set ?_ m8.1) | exact HB.1)⟩
          ·
           replace c67 := Bool.eq_false_iff.mpr c67
           subst c67
           have H1 : (if gB = 4 then (if 0 < (g5.length : Int) then ((impl_ticksOf.f mW ((rd_T25 g5 0).f0) ((rd_T25 g5 0).f1) ((rd_T25 g5 0).f2)).bind fun gE => (impl_pass.l0 mW gE (gE.length : Int) 0 gB gM g5 gT gU gK gW gX gO)) else (none)) else (some (gB, 0, (([(⟨gT, gU, gK⟩ : S25), (⟨gW, gX, gO⟩ : S25)] : List (S25))), true))) = some (r1, r2, r3, r4) := by rw [if_neg (show ¬ (false = true) by decide)] at H; exact H
           clear H
           have H := H1
           clear H1
           by_cases c72 : gB = 4
           ·
            rw [if_pos c72] at H; have c72b0 : (gB == 4) = true := beq_iff_eq.mpr c72; have c72b1 : (gB != 4) = false := bne_eq_false_iff_eq.mpr c72; clear c72
            by_cases c73 : 0 < (g5.length : Int)
            ·
             rw [if_pos c73] at H; have c73b0 : decide (0 < (g5.length : Int)) = true := decide_eq_true c73; have c73b1 : decide (0 < g5.length) = true := decide_eq_true (by omega); clear c73
             replace H := Option.bind_eq_some_iff.mp H
             obtain ⟨gE, pT, H⟩ := H
             replace H : (impl_pass.l0 mW gE (gE.length : Int) 0 gB gM g5 gT gU gK gW gX gO) = some (r1, r2, r3, r4) := H
             have A74 := am pT
             clear pT
             have H' := am H
             clear H; have wY := g7.1; have wZ := gD.1; have x0 := h7.1; have x1 := h8.1; have x2 := h9.1; have x3 := hA.1; obtain ⟨nV, nW, nX, nY, nZ, o0⟩ := cs3 g1; have n7 : 0 ≤ (0 : Int) := (by omega); have n8 : 0 < (g5.length : Int) := od
             obtain ⟨pU, p7, p8, u5, j3, j4, iK, mF, mG⟩ := at_T25 (Kd.V_reads' g0.1).2.2 0 n7 n8
             obtain rfl : iC = pU := (by injection u5)
             obtain ⟨x4, p9, pA, n9⟩ := Kd.V_get g0.1 z25 0 n7 (by first | exact n8 | exact od | (have e_ := (Kd.V_reads' g0.1).1; omega))
             obtain ⟨tN, tO, rfl, kT, kU⟩ := k25_openF pA
             have j5 := n9 2 _ rfl; rw [add_field _ _ 2 (by omega)] at j5; replace j5 := Option.some.inj (j5.symm.trans iK); injection j5 with hva_ hvn_ hvc_; rw [hva_] at kU; rw [hvc_] at kT; have iL := am (show Kd.V k25 25 _ w.heap.size _ _ ((rd_T25 g5 0).f2) from Kd.V_mk kT kU); clear hva_ hvn_ hvc_ kU kT n9 p9
             have x5 : (0 < g5.length) = True := eq_true (by omega)
             (try rw [tz] at j3)
             (try rw [z3] at j3)
             (try rw [Addr.add_zero'] at j3)
             (try rw [tz] at j4)
             (try rw [z3] at j4)
             (try rw [Addr.add_zero'] at j4)
             (try rw [tz] at iK)
             (try rw [z3] at iK)
             (try rw [Addr.add_zero'] at iK)
             have mH := am mG; have tP := am mF; clear mG mF; replace n7 := eq_true n7; replace n8 := eq_true n8
             go_wp2_with (first | ((with_reducible refine gate_callee (f := 43) rfl ?_); refine gl (some 70) Try.func43 #[.agg #[.int .i64 ((rd_T25 g5 0).f0), .int .i64 ((rd_T25 g5 0).f1), .slice p7 ((rd_T25 g5 0).f2).length p8]] ?_; (with_reducible refine (impl_ticksOf.calls mW ((rd_T25 g5 0).f0) ((rd_T25 g5 0).f1) (fun k_ => ((gG k_ ∨ w.heap.size ≤ k_) ∧ (some k_ ≠ (.slice h0 gK.length h1 : Value).ownBlock ∧ (some k_ ≠ (.slice hF gO.length hG : Value).ownBlock ∧ (k_ ≠ gC ∧ (k_ ≠ g6 ∧ (k_ ≠ gJ ∧ k_ ≠ gN))))))) _ _ ((rd_T25 g5 0).f2) gE _ ?side1 A74.1).mono ?_); (case side1 => first | exact iL.1 | exact (vg iL).1 | exact (nf iL).1); rintro e w79 ⟨y2, rfl, ho0, hb⟩; refine ⟨_, rfl, ?_⟩; replace g0 := ve g0 hb; replace iL := ve iL hb; have oC := nm HB ho0 (fun k_ => (gG k_ ∨ w.heap.size ≤ k_) ∧ some k_ ≠ (.slice h0 gK.length h1 : Value).ownBlock ∧ some k_ ≠ (.slice hF gO.length hG : Value).ownBlock ∧ k_ ≠ gC ∧ k_ ≠ g6 ∧ k_ ≠ gJ ∧ k_ ≠ gN) (fun k_ hk_ => ⟨Or.elim hk_ (fun hs_ => hs_.1) (fun hn_ => (.inr (zt HB hn_))), Or.elim hk_ (fun hs_ => hs_.2.1) (fun hn_ => (fr g3 k_ hn_)), Or.elim hk_ (fun hs_ => hs_.2.2.1) (fun hn_ => (fr g4 k_ hn_)), Or.elim hk_ (fun hs_ => hs_.2.2.2.1) (fun hn_ => (fb g1 k_ hn_)), Or.elim hk_ (fun hs_ => hs_.2.2.2.2.1) (fun hn_ => (fb g2 k_ hn_)), Or.elim hk_ (fun hs_ => hs_.2.2.2.2.2.1) (fun hn_ => (fb g8 k_ hn_)), Or.elim hk_ (fun hs_ => hs_.2.2.2.2.2.2) (fun hn_ => (fb gA k_ hn_))⟩); replace g3 := ne g3 hb; replace g4 := ne g4 hb; replace g1 := kb g1 hb; replace g2 := kb g2 hb; replace g8 := kb g8 hb; replace gA := kb gA hb; replace h4 := cb h4 hb; replace mH := cb mH hb; replace HB := bs HB hb; clear hb ho0; obtain ⟨j7, iE, rfl⟩ := Kd.N_slice oC.1))
             go_loopg [72] mW (fun kq v72 w' => ∃ (g9 : Int) (hN : Int) (hO : Int), v72 = .int .i64 g9 ∧ Aside0 (impl_pass.l0 kq gE (gE.length : Int) g9 gB gM g5 gT gU gK gW gX gO = some (r1, r2, r3, r4)) ∧ Aside0 (kq ≤ mW) ∧ Aside0 (Kd.N k44 44 w' w.heap.size (fun k_ => (gG k_ ∨ w.heap.size ≤ k_) ∧ some k_ ≠ ((.slice h0 gK.length h1) : Value).ownBlock ∧ some k_ ≠ ((.slice hF gO.length hG) : Value).ownBlock ∧ k_ ≠ gC ∧ k_ ≠ g6 ∧ k_ ≠ gJ ∧ k_ ≠ gN) (.slice j7 gE.length iE) gE) ∧ Aside0 (Kd.V k25 25 w' w.heap.size (fun k_ => (gG k_ ∨ w.heap.size ≤ k_) ∧ some k_ ≠ ((.slice j7 gE.length iE) : Value).ownBlock ∧ some k_ ≠ ((.slice h0 gK.length h1) : Value).ownBlock ∧ some k_ ≠ ((.slice hF gO.length hG) : Value).ownBlock ∧ k_ ≠ gC ∧ k_ ≠ g6 ∧ k_ ≠ gJ ∧ k_ ≠ gN) (.slice (some iC) g5.length hH) g5) ∧ Aside0 (Kd.N k25 25 w' w.heap.size (fun k_ => (gG k_ ∨ w.heap.size ≤ k_) ∧ some k_ ≠ ((.slice j7 gE.length iE) : Value).ownBlock ∧ some k_ ≠ ((.slice hF gO.length hG) : Value).ownBlock ∧ k_ ≠ gC ∧ k_ ≠ g6 ∧ k_ ≠ gJ ∧ k_ ≠ gN) (.slice h0 gK.length h1) gK) ∧ Aside0 (Kd.N k25 25 w' w.heap.size (fun k_ => (gG k_ ∨ w.heap.size ≤ k_) ∧ some k_ ≠ ((.slice j7 gE.length iE) : Value).ownBlock ∧ some k_ ≠ ((.slice h0 gK.length h1) : Value).ownBlock ∧ k_ ≠ gC ∧ k_ ≠ g6 ∧ k_ ≠ gJ ∧ k_ ≠ gN) (.slice hF gO.length hG) gO) ∧ Aside0 (w'.heap[gC]? = some (.cells #[.int .i64 gB, .int .i64 gM, (.slice (some iC) g5.length hH)] 25 (0, 0))) ∧ Aside0 (w'.heap[g6]? = some (.cells #[.int .i64 hN, .int .i64 hO, (.slice none 0 0)] 25 (0, 0))) ∧ Aside0 (w'.heap[gJ]? = some (.cells #[.int .i64 gT, .int .i64 gU, (.slice h0 gK.length h1)] 25 (0, 0))) ∧ Aside0 (w'.heap[gN]? = some (.cells #[.int .i64 gW, .int .i64 gX, (.slice hF gO.length hG)] 25 (0, 0))) ∧ Aside0 (Below w.heap.size w w'))
             case atStart => exact ⟨(0), (0), (0), rq, H', ⟨Nat.le_refl _⟩, nf oC, vf g0, nf g3, nf g4, kf g1, kf g2, kf g8, kf gA, bw⟩
             case round =>
              clear H'; (try clear c1); (try clear c2); (try clear c2b0); (try clear c2b1); (try clear p2); (try clear c3); (try clear p3); (try clear q3); (try clear hx3); (try clear qi3); (try clear c4); (try clear c5); (try clear c6); (try clear p6); (try clear c7); (try clear c14); (try clear c14b0); (try clear c14b1); (try clear c15); (try clear c15b0); (try clear c15b1); (try clear c16); (try clear c16b0); (try clear c16b1); (try clear c20); (try clear c28); (try clear c32); (try clear c33); (try clear p33); (try clear q33); (try clear pO); (try clear pP); (try clear c34); (try clear p34); (try clear q34); (try clear u1); (try clear u2); (try clear c35); (try clear p35); (try clear q35); (try clear u3); (try clear u4); (try clear c36); (try clear p36); (try clear q36); (try clear y3); (try clear y4); (try clear c40); (try clear c42); (try clear c42b0); (try clear c42b1); (try clear c43); (try clear c44); (try clear c44b0); (try clear c44b1); (try clear c45); (try clear c46); (try clear c46b0); (try clear c46b1); (try clear c49); (try clear c53); (try clear c54); (try clear c61); (try clear c62); (try clear c63); (try clear p64); (try clear c66); (try clear c67); (try clear c68); (try clear c69); (try clear c70); (try clear c72); (try clear c72b0); (try clear c72b1); (try clear c73); (try clear c73b0); (try clear c73b1); (try clear c75); (try clear c76); (try clear c77); (try clear jJ); (try clear jK); (try clear jL); (try clear jS); (try clear jT); (try clear jU); (try clear jY); (try clear jZ); (try clear k0); (try clear k5); (try clear k6); (try clear k7); (try clear kB); (try clear kC); (try clear kD); (try clear kH); (try clear kI); (try clear kJ); (try clear lL); (try clear lM); (try clear lN); (try clear lU); (try clear lV); (try clear lW); (try clear m0); (try clear m1); (try clear m2); (try clear m9); (try clear mA); (try clear mB); (try clear nP); (try clear nQ); (try clear nR); (try clear nV); (try clear nW); (try clear nX); (try clear l7); (try clear l8); (try clear l9); (try clear jM); (try clear jN); (try clear jO); (try clear jV); (try clear jW); (try clear jX); (try clear k1); (try clear k2); (try clear k4); (try clear k8); (try clear k9); (try clear kA); (try clear kE); (try clear kF); (try clear kG); (try clear kK); (try clear kL); (try clear kM); (try clear lO); (try clear lP); (try clear lQ); (try clear lX); (try clear lY); (try clear lZ); (try clear m3); (try clear m4); (try clear m5); (try clear mC); (try clear mD); (try clear mE); (try clear nS); (try clear nT); (try clear nU); (try clear nY); (try clear nZ); (try clear o0); (try clear lA); (try clear lB); (try clear lC); (try clear i7); (try clear i8); (try clear hY); (try clear iG); (try clear iH); (try clear i9); (try clear iI); (try clear iJ); (try clear iA); (try clear j3); (try clear j4); (try clear iK); (try clear p2); (try clear p3); (try clear p33); (try clear lD); (try clear p34); (try clear mS); (try clear p35); (try clear mU); (try clear n7); (try clear p6); (try clear p64); (try clear q3); (try clear q33); (try clear lE); (try clear q34); (try clear mT); (try clear q35); (try clear mV); (try clear n8); (try clear gH); (try clear g0); (try clear g3); (try clear g4); (try clear g1); (try clear g2); (try clear g8); (try clear gA); (try clear HB)
              obtain ⟨g9, hN, hO, rfl, HA, HK3, gH, g0, g3, g4, g1, g2, g8, gA, HB⟩ := hrel
              cases gk with
              | zero => exact absurd HA.1 (by simp [impl_pass.l0])
              | succ k3 =>
               have H := HA.1
               clear HA
               simp only [impl_pass.l0] at H
               by_cases c81 : g9 < (gE.length : Int)
               ·
                rw [if_pos c81] at H; have c81b0 : decide (g9 < (gE.length : Int)) = true := decide_eq_true c81; clear c81
                by_cases c82 : 0 ≤ g9
                ·
                 rw [if_pos c82] at H; have c82b0 : decide (0 ≤ g9) = true := decide_eq_true c82; clear c82
                 by_cases c83 : g9 < (gE.length : Int)
                 ·
                  rw [if_pos c83] at H; have c83b0 : decide (g9 < (gE.length : Int)) = true := decide_eq_true c83; clear c83
                  by_cases c84 : ((rd_T44 gE g9).f0) = 0
                  ·
                   rw [if_pos c84] at H; have c84b0 : (((rd_T44 gE g9).f0) == 0) = true := beq_iff_eq.mpr c84; have c84b1 : (((rd_T44 gE g9).f0) != 0) = false := bne_eq_false_iff_eq.mpr c84; clear c84
                   have H' := am H
                   clear H; have iM : 0 ≤ (g9 : Int) := od; have iN : g9 < (gE.length : Int) := od
                   obtain ⟨jI, iU, iV, nA, mI, mJ, mK, iO, hC, hD⟩ := at_T44 (Kd.N_reads' gH.1).2.2 g9 iM iN
                   cases nA
                   obtain ⟨oD, j8, j9, i6⟩ := Kd.N_get gH.1 z44 g9 iM (by first | exact iN | exact od | (have e_ := (Kd.N_reads' gH.1).1; omega))
                   obtain ⟨mL, mM, rfl, gY, gZ⟩ := k44_openF j9
                   have gQ := i6 3 _ rfl; rw [add_field _ _ 3 (by omega)] at gQ; replace gQ := Option.some.inj (gQ.symm.trans iO); injection gQ with hva_ hvn_ hvc_; rw [hva_] at gZ; rw [hvc_] at gY; have gF := am (show Kd.V k25 25 _ w.heap.size _ _ ((rd_T44 gE g9).f1.f2) from Kd.V_mk gY gZ); clear hva_ hvn_ hvc_ gZ gY i6 j8; have hE := am hD; have mN := am hC; clear hD hC; replace iM := eq_true iM; replace iN := eq_true iN
                   go_wp2_with (first | ((with_reducible refine gate_dst (N := 10) rfl ?_); refine bx (cs := #[.int .i64 0, .int .i64 0, .int .i64 0, .slice none 0 0]) (t := 44) fun h2 hg w85 hbox hb => ?_; replace gH := nb gH hg hb; replace g0 := vb g0 hg hb; replace g3 := nb g3 hg hb; replace g4 := nb g4 hg hb; replace gF := vb gF hg hb; replace hE := cb hE hb; have gP := am (hbox); have oE := bz HB hg; have nB := bz HB hg; replace HB := bs HB hb; have hP := nl g1 hg; have hQ := ng g1 hg; replace g1 := kb g1 hb; have hR := nl g2 hg; have hS := ng g2 hg; replace g2 := kb g2 hb; have hT := nl g8 hg; have hU := ng g8 hg; replace g8 := kb g8 hb; have hV := nl gA hg; have hW := ng gA hg; replace gA := kb gA hb; clear hb hbox hg; have x6 := hQ.1; have x7 := hP.1; have x8 := hS.1; have x9 := hR.1; have xA := hU.1; have xB := hT.1; have xC := hW.1; have xD := hV.1; obtain ⟨tQ, tR, tS, tT, tU, tV, tW, tX⟩ := cs4 gP))
                   go_roundg k3
                   case measure => have := kZ.1; have := nO.1; have := HK3.1; omega
                   case rel => exact ⟨(wrap64 (g9 + 1)), (hN), (hO), rq, H', ⟨by have := kZ.1; have := nO.1; have := HK3.1; omega⟩, nf gH, vf g0, nf g3, nf g4, kf g1, kf g2, kf g8, kf gA, bw⟩
                  ·
                   rw [if_neg c84] at H; have c84b0 : (((rd_T44 gE g9).f0) == 0) = false := beq_eq_false_iff_ne.mpr c84; have c84b1 : (((rd_T44 gE g9).f0) != 0) = true := bne_iff_ne.mpr c84
                   by_cases c91 : 1 < (g5.length : Int)
                   ·
                    rw [if_pos c91] at H; have c91b0 : decide (1 < (g5.length : Int)) = true := decide_eq_true c91; have c91b1 : decide (1 < g5.length) = true := decide_eq_true (by omega); clear c91
                    replace H := Option.bind_eq_some_iff.mp H
                    obtain ⟨nC, pV, H⟩ := H
                    replace H : ((any63.f nC ((rd_T44 gE g9).f0)).bind fun o1 => (if o1 = true then (some (0, 0, ([] : List (S25)), false)) else (impl_pass.l0 k3 gE (gE.length : Int) (wrap64 (g9 + 1)) gB gM g5 gT gU gK gW gX gO))) = some (r1, r2, r3, r4) := H
                    have A92 := am pV
                    clear pV
                    replace H := Option.bind_eq_some_iff.mp H
                    obtain ⟨o1, pW, H⟩ := H
                    replace H : (if o1 = true then (some (0, 0, ([] : List (S25)), false)) else (impl_pass.l0 k3 gE (gE.length : Int) (wrap64 (g9 + 1)) gB gM g5 gT gU gK gW gX gO)) = some (r1, r2, r3, r4) := H
                    have A93 := am pW
                    clear pW
                    by_cases c94 : o1 = true
                    ·
                     subst c94
                     have H1 : (some (0, 0, ([] : List (S25)), false)) = some (r1, r2, r3, r4) := by rw [if_pos rfl] at H; exact H
                     clear H
                     have H := H1
                     clear H1
                     simp only [Option.some.injEq, Prod.mk.injEq] at H
                     obtain ⟨rfl, rfl, rfl, rfl⟩ := H
                     have iM : 0 ≤ (g9 : Int) := od; have iN : g9 < (gE.length : Int) := od
                     obtain ⟨jI, iU, iV, nA, mI, mJ, mK, iO, hC, hD⟩ := at_T44 (Kd.N_reads' gH.1).2.2 g9 iM iN
                     cases nA
                     obtain ⟨oD, j8, j9, i6⟩ := Kd.N_get gH.1 z44 g9 iM (by first | exact iN | exact od | (have e_ := (Kd.N_reads' gH.1).1; omega))
                     obtain ⟨mL, mM, rfl, gY, gZ⟩ := k44_openF j9
                     have gQ := i6 3 _ rfl; rw [add_field _ _ 3 (by omega)] at gQ; replace gQ := Option.some.inj (gQ.symm.trans iO); injection gQ with hva_ hvn_ hvc_; rw [hva_] at gZ; rw [hvc_] at gY; have gF := am (show Kd.V k25 25 _ w.heap.size _ _ ((rd_T44 gE g9).f1.f2) from Kd.V_mk gY gZ); clear hva_ hvn_ hvc_ gZ gY i6 j8; have hE := am hD; have mN := am hC; clear hD hC; replace iM := eq_true iM; replace iN := eq_true iN
                     go_wp2_with (first | ((with_reducible refine gate_dst (N := 10) rfl ?_); refine bx (cs := #[.int .i64 0, .int .i64 0, .int .i64 0, .slice none 0 0]) (t := 44) fun h2 hg w95 hbox hb => ?_; replace gH := nb gH hg hb; replace g0 := vb g0 hg hb; replace g3 := nb g3 hg hb; replace g4 := nb g4 hg hb; replace gF := vb gF hg hb; replace hE := cb hE hb; have gP := am (hbox); have oE := bz HB hg; have nB := bz HB hg; replace HB := bs HB hb; have hP := nl g1 hg; have hQ := ng g1 hg; replace g1 := kb g1 hb; have hR := nl g2 hg; have hS := ng g2 hg; replace g2 := kb g2 hb; have hT := nl g8 hg; have hU := ng g8 hg; replace g8 := kb g8 hb; have hV := nl gA hg; have hW := ng gA hg; replace gA := kb gA hb; clear hb hbox hg; have xE := hQ.1; have xF := hP.1; have xG := hS.1; have xH := hR.1; have xI := hU.1; have xJ := hT.1; have xK := hW.1; have xL := hV.1; obtain ⟨pX, pY, pZ, q0, q1, q2, q4, q5⟩ := cs4 gP) | ((with_reducible refine gate_store (t := 44) (p := 10) rfl ?_); refine se ((((w95.setCell ⟨h2, 0, none⟩ (.int .i64 ((rd_T44 gE g9).f0))).setCell ⟨h2, 1, none⟩ (.int .i64 ((rd_T44 gE g9).f1.f0))).setCell ⟨h2, 2, none⟩ (.int .i64 ((rd_T44 gE g9).f1.f1))).setCell ⟨h2, 3, none⟩ (.slice iU ((rd_T44 gE g9).f1.f2).length iV)) fun y5 hw => ?_; replace gH := nh gH hw; replace g0 := vh g0 hw; replace g3 := nh g3 hw; replace g4 := nh g4 hw; replace gF := vh gF hw; replace g1 := kh g1 hw; replace g2 := kh g2 hw; replace g8 := kh g8 hw; replace gA := kh gA hw; replace gP := kp gP hw #[.int .i64 ((rd_T44 gE g9).f0), .int .i64 ((rd_T44 gE g9).f1.f0), .int .i64 ((rd_T44 gE g9).f1.f1), .slice iU ((rd_T44 gE g9).f1.f2).length iV]; replace HB := bh HB hw; clear hw; obtain ⟨q6, q7, q8, q9, qA, qB, qC, qD⟩ := cs4 gP; have u6 := g7.1; have u7 := gD.1; have u8 := h7.1; have u9 := h8.1; have uA := h9.1; have uB := hA.1; obtain ⟨qE, qF, qG, qH, qI, qJ⟩ := cs3 g1; have kV : 0 ≤ (1 : Int) := (by omega); have kW : 1 < (g5.length : Int) := od; obtain ⟨nD, pB, pC, pD, hZ, i0, h5, iP, iQ⟩ := at_T25 (Kd.V_reads' g0.1).2.2 1 kV kW; obtain rfl : iC = nD := (by injection pD); obtain ⟨qK, lF, lG, jA⟩ := Kd.V_get g0.1 z25 1 kV (by first | exact kW | exact od | (have e_ := (Kd.V_reads' g0.1).1; omega)); obtain ⟨o2, o3, rfl, i1, i2⟩ := k25_openF lG; have h6 := jA 2 _ rfl; rw [add_field _ _ 2 (by omega)] at h6; replace h6 := Option.some.inj (h6.symm.trans h5); injection h6 with hva_ hvn_ hvc_; rw [hva_] at i2; rw [hvc_] at i1; have gL := am (show Kd.V k25 25 _ w.heap.size _ _ ((rd_T25 g5 1).f2) from Kd.V_mk i1 i2); clear hva_ hvn_ hvc_ i2 i1 jA lF; (try simp only [show (1 : Int).toNat = 1 from rfl, Nat.reduceMul, Nat.reduceEqDiff, Go.Addr.add, ↓reduceIte] at hZ); (try simp only [show (1 : Int).toNat = 1 from rfl, Nat.reduceMul, Nat.reduceEqDiff, Go.Addr.add, ↓reduceIte] at i0); (try simp only [show (1 : Int).toNat = 1 from rfl, Nat.reduceMul, Nat.reduceEqDiff, Go.Addr.add, ↓reduceIte] at h5); have qL : (1 < g5.length) = True := eq_true (by omega); (try rw [show ((1 : Int)).toNat = 1 from rfl] at hZ); (try rw [show 1 * 3 = 3 from rfl] at hZ); (try rw [show ((1 : Int)).toNat = 1 from rfl] at i0); (try rw [show 1 * 3 = 3 from rfl] at i0); (try rw [show ((1 : Int)).toNat = 1 from rfl] at h5); (try rw [show 1 * 3 = 3 from rfl] at h5); have gS := am iQ; have o4 := am iP; clear iQ iP; replace kV := eq_true kV; replace kW := eq_true kW) | (go_at_call 43; (with_reducible refine (impl_ticksOf.calls k3 ((rd_T25 g5 1).f0) ((rd_T25 g5 1).f1) (fun k_ => ((gG k_ ∨ w.heap.size ≤ k_) ∧ (some k_ ≠ (.slice (some jI) gE.length iE : Value).ownBlock ∧ (some k_ ≠ (.slice h0 gK.length h1 : Value).ownBlock ∧ (some k_ ≠ (.slice hF gO.length hG : Value).ownBlock ∧ (k_ ≠ gC ∧ (k_ ≠ g6 ∧ (k_ ≠ gJ ∧ (k_ ≠ gN ∧ k_ ≠ h2))))))))) _ _ ((rd_T25 g5 1).f2) nC _ ?side1 A92.1).mono ?_); (case side1 => first | exact gL.1 | exact (vg gL).1 | exact (nf gL).1); rintro e y6 ⟨uC, rfl, ho0, hb⟩; have n0_ := ne gH hb; have n1_ := ve g0 hb; have n2_ := ne g3 hb; have n3_ := ne g4 hb; have n4_ := ve gF hb; have n5_ := ve gL hb; have n6_ := nm HB ho0 (fun k_ => (gG k_ ∨ w.heap.size ≤ k_) ∧ some k_ ≠ (.slice (some jI) gE.length iE : Value).ownBlock ∧ some k_ ≠ (.slice h0 gK.length h1 : Value).ownBlock ∧ some k_ ≠ (.slice hF gO.length hG : Value).ownBlock ∧ k_ ≠ gC ∧ k_ ≠ g6 ∧ k_ ≠ gJ ∧ k_ ≠ gN ∧ k_ ≠ h2) (fun k_ hk_ => ⟨Or.elim hk_ (fun hs_ => hs_.1) (fun hn_ => (.inr (zt HB hn_))), Or.elim hk_ (fun hs_ => hs_.2.1) (fun hn_ => (fr gH k_ hn_)), Or.elim hk_ (fun hs_ => hs_.2.2.1) (fun hn_ => (fr g3 k_ hn_)), Or.elim hk_ (fun hs_ => hs_.2.2.2.1) (fun hn_ => (fr g4 k_ hn_)), Or.elim hk_ (fun hs_ => hs_.2.2.2.2.1) (fun hn_ => (fb g1 k_ hn_)), Or.elim hk_ (fun hs_ => hs_.2.2.2.2.2.1) (fun hn_ => (fb g2 k_ hn_)), Or.elim hk_ (fun hs_ => hs_.2.2.2.2.2.2.1) (fun hn_ => (fb g8 k_ hn_)), Or.elim hk_ (fun hs_ => hs_.2.2.2.2.2.2.2.1) (fun hn_ => (fb gA k_ hn_)), Or.elim hk_ (fun hs_ => hs_.2.2.2.2.2.2.2.2) (fun hn_ => (fb gP k_ hn_))⟩); have n7_ := kb g1 hb; have n8_ := kb g2 hb; have n9_ := kb g8 hb; have jB := kb gA hb; have jC := kb gP hb; have jD := cb gS hb; have jE := bs HB hb; clear gH g0 g3 g4 gF gL g1 g2 g8 gA gP gS HB; have gH := n0_; have g0 := n1_; have g3 := n2_; have g4 := n3_; have gF := n4_; have gL := n5_; have hX := n6_; have g1 := n7_; have g2 := n8_; have g8 := n9_; have gA := jB; have gP := jC; have gS := jD; have HB := jE; clear n0_ n1_ n2_ n3_ n4_ n5_ n6_ n7_ n8_ n9_ jB jC jD jE hb ho0; obtain ⟨xM, xN, rfl⟩ := Kd.N_slice hX.1) | (go_at_call 62; (with_reducible refine (any63.calls _ _ nC ((rd_T44 gE g9).f0) h2 true _ ?side1 ?side2 ?side3 A93.1).mono ?_); (case side3 => exact (blk_cell gP.1 0).trans rfl); (case side1 => exact cq (Kd.N_reads' hX.1).2.2); (case side2 => exact (Kd.N_reads' hX.1).2.1); rintro e y7 ⟨rfl, hb⟩; have n0_ := nw gH hb; have n1_ := vw g0 hb; have n2_ := nw g3 hb; have n3_ := nw g4 hb; have n4_ := vw gF hb; have n5_ := vw gL hb; have n6_ := nw hX hb; have n7_ := kb g1 hb; have n8_ := kb g2 hb; have n9_ := kb g8 hb; have jB := kb gA hb; have jC := kb gP hb; have jD := cb gS hb; have jE := bs HB hb; clear gH g0 g3 g4 gF gL hX g1 g2 g8 gA gP gS HB; have gH := n0_; have g0 := n1_; have g3 := n2_; have g4 := n3_; have gF := n4_; have gL := n5_; have hX := n6_; have g1 := n7_; have g2 := n8_; have g8 := n9_; have gA := jB; have gP := jC; have gS := jD; have HB := jE; clear n0_ n1_ n2_ n3_ n4_ n5_ n6_ n7_ n8_ n9_ jB jC jD jE hb; have uD := hI.1; have uE := hJ.1; have uF := hL.1; have uG := hM.1; obtain ⟨qM, qN, qO, qP, qQ, qR⟩ := cs3 g2))
                     refine bodyPost_ret (results_ct rfl _ _ g6 25 #[.int .i64 0, .int .i64 0, .slice none 0 0] (0, 0) _ rfl (kf g2).1 Try.underlying25 rfl (by kernel_rfl)) rfl ?_
                     exact ⟨_, by first | rfl | (simp [errW_none, errW_some] <;> rfl) | (simp [*, errW_none, errW_some] <;> rfl), by first | exact Kd.R_nil _ _ _ _ _ | exact Kd.N_nil _ _ _ _ _ | exact Kd.V_nil _ _ _ _ _ | exact Kd.Q_nil _ _ _ _ _ | exact Kd.S_nil _ _ _ _ _, by repeat (first | (with_reducible first | exact HB.1 | apply below_alloc | apply pw_below_drewN | apply below_drew1 | refine below_set ?_ i4.1 | refine below_set ?_ i5.1 | refine below_set ?_ lT.1 | refine below_set ?_ m8.1 | refine below_set ?_ nB.1) | exact HB.1)⟩
                    ·
                     replace c94 := Bool.eq_false_iff.mpr c94
                     subst c94
                     have H1 : (impl_pass.l0 k3 gE (gE.length : Int) (wrap64 (g9 + 1)) gB gM g5 gT gU gK gW gX gO) = some (r1, r2, r3, r4) := by rw [if_neg (show ¬ (false = true) by decide)] at H; exact H
                     clear H
                     have H := H1
                     clear H1
                     have H' := am H
                     clear H; have iM : 0 ≤ (g9 : Int) := od; have iN : g9 < (gE.length : Int) := od
                     obtain ⟨jI, iU, iV, nA, mI, mJ, mK, iO, hC, hD⟩ := at_T44 (Kd.N_reads' gH.1).2.2 g9 iM iN
                     cases nA
                     obtain ⟨oD, j8, j9, i6⟩ := Kd.N_get gH.1 z44 g9 iM (by first | exact iN | exact od | (have e_ := (Kd.N_reads' gH.1).1; omega))
                     obtain ⟨mL, mM, rfl, gY, gZ⟩ := k44_openF j9
                     have gQ := i6 3 _ rfl; rw [add_field _ _ 3 (by omega)] at gQ; replace gQ := Option.some.inj (gQ.symm.trans iO); injection gQ with hva_ hvn_ hvc_; rw [hva_] at gZ; rw [hvc_] at gY; have gF := am (show Kd.V k25 25 _ w.heap.size _ _ ((rd_T44 gE g9).f1.f2) from Kd.V_mk gY gZ); clear hva_ hvn_ hvc_ gZ gY i6 j8; have hE := am hD; have mN := am hC; clear hD hC; replace iM := eq_true iM; replace iN := eq_true iN
                     go_wp2_with (first | ((with_reducible refine gate_dst (N := 10) rfl ?_); refine bx (cs := #[.int .i64 0, .int .i64 0, .int .i64 0, .slice none 0 0]) (t := 44) fun h2 hg uH hbox hb => ?_; replace gH := nb gH hg hb; replace g0 := vb g0 hg hb; replace g3 := nb g3 hg hb; replace g4 := nb g4 hg hb; replace gF := vb gF hg hb; replace hE := cb hE hb; have gP := am (hbox); have oE := bz HB hg; have nB := bz HB hg; replace HB := bs HB hb; have hP := nl g1 hg; have hQ := ng g1 hg; replace g1 := kb g1 hb; have hR := nl g2 hg; have hS := ng g2 hg; replace g2 := kb g2 hb; have hT := nl g8 hg; have hU := ng g8 hg; replace g8 := kb g8 hb; have hV := nl gA hg; have hW := ng gA hg; replace gA := kb gA hb; clear hb hbox hg; have uI := hQ.1; have uJ := hP.1; have uK := hS.1; have uL := hR.1; have uM := hU.1; have uN := hT.1; have uO := hW.1; have uP := hV.1; obtain ⟨qS, qT, qU, qV, qW, qX, qY, qZ⟩ := cs4 gP) | ((with_reducible refine gate_store (t := 44) (p := 10) rfl ?_); refine se ((((uH.setCell ⟨h2, 0, none⟩ (.int .i64 ((rd_T44 gE g9).f0))).setCell ⟨h2, 1, none⟩ (.int .i64 ((rd_T44 gE g9).f1.f0))).setCell ⟨h2, 2, none⟩ (.int .i64 ((rd_T44 gE g9).f1.f1))).setCell ⟨h2, 3, none⟩ (.slice iU ((rd_T44 gE g9).f1.f2).length iV)) fun y8 hw => ?_; replace gH := nh gH hw; replace g0 := vh g0 hw; replace g3 := nh g3 hw; replace g4 := nh g4 hw; replace gF := vh gF hw; replace g1 := kh g1 hw; replace g2 := kh g2 hw; replace g8 := kh g8 hw; replace gA := kh gA hw; replace gP := kp gP hw #[.int .i64 ((rd_T44 gE g9).f0), .int .i64 ((rd_T44 gE g9).f1.f0), .int .i64 ((rd_T44 gE g9).f1.f1), .slice iU ((rd_T44 gE g9).f1.f2).length iV]; replace HB := bh HB hw; clear hw; obtain ⟨r0, r5, r6, r7, r8, r9, rA, rB⟩ := cs4 gP; have uQ := g7.1; have uR := gD.1; have uS := h7.1; have uT := h8.1; have uU := h9.1; have uV := hA.1; obtain ⟨rC, rD, rE, rF, rG, rH⟩ := cs3 g1; have kV : 0 ≤ (1 : Int) := (by omega); have kW : 1 < (g5.length : Int) := od; obtain ⟨nD, pB, pC, pD, hZ, i0, h5, iP, iQ⟩ := at_T25 (Kd.V_reads' g0.1).2.2 1 kV kW; obtain rfl : iC = nD := (by injection pD); obtain ⟨qK, lF, lG, jA⟩ := Kd.V_get g0.1 z25 1 kV (by first | exact kW | exact od | (have e_ := (Kd.V_reads' g0.1).1; omega)); obtain ⟨o2, o3, rfl, i1, i2⟩ := k25_openF lG; have h6 := jA 2 _ rfl; rw [add_field _ _ 2 (by omega)] at h6; replace h6 := Option.some.inj (h6.symm.trans h5); injection h6 with hva_ hvn_ hvc_; rw [hva_] at i2; rw [hvc_] at i1; have gL := am (show Kd.V k25 25 _ w.heap.size _ _ ((rd_T25 g5 1).f2) from Kd.V_mk i1 i2); clear hva_ hvn_ hvc_ i2 i1 jA lF; (try simp only [show (1 : Int).toNat = 1 from rfl, Nat.reduceMul, Nat.reduceEqDiff, Go.Addr.add, ↓reduceIte] at hZ); (try simp only [show (1 : Int).toNat = 1 from rfl, Nat.reduceMul, Nat.reduceEqDiff, Go.Addr.add, ↓reduceIte] at i0); (try simp only [show (1 : Int).toNat = 1 from rfl, Nat.reduceMul, Nat.reduceEqDiff, Go.Addr.add, ↓reduceIte] at h5); have qL : (1 < g5.length) = True := eq_true (by omega); (try rw [show ((1 : Int)).toNat = 1 from rfl] at hZ); (try rw [show 1 * 3 = 3 from rfl] at hZ); (try rw [show ((1 : Int)).toNat = 1 from rfl] at i0); (try rw [show 1 * 3 = 3 from rfl] at i0); (try rw [show ((1 : Int)).toNat = 1 from rfl] at h5); (try rw [show 1 * 3 = 3 from rfl] at h5); have gS := am iQ; have o4 := am iP; clear iQ iP; replace kV := eq_true kV; replace kW := eq_true kW) | (go_at_call 43; (with_reducible refine (impl_ticksOf.calls k3 ((rd_T25 g5 1).f0) ((rd_T25 g5 1).f1) (fun k_ => ((gG k_ ∨ w.heap.size ≤ k_) ∧ (some k_ ≠ (.slice (some jI) gE.length iE : Value).ownBlock ∧ (some k_ ≠ (.slice h0 gK.length h1 : Value).ownBlock ∧ (some k_ ≠ (.slice hF gO.length hG : Value).ownBlock ∧ (k_ ≠ gC ∧ (k_ ≠ g6 ∧ (k_ ≠ gJ ∧ (k_ ≠ gN ∧ k_ ≠ h2))))))))) _ _ ((rd_T25 g5 1).f2) nC _ ?side1 A92.1).mono ?_); (case side1 => first | exact gL.1 | exact (vg gL).1 | exact (nf gL).1); rintro e y9 ⟨uC, rfl, ho0, hb⟩; have n0_ := ne gH hb; have n1_ := ve g0 hb; have n2_ := ne g3 hb; have n3_ := ne g4 hb; have n4_ := ve gF hb; have n5_ := ve gL hb; have n6_ := nm HB ho0 (fun k_ => (gG k_ ∨ w.heap.size ≤ k_) ∧ some k_ ≠ (.slice (some jI) gE.length iE : Value).ownBlock ∧ some k_ ≠ (.slice h0 gK.length h1 : Value).ownBlock ∧ some k_ ≠ (.slice hF gO.length hG : Value).ownBlock ∧ k_ ≠ gC ∧ k_ ≠ g6 ∧ k_ ≠ gJ ∧ k_ ≠ gN ∧ k_ ≠ h2) (fun k_ hk_ => ⟨Or.elim hk_ (fun hs_ => hs_.1) (fun hn_ => (.inr (zt HB hn_))), Or.elim hk_ (fun hs_ => hs_.2.1) (fun hn_ => (fr gH k_ hn_)), Or.elim hk_ (fun hs_ => hs_.2.2.1) (fun hn_ => (fr g3 k_ hn_)), Or.elim hk_ (fun hs_ => hs_.2.2.2.1) (fun hn_ => (fr g4 k_ hn_)), Or.elim hk_ (fun hs_ => hs_.2.2.2.2.1) (fun hn_ => (fb g1 k_ hn_)), Or.elim hk_ (fun hs_ => hs_.2.2.2.2.2.1) (fun hn_ => (fb g2 k_ hn_)), Or.elim hk_ (fun hs_ => hs_.2.2.2.2.2.2.1) (fun hn_ => (fb g8 k_ hn_)), Or.elim hk_ (fun hs_ => hs_.2.2.2.2.2.2.2.1) (fun hn_ => (fb gA k_ hn_)), Or.elim hk_ (fun hs_ => hs_.2.2.2.2.2.2.2.2) (fun hn_ => (fb gP k_ hn_))⟩); have n7_ := kb g1 hb; have n8_ := kb g2 hb; have n9_ := kb g8 hb; have jB := kb gA hb; have jC := kb gP hb; have jD := cb gS hb; have jE := bs HB hb; clear gH g0 g3 g4 gF gL g1 g2 g8 gA gP gS HB; have gH := n0_; have g0 := n1_; have g3 := n2_; have g4 := n3_; have gF := n4_; have gL := n5_; have hX := n6_; have g1 := n7_; have g2 := n8_; have g8 := n9_; have gA := jB; have gP := jC; have gS := jD; have HB := jE; clear n0_ n1_ n2_ n3_ n4_ n5_ n6_ n7_ n8_ n9_ jB jC jD jE hb ho0; obtain ⟨xO, xP, rfl⟩ := Kd.N_slice hX.1) | (go_at_call 62; (with_reducible refine (any63.calls _ _ nC ((rd_T44 gE g9).f0) h2 false _ ?side1 ?side2 ?side3 A93.1).mono ?_); (case side3 => exact (blk_cell gP.1 0).trans rfl); (case side1 => exact cq (Kd.N_reads' hX.1).2.2); (case side2 => exact (Kd.N_reads' hX.1).2.1); rintro e yA ⟨rfl, hb⟩; have n0_ := nw gH hb; have n1_ := vw g0 hb; have n2_ := nw g3 hb; have n3_ := nw g4 hb; have n4_ := vw gF hb; have n5_ := vw gL hb; have n6_ := nw hX hb; have n7_ := kb g1 hb; have n8_ := kb g2 hb; have n9_ := kb g8 hb; have jB := kb gA hb; have jC := kb gP hb; have jD := cb gS hb; have jE := bs HB hb; clear gH g0 g3 g4 gF gL hX g1 g2 g8 gA gP gS HB; have gH := n0_; have g0 := n1_; have g3 := n2_; have g4 := n3_; have gF := n4_; have gL := n5_; have hX := n6_; have g1 := n7_; have g2 := n8_; have g8 := n9_; have gA := jB; have gP := jC; have gS := jD; have HB := jE; clear n0_ n1_ n2_ n3_ n4_ n5_ n6_ n7_ n8_ n9_ jB jC jD jE hb))
                     go_roundg k3
                     case measure => have := kZ.1; have := nO.1; have := HK3.1; omega
                     case rel => exact ⟨(wrap64 (g9 + 1)), (hN), (hO), rq, H', ⟨by have := kZ.1; have := nO.1; have := HK3.1; omega⟩, nf gH, vf g0, nf g3, nf g4, kf g1, kf g2, kf g8, kf gA, bw⟩
                   ·
                    rw [if_neg c91] at H
                    exact absurd H (by simp)
                 ·
                  rw [if_neg c83] at H
                  exact absurd H (by simp)
                ·
                 rw [if_neg c82] at H
                 exact absurd H (by simp)
               ·
                rw [if_neg c81] at H; have c81b0 : decide (g9 < (gE.length : Int)) = false := decide_eq_false c81; clear c81
                obtain ⟨pE, l5⟩ : ∃ y_ : List (S25), y_ = (([(⟨gT, gU, gK⟩ : S25), (⟨gW, gX, gO⟩ : S25)] : List (S25))) := ⟨_, rfl⟩
                replace H : (some (gB, 0, pE, true)) = some (r1, r2, r3, r4) := by first | (rw [l5]; with_reducible exact H) | (have H2_ := (Option.bind_some _ _).symm.trans H; rw [l5]; with_reducible exact H2_) | (have H2_ := (Option.bind_some _ _).symm.trans H; with_reducible exact H2_) | with_reducible exact H | (rw [l5]; exact H) | exact H
                have oF := am l5
                clear l5
                simp only [Option.some.injEq, Prod.mk.injEq] at H
                obtain ⟨rfl, rfl, rfl, rfl⟩ := H
                have uW := g7.1; have uX := gD.1; have uY := h7.1; have uZ := h8.1; have v0 := h9.1; have v2 := hA.1; obtain ⟨rI, rJ, rK, rL, rM, rN⟩ := cs3 g1; have v3 := hJ.1; have v4 := hI.1; have v5 := iS.1; have v6 := iT.1; obtain ⟨rO, rP, rQ, rR, rS, rT⟩ := cs3 g8; have v7 := hM.1; have v8 := hL.1; obtain ⟨rU, rV, rW, rX, rY, rZ⟩ := cs3 gA
                go_wp2_with (first | ((with_reducible refine gate_dst (N := 94) rfl ?_); refine Kd.N_lit k25 _ 25 ?hg (N' := 94) ?hd (xs := ([(⟨gT, gU, gK⟩ : S25), (⟨gW, gX, gO⟩ : S25)] : List (S25))) (inner := [.int .i64 gT, .int .i64 gU, .slice h0 gK.length h1, .int .i64 gW, .int .i64 gX, .slice hF gO.length hG]) (ok := (fun k_ => (gG k_ ∨ w.heap.size ≤ k_) ∧ some k_ ≠ (.slice j7 gE.length iE : Value).ownBlock ∧ k_ ≠ gC ∧ k_ ≠ g6 ∧ k_ ≠ gJ ∧ k_ ≠ gN)) (okp := (fun k_ => (gG k_ ∨ w.heap.size ≤ k_) ∧ some k_ ≠ (.slice j7 gE.length iE : Value).ownBlock ∧ k_ ≠ gC ∧ k_ ≠ g6 ∧ k_ ≠ gJ ∧ k_ ≠ gN)) ?hr ?hp (fun _ hk => hk) ((show ∀ k_, wr.heap.size ≤ k_ → (fun k_ => (gG k_ ∨ w.heap.size ≤ k_) ∧ some k_ ≠ (.slice j7 gE.length iE : Value).ownBlock ∧ k_ ≠ gC ∧ k_ ≠ g6 ∧ k_ ≠ gJ ∧ k_ ≠ gN) k_ from fun k_ hk => ⟨(.inr (zt HB hk)), Kd.fresh' (Kd.N_lt (n1 gH).1) k_ hk, Kd.freshB (g := gC) (o := .cells #[.int .i64 gB, .int .i64 gM, .slice (some iC) g5.length hH] 25 (0, 0)) (kf g1).1 k_ hk, Kd.freshB (g := g6) (o := .cells #[.int .i64 hN, .int .i64 hO, .slice none 0 0] 25 (0, 0)) (kf g2).1 k_ hk, Kd.freshB (g := gJ) (o := .cells #[.int .i64 gT, .int .i64 gU, .slice h0 gK.length h1] 25 (0, 0)) (kf g8).1 k_ hk, Kd.freshB (g := gN) (o := .cells #[.int .i64 gW, .int .i64 gX, .slice hF gO.length hG] 25 (0, 0)) (kf gA).1 k_ hk⟩) _ (Nat.le_refl _)) (Below.refl _ _) (Nat.le_refl _) (by simp) ?_; (case hd => rfl); (case hg => rfl); (case hr => first | (go_simp; done) | (go_simp; rfl)); (case hp => exact (Reps.c3 (show Kd.FK k25 _ _ (⟨gT, gU, gK⟩ : S25) [.int .i64 gT, .int .i64 gU, .slice h0 gK.length h1] from (k25_mkF _ _ (⟨gT, gU, gK⟩ : S25) (Kd.N_reads' (Kd.N_mono (ok' := (fun k_ => (gG k_ ∨ w.heap.size ≤ k_) ∧ some k_ ≠ (.slice j7 gE.length iE : Value).ownBlock ∧ k_ ≠ gC ∧ k_ ≠ g6 ∧ k_ ≠ gJ ∧ k_ ≠ gN)) (g3.1) mq)).2.1 (Kd.N_F (Kd.N_mono (ok' := (fun k_ => (gG k_ ∨ w.heap.size ≤ k_) ∧ some k_ ≠ (.slice j7 gE.length iE : Value).ownBlock ∧ k_ ≠ gC ∧ k_ ≠ g6 ∧ k_ ≠ gJ ∧ k_ ≠ gN)) (g3.1) mq)))) (Reps.c3 (show Kd.FK k25 _ _ (⟨gW, gX, gO⟩ : S25) [.int .i64 gW, .int .i64 gX, .slice hF gO.length hG] from (k25_mkF _ _ (⟨gW, gX, gO⟩ : S25) (Kd.N_reads' (Kd.N_mono (ok' := (fun k_ => (gG k_ ∨ w.heap.size ≤ k_) ∧ some k_ ≠ (.slice j7 gE.length iE : Value).ownBlock ∧ k_ ≠ gC ∧ k_ ≠ g6 ∧ k_ ≠ gJ ∧ k_ ≠ gN)) (g4.1) mq)).2.1 (Kd.N_F (Kd.N_mono (ok' := (fun k_ => (gG k_ ∨ w.heap.size ≤ k_) ∧ some k_ ≠ (.slice j7 gE.length iE : Value).ownBlock ∧ k_ ≠ gC ∧ k_ ≠ g6 ∧ k_ ≠ gJ ∧ k_ ≠ gN)) (g4.1) mq)))) (Reps.none _ _)))); intro yB yC iR hb hg_ hnew_; clear hg_ hnew_; (first | rw [← oF.1] at iR | (simp only [Int.reduceToNat] at iR; rw [← oF.1] at iR)); replace gH := ne gH hb (by first | exact Kd.N_base iR | exact Kd.R_base iR); replace g0 := ve g0 hb (by first | exact Kd.N_base iR | exact Kd.R_base iR); have oG := am (Kd.N_lower iR (below_size bq)); replace g1 := kb g1 hb; replace g2 := kb g2 hb; replace g8 := kb g8 hb; replace gA := kb gA hb; replace HB := bs HB hb; clear g3 g4 hb iR; obtain ⟨oH, oI, rfl⟩ := Kd.N_slice oG.1; obtain ⟨s3, s4, s5, s6, s7, s8⟩ := cs3 g2))
                refine bodyPost_ret (results_ct rfl _ _ g6 25 #[.int .i64 gB, .int .i64 0, .slice oH pE.length oI] (0, 0) _ rfl (kf g2).1 Try.underlying25 rfl (by kernel_rfl)) rfl ?_
                exact ⟨_, by first | rfl | (simp [errW_none, errW_some] <;> rfl) | (simp [*, errW_none, errW_some] <;> rfl), by (with_reducible repeat (first | apply Kd.N_alloc | apply Kd.N_drewN | apply Kd.N_drew)); exact Kd.N_mono (Kd.N_far (p := ⟨g6, 2, none⟩) (Kd.N_far (p := ⟨g6, 1, none⟩) (Kd.N_far (p := ⟨g6, 0, none⟩) (Kd.N_mono oG.1 (fun k_ hk => (⟨hk, hk.2.2.2.1⟩ : _ ∧ k_ ≠ g6))) mq (.int .i64 gB)) mq (.int .i64 0)) mq (.slice oH pE.length oI)) mq, by repeat (first | (with_reducible first | exact HB.1 | apply below_alloc | apply pw_below_drewN | apply below_drew1 | refine below_set ?_ i4.1 | refine below_set ?_ i5.1 | refine below_set ?_ lT.1 | refine below_set ?_ m8.1) | exact HB.1)⟩
            ·
             rw [if_neg c73] at H
             exact absurd H (by simp)
           ·
            rw [if_neg c72] at H; have c72b0 : (gB == 4) = false := beq_eq_false_iff_ne.mpr c72; have c72b1 : (gB != 4) = true := bne_iff_ne.mpr c72
            obtain ⟨pF, l6⟩ : ∃ y_ : List (S25), y_ = (([(⟨gT, gU, gK⟩ : S25), (⟨gW, gX, gO⟩ : S25)] : List (S25))) := ⟨_, rfl⟩
            replace H : (some (gB, 0, pF, true)) = some (r1, r2, r3, r4) := by first | (rw [l6]; with_reducible exact H) | (have H2_ := (Option.bind_some _ _).symm.trans H; rw [l6]; with_reducible exact H2_) | (have H2_ := (Option.bind_some _ _).symm.trans H; with_reducible exact H2_) | with_reducible exact H | (rw [l6]; exact H) | exact H
            have oJ := am l6
            clear l6
            simp only [Option.some.injEq, Prod.mk.injEq] at H
            obtain ⟨rfl, rfl, rfl, rfl⟩ := H
            have v9 := g7.1; have vA := gD.1; have vB := h7.1; have vC := h8.1; have vD := h9.1; have vE := hA.1; obtain ⟨s9, sA, sB, sC, sD, sE⟩ := cs3 g1; have vF := hJ.1; have vG := hI.1; have vH := iS.1; have vI := iT.1; obtain ⟨sF, sG, sH, sI, sJ, sK⟩ := cs3 g8; have vJ := hM.1; have vK := hL.1; obtain ⟨sL, sM, sN, sO, sP, sQ⟩ := cs3 gA
            go_wp2_with (first | ((with_reducible refine gate_dst (N := 94) rfl ?_); refine Kd.N_lit k25 _ 25 ?hg (N' := 94) ?hd (xs := ([(⟨gT, gU, gK⟩ : S25), (⟨gW, gX, gO⟩ : S25)] : List (S25))) (inner := [.int .i64 gT, .int .i64 gU, .slice h0 gK.length h1, .int .i64 gW, .int .i64 gX, .slice hF gO.length hG]) (ok := (fun k_ => (gG k_ ∨ w.heap.size ≤ k_) ∧ k_ ≠ gC ∧ k_ ≠ g6 ∧ k_ ≠ gJ ∧ k_ ≠ gN)) (okp := (fun k_ => (gG k_ ∨ w.heap.size ≤ k_) ∧ k_ ≠ gC ∧ k_ ≠ g6 ∧ k_ ≠ gJ ∧ k_ ≠ gN)) ?hr ?hp (fun _ hk => hk) ((show ∀ k_, wc.heap.size ≤ k_ → (fun k_ => (gG k_ ∨ w.heap.size ≤ k_) ∧ k_ ≠ gC ∧ k_ ≠ g6 ∧ k_ ≠ gJ ∧ k_ ≠ gN) k_ from fun k_ hk => ⟨(.inr (zt HB hk)), Kd.freshB (g := gC) (o := .cells #[.int .i64 gB, .int .i64 gM, .slice (some iC) g5.length hH] 25 (0, 0)) (kf g1).1 k_ hk, Kd.freshB (g := g6) (o := .cells #[.int .i64 0, .int .i64 0, .slice none 0 0] 25 (0, 0)) (kf g2).1 k_ hk, Kd.freshB (g := gJ) (o := .cells #[.int .i64 gT, .int .i64 gU, .slice h0 gK.length h1] 25 (0, 0)) (kf g8).1 k_ hk, Kd.freshB (g := gN) (o := .cells #[.int .i64 gW, .int .i64 gX, .slice hF gO.length hG] 25 (0, 0)) (kf gA).1 k_ hk⟩) _ (Nat.le_refl _)) (Below.refl _ _) (Nat.le_refl _) (by simp) ?_; (case hd => rfl); (case hg => rfl); (case hr => first | (go_simp; done) | (go_simp; rfl)); (case hp => exact (Reps.c3 (show Kd.FK k25 _ _ (⟨gT, gU, gK⟩ : S25) [.int .i64 gT, .int .i64 gU, .slice h0 gK.length h1] from (k25_mkF _ _ (⟨gT, gU, gK⟩ : S25) (Kd.N_reads' (Kd.N_mono (ok' := (fun k_ => (gG k_ ∨ w.heap.size ≤ k_) ∧ k_ ≠ gC ∧ k_ ≠ g6 ∧ k_ ≠ gJ ∧ k_ ≠ gN)) (g3.1) mq)).2.1 (Kd.N_F (Kd.N_mono (ok' := (fun k_ => (gG k_ ∨ w.heap.size ≤ k_) ∧ k_ ≠ gC ∧ k_ ≠ g6 ∧ k_ ≠ gJ ∧ k_ ≠ gN)) (g3.1) mq)))) (Reps.c3 (show Kd.FK k25 _ _ (⟨gW, gX, gO⟩ : S25) [.int .i64 gW, .int .i64 gX, .slice hF gO.length hG] from (k25_mkF _ _ (⟨gW, gX, gO⟩ : S25) (Kd.N_reads' (Kd.N_mono (ok' := (fun k_ => (gG k_ ∨ w.heap.size ≤ k_) ∧ k_ ≠ gC ∧ k_ ≠ g6 ∧ k_ ≠ gJ ∧ k_ ≠ gN)) (g4.1) mq)).2.1 (Kd.N_F (Kd.N_mono (ok' := (fun k_ => (gG k_ ∨ w.heap.size ≤ k_) ∧ k_ ≠ gC ∧ k_ ≠ g6 ∧ k_ ≠ gJ ∧ k_ ≠ gN)) (g4.1) mq)))) (Reps.none _ _)))); intro yD yE jF hb hg_ hnew_; clear hg_ hnew_; (first | rw [← oJ.1] at jF | (simp only [Int.reduceToNat] at jF; rw [← oJ.1] at jF)); replace g0 := ve g0 hb (by first | exact Kd.N_base jF | exact Kd.R_base jF); have oK := am (Kd.N_lower jF (below_size bq)); replace g1 := kb g1 hb; replace g2 := kb g2 hb; replace g8 := kb g8 hb; replace gA := kb gA hb; replace h4 := cb h4 hb; replace HB := bs HB hb; clear g3 g4 hb jF; obtain ⟨oL, oM, rfl⟩ := Kd.N_slice oK.1; obtain ⟨sR, sS, sT, sU, sV, sW⟩ := cs3 g2))
            refine bodyPost_ret (results_ct rfl _ _ g6 25 #[.int .i64 gB, .int .i64 0, .slice oL pF.length oM] (0, 0) _ rfl (kf g2).1 Try.underlying25 rfl (by kernel_rfl)) rfl ?_
            exact ⟨_, by first | rfl | (simp [errW_none, errW_some] <;> rfl) | (simp [*, errW_none, errW_some] <;> rfl), by (with_reducible repeat (first | apply Kd.N_alloc | apply Kd.N_drewN | apply Kd.N_drew)); exact Kd.N_mono (Kd.N_far (p := ⟨g6, 2, none⟩) (Kd.N_far (p := ⟨g6, 1, none⟩) (Kd.N_far (p := ⟨g6, 0, none⟩) (Kd.N_mono oK.1 (fun k_ hk => (⟨hk, hk.2.2.1⟩ : _ ∧ k_ ≠ g6))) mq (.int .i64 gB)) mq (.int .i64 0)) mq (.slice oL pF.length oM)) mq, by repeat (first | (with_reducible first | exact HB.1 | apply below_alloc | apply pw_below_drewN | apply below_drew1 | refine below_set ?_ i4.1 | refine below_set ?_ i5.1 | refine below_set ?_ lT.1 | refine below_set ?_ m8.1) | exact HB.1)⟩
       ·
        rw [if_neg c46] at H
        exact absurd H (by simp)
      ·
       rw [if_neg c44] at H
       exact absurd H (by simp)
     ·
      replace c43 := Bool.eq_false_iff.mpr c43
      subst c43
      have H1 : ((impl_copyClock.f iB gB gM g5).bind fun nE => (some (nE.1, nE.2.1, nE.2.2, true))) = some (r1, r2, r3, r4) := by rw [if_neg (show ¬ (false = true) by decide)] at H; exact H
      clear H
      have H := H1
      clear H1
      replace H := Option.bind_eq_some_iff.mp H
      obtain ⟨⟨o5, o6, o7⟩, oN, H⟩ := H
      replace H : (some (o5, o6, o7, true)) = some (r1, r2, r3, r4) := H
      have vL := am oN
      clear oN
      simp only [Option.some.injEq, Prod.mk.injEq] at H
      obtain ⟨rfl, rfl, rfl, rfl⟩ := H
      have vM := g7.1; have vN := gD.1; obtain ⟨sX, sY, sZ, t0, t1, t2⟩ := cs3 g1
      go_wp2_with (first | ((with_reducible refine gate_callee (f := 44) rfl ?_); refine gl (some 97) Try.func44 #[.agg #[.int .i64 gB, .int .i64 gM, .slice iF g5.length hH]] ?_; (with_reducible refine (impl_copyClock.calls iB gB gM _ _ g5 o5 o6 o7 _ ?side1 ?side2 vL.1).mono ?_); (case side1 => exact cq (Kd.V_reads' g0.1).2.2); (case side2 => exact (Kd.V_reads' g0.1).2.1); rintro e yF ⟨yG, rfl, ho0, hb⟩; refine ⟨_, rfl, ?_⟩; replace g0 := ve g0 hb; have oO := nm HB (Kd.R_N (Kd.R_bound ho0)) (fun k_ => (gG k_ ∨ w.heap.size ≤ k_) ∧ k_ ≠ gC ∧ k_ ≠ g6) (fun k_ hk_ => ⟨(.inr (zt HB hk_.2.1)), (fb g1 k_ hk_.2.1), (fb g2 k_ hk_.2.1)⟩); replace g1 := kb g1 hb; replace g2 := kb g2 hb; replace HB := bs HB hb; clear hb ho0; obtain ⟨t3, t4, t5, t6, t7, t8⟩ := cs3 g2; obtain ⟨oP, oQ, rfl⟩ := Kd.N_slice oO.1))
      refine bodyPost_ret (results_ct rfl _ _ g6 25 #[.int .i64 o5, .int .i64 o6, .slice oP o7.length oQ] (0, 0) _ rfl (kf g2).1 Try.underlying25 rfl (by kernel_rfl)) rfl ?_
      exact ⟨_, by first | rfl | (simp [errW_none, errW_some] <;> rfl) | (simp [*, errW_none, errW_some] <;> rfl), by (with_reducible repeat (first | apply Kd.N_alloc | apply Kd.N_drewN | apply Kd.N_drew)); exact Kd.N_mono (Kd.N_far (p := ⟨g6, 2, none⟩) (Kd.N_far (p := ⟨g6, 1, none⟩) (Kd.N_far (p := ⟨g6, 0, none⟩) (Kd.N_mono oO.1 (fun k_ hk => (⟨hk, hk.2.2⟩ : _ ∧ k_ ≠ g6))) mq (.int .i64 o5)) mq (.int .i64 o6)) mq (.slice oP o7.length oQ)) mq, by repeat (first | (with_reducible first | exact HB.1 | apply below_alloc | apply pw_below_drewN | apply below_drew1 | refine below_set ?_ i4.1 | refine below_set ?_ i5.1) | exact HB.1)⟩
end Go.Proofs.Ytfnmjecofgeboaa.PAll
