/- WHETHER SOME STEP IS A PARTNER: slices.IndexFunc and slices.ContainsFunc over []Tick, and the literal in impl.pass that is handed to it. -/
import Derived.Test.YtfnmjecofgeboaaHa1
namespace Go.Proofs.Ytfnmjecofgeboaa.PAll
set_option linter.unusedVariables false
open Go.RowKit Go.Proofs.YtfnmjecofgeboaaW.PrintWords Go.Proofs.YtfnmjecofgeboaaW.PrintLast Go.Proofs.YtfnmjecofgeboaaW.PrintMore

set_option maxHeartbeats 2000000 in
theorem idx68 (g : Nat) (lb : Array Value) (eg : ∀ args w, (callFunc g args).run Try.prog w = .ok (.enter g args) w) (p : S44 → Option Bool) (A : Option Addr) (c : Nat) (l : List S44) (r : Bool) (w : World)
    (hr : Kd.C k44 w A l.length l) (hc : l.length ≤ c)
    (hp : ∀ (W : World) (A' : Option Addr) (c' : Nat) (x : S44) (b : Bool), Below w.heap.size w W → Kd.C k25 W A' x.f1.f2.length x.f1.f2 → x.f1.f2.length ≤ c' → p x = some b →
      Calls Try.prog g (#[.agg #[.int .i64 x.f0, .int .i64 x.f1.f0, .int .i64 x.f1.f1, .slice A' x.f1.f2.length c']] ++ lb) W fun e w' => e = .returned (.bool b) ∧ Below W.heap.size W w')
    (h : anyO p l = some r) :
    Calls Try.prog 68 #[.slice A l.length c, .func (.func g) #[] lb] w fun e w' => ∃ i : Int, e = .returned (.int .i64 i) ∧ decide (0 ≤ i) = r ∧ Below w.heap.size w w' := by
  have HR := Aside0.mk hr
  have hlen : l.length ≤ 9223372036854775807 := by have := hr.2.1; omega
  clear hr
  go_enter Try.func68, Try.ntmps68
  go_wp2
  go_loopg [5, 8] l.length (fun gg _ s8 wr => ∃ kk : Nat, kk ≤ l.length ∧ l.length - kk ≤ gg ∧ s8 = .int .i64 kk ∧ Aside0 (Below w.heap.size w wr) ∧ Aside0 (anyO p (l.drop kk) = some r))
  case atStart => exact ⟨0, Nat.zero_le _, by omega, rfl, ⟨Below.refl _ w⟩, ⟨h⟩⟩
  case round =>
    obtain ⟨kk, hkk, hg, rfl, BW, A⟩ := hrel
    by_cases hlt : kk < l.length
    · have hltz : (kk : Int) < (l.length : Int) := by omega
      have HA := A.out
      rw [anyO_drop p l z44 kk hlt] at HA
      obtain ⟨b, hb, HA⟩ := Option.bind_eq_some_iff.1 HA
      obtain ⟨ad, A2, c2, e, hx0, hx1, hx2, hx3, hl2, hi2⟩ := at_T44 HR.out (kk : Int) (by omega) hltz
      have hb' : p (rd_T44 l (kk : Int)) = some b := hb
      have hcall := hp wr A2 c2 (rd_T44 l (kk : Int)) b BW.out (Kd.C_below hi2 BW.out) hl2 hb'
      cases e
      replace hx0 := (BW.out.cell (World.block_lt_of_cell? w _ hx0)).trans hx0
      replace hx1 := (BW.out.cell (World.block_lt_of_cell? w _ hx1)).trans hx1
      replace hx2 := (BW.out.cell (World.block_lt_of_cell? w _ hx2)).trans hx2
      replace hx3 := (BW.out.cell (World.block_lt_of_cell? w _ hx3)).trans hx3
      clear hp hi2 hl2 hb hb'
      simp only [Int.toNat_natCast] at hx0 hx1 hx2 hx3
      cases b with
      | true =>
        have HA2 := Aside0.mk (Option.some.inj HA)
        clear HA
        go_wp2_with (go_at_fn g; refine hcall.mono ?_; rintro e w' ⟨rfl, hb'⟩)
        go_ret
        exact ⟨(kk : Int), rfl, by rw [← HA2.out]; simp, BW.out.trans (hb'.mono BW.out.size)⟩
      | false =>
        have HA2 := Aside0.mk HA
        clear HA
        go_wp2_with (go_at_fn g; refine hcall.mono ?_; rintro e w' ⟨rfl, hb'⟩)
        go_roundg (l.length - (kk + 1))
        case measure => omega
        case rel => exact ⟨kk + 1, by omega, by omega, by go_num, ⟨BW.out.trans (hb'.mono BW.out.size)⟩, ⟨HA2.out⟩⟩
    · have hltz : ¬ (kk : Int) < (l.length : Int) := by omega
      have HA := A.out
      rw [List.drop_eq_nil_of_le (by omega)] at HA
      have HA2 := Aside0.mk (Option.some.inj HA)
      clear HA
      go_wp2
      go_ret
      exact ⟨-1, rfl, by rw [← HA2.out]; simp, BW.out⟩
theorem contains62 (g : Nat) (lb : Array Value) (eg : ∀ args w, (callFunc g args).run Try.prog w = .ok (.enter g args) w) (p : S44 → Option Bool) (A : Option Addr) (c : Nat) (l : List S44) (r : Bool) (w : World)
    (hr : Kd.C k44 w A l.length l) (hc : l.length ≤ c)
    (hp : ∀ (W : World) (A' : Option Addr) (c' : Nat) (x : S44) (b : Bool), Below w.heap.size w W → Kd.C k25 W A' x.f1.f2.length x.f1.f2 → x.f1.f2.length ≤ c' → p x = some b →
      Calls Try.prog g (#[.agg #[.int .i64 x.f0, .int .i64 x.f1.f0, .int .i64 x.f1.f1, .slice A' x.f1.f2.length c']] ++ lb) W fun e w' => e = .returned (.bool b) ∧ Below W.heap.size W w')
    (h : anyO p l = some r) :
    Calls Try.prog 62 #[.slice A l.length c, .func (.func g) #[] lb] w fun e w' => e = .returned (.bool r) ∧ Below w.heap.size w w' := by
  go_enter Try.func62, Try.ntmps62
  go_wp2_with (go_at_call 68; refine (idx68 g lb eg p A c l r _ hr hc hp h).mono ?_; rintro e w' ⟨i, rfl, hi, hb⟩)
  go_ret
  exact ⟨by rw [← hi]; rfl, hb⟩

set_option maxHeartbeats 2000000 in
theorem pass63 (gb : Nat) (x : Int) (w W : World) (hx : W.cell? ⟨gb, 0, none⟩ = some (.int .i64 x)) (hg : gb < W.heap.size) (A' : Option Addr) (c' : Nat) (y : S44) (b : Bool)
    (h : some (decide (x = wrap64 (-y.f0))) = some b) :
    Calls Try.prog 63 (#[.agg #[.int .i64 y.f0, .int .i64 y.f1.f0, .int .i64 y.f1.f1, .slice A' y.f1.f2.length c']] ++ #[.pointer (some ⟨gb, 0, none⟩)]) W fun e w' => e = .returned (.bool b) ∧ Below W.heap.size W w' := by
  have H := Aside0.mk (Option.some.inj h)
  clear h
  have hne : gb ≠ W.heap.size := by omega
  show Calls Try.prog 63 #[.agg #[.int .i64 y.f0, .int .i64 y.f1.f0, .int .i64 y.f1.f1, .slice A' y.f1.f2.length c'], .pointer (some ⟨gb, 0, none⟩)] W _
  have hx2 : (W.alloc (.cells #[.int .i64 y.f0, .int .i64 y.f1.f0, .int .i64 y.f1.f1, .slice A' y.f1.f2.length c'] 44)).cell? ⟨gb, 0, none⟩ = some (.int .i64 x) := pw_cell_below (below_alloc (Below.refl _ _) _) hx
  clear hx
  go_enter Try.func63, Try.ntmps63
  go_wp2
  go_ret
  refine ⟨?_, (Below.refl _ _).alloc (Nat.le_refl _) _⟩
  rw [← H.out]
  congr 2

/-- The test of impl.pass, asked of a row of steps. -/
def any63.f (l : List S44) (x : Int) : Option Bool := anyO (fun y => some (decide (x = wrap64 (-y.f0)))) l
theorem any63.calls (A0 : Option Addr) (c0 : Nat) (l0 : List S44) (x : Int) (gb : Nat) (r : Bool) (w : World) (hr0 : Kd.C k44 w A0 l0.length l0) (hc0 : l0.length ≤ c0)
    (hx : w.cell? ⟨gb, 0, none⟩ = some (.int .i64 x)) (h : any63.f l0 x = some r) :
    Calls Try.prog 62 #[.slice A0 l0.length c0, .func (.func 63) #[] #[.pointer (some ⟨gb, 0, none⟩)]] w fun e w' => e = .returned (.bool r) ∧ Below w.heap.size w w' :=
  contains62 63 #[.pointer (some ⟨gb, 0, none⟩)] (enters_of Try.func63 (by kernel_rfl) rfl) _ A0 c0 l0 r w hr0 hc0
    (fun W A' c' y b hW _ _ hb => pass63 gb x w W ((hW.cell (p := ⟨gb, 0, none⟩) (World.block_lt_of_cell? w _ hx)).trans hx) (Nat.lt_of_lt_of_le (World.block_lt_of_cell? w _ hx) hW.size) A' c' y b hb) h
end Go.Proofs.Ytfnmjecofgeboaa.PAll
