/- WHETHER SOME ELEMENT MEETS A TEST: slices.IndexFunc and slices.ContainsFunc over []Seal, for whatever function value. -/
import Derived.Test.YtlcladalpjcegaaDoorPAllx0
import Derived.Shelf.Abstract
namespace Go.Proofs.YtlcladalpjcegaaDoor.PAll
set_option linter.unusedVariables false
open Go.RowKit Go.Proofs.YtlcladalpjcegaaDoorW.PrintWords Go.Proofs.YtlcladalpjcegaaDoorW.PrintLast Go.Proofs.YtlcladalpjcegaaDoorW.PrintMore

/-- Does one element meet the test, the test being asked from the first one on. -/
def anyO {α : Type} (p : α → Option Bool) : List α → Option Bool
  | [] => some false
  | x :: xs => (p x).bind fun b => if b = true then some true else anyO p xs
theorem anyO_drop {α : Type} (p : α → Option Bool) (l : List α) (z : α) (k : Nat) (hk : k < l.length) :
    anyO p (l.drop k) = (p (l.getD k z)).bind fun b => if b = true then some true else anyO p (l.drop (k + 1)) := by
  rw [List.drop_eq_getElem_cons hk]
  simp [anyO, List.getD_eq_getElem?_getD, hk]

set_option maxHeartbeats 2000000 in
theorem idx67 (g : Nat) (lb : Array Value) (eg : ∀ args w, (callFunc g args).run Tryd.prog w = .ok (.enter g args) w) (p : S25 → Option Bool) (A : Option Addr) (c : Nat) (l : List S25) (r : Bool) (w : World)
    (hr : Kd.C k25 w A l.length l) (hc : l.length ≤ c)
    (hp : ∀ (W : World) (A' : Option Addr) (c' : Nat) (x : S25) (b : Bool), Below w.heap.size w W → Kd.C k25 W A' x.f2.length x.f2 → x.f2.length ≤ c' → p x = some b →
      Calls Tryd.prog g (#[.agg #[.int .i64 x.f0, .int .i64 x.f1, .slice A' x.f2.length c']] ++ lb) W fun e w' => e = .returned (.bool b) ∧ Below W.heap.size W w')
    (h : anyO p l = some r) :
    Calls Tryd.prog 67 #[.slice A l.length c, .func (.func g) #[] lb] w fun e w' => ∃ i : Int, e = .returned (.int .i64 i) ∧ decide (0 ≤ i) = r ∧ Below w.heap.size w w' := by
  have HR := Aside0.mk hr
  have hlen : l.length ≤ 9223372036854775807 := by have := hr.2.1; omega
  clear hr
  go_enter Tryd.func67, Tryd.ntmps67
  go_wp2
  go_loopg [5, 8] l.length (fun gg _ s8 wr => ∃ kk : Nat, kk ≤ l.length ∧ l.length - kk ≤ gg ∧ s8 = .int .i64 kk ∧ Aside0 (Below w.heap.size w wr) ∧ Aside0 (anyO p (l.drop kk) = some r))
  case atStart => exact ⟨0, Nat.zero_le _, by omega, rfl, ⟨Below.refl _ w⟩, ⟨h⟩⟩
  case round =>
    obtain ⟨kk, hkk, hg, rfl, BW, A⟩ := hrel
    by_cases hlt : kk < l.length
    · have hltz : (kk : Int) < (l.length : Int) := by omega
      have HA := A.out
      rw [anyO_drop p l z25 kk hlt] at HA
      obtain ⟨b, hb, HA⟩ := Option.bind_eq_some_iff.1 HA
      obtain ⟨ad, A2, c2, e, hx0, hx1, hx2, hl2, hi2⟩ := at_T25 HR.out (kk : Int) (by omega) hltz
      have hb' : p (rd_T25 l (kk : Int)) = some b := hb
      have hcall := hp wr A2 c2 (rd_T25 l (kk : Int)) b BW.out (Kd.C_below hi2 BW.out) hl2 hb'
      cases e
      replace hx0 := (BW.out.cell (World.block_lt_of_cell? w _ hx0)).trans hx0
      replace hx1 := (BW.out.cell (World.block_lt_of_cell? w _ hx1)).trans hx1
      replace hx2 := (BW.out.cell (World.block_lt_of_cell? w _ hx2)).trans hx2
      clear hp hi2 hl2 hb hb'
      simp only [Int.toNat_natCast] at hx0 hx1 hx2
      cases b with
      | true =>
        have HA2 := Aside0.mk (Option.some.inj HA)
        clear HA
        go_wp2_with (go_at_fn g; refine hcall.mono ?_; rintro e w' ⟨rfl, hb'⟩)
        go_ret
        exact ⟨(kk : Int), rfl, by rw [← HA2.out]; simp, BW.out.trans (hb'.mono BW.out.size)⟩
      | false =>
        have HA2 := Aside0.mk HA
        clear HA
        go_wp2_with (go_at_fn g; refine hcall.mono ?_; rintro e w' ⟨rfl, hb'⟩)
        go_roundg (l.length - (kk + 1))
        case measure => omega
        case rel => exact ⟨kk + 1, by omega, by omega, by go_num, ⟨BW.out.trans (hb'.mono BW.out.size)⟩, ⟨HA2.out⟩⟩
    · have hltz : ¬ (kk : Int) < (l.length : Int) := by omega
      have HA := A.out
      rw [List.drop_eq_nil_of_le (by omega)] at HA
      have HA2 := Aside0.mk (Option.some.inj HA)
      clear HA
      go_wp2
      go_ret
      exact ⟨-1, rfl, by rw [← HA2.out]; simp, BW.out⟩
theorem contains60 (g : Nat) (lb : Array Value) (eg : ∀ args w, (callFunc g args).run Tryd.prog w = .ok (.enter g args) w) (p : S25 → Option Bool) (A : Option Addr) (c : Nat) (l : List S25) (r : Bool) (w : World)
    (hr : Kd.C k25 w A l.length l) (hc : l.length ≤ c)
    (hp : ∀ (W : World) (A' : Option Addr) (c' : Nat) (x : S25) (b : Bool), Below w.heap.size w W → Kd.C k25 W A' x.f2.length x.f2 → x.f2.length ≤ c' → p x = some b →
      Calls Tryd.prog g (#[.agg #[.int .i64 x.f0, .int .i64 x.f1, .slice A' x.f2.length c']] ++ lb) W fun e w' => e = .returned (.bool b) ∧ Below W.heap.size W w')
    (h : anyO p l = some r) :
    Calls Tryd.prog 60 #[.slice A l.length c, .func (.func g) #[] lb] w fun e w' => e = .returned (.bool r) ∧ Below w.heap.size w w' := by
  go_enter Tryd.func60, Tryd.ntmps60
  go_wp2_with (go_at_call 67; refine (idx67 g lb eg p A c l r _ hr hc hp h).mono ?_; rintro e w' ⟨i, rfl, hi, hb⟩)
  go_ret
  exact ⟨by rw [← hi]; rfl, hb⟩
end Go.Proofs.YtlcladalpjcegaaDoor.PAll
