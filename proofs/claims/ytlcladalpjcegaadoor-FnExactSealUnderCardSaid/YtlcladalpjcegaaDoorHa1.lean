/- strconv.Itoa OF A FIGURE: 0 to 9. -/
import Derived.Test.YtlcladalpjcegaaDoorPAllx0
namespace Go.Proofs.YtlcladalpjcegaaDoor.PAll
set_option linter.unusedVariables false
open Go.RowKit Go.Proofs.YtlcladalpjcegaaDoorW.PrintWords Go.Proofs.YtlcladalpjcegaaDoorW.PrintLast Go.Proofs.YtlcladalpjcegaaDoorW.PrintMore

/-- A figure as a text. -/
def fig (n : Nat) : ByteArray := ⟨#[UInt8.ofNat (48 + n)]⟩
/-- What strconv.Itoa answers at a figure; of other numbers nothing is told. -/
def itoa.f (n : Int) : Option ByteArray := if 0 ≤ n ∧ n ≤ 9 then some (fig n.toNat) else none

set_option maxHeartbeats 2000000 in
theorem small86 (n : Nat) (hn : n < 10) (w : World) :
    Calls Tryd.prog 86 #[.int .i64 n] w fun e w' => e = .returned (.string (fig n)) ∧ w' = w := by
  obtain rfl | rfl | rfl | rfl | rfl | rfl | rfl | rfl | rfl | rfl : n = 0 ∨ n = 1 ∨ n = 2 ∨ n = 3 ∨ n = 4 ∨ n = 5 ∨ n = 6 ∨ n = 7 ∨ n = 8 ∨ n = 9 := by omega
  all_goals
    go_enter Tryd.func86, Tryd.ntmps86
    go_wp2
    go_ret
    exact ⟨rfl, rfl⟩
set_option maxHeartbeats 2000000 in
theorem format79 (n : Nat) (hn : n < 10) (w : World) :
    Calls Tryd.prog 79 #[.int .i64 n, .int .i64 10] w fun e w' => e = .returned (.string (fig n)) ∧ w' = w := by
  have h1 : decide ((0 : Int) ≤ (n : Int)) = true := by simp
  have h2 : decide ((n : Int) < 100) = true := by simp; omega
  go_enter Tryd.func79, Tryd.ntmps79
  go_wp2_with (go_at_call 86; refine (small86 n hn _).mono ?_; rintro e w' ⟨rfl, rfl⟩)
  go_ret
  exact ⟨rfl, rfl⟩
theorem itoa66 (n : Nat) (hn : n < 10) (w : World) :
    Calls Tryd.prog 66 #[.int .i64 n] w fun e w' => e = .returned (.string (fig n)) ∧ w' = w := by
  go_enter Tryd.func66, Tryd.ntmps66
  go_wp2_with (go_at_call 79; refine (format79 n hn _).mono ?_; rintro e w' ⟨rfl, rfl⟩)
  go_ret
  exact ⟨rfl, rfl⟩
theorem itoa59 (n : Nat) (hn : n < 10) (w : World) :
    Calls Tryd.prog 59 #[.int .i64 n] w fun e w' => e = .returned (.string (fig n)) ∧ w' = w := by
  go_enter Tryd.func59, Tryd.ntmps59
  go_wp2_with (go_at_call 66; refine (itoa66 n hn _).mono ?_; rintro e w' ⟨rfl, rfl⟩)
  go_ret
  exact ⟨rfl, rfl⟩
theorem itoa.calls (a0 : Int) (r : ByteArray) (w : World) (h : itoa.f a0 = some r) :
    Calls Tryd.prog 59 #[.int .i64 a0] w fun e w' => e = .returned (.string r) ∧ w' = w := by
  unfold itoa.f at h
  split at h
  · obtain rfl := Option.some.inj h
    obtain ⟨n, rfl⟩ : ∃ n : Nat, a0 = n := ⟨a0.toNat, by omega⟩
    exact itoa59 n (by omega) w
  · exact absurd h (by simp)
end Go.Proofs.YtlcladalpjcegaaDoor.PAll
