/- Words, as far as they are used here. -/
import Derived.Test.YtfnmjecofgeboaaWN
namespace Go.Proofs.YtfnmjecofgeboaaW.PrintWords
open Go.RowKit
namespace Kd
section
variable {α : Type} {d : Kd α} {W : World} {g n : Nat} {S ok : Nat → Prop} {A : Option Addr} {ad : Addr} {xs : List α}
end
end Kd
end Go.Proofs.YtfnmjecofgeboaaW.PrintWords
