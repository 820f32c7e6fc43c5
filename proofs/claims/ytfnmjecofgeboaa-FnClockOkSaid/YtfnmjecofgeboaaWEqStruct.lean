/- Words, as far as they are used here. -/
import Derived.Test.YtfnmjecofgeboaaWWords
import Derived.Laws.StructEq
namespace Go.Proofs.YtfnmjecofgeboaaW.PrintWords
open Go.RowKit
section
variable {P : Program} {d : Nat} {xs ys : Array Value} {f : Field} {fs : List Field} {a b : Value} {r s : Bool} {w : World}
end
end Go.Proofs.YtfnmjecofgeboaaW.PrintWords
