/- Words, as far as they are used here. -/
import Derived.Test.YtfnmjecofgeboaaWTab
namespace Go.Proofs.YtfnmjecofgeboaaW.PrintLast
section
variable {P : Program} {ops : Array Oper} {Q : Exit → Act → World → Prop} {md : Region.Mode} {S : World → Prop} {ds : List Nat} {T : Bool × List (List Nat × List Nat)}
end
end Go.Proofs.YtfnmjecofgeboaaW.PrintLast
