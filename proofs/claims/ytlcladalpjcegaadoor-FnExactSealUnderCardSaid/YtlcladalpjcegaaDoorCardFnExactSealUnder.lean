/- THE TIED CARD of laws.FnExactSealUnder: the row, tied to the program's text. -/
import Derived.Test.YtlcladalpjcegaaDoorLawFnExactSealUnder
import Derived.Test.YtlcladalpjcegaaDoorCards
import Derived.Test.YtlcladalpjcegaaDoorTie
import Derived.SevenTiedAt
namespace Go.Proofs.YtlcladalpjcegaaDoor
open Go
theorem fnExactSealUnderCard_holds : Rows.FnExactSealUnderCardSaid :=
  Claim7.holds_tied_plain_at .later [] [.data, .data, .data] true (true, "7f15f156b237e8b41f03e1394a90360bc918ae3e7219502144e7dbb425dd4559") false
    fnExactSealUnder_holds (fun _ h => by cases h) (by kernel_rfl) (fun _ h => by cases h) fnExactSealUnder_row_tie rfl ⟨rfl, rfl⟩ (by kernel_rfl) rfl
    (fun f fn hf hfn => by
      obtain rfl : f = 6 := Option.some.inj ((show Tryd.prog.funcNamed "loop.example/mobilenames/laws.FnExactSealUnder" = some 6 by kernel_rfl).symm.trans hf) |>.symm
      obtain rfl : fn = Tryd.f6 := (Option.some.inj (Tryd.func6.symm.trans hfn)).symm
      exact ⟨by kernel_rfl, fun j t ht => by
        rw [Tryd.params6] at ht
        have hm : t ∈ [33, 33] := by simpa using Array.mem_of_getElem? ht
        have hall : ([33, 33].all fun u => !Tryd.prog.wantsStandIn u) = true := by kernel_rfl
        exact (show Tryd.prog.wantsStandIn t = false by simpa using List.all_eq_true.1 hall t hm)⟩)
    (by kernel_rfl)
#print axioms fnExactSealUnderCard_holds
end Go.Proofs.YtlcladalpjcegaaDoor
