/- The card of LineAsks: the row is proved, its listed variables are tied to the program's text. -/
import Derived.Test.YtmfpmedkhlhnpaaGreatDoorT5
import Derived.Test.YtmfpmedkhlhnpaaGreatDoorTie
import Derived.Test.YtmfpmedkhlhnpaaGreatDoorCards
import Derived.SevenTiedAt
namespace Go.Proofs.YtmfpmedkhlhnpaaGreatDoor
open Go
set_option maxRecDepth 100000
theorem lineAsks_card : Rows.LineAsksCardSaid :=
  Claim7.holds_tied_plain_at .later [] [.data, .data, .data, .data, .sentinel, .sentinel, .pinned] true (true, "2509b504536f1be4ec154a3c9b004472094789a172c5e9bd9ae5ac07f0acb60b") true
    lineAsks_holds (fun _ h => by cases h) (by kernel_rfl) (fun _ h => by cases h) lineAsks_row_tie rfl ⟨rfl, rfl⟩ (by kernel_rfl) rfl
    (fun f fn hf hfn => by
      obtain rfl : f = 3 := Option.some.inj ((show Tryz.prog.funcNamed "knapsack/knapsacklaw20.LineAsks" = some 3 by kernel_rfl).symm.trans hf) |>.symm
      obtain rfl : fn = Tryz.f3 := (Option.some.inj (Tryz.func3.symm.trans hfn)).symm
      exact ⟨by kernel_rfl, fun j t ht => by
        rw [Tryz.params3] at ht
        have hm : t ∈ [26] := by simpa using Array.mem_of_getElem? ht
        have hall : ([26].all fun u => !Tryz.prog.wantsStandIn u) = true := by kernel_rfl
        exact (show Tryz.prog.wantsStandIn t = false by simpa using List.all_eq_true.1 hall t hm)⟩)
    (by kernel_rfl)
#print axioms lineAsks_card
end Go.Proofs.YtmfpmedkhlhnpaaGreatDoor
