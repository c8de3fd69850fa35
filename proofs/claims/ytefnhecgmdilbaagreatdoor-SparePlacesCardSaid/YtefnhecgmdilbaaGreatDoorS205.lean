/- The card of SparePlaces. -/
import Derived.Test.YtefnhecgmdilbaaGreatDoorS205b

namespace Go.Proofs.YtefnhecgmdilbaaGreatDoor
open Go Go.ChangeShapes Go.WideShapes Go.ChangeAt Go.RowKit HM

set_option maxHeartbeats 0 in
theorem sparePlaces_card : Rows.SparePlacesCardSaid :=
  Claim7.holds_tied_plain_at .later [] [.data, .data, .data] true (true, "fe5c226899587c13e0c7049363c24d6bb915f77118ed89611daceecf4b8e8681") false
    sparePlaces_row (fun _ h => by cases h) (by as_aux_lemma => kernel_rfl) (fun _ h => by cases h) sparePlaces_row_tie rfl ⟨rfl, rfl⟩ (by as_aux_lemma => kernel_rfl) rfl
    (fun f fn hf hfn => by
      obtain rfl : f = 3 := Option.some.inj ((show Tryz.prog.funcNamed "hopmesh/hopmeshlaw44.SparePlaces" = some 3 by as_aux_lemma => kernel_rfl).symm.trans hf) |>.symm
      obtain rfl : fn = Tryz.f3 := (Option.some.inj (Tryz.func3.symm.trans hfn)).symm
      exact ⟨by as_aux_lemma => kernel_rfl, fun j t ht => by
        have hm : t ∈ [26, 27, 30, 32] := by
          have := Array.mem_of_getElem? ht
          have h2 : t ∈ Tryz.f3.params.toList := by simpa using this
          exact h2
        have hall : ([26, 27, 30, 32].all fun u => !Tryz.prog.wantsStandIn u) = true := by as_aux_lemma => kernel_rfl
        exact (show Tryz.prog.wantsStandIn t = false by simpa using List.all_eq_true.1 hall t hm)⟩)
    (by as_aux_lemma => kernel_rfl)
end Go.Proofs.YtefnhecgmdilbaaGreatDoor
