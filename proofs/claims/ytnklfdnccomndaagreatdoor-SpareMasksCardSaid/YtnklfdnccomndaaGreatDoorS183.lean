/- The card of SpareMasks. -/
import Derived.Test.YtnklfdnccomndaaGreatDoorS183b

namespace Go.Proofs.YtnklfdnccomndaaGreatDoor
open Go Go.ChangeShapes Go.WideShapes Go.ChangeAt Go.RowKit HM

set_option maxHeartbeats 0 in
theorem spareMasks_card : Rows.SpareMasksCardSaid :=
  Claim7.holds_tied_plain_at .later [] [.data, .data, .data] true (true, "ac4cd7aea182e06f52320034ee9d5dfeaefa0c2b6ba3976da097d19635e1168a") false
    spareMasks_row (fun _ h => by cases h) (by as_aux_lemma => kernel_rfl) (fun _ h => by cases h) spareMasks_row_tie rfl ⟨rfl, rfl⟩ (by as_aux_lemma => kernel_rfl) rfl
    (fun f fn hf hfn => by
      obtain rfl : f = 3 := Option.some.inj ((show Tryz.prog.funcNamed "hopmesh/hopmeshlaw44.SpareMasks" = some 3 by as_aux_lemma => kernel_rfl).symm.trans hf) |>.symm
      obtain rfl : fn = Tryz.f3 := (Option.some.inj (Tryz.func3.symm.trans hfn)).symm
      exact ⟨by as_aux_lemma => kernel_rfl, fun j t ht => by
        have hm : t ∈ [24, 25] := by
          have := Array.mem_of_getElem? ht
          have h2 : t ∈ Tryz.f3.params.toList := by simpa using this
          exact h2
        have hall : ([24, 25].all fun u => !Tryz.prog.wantsStandIn u) = true := by as_aux_lemma => kernel_rfl
        exact (show Tryz.prog.wantsStandIn t = false by simpa using List.all_eq_true.1 hall t hm)⟩)
    (by as_aux_lemma => kernel_rfl)
end Go.Proofs.YtnklfdnccomndaaGreatDoor
