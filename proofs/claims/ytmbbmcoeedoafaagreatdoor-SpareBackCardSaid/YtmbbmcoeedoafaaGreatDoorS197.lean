/- The card of SpareBack. -/
import Derived.Test.YtmbbmcoeedoafaaGreatDoorS197b

namespace Go.Proofs.YtmbbmcoeedoafaaGreatDoor
open Go Go.ChangeShapes Go.WideShapes Go.ChangeAt Go.RowKit HM

set_option maxHeartbeats 0 in
theorem spareBack_card : Rows.SpareBackCardSaid :=
  Claim7.holds_tied_plain_at .later [] [.data, .data, .data] true (true, "2239bd1ecbc6b9b6a75279e5e9fedd0f4cd3661c912a06b0e570424c19a95043") false
    spareBack_row (fun _ h => by cases h) (by as_aux_lemma => kernel_rfl) (fun _ h => by cases h) spareBack_row_tie rfl ⟨rfl, rfl⟩ (by as_aux_lemma => kernel_rfl) rfl
    (fun f fn hf hfn => by
      obtain rfl : f = 3 := Option.some.inj ((show Tryz.prog.funcNamed "hopmesh/hopmeshlaw44.SpareBack" = some 3 by as_aux_lemma => kernel_rfl).symm.trans hf) |>.symm
      obtain rfl : fn = Tryz.f3 := (Option.some.inj (Tryz.func3.symm.trans hfn)).symm
      exact ⟨by as_aux_lemma => kernel_rfl, fun j t ht => by
        have hm : t ∈ [26, 27, 30, 5, 5] := by
          have := Array.mem_of_getElem? ht
          have h2 : t ∈ Tryz.f3.params.toList := by simpa using this
          exact h2
        have hall : ([26, 27, 30, 5, 5].all fun u => !Tryz.prog.wantsStandIn u) = true := by as_aux_lemma => kernel_rfl
        exact (show Tryz.prog.wantsStandIn t = false by simpa using List.all_eq_true.1 hall t hm)⟩)
    (by as_aux_lemma => kernel_rfl)
end Go.Proofs.YtmbbmcoeedoafaaGreatDoor
