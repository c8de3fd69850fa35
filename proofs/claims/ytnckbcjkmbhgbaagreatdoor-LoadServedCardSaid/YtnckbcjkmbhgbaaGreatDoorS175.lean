/- The card of LoadServed. -/
import Derived.Test.YtnckbcjkmbhgbaaGreatDoorS175b

namespace Go.Proofs.YtnckbcjkmbhgbaaGreatDoor
open Go Go.ChangeShapes Go.WideShapes Go.ChangeAt Go.RowKit HM

set_option maxHeartbeats 0 in
theorem loadServed_card : Rows.LoadServedCardSaid :=
  Claim7.holds_tied_plain_at .later [] [.data, .data, .data] true (true, "b79d8b7db895ae6182e2a08779c0a3dba3a81101a8bed58ae18b163c34800652") false
    loadServed_row (fun _ h => by cases h) (by as_aux_lemma => kernel_rfl) (fun _ h => by cases h) loadServed_row_tie rfl ⟨rfl, rfl⟩ (by as_aux_lemma => kernel_rfl) rfl
    (fun f fn hf hfn => by
      obtain rfl : f = 13 := Option.some.inj ((show Tryz.prog.funcNamed "hopmesh/hopmeshlaw39.LoadServed" = some 13 by as_aux_lemma => kernel_rfl).symm.trans hf) |>.symm
      obtain rfl : fn = Tryz.f13 := (Option.some.inj (Tryz.func13.symm.trans hfn)).symm
      exact ⟨by as_aux_lemma => kernel_rfl, fun j t ht => by
        have hm : t ∈ [26, 54, 29] := by
          have := Array.mem_of_getElem? ht
          have h2 : t ∈ Tryz.f13.params.toList := by simpa using this
          exact h2
        have hall : ([26, 54, 29].all fun u => !Tryz.prog.wantsStandIn u) = true := by as_aux_lemma => kernel_rfl
        exact (show Tryz.prog.wantsStandIn t = false by simpa using List.all_eq_true.1 hall t hm)⟩)
    (by as_aux_lemma => kernel_rfl)
end Go.Proofs.YtnckbcjkmbhgbaaGreatDoor
