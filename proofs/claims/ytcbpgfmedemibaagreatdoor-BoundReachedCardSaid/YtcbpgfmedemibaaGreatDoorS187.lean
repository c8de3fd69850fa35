/- The card of BoundReached. -/
import Derived.Test.YtcbpgfmedemibaaGreatDoorS187b

namespace Go.Proofs.YtcbpgfmedemibaaGreatDoor
open Go Go.ChangeShapes Go.WideShapes Go.ChangeAt Go.RowKit HM

set_option maxHeartbeats 0 in
theorem boundReached_card : Rows.BoundReachedCardSaid :=
  Claim7.holds_tied_plain_at .later [] [.data, .data, .data] true (true, "da3bebe9e75fba40b3ca6d67924c712b8512388a2235f4c898ee4d32b5eabd43") false
    boundReached_row (fun _ h => by cases h) (by as_aux_lemma => kernel_rfl) (fun _ h => by cases h) boundReached_row_tie rfl ⟨rfl, rfl⟩ (by as_aux_lemma => kernel_rfl) rfl
    (fun f fn hf hfn => by
      obtain rfl : f = 6 := Option.some.inj ((show Tryz.prog.funcNamed "hopmesh/hopmeshlaw37.BoundReached" = some 6 by as_aux_lemma => kernel_rfl).symm.trans hf) |>.symm
      obtain rfl : fn = Tryz.f6 := (Option.some.inj (Tryz.func6.symm.trans hfn)).symm
      exact ⟨by as_aux_lemma => kernel_rfl, fun j t ht => by
        have hm : t ∈ [26, 29, 31, 33, 5] := by
          have := Array.mem_of_getElem? ht
          have h2 : t ∈ Tryz.f6.params.toList := by simpa using this
          exact h2
        have hall : ([26, 29, 31, 33, 5].all fun u => !Tryz.prog.wantsStandIn u) = true := by as_aux_lemma => kernel_rfl
        exact (show Tryz.prog.wantsStandIn t = false by simpa using List.all_eq_true.1 hall t hm)⟩)
    (by as_aux_lemma => kernel_rfl)
end Go.Proofs.YtcbpgfmedemibaaGreatDoor
