/- The card of AdmitExact. -/
import Derived.Test.YtgfboaadhlhjhaaGreatDoorX
import Derived.Test.YtgfboaadhlhjhaaGreatDoorXS
import Derived.Test.YtgfboaadhlhjhaaGreatDoorS239b
namespace Go.Proofs.YtgfboaadhlhjhaaGreatDoor
open Go Go.ChangeShapes Go.WideShapes Go.ChangeAt Go.RowKit HM
set_option maxHeartbeats 0 in
theorem admitExact_card : Rows.AdmitExactCardSaid :=
  Claim7.holds_tied_plain_at .later [] [.data, .data, .data] true (true, "f323acad27f9514f76d5f0407bc121b746e5124d3a16ced0f852d7f36ef46805") false
    admitExact_row (fun _ h => by cases h) (by as_aux_lemma => kernel_rfl) (fun _ h => by cases h) admitExact_row_tie rfl ⟨rfl, rfl⟩ (by as_aux_lemma => kernel_rfl) rfl
    (fun f fn hf hfn => by
      obtain rfl : f = 6 := Option.some.inj ((show Tryz.prog.funcNamed "hopmesh/hopmeshlaw41.AdmitExact" = some 6 by as_aux_lemma => kernel_rfl).symm.trans hf) |>.symm
      obtain rfl : fn = Tryz.f6 := (Option.some.inj (Tryz.func6.symm.trans hfn)).symm
      exact ⟨by as_aux_lemma => kernel_rfl, fun j t ht => by
        have hm : t ∈ [26, 42, 29, 47, 27] := by
          have := Array.mem_of_getElem? ht
          have h2 : t ∈ Tryz.f6.params.toList := by simpa using this
          exact h2
        have hall : ([26, 42, 29, 47, 27].all fun u => !Tryz.prog.wantsStandIn u) = true := by as_aux_lemma => kernel_rfl
        exact (show Tryz.prog.wantsStandIn t = false by simpa using List.all_eq_true.1 hall t hm)⟩)
    (by as_aux_lemma => kernel_rfl)
end Go.Proofs.YtgfboaadhlhjhaaGreatDoor
