/- The card of AdmitAdds. -/
import Derived.Test.YtgfboaadhlhjhaaGreatDoorS232b
namespace Go.Proofs.YtgfboaadhlhjhaaGreatDoor
open Go Go.ChangeShapes Go.WideShapes Go.ChangeAt Go.RowKit HM
set_option maxHeartbeats 0 in
theorem admitAdds_card : Rows.AdmitAddsCardSaid :=
  Claim7.holds_tied_plain_at .later [] [.data, .data, .data] true (true, "f323acad27f9514f76d5f0407bc121b746e5124d3a16ced0f852d7f36ef46805") false
    admitAdds_row (fun _ h => by cases h) (by as_aux_lemma => kernel_rfl) (fun _ h => by cases h) admitAdds_row_tie rfl ⟨rfl, rfl⟩ (by as_aux_lemma => kernel_rfl) rfl
    (fun f fn hf hfn => by
      obtain rfl : f = 4 := Option.some.inj ((show Tryz.prog.funcNamed "hopmesh/hopmeshlaw41.AdmitAdds" = some 4 by as_aux_lemma => kernel_rfl).symm.trans hf) |>.symm
      obtain rfl : fn = Tryz.f4 := (Option.some.inj (Tryz.func4.symm.trans hfn)).symm
      exact ⟨by as_aux_lemma => kernel_rfl, fun j t ht => by
        have hm : t ∈ [26, 42, 29, 47] := by
          have := Array.mem_of_getElem? ht
          have h2 : t ∈ Tryz.f4.params.toList := by simpa using this
          exact h2
        have hall : ([26, 42, 29, 47].all fun u => !Tryz.prog.wantsStandIn u) = true := by as_aux_lemma => kernel_rfl
        exact (show Tryz.prog.wantsStandIn t = false by simpa using List.all_eq_true.1 hall t hm)⟩)
    (by as_aux_lemma => kernel_rfl)
end Go.Proofs.YtgfboaadhlhjhaaGreatDoor
