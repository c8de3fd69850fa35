/- The card of ChangeApplies. -/
import Derived.Test.YtggiajmlnieidaaGreatDoorS273b
set_option maxHeartbeats 64000000
namespace Go.Proofs.YtggiajmlnieidaaGreatDoor
open Go Go.ChangeShapes Go.WideShapes Go.ChangeAt Go.RowKit HM
theorem changeApplies_card:Rows.ChangeAppliesCardSaid:=
 Claim7.holds_tied_plain_at .later [] [.data,.data,.data] true (true,"0c0ac5a332da7b2ac8a44a82f5c8c00faa21e68694cab8a80e60d851fe6b8b64") false
  changeApplies_row (fun _ h=>by cases h) (by as_aux_lemma=>kernel_rfl) (fun _ h=>by cases h) changeApplies_row_tie rfl ⟨rfl,rfl⟩ (by as_aux_lemma=>kernel_rfl) rfl
  (fun f fn hf hfn=>by
   obtain rfl:f=6:=Option.some.inj ((show Tryz.prog.funcNamed "hopmesh/hopmeshlaw42.ChangeApplies" = some 6 by as_aux_lemma=>kernel_rfl).symm.trans hf) |>.symm
   obtain rfl:fn=Tryz.f6:=(Option.some.inj (Tryz.func6.symm.trans hfn)).symm
   exact⟨by as_aux_lemma=>kernel_rfl,fun j t ht=>by
    have hm:t∈[30,31,3]:=by
     have:=Array.mem_of_getElem? ht
     have h2:t∈Tryz.f6.params.toList:=by simpa using this
     exact h2
    have hall:([30,31,3].all fun u=>!Tryz.prog.wantsStandIn u)=true:=by as_aux_lemma=>kernel_rfl
    exact(show Tryz.prog.wantsStandIn t=false by simpa using List.all_eq_true.1 hall t hm)⟩)
  (by as_aux_lemma=>kernel_rfl)
end Go.Proofs.YtggiajmlnieidaaGreatDoor
