/- The card of ChangeKeeps. -/
import Derived.Test.YtggiajmlnieidaaGreatDoorS284b
set_option maxHeartbeats 64000000
namespace Go.Proofs.YtggiajmlnieidaaGreatDoor
open Go Go.ChangeShapes Go.WideShapes Go.ChangeAt Go.RowKit HM
theorem changeKeeps_card:Rows.ChangeKeepsCardSaid:=
 Claim7.holds_tied_plain_at .later [] [.data,.data,.data] true (true,"0c0ac5a332da7b2ac8a44a82f5c8c00faa21e68694cab8a80e60d851fe6b8b64") false
  changeKeeps_row (fun _ h=>by cases h) (by as_aux_lemma=>kernel_rfl) (fun _ h=>by cases h) changeKeeps_row_tie rfl ⟨rfl,rfl⟩ (by as_aux_lemma=>kernel_rfl) rfl
  (fun f fn hf hfn=>by
   obtain rfl:f=8:=Option.some.inj ((show Tryz.prog.funcNamed "hopmesh/hopmeshlaw42.ChangeKeeps" = some 8 by as_aux_lemma=>kernel_rfl).symm.trans hf) |>.symm
   obtain rfl:fn=Tryz.f8:=(Option.some.inj (Tryz.func8.symm.trans hfn)).symm
   exact⟨by as_aux_lemma=>kernel_rfl,fun j t ht=>by
    have hm:t∈[26,27,27,30,31,70]:=by
     have:=Array.mem_of_getElem? ht
     have h2:t∈Tryz.f8.params.toList:=by simpa using this
     exact h2
    have hall:([26,27,27,30,31,70].all fun u=>!Tryz.prog.wantsStandIn u)=true:=by as_aux_lemma=>kernel_rfl
    exact(show Tryz.prog.wantsStandIn t=false by simpa using List.all_eq_true.1 hall t hm)⟩)
  (by as_aux_lemma=>kernel_rfl)
end Go.Proofs.YtggiajmlnieidaaGreatDoor
