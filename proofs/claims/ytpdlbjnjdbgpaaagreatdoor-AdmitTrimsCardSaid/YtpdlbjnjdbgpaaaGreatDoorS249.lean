/- The card of AdmitTrims. -/
import Derived.Test.YtpdlbjnjdbgpaaaGreatDoorS249b
set_option maxHeartbeats 64000000
namespace Go.Proofs.YtpdlbjnjdbgpaaaGreatDoor
open Go Go.ChangeShapes Go.WideShapes Go.ChangeAt Go.RowKit HM
theorem admitTrims_card:Rows.AdmitTrimsCardSaid:=
 Claim7.holds_tied_plain_at .later [] [.data,.data,.data] true (true,"5b211b13e26db31108f3e3894480a9a37a659d6f31500ed33d9714c53b6a38c5") false
  admitTrims_row (fun _ h=>by cases h) (by as_aux_lemma=>kernel_rfl) (fun _ h=>by cases h) admitTrims_row_tie rfl ⟨rfl,rfl⟩ (by as_aux_lemma=>kernel_rfl) rfl
  (fun f fn hf hfn=>by
   obtain rfl:f=3:=Option.some.inj ((show Tryz.prog.funcNamed "hopmesh/hopmeshlaw41.AdmitTrims" = some 3 by as_aux_lemma=>kernel_rfl).symm.trans hf) |>.symm
   obtain rfl:fn=Tryz.f3:=(Option.some.inj (Tryz.func3.symm.trans hfn)).symm
   exact⟨by as_aux_lemma=>kernel_rfl,fun j t ht=>by
    have hm:t∈[26,27,30]:=by
     have:=Array.mem_of_getElem? ht
     have h2:t∈Tryz.f3.params.toList:=by simpa using this
     exact h2
    have hall:([26,27,30].all fun u=>!Tryz.prog.wantsStandIn u)=true:=by as_aux_lemma=>kernel_rfl
    exact(show Tryz.prog.wantsStandIn t=false by simpa using List.all_eq_true.1 hall t hm)⟩)
  (by as_aux_lemma=>kernel_rfl)
end Go.Proofs.YtpdlbjnjdbgpaaaGreatDoor
