/- The card of OrderSteps. -/
import Derived.Test.YtckcedndijobaaaGreatDoorS313b
set_option maxHeartbeats 64000000
namespace Go.Proofs.YtckcedndijobaaaGreatDoor
open Go Go.ChangeShapes Go.WideShapes Go.ChangeAt Go.RowKit HM
theorem orderSteps_card:Rows.OrderStepsCardSaid:=
 Claim7.holds_tied_plain_at .later [] [.data,.data,.data] true (true,"1c5b1d3abae6a9a0f49316f4721bc24a0ed2a7e7ecd6c7946f7b62d623f9d251") false
  orderSteps_row (fun _ h=>by cases h) (by as_aux_lemma=>kernel_rfl) (fun _ h=>by cases h) orderSteps_row_tie rfl ⟨rfl,rfl⟩ (by as_aux_lemma=>kernel_rfl) rfl
  (fun f fn hf hfn=>by
   obtain rfl:f=3:=Option.some.inj ((show Tryz.prog.funcNamed "hopmesh/hopmeshlaw43.OrderSteps" = some 3 by as_aux_lemma=>kernel_rfl).symm.trans hf) |>.symm
   obtain rfl:fn=Tryz.f3:=(Option.some.inj (Tryz.func3.symm.trans hfn)).symm
   exact⟨by as_aux_lemma=>kernel_rfl,fun j t ht=>by
    have hm:t∈[24,24]:=by
     have:=Array.mem_of_getElem? ht
     have h2:t∈Tryz.f3.params.toList:=by simpa using this
     exact h2
    have hall:([24,24].all fun u=>!Tryz.prog.wantsStandIn u)=true:=by as_aux_lemma=>kernel_rfl
    exact(show Tryz.prog.wantsStandIn t=false by simpa using List.all_eq_true.1 hall t hm)⟩)
  (by as_aux_lemma=>kernel_rfl)
end Go.Proofs.YtckcedndijobaaaGreatDoor
