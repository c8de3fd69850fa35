/- The card of OrderSafe. -/
import Derived.Test.YtckcedndijobaaaGreatDoorS332b
set_option maxHeartbeats 64000000
namespace Go.Proofs.YtckcedndijobaaaGreatDoor
open Go Go.ChangeShapes Go.WideShapes Go.ChangeAt Go.RowKit HM
theorem orderSafe_card:Rows.OrderSafeCardSaid:=
 Claim7.holds_tied_plain_at .later [] [.data,.data,.data] true (true,"1c5b1d3abae6a9a0f49316f4721bc24a0ed2a7e7ecd6c7946f7b62d623f9d251") false
  orderSafe_row (fun _ h=>by cases h) (by as_aux_lemma=>kernel_rfl) (fun _ h=>by cases h) orderSafe_row_tie rfl ⟨rfl,rfl⟩ (by as_aux_lemma=>kernel_rfl) rfl
  (fun f fn hf hfn=>by
   obtain rfl:f=8:=Option.some.inj ((show Tryz.prog.funcNamed "hopmesh/hopmeshlaw43.OrderSafe" = some 8 by as_aux_lemma=>kernel_rfl).symm.trans hf) |>.symm
   obtain rfl:fn=Tryz.f8:=(Option.some.inj (Tryz.func8.symm.trans hfn)).symm
   exact⟨by as_aux_lemma=>kernel_rfl,fun j t ht=>by
    have hm:t∈[36,37,37,24,24,47]:=by
     have:=Array.mem_of_getElem? ht
     have h2:t∈Tryz.f8.params.toList:=by simpa using this
     exact h2
    have hall:([36,37,37,24,24,47].all fun u=>!Tryz.prog.wantsStandIn u)=true:=by as_aux_lemma=>kernel_rfl
    exact(show Tryz.prog.wantsStandIn t=false by simpa using List.all_eq_true.1 hall t hm)⟩)
  (by as_aux_lemma=>kernel_rfl)
end Go.Proofs.YtckcedndijobaaaGreatDoor
