/- The card of OrderDecides. -/
import Derived.Test.YtckcedndijobaaaGreatDoorS331b
set_option maxHeartbeats 64000000
namespace Go.Proofs.YtckcedndijobaaaGreatDoor
open Go Go.ChangeShapes Go.WideShapes Go.ChangeAt Go.RowKit HM
theorem orderDecides_card:Rows.OrderDecidesCardSaid:=
 Claim7.holds_tied_plain_at .later [] [.data,.data,.data] true (true,"1c5b1d3abae6a9a0f49316f4721bc24a0ed2a7e7ecd6c7946f7b62d623f9d251") false
  orderDecides_row (fun _ h=>by cases h) (by as_aux_lemma=>kernel_rfl) (fun _ h=>by cases h) orderDecides_row_tie rfl ⟨rfl,rfl⟩ (by as_aux_lemma=>kernel_rfl) rfl
  (fun f fn hf hfn=>by
   obtain rfl:f=7:=Option.some.inj ((show Tryz.prog.funcNamed "hopmesh/hopmeshlaw43.OrderDecides" = some 7 by as_aux_lemma=>kernel_rfl).symm.trans hf) |>.symm
   obtain rfl:fn=Tryz.f7:=(Option.some.inj (Tryz.func7.symm.trans hfn)).symm
   exact⟨by as_aux_lemma=>kernel_rfl,fun j t ht=>by
    have hm:t∈[36,37,37,24,24,34]:=by
     have:=Array.mem_of_getElem? ht
     have h2:t∈Tryz.f7.params.toList:=by simpa using this
     exact h2
    have hall:([36,37,37,24,24,34].all fun u=>!Tryz.prog.wantsStandIn u)=true:=by as_aux_lemma=>kernel_rfl
    exact(show Tryz.prog.wantsStandIn t=false by simpa using List.all_eq_true.1 hall t hm)⟩)
  (by as_aux_lemma=>kernel_rfl)
end Go.Proofs.YtckcedndijobaaaGreatDoor
