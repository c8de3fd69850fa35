/- The row of OrderDecides. -/
import Derived.Test.YtckcedndijobaaaGreatDoorS86
import Derived.Test.YtckcedndijobaaaGreatDoorDb
import Derived.Test.YtckcedndijobaaaGreatDoorS325
import Derived.Test.YtckcedndijobaaaGreatDoorS331a
set_option maxHeartbeats 64000000
namespace Go.Proofs.YtckcedndijobaaaGreatDoor
open Go Go.ChangeShapes Go.WideShapes Go.ChangeAt Go.RowKit HM
set_option maxRecDepth 100000 in
theorem orderDecides_lifted (os:Os)(started:os.Started)(H:Type)(enc:TypeId×Value→H) :
  ReturnsInHanded {} Tryz.checked os 7 .any (fun w args=>(Rows.orderDecidesSpec.pre enc Tryz.prog Tryz.f7 [] false w args∧laidMetH Tryz.prog laid3 w)∧sizedMet enc Tryz.prog Tryz.f7 (OpenSpec.ofChange Rows.orderDecidesSpec) false w args)
   (Rows.orderDecidesSpec.post enc Tryz.prog Tryz.f7 false true false false):=by
 refine returnsInHanded_of_change_and (C:=Tryz.checked) (X:=fun w _=>laidMetH Tryz.prog laid3 w) (fun _ _ _ hh h=>h.of_heap hh) own started (by kernel_rfl) Tryz.func7
  (ChangeSpec.witness_shaped (enc:=enc) (C:=Tryz.checked) (os:=os) (X:=fun w _=>laidMetH Tryz.prog laid3 w) false (World.doorLaid Tryz.prog 400 os) #[.agg #[.int .i64 0,.slice .none 0 0,.int .i64 0,.int .i64 0,.slice .none 0 0,.slice .none 0 0],.slice .none 0 0,.slice .none 0 0,.agg #[.int .i64 0,.int .i64 0,.slice .none 0 0],.agg #[.int .i64 0,.int .i64 0,.slice .none 0 0],.slice .none 0 0] 8 rfl (World.shaped_of_RefB (by kernel_rfl) (by kernel_rfl)) (by kernel_rfl) (by kernel_rfl) (by kernel_rfl) (door_met os _)) ?_
 intro W base args ds gs before hval0 hW _ hsz hL _
 have hW':=hW
 have hblk:∀p∈before,p.block < W.heap.size:=fun p hp=>hW.lt p hp
 obtain⟨p,q,hA,hV,rfl,hfz,hnd⟩:=hW
 obtain⟨rfl,rfl⟩:=trodVars_none hV
 have hA':DataW.TrodAll enc Tryz.prog W 0 (fun _=>true) true [36,37,37,24,24,34] args.toList ds p:=hA
 have hsz':((DataW.weightsEach Tryz.prog ([36,37,37,24,24,34]++[]) (ds++[])).all fun x=>decide (x≤reachBytes))=true:=hsz
 rw[List.append_nil,List.append_nil]at hsz'
 have hval:∀(j:Nat) t v,[36,37,37,24,24,34][j]? = some t→args.toList[j]? = some v→Value.okWide Tryz.prog W .any base t v:=fun j t v h1 h2=>hval0 j t v (by rw[←Array.getElem?_toList];exact h1) (by rw[←Array.getElem?_toList];exact h2)
 obtain⟨x1,x2,x3,x4,x5,x6,rfl⟩:=len6 (trodAll_len hA')
 obtain⟨es,hes,hvr⟩:=readArgs [tNet,.sl tReq,.sl tReq,tSched,tSched,.sl tI] (P:=Tryz.prog) (ts:=[36,37,37,24,24,34]) ⟨ok_net,ok_reqs,ok_reqs,ok_sched,ok_sched,ok_ints,trivial⟩ hA' hval (fun m hm=>by
  have:=List.all_eq_true.1 hsz' m hm
  simpa using this)
 obtain⟨l1,l2,l3,l4,l5,l6,rfl,a1,a2,a3,a4,a5,a6⟩:=sh6 hes
 obtain⟨n,rfl,n1,n2,n3,n4⟩:=sh_net a1
 obtain⟨before,rfl,before1,before2⟩:=sh_reqs a2
 obtain⟨after,rfl,after1,after2⟩:=sh_reqs a3
 obtain⟨s,rfl,hs⟩:=sh_sched' a4
 obtain⟨t,rfl,ht⟩:=sh_sched' a5
 obtain⟨l,rfl,hl⟩:=sh_ints a6
 have hcall:=c_OrderDecides n before after s t l ⟨by omega,fun r h=>Nat.le_trans (n2 r h) (by decide),by omega,by omega⟩ (by omega) before2 (by omega) after2 (by omega) W (gOld W) (lw_later (lw_of hL)) rfl (fun _ _ _ _ h=>h) args.toList hvr
 rw[Array.toArray_toList]at hcall
 refine hcall.mono fun e W' ⟨v,he,hb,hv⟩=>?_
 obtain rfl:v=.bool true:=hv
 subst he
 exact⟨_,rfl,post_of_below (pa:=p) (pv:=[]) hW' (fun _ _ _=>trodAll_mk1 (shut_bool bool_und true)) (fun sp hsp=>trodAll_stays laidOut hb (by kernel_rfl) hA' (fun p hp=>hblk p (by simpa using hp)) (fun p hp=>hsp p (by simpa using hp))) (fun _ _=>rfl) rfl hb (ok_one (by kernel_rfl) rfl (okWide_bool_mk bool_und true))⟩
theorem orderDecides_row:Rows.OrderDecidesSaid:=
 OpenClaim.holds_of_wide 7 Tryz.f7 rfl rfl rfl rfl rfl rfl rfl ⟨rfl,rfl,rfl,rfl,rfl⟩ rfl rfl rfl rfl rfl (by as_aux_lemma=>kernel_rfl) Tryz.func7 orderDecides_closed
  (of_decide_eq_true (by as_aux_lemma=>kernel_rfl)) (by unfold Func.isWrapper;first|(rw[if_pos (by as_aux_lemma=>decide +kernel)];as_aux_lemma=>kernel_rfl)|(rw[if_neg (by as_aux_lemma=>decide +kernel)];exact⟨rfl,rfl⟩))
  (fun os started H enc _=>orderDecides_lifted os started H enc)
end Go.Proofs.YtckcedndijobaaaGreatDoor
