/- The row of ChangeApplies. -/
import Derived.Test.YtggiajmlnieidaaGreatDoorS86
import Derived.Test.YtggiajmlnieidaaGreatDoorDb
import Derived.Test.YtggiajmlnieidaaGreatDoorS270
import Derived.Test.YtggiajmlnieidaaGreatDoorS273a
set_option maxHeartbeats 64000000
namespace Go.Proofs.YtggiajmlnieidaaGreatDoor
open Go Go.ChangeShapes Go.WideShapes Go.ChangeAt Go.RowKit HM
set_option maxRecDepth 100000 in
theorem changeApplies_lifted (os:Os)(started:os.Started)(H:Type)(enc:TypeId×Value→H) :
  ReturnsInHanded {} Tryz.checked os 6 .any (fun w args=>(Rows.changeAppliesSpec.pre enc Tryz.prog Tryz.f6 [] false w args∧laidMetH Tryz.prog laid3 w)∧sizedMet enc Tryz.prog Tryz.f6 (OpenSpec.ofChange Rows.changeAppliesSpec) false w args)
   (Rows.changeAppliesSpec.post enc Tryz.prog Tryz.f6 false true false false):=by
 refine returnsInHanded_of_change_and (C:=Tryz.checked) (X:=fun w _=>laidMetH Tryz.prog laid3 w) (fun _ _ _ hh h=>h.of_heap hh) own started (by kernel_rfl) Tryz.func6
  (ChangeSpec.witness_shaped (enc:=enc) (C:=Tryz.checked) (os:=os) (X:=fun w _=>laidMetH Tryz.prog laid3 w) false (World.doorLaid Tryz.prog 400 os) #[.agg #[.int .i64 0,.int .i64 0,.slice .none 0 0],.slice .none 0 0,.int .i64 0] 8 rfl (World.shaped_of_RefB (by kernel_rfl) (by kernel_rfl)) (by kernel_rfl) (by kernel_rfl) (by kernel_rfl) (door_met os _)) ?_
 intro W base args ds gs before hval0 hW _ hsz hL _
 have hW':=hW
 have hblk:∀p∈before,p.block < W.heap.size:=fun p hp=>hW.lt p hp
 obtain⟨p,q,hA,hV,rfl,hfz,hnd⟩:=hW
 obtain⟨rfl,rfl⟩:=trodVars_none hV
 have hA':DataW.TrodAll enc Tryz.prog W 0 (fun _=>true) true [30,31,3] args.toList ds p:=hA
 have hsz':((DataW.weightsEach Tryz.prog ([30,31,3]++[]) (ds++[])).all fun x=>decide (x≤reachBytes))=true:=hsz
 rw[List.append_nil,List.append_nil]at hsz'
 have hval:∀(j:Nat) t v,[30,31,3][j]? = some t→args.toList[j]? = some v→Value.okWide Tryz.prog W .any base t v:=fun j t v h1 h2=>hval0 j t v (by rw[←Array.getElem?_toList];exact h1) (by rw[←Array.getElem?_toList];exact h2)
 obtain⟨x1,x2,x3,rfl⟩:=len3 (trodAll_len hA')
 obtain⟨es,hes,hvr⟩:=readArgs [tSched,.sl tChg,tI] (P:=Tryz.prog) (ts:=[30,31,3]) ⟨ok_sched,ok_chgs,ok_int,trivial⟩ hA' hval (fun m hm=>by
  have:=List.all_eq_true.1 hsz' m hm
  simpa using this)
 obtain⟨l1,l2,l3,rfl,a1,a2,a3⟩:=sh3 hes
 obtain⟨s,rfl,hs⟩:=sh_sched' a1
 obtain⟨l,rfl,hl⟩:=sh_chgs a2
 obtain⟨t,rfl,t1⟩:=sh_int a3
 have hcall:=c_ChangeApplies s l t (by omega) (by omega) (by unfold I64b at t1;omega) W (gOld W) (lw_later (lw_of hL)) rfl (fun _ _ _ _ h=>h) args.toList hvr
 rw[Array.toArray_toList]at hcall
 refine hcall.mono fun e W' ⟨v,he,hb,hv⟩=>?_
 obtain rfl:v=.bool true:=hv
 subst he
 exact⟨_,rfl,post_of_below (pa:=p) (pv:=[]) hW' (fun _ _ _=>trodAll_mk1 (shut_bool bool_und true)) (fun sp hsp=>trodAll_stays laidOut hb (by kernel_rfl) hA' (fun p hp=>hblk p (by simpa using hp)) (fun p hp=>hsp p (by simpa using hp))) (fun _ _=>rfl) rfl hb (ok_one (by kernel_rfl) rfl (okWide_bool_mk bool_und true))⟩
theorem changeApplies_row:Rows.ChangeAppliesSaid:=
 OpenClaim.holds_of_wide 6 Tryz.f6 rfl rfl rfl rfl rfl rfl rfl ⟨rfl,rfl,rfl,rfl,rfl⟩ rfl rfl rfl rfl rfl (by as_aux_lemma=>kernel_rfl) Tryz.func6 changeApplies_closed
  (of_decide_eq_true (by as_aux_lemma=>kernel_rfl)) (by unfold Func.isWrapper;first|(rw[if_pos (by as_aux_lemma=>decide +kernel)];as_aux_lemma=>kernel_rfl)|(rw[if_neg (by as_aux_lemma=>decide +kernel)];exact⟨rfl,rfl⟩))
  (fun os started H enc _=>changeApplies_lifted os started H enc)
end Go.Proofs.YtggiajmlnieidaaGreatDoor
