/- The row of ChangeKeeps. -/
import Derived.Test.YtggiajmlnieidaaGreatDoorS1
import Derived.Test.YtggiajmlnieidaaGreatDoorDb
import Derived.Test.YtggiajmlnieidaaGreatDoorS282
import Derived.Test.YtggiajmlnieidaaGreatDoorS284a
set_option maxHeartbeats 64000000
namespace Go.Proofs.YtggiajmlnieidaaGreatDoor
open Go Go.ChangeShapes Go.WideShapes Go.ChangeAt Go.RowKit HM
set_option maxRecDepth 100000 in
theorem changeKeeps_lifted (os:Os)(started:os.Started)(H:Type)(enc:TypeId×Value→H) :
  ReturnsInHanded {} Tryz.checked os 8 .any (fun w args=>(Rows.changeKeepsSpec.pre enc Tryz.prog Tryz.f8 [] false w args∧laidMetH Tryz.prog laid3 w)∧sizedMet enc Tryz.prog Tryz.f8 (OpenSpec.ofChange Rows.changeKeepsSpec) false w args)
   (Rows.changeKeepsSpec.post enc Tryz.prog Tryz.f8 false true false false):=by
 refine returnsInHanded_of_change_and (C:=Tryz.checked) (X:=fun w _=>laidMetH Tryz.prog laid3 w) (fun _ _ _ hh h=>h.of_heap hh) own started (by kernel_rfl) Tryz.func8
  (ChangeSpec.witness_shaped (enc:=enc) (C:=Tryz.checked) (os:=os) (X:=fun w _=>laidMetH Tryz.prog laid3 w) false (World.doorLaid Tryz.prog 400 os) #[.agg #[.int .i64 0,.slice .none 0 0,.int .i64 0,.int .i64 0,.slice .none 0 0,.slice .none 0 0],.slice .none 0 0,.slice .none 0 0,.agg #[.int .i64 0,.int .i64 0,.slice .none 0 0],.slice .none 0 0,.slice .none 0 0] 8 rfl (World.shaped_of_RefB (by kernel_rfl) (by kernel_rfl)) (by kernel_rfl) (by kernel_rfl) (by kernel_rfl) (door_met os _)) ?_
 intro W base args ds gs before hval0 hW _ hsz hL _
 have hW':=hW
 have hblk:∀p∈before,p.block < W.heap.size:=fun p hp=>hW.lt p hp
 obtain⟨p,q,hA,hV,rfl,hfz,hnd⟩:=hW
 obtain⟨rfl,rfl⟩:=trodVars_none hV
 have hA':DataW.TrodAll enc Tryz.prog W 0 (fun _=>true) true [26,27,27,30,31,70] args.toList ds p:=hA
 have hsz':((DataW.weightsEach Tryz.prog ([26,27,27,30,31,70]++[]) (ds++[])).all fun x=>decide (x≤reachBytes))=true:=hsz
 rw[List.append_nil,List.append_nil]at hsz'
 have hval:∀(j:Nat) t v,[26,27,27,30,31,70][j]? = some t→args.toList[j]? = some v→Value.okWide Tryz.prog W .any base t v:=fun j t v h1 h2=>hval0 j t v (by rw[←Array.getElem?_toList];exact h1) (by rw[←Array.getElem?_toList];exact h2)
 obtain⟨x1,x2,x3,x4,x5,x6,rfl⟩:=len6 (WQ hA')
 obtain⟨es,hes,hvr⟩:=zbz [zjP,.sl zeT,.sl zeT,zc3,.sl zgp,.sl zbe] (P:=Tryz.prog) (ts:=[26,27,27,30,31,70]) ⟨ok_net,ok_reqs,ok_reqs,ok_sched,ok_chgs,ok_script,trivial⟩ hA' hval (fun m hm=>by
  have:=List.all_eq_true.1 hsz' m hm
  simpa using this)
 obtain⟨l1,l2,l3,l4,l5,l6,rfl,a1,a2,a3,a4,a5,a6⟩:=sh6 hes
 obtain⟨n,rfl,n1,n2,n3,n4⟩:=zjT a1
 obtain⟨q,rfl,q1,q2⟩:=zd7 a2
 obtain⟨r,rfl,r1,r2⟩:=zd7 a3
 obtain⟨s,rfl,hs⟩:=ze1 a4
 obtain⟨l,rfl,hl⟩:=zig a5
 obtain⟨x,rfl,hx,hx2⟩:=ze0 a6
 have hcall:=JQ n q r s l x ⟨by omega,fun r h=>Nat.le_trans (n2 r h) (by decide),by omega,by omega⟩ (by omega) q2 (by omega) r2 (by omega) (fun r hr=>Nat.le_trans (hx2 r hr) (by decide)) (by omega) W (JN W) (lw_later (lw_of hL)) rfl (fun _ _ _ _ h=>h) args.toList hvr
 rw[Array.toArray_toList]at hcall
 refine hcall.mono fun e W' ⟨v,he,hb,hv⟩=>?_
 obtain rfl:v=.bool true:=hv
 subst he
 exact⟨_,rfl,post_of_below (pa:=p) (pv:=[]) hW' (fun _ _ _=>trodAll_mk1 (shut_bool bool_und true)) (fun sp hsp=>Yj laidOut hb (by kernel_rfl) hA' (fun p hp=>hblk p (by simpa using hp)) (fun p hp=>hsp p (by simpa using hp))) (fun _ _=>rfl) rfl hb (ok_one (by kernel_rfl) rfl (okWide_bool_mk bool_und true))⟩
theorem changeKeeps_row:Rows.ChangeKeepsSaid:=
 OpenClaim.holds_of_wide 8 Tryz.f8 rfl rfl rfl rfl rfl rfl rfl ⟨rfl,rfl,rfl,rfl,rfl⟩ rfl rfl rfl rfl rfl (by as_aux_lemma=>kernel_rfl) Tryz.func8 changeKeeps_closed
  (of_decide_eq_true (by as_aux_lemma=>kernel_rfl)) (by unfold Func.isWrapper;first|(rw[if_pos (by as_aux_lemma=>decide +kernel)];as_aux_lemma=>kernel_rfl)|(rw[if_neg (by as_aux_lemma=>decide +kernel)];exact⟨rfl,rfl⟩))
  (fun os started H enc _=>changeKeeps_lifted os started H enc)
end Go.Proofs.YtggiajmlnieidaaGreatDoor
