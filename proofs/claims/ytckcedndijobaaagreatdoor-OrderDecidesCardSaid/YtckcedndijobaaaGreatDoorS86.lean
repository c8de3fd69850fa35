/- From the walk to a row. -/
import Derived.Test.YtckcedndijobaaaGreatDoorS1
import Derived.Test.YtckcedndijobaaaGreatDoorDa
import Derived.Test.YtckcedndijobaaaGreatDoorRows
import Derived.Test.YtckcedndijobaaaGreatDoorTie
import Derived.Test.YtckcedndijobaaaGreatDoorCards
import Derived.ProofKit
import Derived.LaidMore
import Derived.OpenShut
import Derived.Stop.Joined
import Derived.SevenTiedAt
import Derived.Lib.LaidTab
import Derived.Test.YtckcedndijobaaaGreatDoorDb
namespace Go.Proofs.YtckcedndijobaaaGreatDoor
open Go Go.ChangeShapes Go.WideShapes Go.ChangeAt Go.RowKit HM
theorem own:ownKnob Tryz.prog.godebug=none:=by kernel_rfl
theorem laidOut:laidOutB Tryz.prog=true:=by kernel_rfl
def laid3:List (String×DataW Unit):=[("math/bits.deBruijn32tab",Rows.laid_math_bits_deBruijn32tab),("math/bits.deBruijn64tab",Rows.laid_math_bits_deBruijn64tab),("internal/strconv.uint64pow10",Rows.laid_internal_strconv_uint64pow10)]
theorem door_met (os:Os)(args:Array Value):laidMetH Tryz.prog laid3 ((World.doorLaid Tryz.prog 400 os).forCall (fun _ _=>0) ⟨#[],args,[]⟩).memory:=
 laidMetH_of_parts3 (fuel:=8) (laidMet_of_run' 8 (by kernel_rfl) (by kernel_rfl)) (by kernel_rfl) (by kernel_rfl)
theorem lw_of {W:World}(h:laidMetH Tryz.prog laid3 W):LW W:=by
 rw[MakeChecks.laidMetH_plain _ _ _ (by kernel_rfl)]at h
 obtain⟨ps,⟨g0,t0,cs0,f0,p0,q0,hg0,ht0,hv0,hd0,⟨g1,t1,cs1,f1,p1,q1,hg1,ht1,hv1,hd1,⟨g2,t2,cs2,f2,p2,q2,hg2,ht2,hv2,hd2,_,_⟩,_⟩,_⟩,_,_⟩:=h
 have e0:Tryz.prog.globalNamed "internal/strconv.uint64pow10" = some 0:=by kernel_rfl
 have e1:(Tryz.prog.globals[0]?).map (·.type)=some 336:=by kernel_rfl
 obtain rfl:=Option.some.inj (e0.symm.trans hg2)
 obtain rfl:=Option.some.inj (e1.symm.trans ht2)
 have hc:=Lib.cells_of_tab (zs:=Lib.pow10Tab) (k:=.u64) (t:=336) (e:=179) (n:=20) (by kernel_rfl) (by kernel_rfl) (by kernel_rfl) (by kernel_rfl) hd2
 unfold LW Lib.TabIs
 rw[hv2,←hc]
theorem lw_later {W:World}(h:LW W):∀w',Below W.heap.size W w'→LW w':=fun w' hb=>Lib.tabBelow_of_tabIs h w' hb
section
variable {H:Type} {enc:TypeId×Value→H} {P:Program}
theorem post_of_below {f:Func}{s:ChangeSpec}{apart fresh handsOn again:Bool}{W W':World}{args:Array Value}{v:Value}{ds gs:List (DataW H)}{before pa pv:List MemPlace}
  (hW:DataW.Whole enc P f.params.toList s.vars apart W args.toList ds gs before)
  (hres:∀(b:Nat) (sp:Nat→Bool) (hd:Bool),DataW.TrodAll enc P W' b sp hd f.resultTypes.toList (v.resultList f.resultTypes.size) (s.fn H (ds++gs)).results [])
  (hargs:∀sp:Nat→Bool,(∀p∈before,sp p.block=true)→DataW.TrodAll enc P W' 0 sp true f.params.toList args.toList (s.fn H (ds++gs)).args pa)
  (hvars:∀sp:Nat→Bool,(∀p∈before,sp p.block=true)→DataW.TrodVars enc P W' sp s.vars (s.fn H (ds++gs)).vars pv)
  (hps:before=pa++pv) (hb:Below W.heap.size W W')
  (hok:∀(j:Nat) (t:TypeId) (r:Value),f.resultTypes[j]? = some t→(v.resultList f.resultTypes.size)[j]? = some r→Value.okWide P W' .any 0 t r) :
  s.post enc P f apart fresh handsOn again W args v W':=by
 have hlt:∀p∈before,p.block < W.heap.size:=fun p hp=>hW.lt p hp
 have hold:∀p∈before,(fun b=>decide (b < W.heap.size)) p.block=true:=fun p hp=>by simpa using hlt p hp
 refine⟨ds,gs,before,[],pa,pv,hW,hres _ _ _,hargs _ hold,hvars _ hold,World.keptBut_mono (fun p hp=>⟨hp,?_⟩) (hb.frame (·∈before)),fun _=>?_⟩
 ·rw[hps,List.mem_append]at hp
  exact Or.inr hp
 ·obtain⟨_,_,_,_,_,hz,hn⟩:=hW
  refine⟨hok,_,_,([]++pa)++pv,⟨[]++pa,pv,trodAll_append (hargs _ (fun _ _=>rfl)) (hres _ _ _),hvars _ (fun _ _=>rfl),rfl,?_,?_⟩,?_⟩
  ·intro b off hp
   have hin:MemPlace.cell b off∈before:=by rw[hps];simpa using hp
   rw[hb.frozen (hlt _ hin)]
   exact hz b off hin
  ·intro ha
   have:=hn ha
   rw[hps]at this
   simpa using this
  ·intro p hp _
   rw[hps]
   simpa using hp
end
theorem bool_und:Tryz.prog.underlying 4=some .bool:=by kernel_rfl
theorem ok_int:tI.ok Tryz.prog 3:=(by kernel_rfl:Tryz.prog.underlying 3=some (.int .i64))
set_option maxRecDepth 100000 in
theorem ok_cell:tCell.ok Tryz.prog 52:=⟨_,rfl,by kernel_rfl,rfl,by kernel_rfl,ok_int,rfl,by kernel_rfl,ok_int,rfl,by kernel_rfl,ok_int,rfl,by kernel_rfl,ok_int,rfl,by kernel_rfl,ok_int,trivial⟩
theorem ok_cells:(Ty.sl tCell).ok Tryz.prog 22:=⟨52,by kernel_rfl,by kernel_rfl,by decide,Nat.le_of_ble_eq_true (by kernel_rfl),ok_cell⟩
set_option maxRecDepth 100000 in
theorem ok_sched:tSched.ok Tryz.prog 24:=⟨_,rfl,by kernel_rfl,rfl,by kernel_rfl,ok_int,rfl,by kernel_rfl,ok_int,rfl,by kernel_rfl,ok_cells,trivial⟩
theorem ok_ints:(Ty.sl tI).ok Tryz.prog 34:=⟨3,by kernel_rfl,by kernel_rfl,by decide,Nat.le_of_ble_eq_true (by kernel_rfl),ok_int⟩
theorem ok_rows:(Ty.sl (.sl tI)).ok Tryz.prog 32:=⟨34,by kernel_rfl,by kernel_rfl,by decide,Nat.le_of_ble_eq_true (by kernel_rfl),ok_ints⟩
theorem ok_route:(Ty.sl tI).ok Tryz.prog 104:=⟨3,by kernel_rfl,by kernel_rfl,by decide,Nat.le_of_ble_eq_true (by kernel_rfl),ok_int⟩
theorem ok_routes:(Ty.sl (.sl tI)).ok Tryz.prog 79:=⟨104,by kernel_rfl,by kernel_rfl,by decide,Nat.le_of_ble_eq_true (by kernel_rfl),ok_route⟩
set_option maxRecDepth 100000 in
theorem ok_link:tLink.ok Tryz.prog 103:=⟨_,rfl,by kernel_rfl,rfl,by kernel_rfl,ok_int,rfl,by kernel_rfl,ok_int,rfl,by kernel_rfl,ok_int,trivial⟩
theorem ok_links:(Ty.sl tLink).ok Tryz.prog 33:=⟨103,by kernel_rfl,by kernel_rfl,by decide,Nat.le_of_ble_eq_true (by kernel_rfl),ok_link⟩
set_option maxRecDepth 100000 in
theorem ok_flow:tFlow.ok Tryz.prog 78:=⟨_,rfl,by kernel_rfl,rfl,by kernel_rfl,ok_int,rfl,by kernel_rfl,ok_int,rfl,by kernel_rfl,ok_int,rfl,by kernel_rfl,ok_int,rfl,by kernel_rfl,ok_int,rfl,by kernel_rfl,ok_int,trivial⟩
set_option maxRecDepth 100000 in
theorem ok_net:tNet.ok Tryz.prog 36:=⟨_,rfl,by kernel_rfl,rfl,by kernel_rfl,ok_int,rfl,by kernel_rfl,ok_rows,rfl,by kernel_rfl,ok_int,rfl,by kernel_rfl,ok_int,rfl,by kernel_rfl,ok_links,rfl,by kernel_rfl,ok_ints,trivial⟩
set_option maxRecDepth 100000 in
theorem ok_chg:tChg.ok Tryz.prog 54:=⟨_,rfl,by kernel_rfl,rfl,by kernel_rfl,ok_int,rfl,by kernel_rfl,bool_und,rfl,by kernel_rfl,ok_cell,trivial⟩
theorem ok_chgs:(Ty.sl tChg).ok Tryz.prog 26:=⟨54,by kernel_rfl,by kernel_rfl,by decide,Nat.le_of_ble_eq_true (by kernel_rfl),ok_chg⟩
set_option maxRecDepth 100000 in
theorem ok_req:tReq.ok Tryz.prog 81:=⟨_,rfl,by kernel_rfl,rfl,by kernel_rfl,ok_flow,rfl,by kernel_rfl,ok_routes,trivial⟩
theorem ok_reqs:(Ty.sl tReq).ok Tryz.prog 37:=⟨81,by kernel_rfl,by kernel_rfl,by decide,Nat.le_of_ble_eq_true (by kernel_rfl),ok_req⟩
theorem ok_u16:tU16.ok Tryz.prog 47:=(by kernel_rfl:Tryz.prog.underlying 47=some (.int .u16))
end Go.Proofs.YtckcedndijobaaaGreatDoor
