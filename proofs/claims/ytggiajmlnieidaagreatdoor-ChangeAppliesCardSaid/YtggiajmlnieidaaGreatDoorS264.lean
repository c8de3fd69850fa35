/- Changes: the reference's small functions. -/
import Derived.Test.YtggiajmlnieidaaGreatDoorS114
import Derived.Test.YtggiajmlnieidaaGreatDoorS69
import Derived.Test.YtggiajmlnieidaaGreatDoorS121
import Derived.Test.YtggiajmlnieidaaGreatDoorDe
import Derived.Test.YtggiajmlnieidaaGreatDoorS38
import Derived.Test.YtggiajmlnieidaaGreatDoorFh
set_option maxHeartbeats 64000000
set_option maxRecDepth 100000
namespace HM
open Go Go.RowKit Go.Proofs
theorem flow_eqv (a b:Flow):(a.id==b.id&&(a.src==b.src&&(a.dst==b.dst&&(a.period==b.period&&(a.phase==b.phase&&(a.dead==b.dead&&true))))))=decide (a=b):=by
 rw[Bool.eq_iff_iff]
 simp only[Bool.and_eq_true,beq_iff_eq,and_true,decide_eq_true_eq]
 constructor
 ·rintro⟨h1,h2,h3,h4,h5,h6⟩
  cases a;cases b
  simp only at h1 h2 h3 h4 h5 h6
  subst h1;subst h2;subst h3;subst h4;subst h5;subst h6;rfl
 ·rintro rfl;exact⟨rfl,rfl,rfl,rfl,rfl,rfl⟩
section
variable (L:World→Prop)
theorem c_request42 (q:List Req)(id:Int)(hq:q.length≤1099511627776):PCall Tryz.prog L 59 [encReqs q,.int .i64 id] (.int .i64 (findF (flowsQ q) id)):=by
 refine PCall.intro mixed [] (nt:=9) Tryz.func59 rfl rfl (by simp) ?_
 refine Wk ?_
 refine cD (c_Flows38 L q hq) ?_
 refine Wk ?_
 refine cD (c_Find32 L (flowsQ q) id (by unfold flowsQ;rw[List.length_map];omega)) ?_
 refine Wk ?_
 exact resP.mk rfl (Sees.int rfl)
theorem c_Stays42 (before after:List Req)(id:Int)(hb:before.length≤1099511627776)(ha:after.length≤1099511627776):PCall Tryz.prog L 15 [encReqs before,encReqs after,.int .i64 id] (.bool (stayB before after id)):=by
 refine PCall.intro mixed [] (nt:=34) Tryz.func15 rfl rfl (by simp) ?_
 refine Wk ?_
 refine cD (c_request42 L before id hb) ?_
 refine Wk ?_
 refine cD (c_request42 L after id ha) ?_
 rcases findF_get before id with ⟨e1,g1⟩|⟨i,x,e1,hx,g1⟩
 ·have gi:decide ((0:Int) ≤ -1)=false:=by decide
  rw[e1]
  have hr:stayB before after id=false:=by unfold stayB stayQ;rw[g1]
  repeat((conv=>whnf);first|refine sT ?_|rw[gi])
  try(conv=>whnf)
  exact resP.mk rfl (Sees.bool hr.symm)
 have hmx:=getMap (f:=Req.av) hx
 have hil:=(List.getElem?_eq_some_iff.1 hx).1
 have gi:decide ((0:Int)≤(i:Int))=true:=decide_eq_true (by omega)
 rcases findF_get after id with ⟨e2,g2⟩|⟨j,y,e2,hy,g2⟩
 ·have gj:decide ((0:Int) ≤ -1)=false:=by decide
  rw[e1,e2]
  have hr:stayB before after id=false:=by unfold stayB stayQ;rw[g1,g2]
  repeat((conv=>whnf);first|refine sT ?_|rw[gi]|rw[gj])
  try(conv=>whnf)
  exact resP.mk rfl (Sees.bool hr.symm)
 have hmy:=getMap (f:=Req.av) hy
 have hjl:=(List.getElem?_eq_some_iff.1 hy).1
 have gj:decide ((0:Int)≤(j:Int))=true:=decide_eq_true (by omega)
 rw[e1,e2]
 have hr:stayB before after id=decide (x.flow=y.flow):=by unfold stayB stayQ;rw[g1,g2]
 have he:=flow_eqv x.flow y.flow
 repeat((conv=>whnf);first|refine sJ ?_|refine aI (by first|exact trivial|exact inbMap hil|exact inbMap hjl|kernel_rfl) ?_|rw[gi]|rw[gj]|rw[hmx]|rw[hmy])
 try(conv=>whnf)
 exact resP.mk rfl (Sees.bool (by rw[hr,←he]))
theorem c_Both42 (before after:List Req)(hb:before.length≤1099511627776)(ha:after.length≤1099511627776):PCall Tryz.prog L 28 [encReqs before,encReqs after] (encFlows (bothM before after)):=by
 refine PCall.intro mixed [] (nt:=41) Tryz.func28 rfl rfl (by simp) ?_
 refine Wk ?_
 refine LoopK.run mixed [] (fun (k:Nat)=>k≤256) (fun k=>[(0,encReqs before),(1,encReqs after),(5,.own ((bothN before after k).map Flow.av) 0),(6,.int .i64 k)]) (fun k=>⟨[],[((bothN before after k).length,6)],0,0,fun _=>46⟩) (fun k=>256-k) 0 (by omega) ?_ ?_
 ·refine fN ?_<;>repeat' (first|exact fQ|refine And.intro ?_ ?_ )
 rintro k hk
 have hbl:(bothN before after k).length≤k:=by
  unfold bothN
  refine Nat.le_trans (List.length_filterMap_le _ _) ?_
  rw[List.length_range];exact Nat.le_refl _
 have hbs:=bothN_succ before after k
 by_cases hkl:k < 256
 rotate_left
 ·have hke:k=256:=by omega
  subst hke
  refine Wk ?_
  exact resP.mk rfl (Sees.of_eq rfl)
 have gk:decide ((k:Int) < 256)=true:=decide_eq_true (by omega)
 have hz1:(((bothN before after k).map Flow.av).length+1)*48≤140737488355328:=by rw[List.length_map];omega
 have hz2:((bothN before after k).map Flow.av).length+1≤maxLen:=by rw[List.length_map];unfold maxLen;omega
 repeat((conv=>whnf);first|refine sT ?_|rw[gk])
 try(conv=>whnf)
 refine cD (c_request42 L before k hb) ?_
 refine Wk ?_
 refine cD (c_request42 L after k ha) ?_
 rcases findF_get before k with ⟨e1,g1⟩|⟨i,x,e1,hx,g1⟩
 rotate_left
 ·have hmx:=getMap (f:=Req.av) hx
  have hil:=(List.getElem?_eq_some_iff.1 hx).1
  have gi:decide ((0:Int)≤(i:Int))=true:=decide_eq_true (by omega)
  have hr:bothF before after k=some x.flow:=by unfold bothF;rw[g1]
  rw[hr]at hbs
  rw[e1]
  repeat((conv=>whnf);first|refine sJ ?_|refine aI (by first|exact trivial|exact inbMap hil|exact Els.map (f:=Flow.av) (fun _=>⟨rfl,rfl⟩)|exact hz1|exact hz2|exact(show some (_,_)=some (_,_) by simp only[List.length_map])|kernel_rfl) ?_|rw[gi]|rw[hmx])
  try(conv=>whnf)
  refine⟨k+1,by omega,by omega,?_⟩
  rw[hbs]
  refine fN ?_<;>repeat' (first|exact fQ|refine And.intro ?_ ?_|exact Sees.int (succI hkl (by omega))|exact Sees.own (by simp;rfl)|(show(_,_)=(_,_);exact Prod.ext (by simp only[List.length_append,List.length_map,List.length_cons,List.length_nil,Option.toList_some]<;>omega) rfl))
 have gi:decide ((0:Int) ≤ -1)=false:=by decide
 rcases findF_get after k with ⟨e2,g2⟩|⟨j,y,e2,hy,g2⟩
 ·have hr:bothF before after k=none:=by unfold bothF;rw[g1,g2];rfl
  rw[hr]at hbs
  rw[e1,e2]
  repeat((conv=>whnf);first|refine sT ?_|rw[gi])
  try(conv=>whnf)
  refine⟨k+1,by omega,by omega,?_⟩
  rw[hbs]
  refine fN ?_<;>repeat' (first|exact fQ|refine And.intro ?_ ?_|exact Sees.int (succI hkl (by omega))|exact Sees.own (by simp)|(show(_,_)=(_,_);exact Prod.ext (by simp only[List.length_append,List.length_nil,Option.toList_none]<;>omega) rfl))
 ·have hmy:=getMap (f:=Req.av) hy
  have hjl:=(List.getElem?_eq_some_iff.1 hy).1
  have gj:decide ((0:Int)≤(j:Int))=true:=decide_eq_true (by omega)
  have hr:bothF before after k=some y.flow:=by unfold bothF;rw[g1,g2];rfl
  rw[hr]at hbs
  rw[e1,e2]
  repeat((conv=>whnf);first|refine sJ ?_|refine aI (by first|exact trivial|exact inbMap hjl|exact Els.map (f:=Flow.av) (fun _=>⟨rfl,rfl⟩)|exact hz1|exact hz2|exact(show some (_,_)=some (_,_) by simp only[List.length_map])|kernel_rfl) ?_|rw[gi]|rw[gj]|rw[hmy])
  try(conv=>whnf)
  refine⟨k+1,by omega,by omega,?_⟩
  rw[hbs]
  refine fN ?_<;>repeat' (first|exact fQ|refine And.intro ?_ ?_|exact Sees.int (succI hkl (by omega))|exact Sees.own (by simp;rfl)|(show(_,_)=(_,_);exact Prod.ext (by simp only[List.length_append,List.length_map,List.length_cons,List.length_nil,Option.toList_some]<;>omega) rfl))
theorem union_succ (a:List (List Int)){b:List (List Int)}{k:Nat}{r:List Int}(h:b[k]? = some r):unionM a (b.take (k+1))=unionM a (b.take k)++if (a.any fun x=>decide (x=r))=true then [] else [r]:=by
 unfold unionM
 rw[take_succ h,List.filter_append,List.append_assoc]
 congr 2
 cases ha:a.any fun x=>decide (x=r)<;>simp[ha]
theorem c_Union42 (a b:List (List Int))(ha:a.length≤1000)(hb:b.length≤1000)(hr:∀x∈a,x.length≤281474976710656):PCall Tryz.prog L 172 [encRows a,encRows b] (encRows (unionM a b)):=by
 refine PCall.intro mixed [] (nt:=46) Tryz.func172 rfl rfl (by simp) ?_
 repeat((conv=>whnf);first|refine sJ ?_|refine aI (by first|exact Els.map (f:=encIs) (fun _=>⟨rfl,rfl⟩)|exact(show _*24≤_ by simp only[List.length_map,List.length_nil];omega)|exact(by simp only[List.length_map,List.length_nil,maxLen];omega)|kernel_rfl) ?_ )
 try(conv=>whnf)
 refine LoopK.run mixed [] (fun (k:Nat)=>k≤b.length) (fun k=>[(0,encRows a),(1,encRows b),(5,.own ((unionM a (b.take k)).map encIs) 0),(6,.int .i64 k)]) (fun k=>⟨[],[((unionM a (b.take k)).length,1)],0,0,fun _=>88⟩) (fun k=>b.length-k) 0 (by omega) ?_ ?_
 ·refine fN ?_<;>repeat' (first|exact fQ|refine And.intro ?_ ?_|exact Sees.own (by simp[unionM])|(show(_,_)=(_,_);exact Prod.ext (by simp[unionM]) rfl))
 rintro k hk
 have hul:(unionM a (b.take k)).length≤2000:=by
  unfold unionM
  have:=List.length_filter_le (fun r=>!(a.any fun x=>decide (x=r))) (b.take k)
  rw[List.length_append]
  rw[List.length_take]at this
  omega
 by_cases hkl:k < b.length
 rotate_left
 ·have hke:k=b.length:=by omega
  subst hke
  have gk:decide ((b.length:Int) < ((b.map encIs).length:Int))=false:=decide_eq_false (by rw[List.length_map];omega)
  rw[List.take_length]
  repeat((conv=>whnf);first|refine sT ?_|rw[gk])
  try(conv=>whnf)
  exact resP.mk rfl (Sees.of_eq rfl)
 obtain⟨r,hgr⟩:=getLt hkl
 have hmr:=getMap (f:=encIs) hgr
 have hus:=union_succ a hgr
 have gk:decide ((k:Int) < ((b.map encIs).length:Int))=true:=decide_eq_true (by rw[List.length_map];omega)
 repeat((conv=>whnf);first|refine sT ?_|rw[gk])
 try(conv=>whnf)
 refine LoopK.run mixed [] (fun j:Nat=>j≤a.length) (fun j=>[(0,encRows a),(1,encRows b),(5,.own ((unionM a (b.take k)).map encIs) 0),(6,.int .i64 k),(7,.bool ((a.take j).any fun x=>decide (x=r))),(8,.int .i64 j)]) (fun _=>⟨[],[((unionM a (b.take k)).length,1)],0,0,fun _=>88⟩) (fun j=>a.length-j) 0 (by omega) ?_ ?_
 ·refine fN ?_<;>repeat' (first|exact fQ|refine And.intro ?_ ?_|exact Sees.bool (by simp))
 rintro j hj
 by_cases hja:j < a.length
 ·obtain⟨x,hgx⟩:=getLt hja
  have hmx:=getMap (f:=encIs) hgx
  have hxm:=List.mem_of_getElem? hgx
  have gj:decide ((j:Int) < ((a.map encIs).length:Int))=true:=decide_eq_true (by rw[List.length_map];omega)
  have hst:((a.take (j+1)).any fun x=>decide (x=r))=(((a.take j).any fun x=>decide (x=r))||decide (x=r)):=by rw[take_succ hgx,List.any_append];simp
  cases hp:((a.take j).any fun x=>decide (x=r)) with
  | true=>
   rw[hp]at hst
   repeat((conv=>whnf);first|refine sT ?_|rw[gj])
   try(conv=>whnf)
   refine⟨j+1,by omega,by omega,?_⟩
   rw[hst]
   refine fN ?_<;>repeat' (first|exact fQ|refine And.intro ?_ ?_|exact Sees.int (succI hja (by omega)))
  | false=>
   rw[hp]at hst
   repeat((conv=>whnf);first|refine sJ ?_|refine aI (by first|exact trivial|exact inbMap hja|exact inbMap hkl|kernel_rfl) ?_|rw[gj]|rw[hmx]|rw[hmr])
   try(conv=>whnf)
   refine cD (c_SameInts31 L x r (hr x hxm)) ?_
   repeat((conv=>whnf);first|refine sT ?_ )
   try(conv=>whnf)
   refine⟨j+1,by omega,by omega,?_⟩
   rw[hst]
   refine fN ?_<;>repeat' (first|exact fQ|refine And.intro ?_ ?_|exact Sees.int (succI hja (by omega)))
 have hje:j=a.length:=by omega
 subst hje
 have gj:decide ((a.length:Int) < ((a.map encIs).length:Int))=false:=decide_eq_false (by rw[List.length_map];omega)
 rw[List.take_length]
 cases hp:(a.any fun x=>decide (x=r)) with
 | true=>
  rw[hp,if_pos rfl,List.append_nil]at hus
  repeat((conv=>whnf);first|refine sT ?_|rw[gj])
  try(conv=>whnf)
  refine⟨k+1,by omega,by omega,?_⟩
  rw[hus]
  refine fN ?_<;>repeat' (first|exact fQ|refine And.intro ?_ ?_|exact Sees.int (succI hkl (by omega)))
 | false=>
  rw[hp,if_neg (by decide)]at hus
  repeat((conv=>whnf);first|refine sJ ?_|refine aI (by first|exact trivial|exact inbMap hkl|exact Els.map (f:=encIs) (fun _=>⟨rfl,rfl⟩)|exact(show _*24≤_ by simp only[List.length_map,List.length_cons,List.length_nil];omega)|exact(by simp only[List.length_map,List.length_cons,List.length_nil,maxLen];omega)|exact(show some (_,_)=some (_,_) by simp only[List.length_map])|kernel_rfl) ?_|rw[gj]|rw[hmr])
  try(conv=>whnf)
  refine⟨k+1,by omega,by omega,?_⟩
  rw[hus]
  refine fN ?_<;>repeat' (first|exact fQ|refine And.intro ?_ ?_|exact Sees.int (succI hkl (by omega))|exact Sees.own (by simp;rfl)|(show(_,_)=(_,_);exact Prod.ext (by simp only[List.length_append,List.length_map,List.length_cons,List.length_nil]<;>omega) rfl))
end
section
variable (L:World→Prop)
theorem c_In42 (n:Net)(hn:n.links.length≤281474976710656)(s:Sched)(f:Flow)(l:List (List Int))(hl:l.length≤281474976710656)(hw:∀r∈l,WayOk n s f r):PCall Tryz.prog L 123 [n.av,s.av,f.av,encRows l] (.bool (l.any fun r=>fitsB n s f r 0)):=by
 refine PCall.intro mixed [] (nt:=40) Tryz.func123 rfl rfl (by simp) ?_
 refine Wk ?_
 refine LoopK.run mixed [] (fun (k:Nat)=>k≤l.length∧((l.take k).any fun r=>fitsB n s f r 0)=false) (fun k=>[(3,encRows l),(4,.ptr 0 0),(5,.ptr 1 0),(6,.ptr 2 0),(9,.int .i64 k)]) (fun k=>⟨sl37 n s f,[],0,0,fun _=>0⟩) (fun k=>l.length-k) 0 ⟨by simp,by simp⟩ ?_ ?_
 ·refine fN ?_<;>repeat' (first|exact fQ|refine And.intro ?_ ?_|exact SeesL.rfl' _)
 rintro k ⟨hk,hinv⟩
 by_cases hkl:k < l.length
 rotate_left
 ·have hke:k=l.length:=by omega
  subst hke
  have gk:decide ((l.length:Int) < ((l.map encIs).length:Int))=false:=decide_eq_false (by rw[List.length_map];omega)
  rw[List.take_length]at hinv
  repeat((conv=>whnf);first|refine sT ?_|rw[gk])
  try(conv=>whnf)
  exact resP.mk rfl (Sees.bool hinv.symm)
 obtain⟨r,hgr⟩:=getLt hkl
 have hmr:=getMap (f:=encIs) hgr
 have hrm:=List.mem_of_getElem? hgr
 have hst:((l.take (k+1)).any fun r=>fitsB n s f r 0)=fitsB n s f r 0:=by rw[take_succ hgr,List.any_append,hinv];simp
 have gk:decide ((k:Int) < ((l.map encIs).length:Int))=true:=decide_eq_true (by rw[List.length_map];omega)
 repeat((conv=>whnf);first|refine sJ ?_|refine aI (by first|exact trivial|exact inbMap hkl|kernel_rfl) ?_|rw[gk]|rw[hmr])
 try(conv=>whnf)
 refine cD (c_Most37 L n s f r 0 hn (hw r hrm) (by omega) (by omega)) ?_
 have hfb:fitsB n s f r 0=match boundR n s f r 0 with
  | some B=>decide (B.b≤f.dead)
  | none=>false:=by unfold fitsB;rfl
 cases hB:boundR n s f r 0 with
 | none=>
  rw[hB]at hfb
  repeat((conv=>whnf);first|refine sT ?_ )
  try(conv=>whnf)
  refine⟨k+1,⟨by omega,by rw[hst,hfb]⟩,by omega,?_⟩
  refine fN ?_<;>repeat' (first|exact fQ|refine And.intro ?_ ?_|exact SeesL.rfl' _|exact Sees.int (succI hkl (by omega)))
 | some B=>
  rw[hB]at hfb
  simp only at hfb
  cases hd:decide (B.b≤f.dead) with
  | true=>
   rw[hd]at hfb
   repeat((conv=>whnf);first|refine sT ?_|rw[hd])
   try(conv=>whnf)
   exact resP.mk rfl (Sees.bool (by symm;exact List.any_eq_true.2 ⟨r,hrm,hfb⟩))
  | false=>
   rw[hd]at hfb
   repeat((conv=>whnf);first|refine sT ?_|rw[hd])
   try(conv=>whnf)
   refine⟨k+1,⟨by omega,by rw[hst,hfb]⟩,by omega,?_⟩
   refine fN ?_<;>repeat' (first|exact fQ|refine And.intro ?_ ?_|exact SeesL.rfl' _|exact Sees.int (succI hkl (by omega)))
def kp42 (n:Net)(s:Sched):List Ob:=[.cells [.int .i64 n.nodes,encRows n.power,.int .i64 n.noise,.int .i64 n.thr,encLinks n.links,encIs n.margin] 26,.cells [.int .i64 s.len,.int .i64 s.offs,encCells s.cells] 30]
theorem keptR_at {n:Net}{before after:List Req}{s:Sched}{x:Req}:(match getQ after x.flow.id with
 | some y=>!(stayB before after x.flow.id)||(unionM x.routes y.routes).any fun r=>fitsB n s x.flow r 0
 | none=>true)=(!(stayB before after x.flow.id)||(unionM x.routes (getD after x.flow.id).routes).any fun r=>fitsB n s x.flow r 0):=by
 cases hg:getQ after x.flow.id with
 | none=>
  have:stayB before after x.flow.id=false:=by unfold stayB stayQ;rw[hg];cases getQ before x.flow.id<;>rfl
  rw[this];rfl
 | some y=>unfold getD;rw[hg];rfl
theorem c_Kept42 (n:Net)(hn:n.links.length≤281474976710656)(before after:List Req)(s:Sched)(hb:before.length≤1000)(ha:after.length≤1000)(hbx:∀x∈before,x.routes.length≤1000∧∀r∈x.routes,r.length≤1000)(hax:∀x∈after,x.routes.length≤1000)
  (hw:∀x∈before,∀y,getQ after x.flow.id=some y→stayB before after x.flow.id=true→∀r∈unionM x.routes y.routes,WayOk n s x.flow r):PCall Tryz.prog L 122 [n.av,encReqs before,encReqs after,s.av] (.bool (keptR n before after s)):=by
 refine PCall.intro mixed [] (nt:=48) Tryz.func122 rfl rfl (by simp) ?_
 have hall:keptR n before after s=before.all fun x=>!(stayB before after x.flow.id)||(unionM x.routes (getD after x.flow.id).routes).any fun r=>fitsB n s x.flow r 0:=by
  unfold keptR
  congr 1
  funext x
  exact keptR_at
 rw[hall]
 obtain⟨F,hF⟩:∃F:Req→Bool,F=fun x=>!(stayB before after x.flow.id)||(unionM x.routes (getD after x.flow.id).routes).any fun r=>fitsB n s x.flow r 0:=⟨_,rfl⟩
 rw[←hF]
 refine Wk ?_
 refine LoopK.run mixed [] (fun (k:Nat)=>k≤before.length∧(before.take k).all F=true) (fun k=>[(1,encReqs before),(2,encReqs after),(4,.ptr 0 0),(7,.ptr 1 0),(9,.int .i64 k)]) (fun k=>⟨kp42 n s,[],0,0,fun _=>0⟩) (fun k=>before.length-k) 0 ⟨by simp,by simp⟩ ?_ ?_
 ·refine fN ?_<;>repeat' (first|exact fQ|refine And.intro ?_ ?_|exact SeesL.rfl' _)
 rintro k ⟨hk,hinv⟩
 by_cases hkl:k < before.length
 rotate_left
 ·have hke:k=before.length:=by omega
  subst hke
  have gk:decide ((before.length:Int) < ((before.map Req.av).length:Int))=false:=decide_eq_false (by rw[List.length_map];omega)
  rw[List.take_length]at hinv
  repeat((conv=>whnf);first|refine sT ?_|rw[gk])
  try(conv=>whnf)
  exact resP.mk rfl (Sees.bool hinv.symm)
 obtain⟨x,hgx⟩:=getLt hkl
 have hmx:=getMap (f:=Req.av) hgx
 have hxm:=List.mem_of_getElem? hgx
 have hst:(before.take (k+1)).all F=F x:=by rw[take_succ hgx,List.all_append,hinv];simp
 have gk:decide ((k:Int) < ((before.map Req.av).length:Int))=true:=decide_eq_true (by rw[List.length_map];omega)
 repeat((conv=>whnf);first|refine sJ ?_|refine aI (by first|exact trivial|exact inbMap hkl|kernel_rfl) ?_|rw[gk]|rw[hmx])
 try(conv=>whnf)
 refine cD (c_Stays42 L before after x.flow.id (by omega) (by omega)) ?_
 cases hs:stayB before after x.flow.id with
 | false=>
  have hFx:F x=true:=by rw[hF];simp[hs]
  repeat((conv=>whnf);first|refine sT ?_ )
  try(conv=>whnf)
  refine⟨k+1,⟨by omega,by rw[hst,hFx]⟩,by omega,?_⟩
  refine fN ?_<;>repeat' (first|exact fQ|refine And.intro ?_ ?_|exact SeesL.rfl' _|exact Sees.int (succI hkl (by omega)))
 | true=>
  rcases findF_get after x.flow.id with ⟨e2,g2⟩|⟨j,y,e2,hy,g2⟩
  ·exfalso
   unfold stayB stayQ at hs
   rw[g2]at hs
   cases hg:getQ before x.flow.id<;>rw[hg]at hs<;>cases hs
  have hmy:=getMap (f:=Req.av) hy
  have hjl:=(List.getElem?_eq_some_iff.1 hy).1
  have hym:=List.mem_of_getElem? hy
  obtain⟨x1,x2⟩:=hbx x hxm
  have hyl:=hax y hym
  have hFx:F x=(unionM x.routes y.routes).any fun r=>fitsB n s x.flow r 0:=by rw[hF];unfold getD;simp only[hs,g2];rfl
  have hul:(unionM x.routes y.routes).length≤2000:=by
   unfold unionM
   have:=List.length_filter_le (fun r=>!(x.routes.any fun z=>decide (z=r))) y.routes
   rw[List.length_append]
   omega
  repeat((conv=>whnf);first|refine sJ ?_|refine aI (by first|exact trivial|exact inbMap hkl|kernel_rfl) ?_|rw[hmx])
  try(conv=>whnf)
  refine cD (c_request42 L after x.flow.id (by omega)) ?_
  rw[e2]
  repeat((conv=>whnf);first|refine sJ ?_|refine aI (by first|exact trivial|exact inbMap hjl|kernel_rfl) ?_|rw[hmy])
  try(conv=>whnf)
  refine cD (c_Union42 L x.routes y.routes x1 hyl (fun r hr=>by have:=x2 r hr;omega)) ?_
  repeat((conv=>whnf);first|refine sT ?_ )
  try(conv=>whnf)
  refine cD (c_In42 L n hn s x.flow (unionM x.routes y.routes) (by omega) (hw x hxm y g2 hs)) ?_
  rw[←hFx]
  cases hFv:F x with
  | true=>
   repeat((conv=>whnf);first|refine sT ?_ )
   try(conv=>whnf)
   refine⟨k+1,⟨by omega,by rw[hst,hFv]⟩,by omega,?_⟩
   refine fN ?_<;>repeat' (first|exact fQ|refine And.intro ?_ ?_|exact SeesL.rfl' _|exact Sees.int (succI hkl (by omega)))
  | false=>
   repeat((conv=>whnf);first|refine sT ?_ )
   try(conv=>whnf)
   exact resP.mk rfl (Sees.bool (by symm;rw[List.all_eq_false];exact⟨x,hxm,by rw[hFv];decide⟩))
theorem c_Ends42 (n:Net)(hn:n.links.length≤281474976710656)(after:List Req)(s:Sched)(ha:after.length≤1000)(hax:∀x∈after,x.routes.length≤1000)(hw:∀x∈after,∀r∈x.routes,WayOk n s x.flow r):PCall Tryz.prog L 57 [n.av,encReqs after,s.av] (.bool (endsR n after s)):=by
 refine PCall.intro mixed [] (nt:=43) Tryz.func57 rfl rfl (by simp) ?_
 unfold endsR
 obtain⟨F,hF⟩:∃F:Req→Bool,F=fun x=>x.routes.all fun r=>fitsB n s x.flow r 0:=⟨_,rfl⟩
 rw[←hF]
 refine Wk ?_
 refine LoopK.run mixed [] (fun (k:Nat)=>k≤after.length∧(after.take k).all F=true) (fun k=>[(1,encReqs after),(3,.ptr 0 0),(5,.ptr 1 0),(7,.int .i64 k)]) (fun k=>⟨kp42 n s,[],0,0,fun _=>0⟩) (fun k=>after.length-k) 0 ⟨by simp,by simp⟩ ?_ ?_
 ·refine fN ?_<;>repeat' (first|exact fQ|refine And.intro ?_ ?_|exact SeesL.rfl' _)
 rintro k ⟨hk,hinv⟩
 by_cases hkl:k < after.length
 rotate_left
 ·have hke:k=after.length:=by omega
  subst hke
  have gk:decide ((after.length:Int) < ((after.map Req.av).length:Int))=false:=decide_eq_false (by rw[List.length_map];omega)
  rw[List.take_length]at hinv
  repeat((conv=>whnf);first|refine sT ?_|rw[gk])
  try(conv=>whnf)
  exact resP.mk rfl (Sees.bool hinv.symm)
 obtain⟨x,hgx⟩:=getLt hkl
 have hmx:=getMap (f:=Req.av) hgx
 have hxm:=List.mem_of_getElem? hgx
 have hst:(after.take (k+1)).all F=F x:=by rw[take_succ hgx,List.all_append,hinv];simp
 have gk:decide ((k:Int) < ((after.map Req.av).length:Int))=true:=decide_eq_true (by rw[List.length_map];omega)
 have hxl:=hax x hxm
 repeat((conv=>whnf);first|refine sT ?_|rw[gk])
 try(conv=>whnf)
 refine LoopK.run mixed [] (fun j:Nat=>j≤x.routes.length∧((x.routes.take j).all fun r=>fitsB n s x.flow r 0)=true) (fun j=>[(1,encReqs after),(3,.ptr 0 0),(5,.ptr 1 0),(7,.int .i64 k),(8,.int .i64 j)]) (fun _=>⟨kp42 n s,[],0,0,fun _=>0⟩) (fun j=>x.routes.length-j) 0 ⟨by omega,by simp⟩ ?_ ?_
 ·refine fN ?_<;>repeat' (first|exact fQ|refine And.intro ?_ ?_|exact SeesL.rfl' _)
 rintro j ⟨hj,hji⟩
 by_cases hja:j < x.routes.length
 rotate_left
 ·have hje:j=x.routes.length:=by omega
  subst hje
  have gj:decide ((x.routes.length:Int) < ((x.routes.map encIs).length:Int))=false:=decide_eq_false (by rw[List.length_map];omega)
  rw[List.take_length]at hji
  have hFx:F x=true:=by rw[hF];exact hji
  repeat((conv=>whnf);first|refine sJ ?_|refine aI (by first|exact trivial|exact inbMap hkl|kernel_rfl) ?_|rw[hmx]|rw[gj])
  try(conv=>whnf)
  refine⟨k+1,⟨by omega,by rw[hst,hFx]⟩,by omega,?_⟩
  refine fN ?_<;>repeat' (first|exact fQ|refine And.intro ?_ ?_|exact SeesL.rfl' _|exact Sees.int (succI hkl (by omega)))
 obtain⟨r,hgr⟩:=getLt hja
 have hmr:=getMap (f:=encIs) hgr
 have hrm:=List.mem_of_getElem? hgr
 have gj:decide ((j:Int) < ((x.routes.map encIs).length:Int))=true:=decide_eq_true (by rw[List.length_map];omega)
 have hrt:((x.routes.take (j+1)).all fun r=>fitsB n s x.flow r 0)=fitsB n s x.flow r 0:=by rw[take_succ hgr,List.all_append,hji];simp
 have hw1:IntKind.i64.wrap ((j:Int)+1)=((j+1:Nat):Int):=by rw[w64]<;>omega
 repeat((conv=>whnf);first|refine sJ ?_|refine aI (by first|exact trivial|exact inbMap hkl|exact Els.map (f:=encIs) (fun _=>⟨rfl,rfl⟩)|exact⟨by omega,by rw[List.length_map];omega⟩|exact⟨by omega,by omega⟩|kernel_rfl) ?_|rw[hmx]|rw[gj]|rw[hw1])
 try(conv=>whnf)
 have hone:((x.routes.map encIs).take (j+1)).drop j=[r].map encIs:=by
  rw[←List.map_take,←List.map_drop,take_succ hgr,List.drop_append_of_le_length (by rw[List.length_take];omega),List.drop_eq_nil_of_le (by rw[List.length_take];omega)];rfl
 refine CallP.data rfl (PCall.sees (args:=[n.av,s.av,x.flow.av,.sl false (((x.routes.map encIs).take ((j+1:Nat):Int).toNat).drop (j:Int).toNat)]) (args':=[n.av,s.av,x.flow.av,encRows [r]]) ⟨Sees.of_eq rfl,Sees.of_eq rfl,Sees.of_eq rfl,Sees.elems (congrArg some hone),trivial⟩ (c_In42 L n hn s x.flow [r] (by simp) (fun z hz=>by rw[List.mem_singleton.1 hz];exact hw x hxm r hrm))) rfl ?_
 have hany:([r].any fun r=>fitsB n s x.flow r 0)=fitsB n s x.flow r 0:=by simp
 rw[hany]
 cases hfv:fitsB n s x.flow r 0 with
 | true=>
  repeat((conv=>whnf);first|refine sT ?_ )
  try(conv=>whnf)
  refine⟨j+1,⟨by omega,by rw[hrt,hfv]⟩,by omega,?_⟩
  refine fN ?_<;>repeat' (first|exact fQ|refine And.intro ?_ ?_|exact SeesL.rfl' _|exact Sees.int (succI hja (by omega)))
 | false=>
  repeat((conv=>whnf);first|refine sT ?_ )
  try(conv=>whnf)
  exact resP.mk rfl (Sees.bool (by symm;rw[List.all_eq_false];refine⟨x,hxm,?_⟩;rw[hF];simp only[Bool.not_eq_true];rw[List.all_eq_false];exact⟨r,hrm,by rw[hfv];decide⟩))
end
end HM
