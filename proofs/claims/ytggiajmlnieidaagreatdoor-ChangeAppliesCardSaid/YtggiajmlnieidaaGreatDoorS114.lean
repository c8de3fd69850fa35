/- The guard of networks. -/
import Derived.Test.YtggiajmlnieidaaGreatDoorS33
import Derived.Test.YtggiajmlnieidaaGreatDoorS53
import Derived.Test.YtggiajmlnieidaaGreatDoorSh
import Derived.Test.YtggiajmlnieidaaGreatDoorFh
import Derived.Shelf.Small.Wraps
import Derived.Handy
import Derived.Deep.RegionHeld3
import Derived.Test.YtggiajmlnieidaaGreatDoorS30
import Derived.Test.YtggiajmlnieidaaGreatDoorS121
set_option maxHeartbeats 64000000
set_option maxRecDepth 100000
namespace HM
open Go Go.RowKit Go.Proofs
section
variable (L:World→Prop)
def few31 (n:Net):Bool:=!(n.power.any fun r=>decide ((40:Int) < r.length))&&decide ((n.power.length:Int)≤8)&&decide ((n.links.length:Int)≤60)&&decide ((n.margin.length:Int)≤60)
theorem c_Few31 (n:Net)(hn:n.small):PCall Tryz.prog L 107 [n.av] (.bool (few31 n)):=by
 have hn1:=hn.1
 refine PCall.intro mixed [] (nt:=34) Tryz.func107 rfl rfl (by simp) ?_
 refine Wk ?_
 refine LoopK.run mixed [] (fun (k:Nat)=>k≤n.power.length∧∀j x,j < k→n.power[j]? = some x→¬(40:Int) < x.length) (fun k=>[(1,.ptr 0 0),(3,.int .i64 k)]) (fun k=>⟨[.cells [.int .i64 n.nodes,encRows n.power,.int .i64 n.noise,.int .i64 n.thr,encLinks n.links,encIs n.margin] 26],[],0,0,fun _=>0⟩) (fun k=>n.power.length-k) 0 ⟨by simp,by simp⟩ ?_ ?_
 ·refine fN ?_<;>repeat' (first|exact fQ|refine And.intro ?_ ?_|exact SeesL.rfl' _)
 rintro k ⟨hk,hinv⟩
 refine Wk ?_
 refine BrK.mk (fun h1=>?_) (fun h1=>?_)<;>(try rw[h1])
 ·have hlt:k < n.power.length:=by simpa using h1
  obtain⟨r,hgr⟩:=getLt hlt
  have hmr:=getMap (f:=fun r:List Int=>encIs r) hgr
  repeat((conv=>whnf);first|refine sJ ?_|refine aI (by first|exact inbMap hlt|kernel_rfl) ?_|rw[hmr])
  try(conv=>whnf)
  refine BrK.mk (fun h2=>?_) (fun h2=>?_)<;>(try rw[h2])
  ·have h2':(40:Int) < r.length:=by simpa using h2
   refine Wk ?_
   exact resP.mk rfl (Sees.bool (by rw[few31,show(n.power.any fun r=>decide ((40:Int) < r.length))=true from List.any_eq_true.2 ⟨r,List.mem_of_getElem? hgr,by simpa using h2'⟩];rfl))
  ·have h2':¬(40:Int) < r.length:=by simpa using h2
   refine Wk ?_
   refine⟨k+1,⟨by omega,fun j x hj hx=>?_⟩,by omega,?_⟩
   ·rcases Nat.lt_succ_iff_lt_or_eq.1 hj with hj|rfl
    ·exact hinv j x hj hx
    ·rw[hgr]at hx;injection hx with hx;subst hx;exact h2'
   ·refine fN ?_<;>repeat' (first|exact fQ|refine And.intro ?_ ?_|exact SeesL.rfl' _|exact Sees.int (succI hlt (by omega)))
 ·have hkl:k=n.power.length:=by simp at h1;omega
  have hany:(n.power.any fun r=>decide ((40:Int) < r.length))=false:=by
   rw[List.any_eq_false]
   intro x hx
   obtain⟨j,hj⟩:=List.getElem?_of_mem hx
   simpa using hinv j x (by have:=(List.getElem?_eq_some_iff.1 hj).1;omega) hj
  refine Wk ?_
  repeat' ((conv=>whnf);first|refine sI ?_  | (refine BrK.mk (fun hb=>?_) (fun hb=>?_)<;>try rw[hb]))
  all_goals try(conv=>whnf)
  all_goals exact resP.mk rfl (Sees.bool (by rw[few31,hany];simp_all<;>omega))
def few37 (n:Net)(s:Sched)(l:List (List Int)):Bool:=!(l.any fun r=>decide ((12:Int) < r.length))&&(few31 n&&decide ((s.cells.length:Int)≤24)&&decide ((l.length:Int)≤3))
theorem c_Few37 (n:Net)(s:Sched)(l:List (List Int))(hn:n.small)(hl:l.length≤281474976710656):PCall Tryz.prog L 106 [n.av,s.av,encRows l] (.bool (few37 n s l)):=by
 refine PCall.intro mixed [] (nt:=33) Tryz.func106 rfl rfl (by simp) ?_
 refine Wk ?_
 refine LoopK.run mixed [] (fun (k:Nat)=>k≤l.length∧∀j x,j < k→l[j]? = some x→¬(12:Int) < x.length) (fun k=>[(2,encRows l),(3,.ptr 0 0),(4,.ptr 1 0),(7,.int .i64 k)]) (fun k=>⟨[.cells [.int .i64 n.nodes,encRows n.power,.int .i64 n.noise,.int .i64 n.thr,encLinks n.links,encIs n.margin] 26,.cells [.int .i64 s.len,.int .i64 s.offs,encCells s.cells] 30],[],0,0,fun _=>0⟩) (fun k=>l.length-k) 0 ⟨by simp,by simp⟩ ?_ ?_
 ·refine fN ?_<;>repeat' (first|exact fQ|refine And.intro ?_ ?_|exact SeesL.rfl' _)
 rintro k ⟨hk,hinv⟩
 refine Wk ?_
 refine BrK.mk (fun h1=>?_) (fun h1=>?_)<;>(try rw[h1])
 ·have hlt:k < l.length:=by simpa using h1
  obtain⟨r,hgr⟩:=getLt hlt
  have hmr:=getMap (f:=fun r:List Int=>encIs r) hgr
  repeat((conv=>whnf);first|refine sJ ?_|refine aI (by first|exact inbMap hlt|kernel_rfl) ?_|rw[hmr])
  try(conv=>whnf)
  refine BrK.mk (fun h2=>?_) (fun h2=>?_)<;>(try rw[h2])
  ·have h2':(12:Int) < r.length:=by simpa using h2
   refine Wk ?_
   exact resP.mk rfl (Sees.bool (by rw[few37,show(l.any fun r=>decide ((12:Int) < r.length))=true from List.any_eq_true.2 ⟨r,List.mem_of_getElem? hgr,by simpa using h2'⟩];rfl))
  ·have h2':¬(12:Int) < r.length:=by simpa using h2
   refine Wk ?_
   refine⟨k+1,⟨by omega,fun j x hj hx=>?_⟩,by omega,?_⟩
   ·rcases Nat.lt_succ_iff_lt_or_eq.1 hj with hj|rfl
    ·exact hinv j x hj hx
    ·rw[hgr]at hx;injection hx with hx;subst hx;exact h2'
   ·refine fN ?_<;>repeat' (first|exact fQ|refine And.intro ?_ ?_|exact SeesL.rfl' _|exact Sees.int (succI hlt (by omega)))
 ·have hkl:k=l.length:=by simp at h1;omega
  have hany:(l.any fun r=>decide ((12:Int) < r.length))=false:=by
   rw[List.any_eq_false]
   intro x hx
   obtain⟨j,hj⟩:=List.getElem?_of_mem hx
   simpa using hinv j x (by have:=(List.getElem?_eq_some_iff.1 hj).1;omega) hj
  refine Wk ?_
  refine cD (c_Few31 L n hn) ?_
  repeat' ((conv=>whnf);first|refine sI ?_  | (refine BrK.mk (fun hb=>?_) (fun hb=>?_)<;>try rw[hb]))
  all_goals try(conv=>whnf)
  all_goals exact resP.mk rfl (Sees.bool (by rw[few37,hany];simp_all<;>omega))
end
instance:Inhabited Link:=⟨⟨0,0,0⟩⟩
section
variable (L:World→Prop)
end
section
variable (L:World→Prop)
end
section
variable (L:World→Prop)
end
section
variable (L:World→Prop)
theorem c_Flows38 (q:List Req)(hq:q.length≤1099511627776):PCall Tryz.prog L 46 [encReqs q] (encFlows (flowsQ q)):=by
 refine PCall.intro mixed [] (nt:=21) Tryz.func46 rfl rfl (by simp) ?_
 refine Wk ?_
 refine LoopK.run mixed [] (fun (k:Nat)=>k≤q.length) (fun k=>[(0,encReqs q),(3,.own ((flowsQ (q.take k)).map Flow.av) 0),(4,.int .i64 k)]) (fun k=>⟨[],[((flowsQ (q.take k)).length,6)],0,0,fun _=>46⟩) (fun k=>q.length-k) 0 (by omega) ?_ ?_
 ·refine fN ?_<;>repeat' (first|exact fQ|refine And.intro ?_ ?_ )
 rintro k hk
 have hfl:(flowsQ (q.take k)).length=k:=by simp[flowsQ];omega
 refine Wk ?_
 refine BrK.mk (fun hb=>?_) (fun hb=>?_)<;>try rw[hb]
 ·have hlt:k < q.length:=by simpa using hb
  obtain⟨x,hgx⟩:=getLt hlt
  have hmx:=getMap (f:=Req.av) hgx
  have hfs:flowsQ (q.take (k+1))=flowsQ (q.take k)++[x.flow]:=by rw[take_succ hgx];simp[flowsQ]
  repeat((conv=>whnf);first|refine sJ ?_|refine aI (by first|exact inbMap hlt|exact Els.map (f:=Flow.av) (fun _=>⟨rfl,rfl⟩)|exact(show _*48≤_ by simp only[List.length_map,List.length_cons,List.length_nil];omega)|exact(by simp only[List.length_map,List.length_cons,List.length_nil,maxLen];omega)|exact(show some (_,_)=some (_,_) by simp only[List.length_map])|kernel_rfl) ?_|rw[hmx])
  try(conv=>whnf)
  refine⟨k+1,by omega,by omega,?_⟩
  rw[hfs]
  refine fN ?_<;>repeat' (first|exact fQ|refine And.intro ?_ ?_|exact Sees.int (succI hlt (by omega))|exact Sees.own (by simp;rfl)|(show(_,_)=(_,_);simp only[List.length_append,List.length_map,List.length_cons,List.length_nil]))
 ·have hk':k=q.length:=by simp at hb;omega
  subst hk'
  rw[List.take_length]
  refine Wk ?_
  exact resP.mk rfl (Sees.of_eq rfl)
theorem c_Fault38 (n:Net)(hn:n.small)(q:List Req)(hq:q.length≤1099511627776)(hx:∀x∈q,x.small):PCall Tryz.prog L 117 [n.av,encReqs q] (.tup [.int .i64 (reqE n q).1,.int .i64 (reqE n q).2]):=by
 refine PCall.intro mixed [] (nt:=86) Tryz.func117 rfl rfl (by simp) ?_
 refine Wk ?_
 refine cD (c_Check31 L n hn) ?_
 refine Wk ?_
 refine BrK.mk (fun h0=>?_) (fun h0=>?_)<;>(try rw[h0])
 ·refine Wk ?_
  exact resP.mk rfl (Sees.of_eq (by rw[reqE,if_pos (by simpa using h0)]))
 have h0':¬netE n≠0:=by simpa using h0
 refine Wk ?_
 refine cD (c_Flows38 L q hq) ?_
 refine Wk ?_
 refine cD (c_FCheck32 L n.nodes (flowsQ q) (by simp[flowsQ];omega)) ?_
 refine Wk ?_
 refine BrK.mk (fun h1=>?_) (fun h1=>?_)<;>(try rw[h1])
 ·refine Wk ?_
  exact resP.mk rfl (Sees.of_eq (by rw[reqE,if_neg h0',if_pos (by simpa using h1)]))
 have h1':¬(flowsE n.nodes (flowsQ q)).2≠0:=by simpa using h1
 have hE:reqE n q=firstAt (reqAt n q) q.length:=by rw[reqE,if_neg h0',if_neg h1']
 rw[hE]
 refine Wk ?_
 refine LoopK.run mixed [] (fun (k:Nat)=>k≤q.length∧∀j,j < k→reqAt n q j=0) (fun k=>[(1,encReqs q),(2,.ptr 0 0),(8,.int .i64 k)]) (fun k=>⟨[.cells n.cs 26],[],0,0,fun _=>0⟩) (fun k=>q.length-k) 0 ⟨by simp,by simp⟩ ?_ ?_
 ·refine fN ?_<;>repeat' (first|exact fQ|refine And.intro ?_ ?_|exact SeesL.rfl' _)
 rintro k ⟨hk,hinv⟩
 refine Wk ?_
 refine BrK.mk (fun hb=>?_) (fun hb=>?_)<;>try rw[hb]
 ·have hlt:k < q.length:=by simpa using hb
  obtain⟨x,hgx⟩:=getLt hlt
  have hmx:=getMap (f:=Req.av) hgx
  have hrt:reqAt n q k=routesE n x:=by unfold reqAt;rw[hgx]
  obtain⟨hxl,hxr⟩:=hx x (List.mem_of_getElem? hgx)
  have hit:=firstAt_hit hinv (k:=k) (n:=q.length)
  rw[hrt]at hit
  have nxt:routesE n x=0→∀j,j < k+1→reqAt n q j=0:=fun h j hj=>by
   rcases Nat.lt_succ_iff_lt_or_eq.1 hj with h'|rfl
   ·exact hinv j h'
   ·rw[hrt];exact h
  repeat((conv=>whnf);first|refine sJ ?_|refine aI (by first|exact inbMap hlt|kernel_rfl) ?_|rw[hmx])
  try(conv=>whnf)
  refine BrK.mk (fun g1=>?_) (fun g1=>?_)<;>(try rw[g1])
  ·have g1':x.routes.length=0:=by simpa using g1
   have hv:routesE n x=14:=by rw[routesE,if_pos g1']
   refine Wk ?_
   exact resP.mk rfl (Sees.of_eq (by rw[hit (by rw[hv];decide) hlt,hv]))
  have g1':x.routes.length≠0:=by simpa using g1
  refine Wk ?_
  refine BrK.mk (fun g2=>?_) (fun g2=>?_)<;>(try rw[g2])
  ·have hv:routesE n x=8:=by rw[routesE,if_neg g1',if_pos (by simp at g2;omega)]
   refine Wk ?_
   exact resP.mk rfl (Sees.of_eq (by rw[hit (by rw[hv];decide) hlt,hv]))
  have g2':¬2 < x.routes.length:=by simp at g2;omega
  refine Wk ?_
  refine LoopK.run mixed [] (fun (j:Nat)=>j≤x.routes.length∧∀i,i < j→routesAt n x i=0) (fun j=>[(1,encReqs q),(2,.ptr 0 0),(8,.int .i64 k),(9,encRows x.routes),(10,.int .i64 j)]) (fun j=>⟨[.cells n.cs 26],[],0,0,fun _=>0⟩) (fun j=>x.routes.length-j) 0 ⟨by simp,by simp⟩ ?_ ?_
  ·refine fN ?_<;>repeat' (first|exact fQ|refine And.intro ?_ ?_|exact SeesL.rfl' _)
  rintro m ⟨hm,hinv2⟩
  refine Wk ?_
  refine BrK.mk (fun hd=>?_) (fun hd=>?_)<;>(try rw[hd])
  ·have hmt:m < x.routes.length:=by simpa using hd
   obtain⟨r,hgr⟩:=getLt hmt
   have hmr:=getMap (f:=encIs) hgr
   have hrv:routesAt n x m=routeE n x.flow.src x.flow.dst r:=by unfold routesAt;rw[hgr]
   repeat((conv=>whnf);first|refine sJ ?_|refine aI (by first|exact inbMap hlt|exact inbMap hmt|kernel_rfl) ?_|rw[hmx]|rw[hmr])
   try(conv=>whnf)
   refine cD (c_Check33 L n hn x.flow.src x.flow.dst r (hxr r (List.mem_of_getElem? hgr))) ?_
   rw[←hrv]
   refine Wk ?_
   refine BrK.mk (fun g3=>?_) (fun g3=>?_)<;>(try rw[g3])
   ·have g3':routesAt n x m≠0:=by simpa using g3
    have hv:=routesE_hit g1' g2' hmt hinv2 g3'
    refine Wk ?_
    exact resP.mk rfl (Sees.of_eq (by rw[hit (by rw[hv];exact g3') hlt,hv]))
   ·have g3':routesAt n x m=0:=by simpa using g3
    refine Wk ?_
    refine⟨m+1,⟨by omega,fun j hj=>?_⟩,by omega,?_⟩
    ·rcases Nat.lt_succ_iff_lt_or_eq.1 hj with h|rfl
     ·exact hinv2 j h
     ·exact g3'
    ·refine fN ?_<;>repeat' (first|exact fQ|refine And.intro ?_ ?_|exact Sees.int (succI hmt (by omega))|exact SeesL.rfl' _)
  ·have hm':m=x.routes.length:=by simp at hd;omega
   subst hm'
   have hE2:=routesE_all g1' g2' hinv2
   by_cases h4:x.routes.length=2
   ·obtain⟨a,b,hab⟩:∃a b,x.routes=[a,b]:=by
     match x.routes,h4 with
     | [a,b],_=>exact⟨a,b,rfl⟩
    have ha:=hxr a (by rw[hab];simp)
    have h4':(((x.routes.map encIs).length:Int)==2)=true:=by simp;omega
    have m0:(x.routes.map encIs)[Int.toNat 0]? = some (encIs a):=by rw[hab];rfl
    have m1:(x.routes.map encIs)[Int.toNat 1]? = some (encIs b):=by rw[hab];rfl
    have hts:twoSame x.routes=decide (a=b):=by rw[hab];rfl
    rw[hts]at hE2
    repeat((conv=>whnf);first|refine sJ ?_|refine aI (by first|exact inbMap (k:=0) (by omega)|exact inbMap (k:=1) (by omega)|kernel_rfl) ?_|rw[h4']|rw[m0]|rw[m1])
    try(conv=>whnf)
    refine cD (c_SameInts31 L a b ha) ?_
    refine Wk ?_
    refine BrK.mk (fun h5=>?_) (fun h5=>?_)<;>(try rw[h5])
    ·rw[if_pos h5]at hE2
     refine Wk ?_
     exact resP.mk rfl (Sees.of_eq (by rw[hit (by rw[hE2];decide) hlt,hE2]))
    ·rw[if_neg (by simp[h5])]at hE2
     refine Wk ?_
     refine⟨k+1,⟨by omega,nxt hE2⟩,by omega,?_⟩
     refine fN ?_<;>repeat' (first|exact fQ|refine And.intro ?_ ?_|exact Sees.int (succI hlt (by omega))|exact SeesL.rfl' _)
   ·have hts:twoSame x.routes=false:=by
     match hm:x.routes,h4,g1',g2' with
     | [a],_,_,_=>rfl
     | [a,b],h,_,_=>simp at h
     | [],_,h,_=>simp at h
     | a :: b :: c :: l,_,_,h=>simp at h
    have h4':(((x.routes.map encIs).length:Int)==2)=false:=by simp;omega
    rw[hts,if_neg (by decide)]at hE2
    repeat((conv=>whnf);first|refine sT ?_|rw[h4'])
    try(conv=>whnf)
    refine⟨k+1,⟨by omega,nxt hE2⟩,by omega,?_⟩
    refine fN ?_<;>repeat' (first|exact fQ|refine And.intro ?_ ?_|exact Sees.int (succI hlt (by omega))|exact SeesL.rfl' _)
 ·have hk':k=q.length:=by simp at hb;omega
  subst hk'
  refine Wk ?_
  exact resP.mk rfl (Sees.of_eq (by rw[firstAt_zero hinv]))
end
section
variable (L:World→Prop)
def few38 (n:Net)(q:List Req)(s:Sched):Bool:=(q.all fun x=>few37 n sched0 x.routes)&&(few31 n&&decide ((q.length:Int)≤4)&&decide ((s.cells.length:Int)≤30))
theorem c_Few38 (n:Net)(hn:n.small)(q:List Req)(hq:q.length≤281474976710656)(hx:∀x∈q,x.small)(s:Sched):PCall Tryz.prog L 47 [n.av,encReqs q,s.av] (.bool (few38 n q s)):=by
 refine PCall.intro mixed [] (nt:=36) Tryz.func47 rfl rfl (by simp) ?_
 refine Wk ?_
 refine LoopK.run mixed [] (fun (k:Nat)=>k≤q.length∧∀j x,j < k→q[j]? = some x→few37 n sched0 x.routes=true) (fun k=>[(1,encReqs q),(3,.ptr 0 0),(5,.ptr 1 0),(7,.int .i64 k)]) (fun k=>⟨[.cells n.cs 26,.cells [.int .i64 s.len,.int .i64 s.offs,encCells s.cells] 30],[],0,0,fun _=>0⟩) (fun k=>q.length-k) 0 ⟨by simp,by simp⟩ ?_ ?_
 ·refine fN ?_<;>repeat' (first|exact fQ|refine And.intro ?_ ?_|exact SeesL.rfl' _)
 rintro k ⟨hk,hinv⟩
 refine Wk ?_
 refine BrK.mk (fun hb=>?_) (fun hb=>?_)<;>try rw[hb]
 ·have hlt:k < q.length:=by simpa using hb
  obtain⟨x,hgx⟩:=getLt hlt
  have hmx:=getMap (f:=Req.av) hgx
  have hxm:=List.mem_of_getElem? hgx
  repeat((conv=>whnf);first|refine sJ ?_|refine aI (by first|exact inbMap hlt|kernel_rfl) ?_|rw[hmx])
  try(conv=>whnf)
  refine cD (c_Few37 L n sched0 x.routes hn (hx x hxm).1) ?_
  refine Wk ?_
  refine BrK.mk (fun h1=>?_) (fun h1=>?_)<;>(try rw[h1])
  ·have h1':few37 n sched0 x.routes=false:=by simpa using h1
   refine Wk ?_
   exact resP.mk rfl (Sees.bool (by rw[few38,show(q.all fun x=>few37 n sched0 x.routes)=false from List.all_eq_false.2 ⟨x,hxm,by simp[h1']⟩];rfl))
  ·have h1':few37 n sched0 x.routes=true:=by simpa using h1
   refine Wk ?_
   refine⟨k+1,⟨by omega,fun j y hj hy=>?_⟩,by omega,?_⟩
   ·rcases Nat.lt_succ_iff_lt_or_eq.1 hj with h|rfl
    ·exact hinv j y h hy
    ·rw[hgx]at hy;injection hy with hy;subst hy;exact h1'
   ·refine fN ?_<;>repeat' (first|exact fQ|refine And.intro ?_ ?_|exact Sees.int (succI hlt (by omega))|exact SeesL.rfl' _)
 ·have hk':k=q.length:=by simp at hb;omega
  subst hk'
  have hall:(q.all fun x=>few37 n sched0 x.routes)=true:=by
   rw[List.all_eq_true]
   intro x hx
   obtain⟨j,hj⟩:=List.getElem?_of_mem hx
   exact hinv j x (List.getElem?_eq_some_iff.1 hj).1 hj
  refine Wk ?_
  refine cD (c_Few31 L n hn) ?_
  repeat' ((conv=>whnf);first|refine sI ?_  | (refine BrK.mk (fun hb=>?_) (fun hb=>?_)<;>try rw[hb]))
  all_goals try(conv=>whnf)
  all_goals exact resP.mk rfl (Sees.bool (by rw[few38,hall];simp_all<;>omega))
end
end HM
