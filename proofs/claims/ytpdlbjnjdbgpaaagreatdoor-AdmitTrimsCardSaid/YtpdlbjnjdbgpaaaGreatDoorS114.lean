/- The guard of networks. -/
import Derived.Test.YtpdlbjnjdbgpaaaGreatDoorS30
import Derived.Test.YtpdlbjnjdbgpaaaGreatDoorDb
set_option maxHeartbeats 64000000
set_option maxRecDepth 100000
namespace HM
open Go Go.RowKit Go.Proofs
section
variable (L:World→Prop)
def few31 (n:Net):Bool:=!(n.power.any fun r=>decide ((40:Int) < r.length))&&decide ((n.power.length:Int)≤8)&&decide ((n.links.length:Int)≤60)&&decide ((n.margin.length:Int)≤60)
theorem c_Few31 (n:Net)(hn:n.small):PCall Tryz.prog L 21 [n.av] (.bool (few31 n)):=by
 have hn1:=hn.1
 refine PCall.intro mixed [] (nt:=34) Tryz.func21 rfl rfl (by simp) ?_
 refine Wk ?_
 refine LoopK.run mixed [] (fun (k:Nat)=>k≤n.power.length∧∀j x,j < k→n.power[j]? = some x→¬(40:Int) < x.length) (fun k=>[(1,.ptr 0 0),(3,.int .i64 k)]) (fun k=>⟨[.cells [.int .i64 n.nodes,encRows n.power,.int .i64 n.noise,.int .i64 n.thr,encLinks n.links,encIs n.margin] 26],[],0,0,fun _=>0⟩) (fun k=>n.power.length-k) 0 ⟨by simp,by simp⟩ ?_ ?_
 ·refine fN ?_<;>repeat' (first|exact fQ|refine And.intro ?_ ?_|exact SeesL.rfl' _)
 rintro k ⟨hk,hinv⟩
 refine Wk ?_
 refine BrK.mk (fun h1=>?_) (fun h1=>?_)<;>(try rw[h1])
 ·have hlt:k < n.power.length:=by simpa using h1
  obtain⟨r,hgr⟩:=getLt hlt
  have hmr:=getMap (f:=fun r:List Int=>encIs r) hgr
  repeat((conv=>whnf);first|refine sJ ?_|refine aI (by first|exact inbMap hlt|kernel_rfl) ?_|rw[hmr])
  try(conv=>whnf)
  refine BrK.mk (fun h2=>?_) (fun h2=>?_)<;>(try rw[h2])
  ·have h2':(40:Int) < r.length:=by simpa using h2
   refine Wk ?_
   exact resP.mk rfl (Sees.bool (by rw[few31,show(n.power.any fun r=>decide ((40:Int) < r.length))=true from List.any_eq_true.2 ⟨r,List.mem_of_getElem? hgr,by simpa using h2'⟩];rfl))
  ·have h2':¬(40:Int) < r.length:=by simpa using h2
   refine Wk ?_
   refine⟨k+1,⟨by omega,fun j x hj hx=>?_⟩,by omega,?_⟩
   ·rcases Nat.lt_succ_iff_lt_or_eq.1 hj with hj|rfl
    ·exact hinv j x hj hx
    ·rw[hgr]at hx;injection hx with hx;subst hx;exact h2'
   ·refine fN ?_<;>repeat' (first|exact fQ|refine And.intro ?_ ?_|exact SeesL.rfl' _|exact Sees.int (succI hlt (by omega)))
 ·have hkl:k=n.power.length:=by simp at h1;omega
  have hany:(n.power.any fun r=>decide ((40:Int) < r.length))=false:=by
   rw[List.any_eq_false]
   intro x hx
   obtain⟨j,hj⟩:=List.getElem?_of_mem hx
   simpa using hinv j x (by have:=(List.getElem?_eq_some_iff.1 hj).1;omega) hj
  refine Wk ?_
  repeat' ((conv=>whnf);first|refine sI ?_  | (refine BrK.mk (fun hb=>?_) (fun hb=>?_)<;>try rw[hb]))
  all_goals try(conv=>whnf)
  all_goals exact resP.mk rfl (Sees.bool (by rw[few31,hany];simp_all<;>omega))
def few37 (n:Net)(s:Sched)(l:List (List Int)):Bool:=!(l.any fun r=>decide ((12:Int) < r.length))&&(few31 n&&decide ((s.cells.length:Int)≤24)&&decide ((l.length:Int)≤3))
theorem c_Few37 (n:Net)(s:Sched)(l:List (List Int))(hn:n.small)(hl:l.length≤281474976710656):PCall Tryz.prog L 20 [n.av,s.av,encRows l] (.bool (few37 n s l)):=by
 refine PCall.intro mixed [] (nt:=33) Tryz.func20 rfl rfl (by simp) ?_
 refine Wk ?_
 refine LoopK.run mixed [] (fun (k:Nat)=>k≤l.length∧∀j x,j < k→l[j]? = some x→¬(12:Int) < x.length) (fun k=>[(2,encRows l),(3,.ptr 0 0),(4,.ptr 1 0),(7,.int .i64 k)]) (fun k=>⟨[.cells [.int .i64 n.nodes,encRows n.power,.int .i64 n.noise,.int .i64 n.thr,encLinks n.links,encIs n.margin] 26,.cells [.int .i64 s.len,.int .i64 s.offs,encCells s.cells] 30],[],0,0,fun _=>0⟩) (fun k=>l.length-k) 0 ⟨by simp,by simp⟩ ?_ ?_
 ·refine fN ?_<;>repeat' (first|exact fQ|refine And.intro ?_ ?_|exact SeesL.rfl' _)
 rintro k ⟨hk,hinv⟩
 refine Wk ?_
 refine BrK.mk (fun h1=>?_) (fun h1=>?_)<;>(try rw[h1])
 ·have hlt:k < l.length:=by simpa using h1
  obtain⟨r,hgr⟩:=getLt hlt
  have hmr:=getMap (f:=fun r:List Int=>encIs r) hgr
  repeat((conv=>whnf);first|refine sJ ?_|refine aI (by first|exact inbMap hlt|kernel_rfl) ?_|rw[hmr])
  try(conv=>whnf)
  refine BrK.mk (fun h2=>?_) (fun h2=>?_)<;>(try rw[h2])
  ·have h2':(12:Int) < r.length:=by simpa using h2
   refine Wk ?_
   exact resP.mk rfl (Sees.bool (by rw[few37,show(l.any fun r=>decide ((12:Int) < r.length))=true from List.any_eq_true.2 ⟨r,List.mem_of_getElem? hgr,by simpa using h2'⟩];rfl))
  ·have h2':¬(12:Int) < r.length:=by simpa using h2
   refine Wk ?_
   refine⟨k+1,⟨by omega,fun j x hj hx=>?_⟩,by omega,?_⟩
   ·rcases Nat.lt_succ_iff_lt_or_eq.1 hj with hj|rfl
    ·exact hinv j x hj hx
    ·rw[hgr]at hx;injection hx with hx;subst hx;exact h2'
   ·refine fN ?_<;>repeat' (first|exact fQ|refine And.intro ?_ ?_|exact SeesL.rfl' _|exact Sees.int (succI hlt (by omega)))
 ·have hkl:k=l.length:=by simp at h1;omega
  have hany:(l.any fun r=>decide ((12:Int) < r.length))=false:=by
   rw[List.any_eq_false]
   intro x hx
   obtain⟨j,hj⟩:=List.getElem?_of_mem hx
   simpa using hinv j x (by have:=(List.getElem?_eq_some_iff.1 hj).1;omega) hj
  refine Wk ?_
  refine cD (c_Few31 L n hn) ?_
  repeat' ((conv=>whnf);first|refine sI ?_  | (refine BrK.mk (fun hb=>?_) (fun hb=>?_)<;>try rw[hb]))
  all_goals try(conv=>whnf)
  all_goals exact resP.mk rfl (Sees.bool (by rw[few37,hany];simp_all<;>omega))
end
section
variable (L:World→Prop)
def Req.small (x:Req):Prop:=x.routes.length≤281474976710656∧∀r∈x.routes,r.length≤281474976710656
theorem c_cflows (q:List Req)(hq:q.length≤1099511627776):PCall Tryz.prog L 29 [encReqs q] (encFlows (flowsQ q)):=by
 refine PCall.intro mixed [] (nt:=19) Tryz.func29 rfl rfl (by simp) ?_
 refine Wk ?_
 refine LoopK.born 3 6 56 rfl ?_
 refine LoopK.run mixed [] (fun (k:Nat)=>k≤q.length) (fun k=>[(3,.own ((flowsQ (q.take k)).map Flow.av) 0),(6,encReqs q),(7,.int .i64 q.length),(8,.int .i64 k)]) (fun k=>⟨[],[((flowsQ (q.take k)).length,6)],0,0,fun k=>if k=0 then 56 else 0⟩) (fun k=>q.length-k) 0 (by simp) ?_ ?_
 ·refine fN ?_<;>repeat' (first|exact fQ|refine And.intro ?_ ?_|exact Sees.int (by simp))
 rintro k hk
 have hfl:(flowsQ (q.take k)).length=k:=by simp[flowsQ];omega
 refine Wk ?_
 refine BrK.mk (fun hb=>?_) (fun hb=>?_)<;>try rw[hb]
 ·have hlt:k < q.length:=by simpa using hb
  obtain⟨x,hgx⟩:=getLt hlt
  have hmx:=getMap (f:=Req.av) hgx
  have hfs:flowsQ (q.take (k+1))=flowsQ (q.take k)++[x.flow]:=by rw[take_succ hgx];simp[flowsQ]
  repeat((conv=>whnf);first|refine sJ ?_|refine aI (by first|exact inbMap hlt|exact Els.map (f:=Flow.av) (fun _=>⟨rfl,rfl⟩)|exact(show _*48≤_ by simp only[List.length_map,List.length_cons,List.length_nil];omega)|exact(by simp only[List.length_map,List.length_cons,List.length_nil,maxLen];omega)|exact(show some (_,_)=some (_,_) by simp only[List.length_map])|kernel_rfl) ?_|rw[hmx])
  try(conv=>whnf)
  refine⟨k+1,by omega,by omega,?_⟩
  rw[hfs]
  refine fN ?_<;>repeat' (first|exact fQ|refine And.intro ?_ ?_|exact Sees.int (succI hlt (by omega))|exact Sees.own (by simp;rfl)|(show(_,_)=(_,_);simp only[List.length_append,List.length_map,List.length_cons,List.length_nil]))
 ·have hk':k=q.length:=by simp at hb;omega
  subst hk'
  rw[List.take_length]
  refine Wk ?_
  exact resP.mk rfl (Sees.of_eq rfl)
theorem c_EqRoute (a b:List Int)(ha:a.length≤281474976710656):PCall Tryz.prog L 124 [encIs a,encIs b] (.bool (decide (a=b))):=by
 refine PCall.intro mixed [] (nt:=26) Tryz.func124 rfl rfl (by simp) ?_
 refine Wk ?_
 refine BrK.mk (fun h1=>?_) (fun h1=>?_)<;>(try rw[h1])
 ·have hne:a.length≠b.length:=by simp at h1;omega
  refine Wk ?_
  exact resP.mk rfl (Sees.bool (by rw[decide_eq_false (fun h=>hne (by rw[h]))]))
 have hl:a.length=b.length:=by simp at h1;omega
 refine Wk ?_
 refine LoopK.run mixed [] (fun (k:Nat)=>k≤a.length∧∀(j:Nat) x y,j < k→a[j]? = some x→b[j]? = some y→x=y) (fun k=>[(0,encIs a),(1,encIs b),(12,.int .i64 a.length),(13,.int .i64 k)]) (fun k=>St.none) (fun k=>a.length-k) 0 ⟨by simp,by simp⟩ ?_ ?_
 ·refine fN ?_<;>repeat' (first|exact fQ|refine And.intro ?_ ?_|exact Sees.int (by simp))
 rintro k ⟨hk,hinv⟩
 refine Wk ?_
 refine BrK.mk (fun hb=>?_) (fun hb=>?_)<;>try rw[hb]
 ·have hkt:k < a.length:=by simpa using hb
  obtain⟨x,hgx⟩:=getLt hkt
  obtain⟨y,hgy⟩:=getLt (l:=b) (k:=k) (by omega)
  have hmx:=getMap (f:=encI) hgx
  have hmy:=getMap (f:=encI) hgy
  repeat((conv=>whnf);first|refine sJ ?_|refine aI (by first|exact inbMap hkt|exact inbMap (by omega:k < b.length)|kernel_rfl) ?_|rw[hmx]|rw[hmy])
  try(conv=>whnf)
  refine BrK.mk (fun h2=>?_) (fun h2=>?_)<;>(try rw[h2])
  ·have hne:¬a=b:=fun h=>by
    subst h
    rw[hgx]at hgy
    injection hgy with hgy
    subst hgy
    simp at h2
   refine Wk ?_
   exact resP.mk rfl (Sees.bool (by rw[decide_eq_false hne]))
  ·have hxy:x=y:=by simpa using h2
   refine Wk ?_
   refine⟨k+1,⟨by omega,fun j x' y' hj hx' hy'=>?_⟩,by omega,?_⟩
   ·rcases Nat.lt_succ_iff_lt_or_eq.1 hj with h|rfl
    ·exact hinv j x' y' h hx' hy'
    ·rw[hgx]at hx';rw[hgy]at hy';injection hx' with hx';injection hy' with hy';rw[←hx',←hy',hxy]
   ·refine fN ?_<;>repeat' (first|exact fQ|refine And.intro ?_ ?_|exact Sees.int (succI hkt ha))
 ·have hkn:k=a.length:=by simp at hb;omega
  subst hkn
  refine Wk ?_
  exact resP.mk rfl (Sees.bool (by rw[decide_eq_true (eq_of_at hl hinv)]))
theorem routesE_hit {n:Net}{x:Req}{k:Nat}(h1:x.routes.length≠0)(h2:¬2 < x.routes.length)(hk:k < x.routes.length)(h0:∀j,j < k→routesAt n x j=0)(he:routesAt n x k≠0):routesE n x=routesAt n x k:=by
 have hf:=firstAt_hit h0 he hk
 rw[routesE,if_neg h1,if_neg h2,hf,if_pos he]
theorem routesE_all {n:Net}{x:Req}(h1:x.routes.length≠0)(h2:¬2 < x.routes.length)(h0:∀j,j < x.routes.length→routesAt n x j=0):routesE n x=if twoSame x.routes=true then 6 else 0:=by
 rw[routesE,if_neg h1,if_neg h2,firstAt_zero h0,if_neg (by simp)]
theorem c_checkRoutes (n:Net)(hn:n.small)(x:Req)(hx:x.small):PCall Tryz.prog L 63 [n.av,x.av] (.int .i64 (routesE n x)):=by
 obtain⟨hxl,hxr⟩:=hx
 refine PCall.intro mixed [] (nt:=51) Tryz.func63 rfl rfl (by simp) ?_
 refine Wk ?_
 refine BrK.mk (fun h1=>?_) (fun h1=>?_)<;>(try rw[h1])
 ·refine Wk ?_
  exact resP.mk rfl (Sees.int (by rw[routesE,if_pos (by simpa using h1)]))
 have h1':x.routes.length≠0:=by simpa using h1
 refine Wk ?_
 refine BrK.mk (fun h2=>?_) (fun h2=>?_)<;>(try rw[h2])
 ·refine Wk ?_
  exact resP.mk rfl (Sees.int (by rw[routesE,if_neg h1',if_pos (by simp at h2;omega)]))
 have h2':¬2 < x.routes.length:=by simp at h2;omega
 refine Wk ?_
 refine LoopK.run mixed [] (fun (k:Nat)=>k≤x.routes.length∧∀j,j < k→routesAt n x j=0) (fun k=>[(2,.ptr 0 0),(3,.ptr 1 0),(17,encRows x.routes),(18,.int .i64 x.routes.length),(19,.int .i64 k)]) (fun k=>⟨[.cells n.cs 26,.cells x.cs 60],[],0,0,fun _=>0⟩) (fun k=>x.routes.length-k) 0 ⟨by simp,by simp⟩ ?_ ?_
 ·refine fN ?_<;>repeat' (first|exact fQ|refine And.intro ?_ ?_|exact Sees.int (by simp)|exact SeesL.rfl' _)
 rintro k ⟨hk,hinv⟩
 refine Wk ?_
 refine BrK.mk (fun hb=>?_) (fun hb=>?_)<;>try rw[hb]
 ·have hlt:k < x.routes.length:=by simpa using hb
  obtain⟨r,hgr⟩:=getLt hlt
  have hmr:=getMap (f:=encIs) hgr
  have hrt:routesAt n x k=routeE n x.flow.src x.flow.dst r:=by unfold routesAt;rw[hgr]
  repeat((conv=>whnf);first|refine sJ ?_|refine aI (by first|exact inbMap hlt|kernel_rfl) ?_|rw[hmr])
  try(conv=>whnf)
  refine cD (c_RCheck L n hn x.flow.src x.flow.dst r (hxr r (List.mem_of_getElem? hgr))) ?_
  rw[←hrt]
  refine Wk ?_
  refine BrK.mk (fun h3=>?_) (fun h3=>?_)<;>(try rw[h3])
  ·have h3':routesAt n x k≠0:=by simpa using h3
   refine Wk ?_
   exact resP.mk rfl (Sees.int (by rw[routesE_hit h1' h2' hlt hinv h3']))
  ·have h3':routesAt n x k=0:=by simpa using h3
   refine Wk ?_
   refine⟨k+1,⟨by omega,fun j hj=>?_⟩,by omega,?_⟩
   ·rcases Nat.lt_succ_iff_lt_or_eq.1 hj with h|rfl
    ·exact hinv j h
    ·exact h3'
   ·refine fN ?_<;>repeat' (first|exact fQ|refine And.intro ?_ ?_|exact Sees.int (succI hlt (by omega))|exact SeesL.rfl' _)
 ·have hk':k=x.routes.length:=by simp at hb;omega
  subst hk'
  have hE:=routesE_all h1' h2' hinv
  by_cases h4:x.routes.length=2
  ·obtain⟨a,b,hab⟩:∃a b,x.routes=[a,b]:=by
    match x.routes,h4 with
    | [a,b],_=>exact⟨a,b,rfl⟩
   have ha:=hxr a (by rw[hab];simp)
   have h4':(((x.routes.map encIs).length:Int)==2)=true:=by simp;omega
   have m0:(x.routes.map encIs)[Int.toNat 0]? = some (encIs a):=by rw[hab];rfl
   have m1:(x.routes.map encIs)[Int.toNat 1]? = some (encIs b):=by rw[hab];rfl
   rw[hab]at hE
   repeat((conv=>whnf);first|refine sJ ?_|refine aI (by first|exact inbMap (k:=0) (by omega)|exact inbMap (k:=1) (by omega)|kernel_rfl) ?_|rw[h4']|rw[m0]|rw[m1])
   try(conv=>whnf)
   refine cD (c_EqRoute L a b ha) ?_
   refine Wk ?_
   refine BrK.mk (fun h5=>?_) (fun h5=>?_)<;>(try rw[h5])
   ·refine Wk ?_
    exact resP.mk rfl (Sees.int (by rw[hE,if_pos (by simpa[twoSame] using h5)]))
   ·refine Wk ?_
    exact resP.mk rfl (Sees.int (by rw[hE,if_neg (by simpa[twoSame] using h5)]))
  ·have hts:twoSame x.routes=false:=by
    match hm:x.routes,h4,h1',h2' with
    | [a],_,_,_=>rfl
    | [a,b],h,_,_=>simp at h
    | [],_,h,_=>simp at h
    | a :: b :: c :: l,_,_,h=>simp at h
   have h4':(((x.routes.map encIs).length:Int)==2)=false:=by simp;omega
   repeat((conv=>whnf);first|refine sT ?_|rw[h4'])
   try(conv=>whnf)
   exact resP.mk rfl (Sees.int (by rw[hE,hts,if_neg (by decide)]))
theorem c_requests (n:Net)(hn:n.small)(q:List Req)(hq:q.length≤1099511627776)(hx:∀x∈q,x.small):PCall Tryz.prog L 27 [n.av,encReqs q] (.tup [.int .i64 (reqE n q).1,.int .i64 (reqE n q).2]):=by
 refine PCall.intro mixed [] (nt:=41) Tryz.func27 rfl rfl (by simp) ?_
 refine Wk ?_
 refine cD (c_netCheck L n hn) ?_
 refine Wk ?_
 refine BrK.mk (fun h0=>?_) (fun h0=>?_)<;>(try rw[h0])
 ·refine Wk ?_
  exact resP.mk rfl (Sees.of_eq (by rw[reqE,if_pos (by simpa using h0)]))
 have h0':¬netE n≠0:=by simpa using h0
 refine Wk ?_
 refine cD (c_cflows L q hq) ?_
 refine Wk ?_
 refine cD (c_FCheck L n.nodes (flowsQ q) (by simp[flowsQ];omega)) ?_
 refine Wk ?_
 refine BrK.mk (fun h1=>?_) (fun h1=>?_)<;>(try rw[h1])
 ·refine Wk ?_
  exact resP.mk rfl (Sees.of_eq (by rw[reqE,if_neg h0',if_pos (by simpa using h1)]))
 have h1':¬(flowsE n.nodes (flowsQ q)).2≠0:=by simpa using h1
 have hE:reqE n q=firstAt (reqAt n q) q.length:=by rw[reqE,if_neg h0',if_neg h1']
 rw[hE]
 refine Wk ?_
 refine LoopK.run mixed [] (fun (k:Nat)=>k≤q.length∧∀j,j < k→reqAt n q j=0) (fun k=>[(2,.ptr 0 0),(26,encReqs q),(27,.int .i64 q.length),(28,.int .i64 k)]) (fun k=>⟨[.cells n.cs 26],[],0,0,fun _=>0⟩) (fun k=>q.length-k) 0 ⟨by simp,by simp⟩ ?_ ?_
 ·refine fN ?_<;>repeat' (first|exact fQ|refine And.intro ?_ ?_|exact Sees.int (by simp)|exact SeesL.rfl' _)
 rintro k ⟨hk,hinv⟩
 refine Wk ?_
 refine BrK.mk (fun hb=>?_) (fun hb=>?_)<;>try rw[hb]
 ·have hlt:k < q.length:=by simpa using hb
  obtain⟨x,hgx⟩:=getLt hlt
  have hmx:=getMap (f:=Req.av) hgx
  have hrt:reqAt n q k=routesE n x:=by unfold reqAt;rw[hgx]
  repeat((conv=>whnf);first|refine sJ ?_|refine aI (by first|exact inbMap hlt|kernel_rfl) ?_|rw[hmx])
  try(conv=>whnf)
  refine cD (c_checkRoutes L n hn x (hx x (List.mem_of_getElem? hgx))) ?_
  rw[←hrt]
  refine Wk ?_
  refine BrK.mk (fun h3=>?_) (fun h3=>?_)<;>(try rw[h3])
  ·have h3':reqAt n q k≠0:=by simpa using h3
   refine Wk ?_
   exact resP.mk rfl (Sees.of_eq (by rw[firstAt_hit hinv h3' hlt]))
  ·have h3':reqAt n q k=0:=by simpa using h3
   refine Wk ?_
   refine⟨k+1,⟨by omega,fun j hj=>?_⟩,by omega,?_⟩
   ·rcases Nat.lt_succ_iff_lt_or_eq.1 hj with h|rfl
    ·exact hinv j h
    ·exact h3'
   ·refine fN ?_<;>repeat' (first|exact fQ|refine And.intro ?_ ?_|exact Sees.int (succI hlt (by omega))|exact SeesL.rfl' _)
 ·have hk':k=q.length:=by simp at hb;omega
  subst hk'
  refine Wk ?_
  exact resP.mk rfl (Sees.of_eq (by rw[firstAt_zero hinv]))
def sched0:Sched:=⟨0,0,[]⟩
end
end HM
