/- Which slots count for a release. -/
import Derived.Test.YtckcedndijobaaaGreatDoorS51
import Derived.Test.YtckcedndijobaaaGreatDoorS52
import Derived.Test.YtckcedndijobaaaGreatDoorDa
import Derived.Test.YtckcedndijobaaaGreatDoorS30
import Derived.Test.YtckcedndijobaaaGreatDoorDb
import Derived.Test.YtckcedndijobaaaGreatDoorS1
import Derived.Test.YtckcedndijobaaaGreatDoorS70
import Derived.Test.YtckcedndijobaaaGreatDoorFh
import Derived.Test.YtckcedndijobaaaGreatDoorDc
set_option maxHeartbeats 64000000
set_option maxRecDepth 100000
namespace HM
open Go Go.RowKit Go.Proofs
theorem c_release (w:Way)(rel:Int)(hn:w.n.small)(h:WayOk w.n w.s w.f w.r)(h0:netE w.n=0)(hm0:0≤w.more)(hm1:w.more≤8)(hr0:0≤rel)(hr1:rel≤1048576) :
  PCall Tryz.prog LW 210 [w.av,.int .i64 rel] (relAV (relR w.n w.s w.f w.r w.more rel)):=(relHalf w rel h hr0 hr1).2 (fun _=>relFirst w rel hn h h0 hm0 hm1 hr0 hr1) (fun _=>relSecond w rel hn h h0 hm0 hm1 hr0 hr1)
theorem c_bound (w:Way)(hn:w.n.small)(h:WayOk w.n w.s w.f w.r)(h0:netE w.n=0)(hm0:0≤w.more)(hm1:w.more≤8) :
  PCall Tryz.prog LW 157 [w.av] (bndAV (boundR w.n w.s w.f w.r w.more)):=by
 have hfl:=h.flow
 obtain⟨hsz,hcl,hfm⟩:=form_all h.form
 have hsb:=sized_bd hsz
 refine PCall.intro mixed [] (nt:=44) Tryz.func157 rfl rfl (by simp) ?_
 refine Wk ?_
 refine LoopK.run mixed [] (fun s:Nat×Bnd=>s.1≤relsN w.s w.f∧boundUp w.n w.s w.f w.r w.more s.1=some s.2) (fun s=>[(1,.ptr 0 0),(6,.int .i64 s.2.b),(7,.int .i64 s.2.w),(8,encIs s.2.l),(9,.int .i64 (w.f.phase+s.1*w.f.period))]) (fun _=>⟨[.cells w.cs 191],[],0,0,fun _=>0⟩) (fun s=>relsN w.s w.f-s.1) (0,⟨0,0,[]⟩) ⟨by simp,rfl⟩ ?_ ?_
 ·refine fN ?_<;>repeat' (first|exact fQ|refine And.intro ?_ ?_|exact Sees.int (by simp)|exact Sees.elems rfl)
 rintro⟨k,x⟩ ⟨hk,hup⟩
 simp only at hk hup
 have hlt:=relsN_lt (s:=w.s) (f:=w.f) (k:=k) (by omega)
 have hms:((k+1:Nat):Int)*w.f.period=k*w.f.period+w.f.period:=by rw[Int.natCast_add,Int.add_mul];simp
 have hp0:0≤(k:Int)*w.f.period:=Int.mul_nonneg (by omega) (by omega)
 refine Wk ?_
 refine BrK.mk (fun hb=>?_) (fun hb=>?_)<;>try rw[hb]
 ·have hb':w.f.phase+k*w.f.period < w.s.len:=by simpa using hb
  have hkl:=hlt.2 hb'
  refine Wk ?_
  refine cD (c_release w (w.f.phase+k*w.f.period) hn h h0 hm0 hm1 (by omega) (by omega)) ?_
  cases hR:relR w.n w.s w.f w.r w.more (w.f.phase+k*w.f.period) with
  | none=>
   refine Wk ?_
   exact resP.mk rfl (Sees.of_eq (by rw[boundR,boundUp_none (boundUp_stop hR) hkl];rfl))
  | some bl=>
   obtain⟨b,l⟩:=bl
   have hnx:=boundUp_some hup hR
   refine Wk ?_
   refine BrK.mk (fun h1=>?_) (fun h1=>?_)<;>(try rw[h1])
   ·rw[if_pos (by simpa using h1)]at hnx
    refine Wk ?_
    refine⟨(k+1,_),⟨hkl,hnx⟩,by simp only;omega,?_⟩
    refine fN ?_<;>repeat' (first|exact fQ|refine And.intro ?_ ?_|exact Sees.int (by simp only[hms];rw[w64]<;>omega))
   ·rw[if_neg (by simpa using h1)]at hnx
    refine Wk ?_
    refine⟨(k+1,_),⟨hkl,hnx⟩,by simp only;omega,?_⟩
    refine fN ?_<;>repeat' (first|exact fQ|refine And.intro ?_ ?_|exact Sees.int (by simp only[hms];rw[w64]<;>omega))
 ·have hk':k=relsN w.s w.f:=by
   rcases Nat.lt_or_ge k (relsN w.s w.f) with hh|hh
   ·have:=hlt.1 hh
    simp at hb;omega
   ·omega
  subst hk'
  refine Wk ?_
  exact resP.mk rfl (Sees.of_eq (by rw[boundR,hup];rfl))
theorem c_BRoute (n:Net)(s:Sched)(f:Flow)(r:List Int)(hn:n.small)(hc:s.cells.length≤281474976710656)(hr:r.length≤281474976710656) :
  PCall Tryz.prog LW 199 [n.av,s.av,f.av,encIs r] (.tup [.int .i64 (routeM n s f r).1,.int .i64 (routeM n s f r).2.1,encIs (routeM n s f r).2.2.1,.int .i64 (routeM n s f r).2.2.2]):=by
 refine PCall.intro mixed [] (nt:=40) Tryz.func199 rfl rfl (by simp) ?_
 refine Wk ?_
 refine cD (c_wcheck ⟨n,s,f,r,0⟩ hn hc hr) ?_
 refine Wk ?_
 refine BrK.mk (fun h1=>?_) (fun h1=>?_)<;>(try rw[h1])
 ·refine Wk ?_
  exact resP.mk rfl (Sees.of_eq (by rw[routeM,if_pos (by simpa using h1)];rfl))
 have h1':wayE n s f r=0:=by simpa using h1
 have hn0:=wayE_net h1'
 have e1:¬wayE n s f r≠0:=by simpa using h1'
 refine Wk ?_
 refine cD (c_bound ⟨n,s,f,r,0⟩ hn (wayE_ok h1') hn0 (Int.le_refl _) (by show(0:Int)≤8;omega)) ?_
 cases hB:boundR n s f r 0 with
 | none=>
  refine Wk ?_
  exact resP.mk rfl (Sees.of_eq (by rw[routeM,if_neg e1,hB];rfl))
 | some x=>
  refine Wk ?_
  exact resP.mk rfl (Sees.of_eq (by rw[routeM,if_neg e1,hB];rfl))
section
variable (L:World→Prop)
def Req.small (x:Req):Prop:=x.routes.length≤281474976710656∧∀r∈x.routes,r.length≤281474976710656
theorem c_cflows (q:List Req)(hq:q.length≤1099511627776):PCall Tryz.prog L 146 [encReqs q] (encFlows (flowsQ q)):=by
 refine PCall.intro mixed [] (nt:=19) Tryz.func146 rfl rfl (by simp) ?_
 refine Wk ?_
 refine LoopK.born 3 6 78 rfl ?_
 refine LoopK.run mixed [] (fun (k:Nat)=>k≤q.length) (fun k=>[(3,.own ((flowsQ (q.take k)).map Flow.av) 0),(6,encReqs q),(7,.int .i64 q.length),(8,.int .i64 k)]) (fun k=>⟨[],[((flowsQ (q.take k)).length,6)],0,0,fun k=>if k=0 then 78 else 0⟩) (fun k=>q.length-k) 0 (by simp) ?_ ?_
 ·refine fN ?_<;>repeat' (first|exact fQ|refine And.intro ?_ ?_|exact Sees.int (by simp))
 rintro k hk
 have hfl:(flowsQ (q.take k)).length=k:=by simp[flowsQ];omega
 refine Wk ?_
 refine BrK.mk (fun hb=>?_) (fun hb=>?_)<;>try rw[hb]
 ·have hlt:k < q.length:=by simpa using hb
  obtain⟨x,hgx⟩:=getLt hlt
  have hmx:=getMap (f:=Req.av) hgx
  have hfs:flowsQ (q.take (k+1))=flowsQ (q.take k)++[x.flow]:=by rw[take_succ hgx];simp[flowsQ]
  repeat((conv=>whnf);first|refine sJ ?_|refine aI (by first|exact inbMap hlt|exact Els.map (f:=Flow.av) (fun _=>⟨rfl,rfl⟩)|exact(show _*48≤_ by simp only[List.length_map,List.length_cons,List.length_nil];omega)|exact(by simp only[List.length_map,List.length_cons,List.length_nil,maxLen];omega)|exact(show some (_,_)=some (_,_) by simp only[List.length_map])|kernel_rfl) ?_|rw[hmx])
  try(conv=>whnf)
  refine⟨k+1,by omega,by omega,?_⟩
  rw[hfs]
  refine fN ?_<;>repeat' (first|exact fQ|refine And.intro ?_ ?_|exact Sees.int (succI hlt (by omega))|exact Sees.own (by simp;rfl)|(show(_,_)=(_,_);simp only[List.length_append,List.length_map,List.length_cons,List.length_nil]))
 ·have hk':k=q.length:=by simp at hb;omega
  subst hk'
  rw[List.take_length]
  refine Wk ?_
  exact resP.mk rfl (Sees.of_eq rfl)
theorem c_EqRoute (a b:List Int)(ha:a.length≤281474976710656):PCall Tryz.prog L 235 [encIs a,encIs b] (.bool (decide (a=b))):=by
 refine PCall.intro mixed [] (nt:=26) Tryz.func235 rfl rfl (by simp) ?_
 refine Wk ?_
 refine BrK.mk (fun h1=>?_) (fun h1=>?_)<;>(try rw[h1])
 ·have hne:a.length≠b.length:=by simp at h1;omega
  refine Wk ?_
  exact resP.mk rfl (Sees.bool (by rw[decide_eq_false (fun h=>hne (by rw[h]))]))
 have hl:a.length=b.length:=by simp at h1;omega
 refine Wk ?_
 refine LoopK.run mixed [] (fun (k:Nat)=>k≤a.length∧∀(j:Nat) x y,j < k→a[j]? = some x→b[j]? = some y→x=y) (fun k=>[(0,encIs a),(1,encIs b),(12,.int .i64 a.length),(13,.int .i64 k)]) (fun k=>St.none) (fun k=>a.length-k) 0 ⟨by simp,by simp⟩ ?_ ?_
 ·refine fN ?_<;>repeat' (first|exact fQ|refine And.intro ?_ ?_|exact Sees.int (by simp))
 rintro k ⟨hk,hinv⟩
 refine Wk ?_
 refine BrK.mk (fun hb=>?_) (fun hb=>?_)<;>try rw[hb]
 ·have hkt:k < a.length:=by simpa using hb
  obtain⟨x,hgx⟩:=getLt hkt
  obtain⟨y,hgy⟩:=getLt (l:=b) (k:=k) (by omega)
  have hmx:=getMap (f:=encI) hgx
  have hmy:=getMap (f:=encI) hgy
  repeat((conv=>whnf);first|refine sJ ?_|refine aI (by first|exact inbMap hkt|exact inbMap (by omega:k < b.length)|kernel_rfl) ?_|rw[hmx]|rw[hmy])
  try(conv=>whnf)
  refine BrK.mk (fun h2=>?_) (fun h2=>?_)<;>(try rw[h2])
  ·have hne:¬a=b:=fun h=>by
    subst h
    rw[hgx]at hgy
    injection hgy with hgy
    subst hgy
    simp at h2
   refine Wk ?_
   exact resP.mk rfl (Sees.bool (by rw[decide_eq_false hne]))
  ·have hxy:x=y:=by simpa using h2
   refine Wk ?_
   refine⟨k+1,⟨by omega,fun j x' y' hj hx' hy'=>?_⟩,by omega,?_⟩
   ·rcases Nat.lt_succ_iff_lt_or_eq.1 hj with h|rfl
    ·exact hinv j x' y' h hx' hy'
    ·rw[hgx]at hx';rw[hgy]at hy';injection hx' with hx';injection hy' with hy';rw[←hx',←hy',hxy]
   ·refine fN ?_<;>repeat' (first|exact fQ|refine And.intro ?_ ?_|exact Sees.int (succI hkt ha))
 ·have hkn:k=a.length:=by simp at hb;omega
  subst hkn
  refine Wk ?_
  exact resP.mk rfl (Sees.bool (by rw[decide_eq_true (eq_of_at hl hinv)]))
theorem routesE_hit {n:Net}{x:Req}{k:Nat}(h1:x.routes.length≠0)(h2:¬2 < x.routes.length)(hk:k < x.routes.length)(h0:∀j,j < k→routesAt n x j=0)(he:routesAt n x k≠0):routesE n x=routesAt n x k:=by
 have hf:=firstAt_hit h0 he hk
 rw[routesE,if_neg h1,if_neg h2,hf,if_pos he]
theorem routesE_all {n:Net}{x:Req}(h1:x.routes.length≠0)(h2:¬2 < x.routes.length)(h0:∀j,j < x.routes.length→routesAt n x j=0):routesE n x=if twoSame x.routes=true then 6 else 0:=by
 rw[routesE,if_neg h1,if_neg h2,firstAt_zero h0,if_neg (by simp)]
theorem c_checkRoutes (n:Net)(hn:n.small)(x:Req)(hx:x.small):PCall Tryz.prog L 198 [n.av,x.av] (.int .i64 (routesE n x)):=by
 obtain⟨hxl,hxr⟩:=hx
 refine PCall.intro mixed [] (nt:=51) Tryz.func198 rfl rfl (by simp) ?_
 refine Wk ?_
 refine BrK.mk (fun h1=>?_) (fun h1=>?_)<;>(try rw[h1])
 ·refine Wk ?_
  exact resP.mk rfl (Sees.int (by rw[routesE,if_pos (by simpa using h1)]))
 have h1':x.routes.length≠0:=by simpa using h1
 refine Wk ?_
 refine BrK.mk (fun h2=>?_) (fun h2=>?_)<;>(try rw[h2])
 ·refine Wk ?_
  exact resP.mk rfl (Sees.int (by rw[routesE,if_neg h1',if_pos (by simp at h2;omega)]))
 have h2':¬2 < x.routes.length:=by simp at h2;omega
 refine Wk ?_
 refine LoopK.run mixed [] (fun (k:Nat)=>k≤x.routes.length∧∀j,j < k→routesAt n x j=0) (fun k=>[(2,.ptr 0 0),(3,.ptr 1 0),(17,encRows x.routes),(18,.int .i64 x.routes.length),(19,.int .i64 k)]) (fun k=>⟨[.cells n.cs 36,.cells x.cs 81],[],0,0,fun _=>0⟩) (fun k=>x.routes.length-k) 0 ⟨by simp,by simp⟩ ?_ ?_
 ·refine fN ?_<;>repeat' (first|exact fQ|refine And.intro ?_ ?_|exact Sees.int (by simp)|exact SeesL.rfl' _)
 rintro k ⟨hk,hinv⟩
 refine Wk ?_
 refine BrK.mk (fun hb=>?_) (fun hb=>?_)<;>try rw[hb]
 ·have hlt:k < x.routes.length:=by simpa using hb
  obtain⟨r,hgr⟩:=getLt hlt
  have hmr:=getMap (f:=encIs) hgr
  have hrt:routesAt n x k=routeE n x.flow.src x.flow.dst r:=by unfold routesAt;rw[hgr]
  repeat((conv=>whnf);first|refine sJ ?_|refine aI (by first|exact inbMap hlt|kernel_rfl) ?_|rw[hmr])
  try(conv=>whnf)
  refine cD (c_RCheck L n hn x.flow.src x.flow.dst r (hxr r (List.mem_of_getElem? hgr))) ?_
  rw[←hrt]
  refine Wk ?_
  refine BrK.mk (fun h3=>?_) (fun h3=>?_)<;>(try rw[h3])
  ·have h3':routesAt n x k≠0:=by simpa using h3
   refine Wk ?_
   exact resP.mk rfl (Sees.int (by rw[routesE_hit h1' h2' hlt hinv h3']))
  ·have h3':routesAt n x k=0:=by simpa using h3
   refine Wk ?_
   refine⟨k+1,⟨by omega,fun j hj=>?_⟩,by omega,?_⟩
   ·rcases Nat.lt_succ_iff_lt_or_eq.1 hj with h|rfl
    ·exact hinv j h
    ·exact h3'
   ·refine fN ?_<;>repeat' (first|exact fQ|refine And.intro ?_ ?_|exact Sees.int (succI hlt (by omega))|exact SeesL.rfl' _)
 ·have hk':k=x.routes.length:=by simp at hb;omega
  subst hk'
  have hE:=routesE_all h1' h2' hinv
  by_cases h4:x.routes.length=2
  ·obtain⟨a,b,hab⟩:∃a b,x.routes=[a,b]:=by
    match x.routes,h4 with
    | [a,b],_=>exact⟨a,b,rfl⟩
   have ha:=hxr a (by rw[hab];simp)
   have h4':(((x.routes.map encIs).length:Int)==2)=true:=by simp;omega
   have m0:(x.routes.map encIs)[Int.toNat 0]? = some (encIs a):=by rw[hab];rfl
   have m1:(x.routes.map encIs)[Int.toNat 1]? = some (encIs b):=by rw[hab];rfl
   rw[hab]at hE
   repeat((conv=>whnf);first|refine sJ ?_|refine aI (by first|exact inbMap (k:=0) (by omega)|exact inbMap (k:=1) (by omega)|kernel_rfl) ?_|rw[h4']|rw[m0]|rw[m1])
   try(conv=>whnf)
   refine cD (c_EqRoute L a b ha) ?_
   refine Wk ?_
   refine BrK.mk (fun h5=>?_) (fun h5=>?_)<;>(try rw[h5])
   ·refine Wk ?_
    exact resP.mk rfl (Sees.int (by rw[hE,if_pos (by simpa[twoSame] using h5)]))
   ·refine Wk ?_
    exact resP.mk rfl (Sees.int (by rw[hE,if_neg (by simpa[twoSame] using h5)]))
  ·have hts:twoSame x.routes=false:=by
    match hm:x.routes,h4,h1',h2' with
    | [a],_,_,_=>rfl
    | [a,b],h,_,_=>simp at h
    | [],_,h,_=>simp at h
    | a :: b :: c :: l,_,_,h=>simp at h
   have h4':(((x.routes.map encIs).length:Int)==2)=false:=by simp;omega
   repeat((conv=>whnf);first|refine sT ?_|rw[h4'])
   try(conv=>whnf)
   exact resP.mk rfl (Sees.int (by rw[hE,hts,if_neg (by decide)]))
theorem c_requests (n:Net)(hn:n.small)(q:List Req)(hq:q.length≤1099511627776)(hx:∀x∈q,x.small):PCall Tryz.prog L 145 [n.av,encReqs q] (.tup [.int .i64 (reqE n q).1,.int .i64 (reqE n q).2]):=by
 refine PCall.intro mixed [] (nt:=41) Tryz.func145 rfl rfl (by simp) ?_
 refine Wk ?_
 refine cD (c_netCheck L n hn) ?_
 refine Wk ?_
 refine BrK.mk (fun h0=>?_) (fun h0=>?_)<;>(try rw[h0])
 ·refine Wk ?_
  exact resP.mk rfl (Sees.of_eq (by rw[reqE,if_pos (by simpa using h0)]))
 have h0':¬netE n≠0:=by simpa using h0
 refine Wk ?_
 refine cD (c_cflows L q hq) ?_
 refine Wk ?_
 refine cD (c_FCheck L n.nodes (flowsQ q) (by simp[flowsQ];omega)) ?_
 refine Wk ?_
 refine BrK.mk (fun h1=>?_) (fun h1=>?_)<;>(try rw[h1])
 ·refine Wk ?_
  exact resP.mk rfl (Sees.of_eq (by rw[reqE,if_neg h0',if_pos (by simpa using h1)]))
 have h1':¬(flowsE n.nodes (flowsQ q)).2≠0:=by simpa using h1
 have hE:reqE n q=firstAt (reqAt n q) q.length:=by rw[reqE,if_neg h0',if_neg h1']
 rw[hE]
 refine Wk ?_
 refine LoopK.run mixed [] (fun (k:Nat)=>k≤q.length∧∀j,j < k→reqAt n q j=0) (fun k=>[(2,.ptr 0 0),(26,encReqs q),(27,.int .i64 q.length),(28,.int .i64 k)]) (fun k=>⟨[.cells n.cs 36],[],0,0,fun _=>0⟩) (fun k=>q.length-k) 0 ⟨by simp,by simp⟩ ?_ ?_
 ·refine fN ?_<;>repeat' (first|exact fQ|refine And.intro ?_ ?_|exact Sees.int (by simp)|exact SeesL.rfl' _)
 rintro k ⟨hk,hinv⟩
 refine Wk ?_
 refine BrK.mk (fun hb=>?_) (fun hb=>?_)<;>try rw[hb]
 ·have hlt:k < q.length:=by simpa using hb
  obtain⟨x,hgx⟩:=getLt hlt
  have hmx:=getMap (f:=Req.av) hgx
  have hrt:reqAt n q k=routesE n x:=by unfold reqAt;rw[hgx]
  repeat((conv=>whnf);first|refine sJ ?_|refine aI (by first|exact inbMap hlt|kernel_rfl) ?_|rw[hmx])
  try(conv=>whnf)
  refine cD (c_checkRoutes L n hn x (hx x (List.mem_of_getElem? hgx))) ?_
  rw[←hrt]
  refine Wk ?_
  refine BrK.mk (fun h3=>?_) (fun h3=>?_)<;>(try rw[h3])
  ·have h3':reqAt n q k≠0:=by simpa using h3
   refine Wk ?_
   exact resP.mk rfl (Sees.of_eq (by rw[firstAt_hit hinv h3' hlt]))
  ·have h3':reqAt n q k=0:=by simpa using h3
   refine Wk ?_
   refine⟨k+1,⟨by omega,fun j hj=>?_⟩,by omega,?_⟩
   ·rcases Nat.lt_succ_iff_lt_or_eq.1 hj with h|rfl
    ·exact hinv j h
    ·exact h3'
   ·refine fN ?_<;>repeat' (first|exact fQ|refine And.intro ?_ ?_|exact Sees.int (succI hlt (by omega))|exact SeesL.rfl' _)
 ·have hk':k=q.length:=by simp at hb;omega
  subst hk'
  refine Wk ?_
  exact resP.mk rfl (Sees.of_eq (by rw[firstAt_zero hinv]))
def sched0:Sched:=⟨0,0,[]⟩
end
section
variable (L:World→Prop)
theorem c_sin (s:Sched)(slot:Int):PCall Tryz.prog L 205 [s.av,.int .i64 slot] (.fn 244 [.cptr s.av 0,.cptr (.agg [.int .i64 slot]) 0]):=by
 refine PCall.intro mixed [] (nt:=6) Tryz.func205 rfl rfl (by simp) ?_
 refine Wk ?_
 exact resP.mk rfl (Sees.of_eq rfl)
end
section
variable (L:World→Prop)
theorem c_isNode (n:Net)(a:Int):PCall Tryz.prog L 247 [n.av,.int .i64 a] (.bool (insB a n.nodes)):=by
 refine PCall.intro mixed [] (nt:=13) Tryz.func247 rfl rfl (by simp) ?_
 repeat' ((conv=>whnf);first|refine sI ?_  | (refine BrK.mk (fun hb=>?_) (fun hb=>?_)<;>try rw[hb]))
 all_goals try(conv=>whnf)
 all_goals exact resP.mk rfl (Sees.of_eq (by first|(simp_all[insB];done)|(simp_all[insB];omega)))
theorem c_cdist (n:Net)(h:NetOk n)(cs:List Cell)(hc:cs.length≤4096)(i:Nat)(node:Int)(hn:insB node n.nodes=true):PCall Tryz.prog L 249 [n.av,encCells cs,.int .i64 i,.int .i64 node] (.int .i64 (distM n cs i node)):=by
 refine PCall.intro mixed [] (nt:=50) Tryz.func249 rfl rfl (by simp) ?_
 refine Wk ?_
 refine LoopK.run mixed [] (fun (k:Nat)=>k≤cs.length) (fun k=>[(2,.int .i64 i),(3,.int .i64 node),(4,.ptr 0 0),(9,.int .i64 (distU n cs i node k)),(14,encCells cs),(15,.int .i64 cs.length),(16,.int .i64 k)]) (fun k=>⟨[.cells n.cs 36],[],0,0,fun _=>0⟩) (fun k=>cs.length-k) 0 (by simp) ?_ ?_
 ·refine fN ?_<;>repeat' (first|exact fQ|refine And.intro ?_ ?_|exact SeesL.rfl' _|exact Sees.int (by simp))
 rintro k hk
 have hb1:=distU_bd h cs i node k
 have hst:=distU_succ n cs i node k
 refine Wk ?_
 refine BrK.mk (fun hb=>?_) (fun hb=>?_)<;>try rw[hb]
 ·have hlt:k < cs.length:=by simpa using hb
  obtain⟨c,hgc⟩:=getLt hlt
  have hmc:=getMap (f:=Cell.av) hgc
  have hda:distAt n cs i node k=if k=i then 0 else powN n c.src node+powN n c.dst node:=by unfold distAt;rw[hgc]
  repeat((conv=>whnf);first|refine sJ ?_|refine aI (by first|exact inbMap hlt|kernel_rfl) ?_|rw[hmc])
  try(conv=>whnf)
  refine BrK.mk (fun h1=>?_) (fun h1=>?_)<;>(try rw[h1])
  ·have h1':k=i:=by simp at h1;omega
   rw[if_pos h1']at hda
   refine Wk ?_
   refine⟨k+1,by omega,by omega,?_⟩
   refine fN ?_<;>repeat' (first|exact fQ|refine And.intro ?_ ?_|exact SeesL.rfl' _|exact Sees.int (by rw[w64]<;>omega)|exact Sees.int (by rw[hst,hda,Int.add_zero]))
  ·have h1':k≠i:=by simp at h1;omega
   rw[if_neg h1']at hda
   obtain⟨es,hes⟩:∃es,es=[c.src,c.dst]:=⟨_,rfl⟩
   have hel:es.length=2:=by rw[hes];rfl
   have hsum:sumW (fun e=>powN n e node) es=powN n c.src node+powN n c.dst node:=by rw[hes];simp[sumW]
   refine Wk ?_
   refine LoopK.run mixed [] (fun (j:Nat)=>j≤es.length) (fun j=>[(2,.int .i64 i),(3,.int .i64 node),(4,.ptr 0 0),(9,.int .i64 (distU n cs i node k+sumW (fun e=>powN n e node) (es.take j))),(14,encCells cs),(15,.int .i64 cs.length),(16,.int .i64 k),(28,encIs es),(29,.int .i64 es.length),(30,.int .i64 j)]) (fun j=>⟨[.cells n.cs 36],[],0,0,fun _=>0⟩) (fun j=>es.length-j) 0 (by simp) ?_ ?_
   ·refine fN ?_<;>repeat' (first|exact fQ|refine And.intro ?_ ?_|exact SeesL.rfl' _|exact Sees.int (by rw[hel];rfl)|exact Sees.int (by simp[sumW])|exact Sees.elems (by rw[hes];rfl))
   rintro j hj
   refine Wk ?_
   refine BrK.mk (fun hd=>?_) (fun hd=>?_)<;>(try rw[hd])
   ·have hjt:j < es.length:=by simpa using hd
    obtain⟨e,hge⟩:=getLt hjt
    have hme:=getMap (f:=encI) hge
    have hst2:=sumW_take (fun e=>powN n e node) hge
    have hsb:=sumW_bd (f:=fun e=>powN n e node) (m:=68719476736) (by omega) (l:=es.take (j+1)) fun e _=>powN_bd h e node
    have hsb0:=sumW_bd (f:=fun e=>powN n e node) (m:=68719476736) (by omega) (l:=es.take j) fun e _=>powN_bd h e node
    have hpe:=powN_bd h e node
    rw[List.length_take]at hsb hsb0
    repeat((conv=>whnf);first|refine sJ ?_|refine aI (by first|exact inbMap hjt|kernel_rfl) ?_|rw[hme])
    try(conv=>whnf)
    refine cD (c_isNode L n e) ?_
    cases hi:insB e n.nodes with
    | true=>
     obtain⟨a,b,r,x,rfl,rfl,hgr,hgx,hpx⟩:=pow_at h hi hn
     have hmr:=getMap (f:=encIs) hgr
     have hmx:=getMap (f:=encI) hgx
     have hal:=(List.getElem?_eq_some_iff.1 hgr).1
     have hbl:=(List.getElem?_eq_some_iff.1 hgx).1
     have hpn:powN n a b=x:=by unfold powN;rw[if_pos hi,hpx]
     rw[hpn]at hst2 hpe
     repeat((conv=>whnf);first|refine sJ ?_|refine aI (by first|exact inbMap hal|exact inbMap hbl|kernel_rfl) ?_|rw[hmr]|rw[hmx])
     try(conv=>whnf)
     refine⟨j+1,by omega,by omega,?_⟩
     refine fN ?_<;>repeat' (first|exact fQ|refine And.intro ?_ ?_|exact SeesL.rfl' _|exact Sees.int (by rw[w64]<;>omega)|exact Sees.int (by rw[hst2,w64]<;>omega))
    | false=>
     have hpn:powN n e node=0:=by unfold powN;rw[if_neg (by simp[hi])]
     rw[hpn]at hst2
     refine Wk ?_
     refine⟨j+1,by omega,by omega,?_⟩
     refine fN ?_<;>repeat' (first|exact fQ|refine And.intro ?_ ?_|exact SeesL.rfl' _|exact Sees.int (by rw[w64]<;>omega)|exact Sees.int (by rw[hst2,Int.add_zero]))
   ·have hjl:j=es.length:=by simp at hd;omega
    subst hjl
    rw[List.take_length,hsum,←hda,←hst]
    refine Wk ?_
    refine⟨k+1,by omega,by omega,?_⟩
    refine fN ?_<;>repeat' (first|exact fQ|refine And.intro ?_ ?_|exact SeesL.rfl' _|exact Sees.int (by rw[w64]<;>omega))
 ·have hkn:k=cs.length:=by simp at hb;omega
  subst hkn
  refine Wk ?_
  exact resP.mk rfl (Sees.int rfl)
def hearsN (n:Net)(s d:Int):Bool:=decide (netE n=0)&&decide (0≤s)&&decide (0≤d)&&decide (s≤8796093022208)&&decide (d≤8796093022208)&&heardB n s d
theorem c_Hears (n:Net)(hn:n.small)(s d:Int):PCall Tryz.prog L 206 [n.av,.int .i64 s,.int .i64 d] (.bool (hearsN n s d)):=by
 refine PCall.intro mixed [] (nt:=26) Tryz.func206 rfl rfl (by simp) ?_
 refine Wk ?_
 refine cD (c_netCheck L n hn) ?_
 by_cases h0:netE n=0
 rotate_left
 ·have g0:(netE n != 0)=true:=by simpa using h0
  repeat((conv=>whnf);first|refine sT ?_|rw[g0])
  try(conv=>whnf)
  exact resP.mk rfl (Sees.bool (by unfold hearsN;rw[decide_eq_false h0];rfl))
 have g0:(netE n != 0)=false:=by simpa using h0
 by_cases h1:0≤s∧0≤d
 rotate_left
 ·have g1:decide ((if d < s then d else s) < 0)=true:=by rw[decide_eq_true_eq];split<;>omega
  repeat((conv=>whnf);first|refine sT ?_|rw[g0]|rw[g1])
  try(conv=>whnf)
  exact resP.mk rfl (Sees.bool (by unfold hearsN;rw[decide_eq_true h0];rcases Decidable.em (0≤s) with h|h<;>simp[h]<;>omega))
 have g1:decide ((if d < s then d else s) < 0)=false:=by rw[decide_eq_false_iff_not];split<;>omega
 by_cases h2:s≤8796093022208∧d≤8796093022208
 rotate_left
 ·have g2:decide (8796093022208 < (if s < d then d else s))=true:=by rw[decide_eq_true_eq];split<;>omega
  repeat((conv=>whnf);first|refine sT ?_|rw[g0]|rw[g1]|rw[g2])
  try(conv=>whnf)
  exact resP.mk rfl (Sees.bool (by unfold hearsN;rw[decide_eq_true h0,decide_eq_true h1.1,decide_eq_true h1.2];rcases Decidable.em (s≤8796093022208) with h|h<;>simp[h]<;>omega))
 have g2:decide (8796093022208 < (if s < d then d else s))=false:=by rw[decide_eq_false_iff_not];split<;>omega
 repeat((conv=>whnf);first|refine sT ?_|rw[g0]|rw[g1]|rw[g2])
 try(conv=>whnf)
 refine cD (c_hears L n (netE_ok h0) s d ⟨h1.1,h2.1⟩ ⟨h1.2,h2.2⟩) ?_
 refine Wk ?_
 exact resP.mk rfl (Sees.bool (by unfold hearsN;rw[decide_eq_true h0,decide_eq_true h1.1,decide_eq_true h1.2,decide_eq_true h2.1,decide_eq_true h2.2];simp))
theorem hearsN_ok {n:Net}(h0:netE n=0){s d:Int}(h1:0≤s)(h2:s≤8796093022208)(h3:0≤d)(h4:d≤8796093022208):hearsN n s d=heardB n s d:=by
 unfold hearsN
 rw[decide_eq_true h0,decide_eq_true h1,decide_eq_true h2,decide_eq_true h3,decide_eq_true h4];simp
end
end HM
