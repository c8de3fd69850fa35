/- Certificates: the reference. -/
import Derived.Test.YtggiajmlnieidaaGreatDoorS53
import Derived.Test.YtggiajmlnieidaaGreatDoorDd
import Derived.Test.YtggiajmlnieidaaGreatDoorS38
import Derived.Test.YtggiajmlnieidaaGreatDoorFh
import Derived.Test.YtggiajmlnieidaaGreatDoorS201
import Derived.Test.YtggiajmlnieidaaGreatDoorS114
import Derived.Test.YtggiajmlnieidaaGreatDoorS103
import Derived.Test.YtggiajmlnieidaaGreatDoorDe
set_option maxHeartbeats 64000000
set_option maxRecDepth 100000
namespace HM
open Go Go.RowKit Go.Proofs
section
variable (L:World→Prop)
def cl38 (x:Req)(cl:List (List Int)→Claim):Nat→St
 | 0=>⟨[.dead,.dead,.dead,.cells [.int .i64 0,.nils,.nils,.nils,.nils] 190,.cells [.int .i64 x.flow.id,.nils,.nils,.nils,.nils] 190],[],0,0,fun _=>0⟩
 | k+1=>⟨[.dead,.dead,.dead,.cells [.int .i64 0,.nils,.nils,.nils,.nils] 190,.cells [.int .i64 x.flow.id,.own ((cl (x.routes.take (k+1))).routes.map encIs) 2,.own ((cl (x.routes.take (k+1))).bounds.map encI) 3,.own ((cl (x.routes.take (k+1))).worst.map encI) 4,.own ((cl (x.routes.take (k+1))).slots.map encIs) 5] 190],[((x.routes.getD 0 []).length,1),(1,1),(k+1,1),(k+1,1),(k+1,1),(k+1,1)],0,0,fun c=>if c=1 then 88 else if c=2 then 88 else if c=5 then 24 else 3⟩
theorem c_claim38 (n:Net)(hn:n.small)(x:Req)(hxo:ReqOk n x)(s:Sched)(hc:s.cells.length≤281474976710656):PCall Tryz.prog L 144 [n.av,x.av,s.av] (.tup [(claimM n s x).av,.bool (claimB n s x)]):=by
 have hl2:=hxo.len
 refine PCall.intro mixed [1] (nt:=81) Tryz.func144 rfl rfl (by simp) ?_
 refine Wk ?_
 refine SeqK.sem mixed [] ?_
 refine Wk ?_
 refine SemK.freezeB 0 rfl rfl ?_
 refine SemK.freezeB 1 rfl rfl ?_
 refine SemK.freezeB 2 rfl rfl ?_
 refine twC_sound (ct:=[]) mixed _ _ _ _ ?_
 refine Wk ?_
 refine LoopK.run mixed [10008,10009] (fun (k:Nat)=>k≤x.routes.length∧∀j r,j < k→x.routes[j]? = some r→srvB n s x r=true) (fun k=>[(3,.cptr n.av 0),(4,.cptr x.av 0),(5,.cptr s.av 0),(6,.ptr 3 0),(8,.ptr 4 0),(9,.int .i64 k)]) (fun k=>cl38 x (claimT n s x) k) (fun k=>x.routes.length-k) 0 ⟨by simp,fun j r hj=>by omega⟩ ?_ ?_
 ·refine fN ?_<;>repeat' (first|exact fQ|refine And.intro ?_ ?_|exact SeesL.rfl' _)
 rintro k ⟨hk,hinv⟩
 by_cases hkl:k < x.routes.length
 rotate_left
 ·have hkn:k=x.routes.length:=by omega
  have g0:decide ((k:Int) < ((x.routes.map encIs).length:Int))=false:=decide_eq_false (by rw[List.length_map];omega)
  have hall:claimB n s x=true:=List.all_eq_true.2 fun r hr=>by
   obtain⟨j,hj⟩:=List.getElem?_of_mem hr
   exact hinv j r (by rw[hkn];exact(List.getElem?_eq_some_iff.1 hj).1) hj
  obtain⟨k,rfl⟩:∃i,k=i+1:=⟨k-1,by omega⟩
  have e:x.routes.take (k+1)=x.routes:=List.take_of_length_le (by omega)
  repeat((conv=>whnf);first|refine sT ?_|rw[g0])
  try(conv=>whnf)
  exact resP.mk rfl (Sees.of_eq (by rw[claimM,if_pos hall,hall,e];rfl))
 obtain⟨r,hgr⟩:=getLt hkl
 have hmr:=getMap (f:=encIs) hgr
 have hrl:r.length≤9:=(routeF_ok (hxo.route r (List.mem_of_getElem? hgr))).1.2
 have nxt:srvB n s x r=true→∀j y,j < k+1→x.routes[j]? = some y→srvB n s x y=true:=fun h j y hj hy=>by
  rcases Nat.lt_succ_iff_lt_or_eq.1 hj with h'|rfl
  ·exact hinv j y h' hy
  ·rw[hgr]at hy;injection hy with hy;subst hy;exact h
 have hts:=take_succ hgr
 have g0:decide ((k:Int) < ((x.routes.map encIs).length:Int))=true:=decide_eq_true (by rw[List.length_map];omega)
 have hno:srvB n s x r=false→claimB n s x=false:=fun h=>List.all_eq_false.2 ⟨r,List.mem_of_getElem? hgr,by simp[h]⟩
 cases k with
 | zero=>
  have hr0:x.routes.getD 0 [] = r:=by rw[List.getD_eq_getElem?_getD,hgr];rfl
  repeat((conv=>whnf);first|refine sJ ?_|refine aI (by first|exact trivial|exact inbMap hkl|kernel_rfl) ?_|rw[g0]|rw[hmr])
  try(conv=>whnf)
  refine cD (c_Route37 L n s x.flow r hn hc (by omega) hn.2.2.1) ?_
  by_cases he:(routeM n s x.flow r).2.2.2=0
  rotate_left
  ·have g:((routeM n s x.flow r).2.2.2 != 0)=true:=by simpa using he
   have hb:=hno (by simp[srvB,he])
   repeat((conv=>whnf);first|refine sT ?_|rw[g])
   try(conv=>whnf)
   exact resP.mk rfl (Sees.of_eq (by rw[claimM,if_neg (by rw[hb];decide),hb];rfl))
  have g:((routeM n s x.flow r).2.2.2 != 0)=false:=by simpa using he
  by_cases hd:x.flow.dead < (routeM n s x.flow r).1
  ·have g2:decide (x.flow.dead < (routeM n s x.flow r).1)=true:=by simpa using hd
   have hb:=hno (by simp[srvB];omega)
   repeat((conv=>whnf);first|refine sT ?_|rw[g]|rw[g2])
   try(conv=>whnf)
   exact resP.mk rfl (Sees.of_eq (by rw[claimM,if_neg (by rw[hb];decide),hb];rfl))
  have g2:decide (x.flow.dead < (routeM n s x.flow r).1)=false:=by simpa using hd
  have hsv:srvB n s x r=true:=by simp[srvB,he];omega
  repeat((conv=>whnf);first|refine sT ?_|rw[g]|rw[g2])
  try(conv=>whnf)
  refine SemK.regionFin mixed (fun X=>X.bx[4]? = some (.cells [.int .i64 x.flow.id,.nils,.nils,.nils,.nils] 190)) [0,1,3,4,5,6,7] 6 rfl rfl (by decide) rfl (by rfl) ?_
  iterate 7
   conv=>whnf
   apply exV
   ·rintro S' K' hI hh
    repeat((conv=>whnf);first|refine sJ ?_|refine aI (by first|exact trivial|exact inbMap hkl|kernel_rfl) ?_|rw[hI]|rw[hmr])
    try(conv=>whnf)
    exact hh
  conv=>whnf
  repeat' ((conv=>whnf);first|exact trivial|refine sJ ?_|refine aI (by first|exact trivial|exact Or.inr rfl|exact Or.inl rfl|exact Els.map (f:=encIs) (fun x=>⟨rfl,rfl⟩)|exact Els.map (f:=encI) (fun x=>⟨rfl,rfl⟩)|exact(show _*24≤_ by simp only[claimT,List.length_map,List.length_take,List.length_cons,List.length_nil];omega)|exact(show _*8≤_ by simp only[List.length_map,List.length_nil];omega)|exact(by simp only[List.length_map,List.length_cons,List.length_nil,maxLen];omega)|exact(by simp only[List.length_map];show some (_,_)=some (_,_);congr 2;omega)|kernel_rfl) ?_|refine And.intro ?_ ?_ )
  all_goals(conv=>whnf)
  refine SemK.regionFin mixed (fun X=>X.bx[4]? = some (.cells [.int .i64 x.flow.id,.own [encIs r] 2,.nils,.nils,.nils] 190)) [0,1,2,3,5,6,7,8,10,11,12,13] 9 rfl rfl (by decide) rfl (by rfl) ?_
  iterate 12
   conv=>whnf
   apply exV
   ·rintro S' K' hI hh
    repeat((conv=>whnf);first|refine sT ?_|rw[hI])
    try(conv=>whnf)
    exact hh
  conv=>whnf
  repeat' ((conv=>whnf);first|exact trivial|refine sJ ?_|refine aI (by first|exact trivial|exact Or.inr rfl|exact Or.inl rfl|exact Els.map (f:=encIs) (fun x=>⟨rfl,rfl⟩)|exact Els.map (f:=encI) (fun x=>⟨rfl,rfl⟩)|exact(show _*24≤_ by simp only[claimT,List.length_map,List.length_take,List.length_cons,List.length_nil];omega)|exact(show _*8≤_ by simp only[claimT,List.length_map,List.length_take,List.length_cons,List.length_nil];omega)|exact(by simp only[List.length_map,List.length_cons,List.length_nil];omega)|exact(by simp only[List.length_map];show some (_,_)=some (_,_);congr 2;omega)|kernel_rfl) ?_|refine And.intro ?_ ?_ )
  all_goals(conv=>whnf)
  all_goals refine⟨0+1,⟨by omega,nxt hsv⟩,by omega,?_⟩
  all_goals refine fN ?_<;>repeat' (first|exact fQ|refine And.intro ?_ ?_|exact SeesL.rfl' _|exact Sees.int (succI hkl (by omega))|exact Sees.own (by rw[hts];rfl)|(show(_,_)=(_,_);rw[hr0];simp[]))
 | succ k=>
  repeat((conv=>whnf);first|refine sJ ?_|refine aI (by first|exact trivial|exact inbMap hkl|kernel_rfl) ?_|rw[g0]|rw[hmr])
  try(conv=>whnf)
  refine cD (c_Route37 L n s x.flow r hn hc (by omega) hn.2.2.1) ?_
  by_cases he:(routeM n s x.flow r).2.2.2=0
  rotate_left
  ·have g:((routeM n s x.flow r).2.2.2 != 0)=true:=by simpa using he
   have hb:=hno (by simp[srvB,he])
   repeat((conv=>whnf);first|refine sT ?_|rw[g])
   try(conv=>whnf)
   exact resP.mk rfl (Sees.of_eq (by rw[claimM,if_neg (by rw[hb];decide),hb];rfl))
  have g:((routeM n s x.flow r).2.2.2 != 0)=false:=by simpa using he
  by_cases hd:x.flow.dead < (routeM n s x.flow r).1
  ·have g2:decide (x.flow.dead < (routeM n s x.flow r).1)=true:=by simpa using hd
   have hb:=hno (by simp[srvB];omega)
   repeat((conv=>whnf);first|refine sT ?_|rw[g]|rw[g2])
   try(conv=>whnf)
   exact resP.mk rfl (Sees.of_eq (by rw[claimM,if_neg (by rw[hb];decide),hb];rfl))
  have g2:decide (x.flow.dead < (routeM n s x.flow r).1)=false:=by simpa using hd
  have hsv:srvB n s x r=true:=by simp[srvB,he];omega
  repeat((conv=>whnf);first|refine sT ?_|rw[g]|rw[g2])
  try(conv=>whnf)
  refine SemK.regionFin mixed (fun X=>X.bx[4]? = some (.cells [.int .i64 x.flow.id,.own ((claimT n s x (x.routes.take (k+1))).routes.map encIs) 2,.own ((claimT n s x (x.routes.take (k+1))).bounds.map encI) 3,.own ((claimT n s x (x.routes.take (k+1))).worst.map encI) 4,.own ((claimT n s x (x.routes.take (k+1))).slots.map encIs) 5] 190)) [0,1,3,4,5,6,7] 6 rfl rfl (by decide) rfl (by rfl) ?_
  iterate 7
   conv=>whnf
   apply exV
   ·rintro S' K' hI hh
    repeat((conv=>whnf);first|refine sJ ?_|refine aI (by first|exact trivial|exact inbMap hkl|kernel_rfl) ?_|rw[hI]|rw[hmr])
    try(conv=>whnf)
    exact hh
  conv=>whnf
  repeat' ((conv=>whnf);first|exact trivial|refine sJ ?_|refine aI (by first|exact trivial|exact Or.inr rfl|exact Or.inl rfl|exact Els.map (f:=encIs) (fun x=>⟨rfl,rfl⟩)|exact Els.map (f:=encI) (fun x=>⟨rfl,rfl⟩)|exact(show _*24≤_ by simp only[claimT,List.length_map,List.length_take,List.length_cons,List.length_nil];omega)|exact(show _*8≤_ by simp only[List.length_map,List.length_nil];omega)|exact(by simp only[claimT,List.length_map,List.length_take,List.length_cons,List.length_nil,maxLen];omega)|exact(by simp only[claimT,List.length_map,List.length_take];show some (_,_)=some (_,_);congr 2;omega)|kernel_rfl) ?_|refine And.intro ?_ ?_ )
  all_goals(conv=>whnf)
  refine SemK.regionFin mixed (fun X=>X.bx[4]? = some (.cells [.int .i64 x.flow.id,.own ((claimT n s x (x.routes.take (k+1))).routes.map encIs++[encIs r]) 2,.own ((claimT n s x (x.routes.take (k+1))).bounds.map encI) 3,.own ((claimT n s x (x.routes.take (k+1))).worst.map encI) 4,.own ((claimT n s x (x.routes.take (k+1))).slots.map encIs) 5] 190)) [0,1,2,3,5,6,7,8,10,11,12,13] 9 rfl rfl (by decide) rfl (by rfl) ?_
  iterate 12
   conv=>whnf
   apply exV
   ·rintro S' K' hI hh
    repeat((conv=>whnf);first|refine sT ?_|rw[hI])
    try(conv=>whnf)
    exact hh
  conv=>whnf
  repeat' ((conv=>whnf);first|exact trivial|refine sJ ?_|refine aI (by first|exact trivial|exact Or.inr rfl|exact Or.inl rfl|exact Els.map (f:=encIs) (fun x=>⟨rfl,rfl⟩)|exact Els.map (f:=encI) (fun x=>⟨rfl,rfl⟩)|exact(show _*24≤_ by simp only[claimT,List.length_map,List.length_take,List.length_cons,List.length_nil];omega)|exact(show _*8≤_ by simp only[claimT,List.length_map,List.length_take,List.length_cons,List.length_nil];omega)|exact(by simp only[claimT,List.length_map,List.length_take,List.length_cons,List.length_nil,maxLen];omega)|exact(by simp only[claimT,List.length_map,List.length_take];show some (_,_)=some (_,_);congr 2;omega)|kernel_rfl) ?_|refine And.intro ?_ ?_ )
  all_goals(conv=>whnf)
  all_goals refine⟨k+1+1,⟨by omega,nxt hsv⟩,by omega,?_⟩
  all_goals refine fN ?_<;>repeat' (first|exact fQ|refine And.intro ?_ ?_|exact SeesL.rfl' _|exact Sees.int (succI hkl (by omega))|exact Sees.own (by rw[hts];simp only[claimT,List.map_append];rfl)|(show(_,_)=(_,_);simp only[claimT,List.length_append,List.length_map,List.length_take,List.length_cons,List.length_nil];congr 1;omega))
end
section
variable (L:World→Prop)
theorem c_Make38 (n:Net)(hn:n.small)(q:List Req)(hq:q.length≤1099511627776)(hx:∀x∈q,x.small)(s:Sched)(hs:s.cells.length≤281474976710656):PCall Tryz.prog L 81 [n.av,encReqs q,s.av] (.tup [encClaims (makeM n q s).1,.int .i64 (makeM n q s).2.1,.int .i64 (makeM n q s).2.2]):=by
 refine PCall.intro mixed [1] (nt:=56) Tryz.func81 rfl rfl (by simp) ?_
 refine Wk ?_
 refine SeqK.sem mixed [] ?_
 refine Wk ?_
 refine SemK.freezeB 0 rfl rfl ?_
 refine SemK.freezeB 1 rfl rfl ?_
 refine twC_sound (ct:=[]) mixed _ _ _ _ ?_
 refine Wk ?_
 refine cD (c_Fault38 L n hn q hq hx) ?_
 cases g1:((reqE n q).2 != 0) with
 | true=>
  repeat((conv=>whnf);first|refine sT ?_|rw[g1])
  try(conv=>whnf)
  exact resP.mk rfl (Sees.of_eq (by unfold makeM;rw[if_pos (by simpa using g1)];rfl))
 | false=>
 have h1':(reqE n q).2=0:=by simpa using g1
 obtain⟨hok,hq16,hreq,hfl⟩:=reqE_ok h1'
 repeat((conv=>whnf);first|refine sT ?_|rw[g1])
 try(conv=>whnf)
 refine cD (c_Flows38 L q hq) ?_
 refine Wk ?_
 refine cD (c_Valid35 L n hn (flowsQ q) (by simp[flowsQ];omega) s hs) ?_
 cases g2:((schedE n (flowsQ q) s).2==0) with
 | false=>
  have g2':(schedE n (flowsQ q) s).2≠0:=by simpa using g2
  refine Wk ?_
  exact resP.mk rfl (Sees.of_eq (by unfold makeM;rw[if_neg (by omega),if_pos g2'];rfl))
 | true=>
 have h2':(schedE n (flowsQ q) s).2=0:=by simpa using g2
 have hM:makeM n q s=if (firstAt (lateAt n s q) q.length).2≠0 then([],firstAt (lateAt n s q) q.length) else(q.map (claimM n s),-1,0):=by unfold makeM;rw[if_neg (by omega),if_neg (by omega)]
 refine Wk ?_
 refine LoopK.run mixed [10010] (fun k:Nat=>k≤q.length∧∀j,j < k→lateAt n s q j=0) (fun k=>[(1,encReqs q),(3,.cptr n.av 0),(5,.cptr s.av 0),(11,.own ((q.take k).map fun x=>(claimM n s x).av) 0),(12,.int .i64 k)]) (fun k=>⟨[.dead,.dead],[((q.take k).length,5)],0,0,fun _=>190⟩) (fun k=>q.length-k) 0 ⟨by simp,by simp⟩ ?_ ?_
 ·refine fN ?_<;>repeat' (first|exact fQ|refine And.intro ?_ ?_|exact SeesL.rfl' _)
 rintro k ⟨hk,hinv⟩
 have hkl:(q.take k).length≤16:=by rw[List.length_take];omega
 by_cases hlt:k < q.length
 ·obtain⟨x,hgx⟩:=getLt hlt
  have hmx:=getMap (f:=Req.av) hgx
  have gk:decide ((k:Int) < ((q.map Req.av).length:Int))=true:=decide_eq_true (by rw[List.length_map];omega)
  have hit:=firstAt_hit hinv (k:=k) (n:=q.length)
  have hL:lateAt n s q k=if claimB n s x then 0 else 15:=by unfold lateAt;rw[hgx]
  repeat((conv=>whnf);first|refine sT ?_|rw[gk])
  try(conv=>whnf)
  refine SemK.regionFin mixed (fun _=>True) [0,1,2,3,4,5,6,7,8,9] 3 rfl rfl (by decide) rfl trivial ?_
  iterate 6
   conv=>whnf
   apply exV
   ·rintro S' K' hI hh
    repeat((conv=>whnf);first|refine sJ ?_|refine aI (by first|exact trivial|exact inbMap hlt|kernel_rfl) ?_|rw[hmx])
    try(conv=>whnf)
    exact hh
  conv=>whnf
  apply exV
  ·rintro S' K' hI hh
   refine Wk ?_
   refine cD (c_claim38 L n hn x (hreq x (List.mem_of_getElem? hgx)) s (by omega)) ?_
   exact hh
  iterate 3
   conv=>whnf
   apply exV
   ·rintro S' K' hI hh
    refine Wk ?_
    exact hh
  conv=>whnf
  repeat' ((conv=>whnf);first|exact trivial|refine sJ ?_|refine aI (by first|exact Or.inr trivial|kernel_rfl) ?_|refine And.intro ?_ ?_ )
  all_goals(conv=>whnf)
  cases hcb:claimB n s x with
  | false=>
   rw[hcb,if_neg (by decide)]at hL
   have hf:=hit (by rw[hL];decide) hlt
   rw[hL]at hf
   refine Wk ?_
   exact resP.mk rfl (Sees.of_eq (by rw[hM,hf,if_pos (show(15:Int)≠0 by decide)];rfl))
  | true=>
   rw[hcb,if_pos rfl]at hL
   repeat((conv=>whnf);first|refine sJ ?_|refine aI (by first|exact Els.map (f:=fun x=>(claimM n s x).av) (fun x=>⟨rfl,rfl⟩)|exact(show _*104≤_ by simp only[List.length_map,List.length_cons,List.length_nil];omega)|exact(by simp only[List.length_map,List.length_cons,List.length_nil,maxLen];omega)|exact(by rw[List.length_map];rfl)|kernel_rfl) ?_ )
   try(conv=>whnf)
   refine⟨k+1,⟨by omega,fun j hj=>?_⟩,by omega,?_⟩
   ·rcases Nat.lt_succ_iff_lt_or_eq.1 hj with h|rfl
    ·exact hinv j h
    ·exact hL
   ·refine fN ?_<;>repeat' (first|exact fQ|refine And.intro ?_ ?_|exact SeesL.rfl' _|exact Sees.int (succI hlt (by omega))|exact Sees.own (by rw[take_succ hgx,List.map_append];rfl)|(show(_,_)=(_,_);rw[take_succ hgx];simp only[List.length_append,List.length_map];rfl))
 ·have hkn:k=q.length:=by omega
  subst hkn
  have gk:decide ((q.length:Int) < ((q.map Req.av).length:Int))=false:=decide_eq_false (by rw[List.length_map];omega)
  rw[List.take_length]
  repeat((conv=>whnf);first|refine sT ?_|rw[gk])
  try(conv=>whnf)
  exact resP.mk rfl (Sees.of_eq (by rw[hM,firstAt_zero hinv,if_neg (by decide)];show _=AV.tup [encClaims (List.map (claimM n s) q),_,_];rw[encClaims,List.map_map];rfl))
theorem c_Serves38 (n:Net)(hn:n.small)(q:List Req)(hq:q.length≤1099511627776)(hx:∀x∈q,x.small)(s:Sched)(hs:s.cells.length≤281474976710656):PCall Tryz.prog L 32 [n.av,encReqs q,s.av] (.bool ((makeM n q s).2.2==0)):=by
 refine PCall.intro mixed [] (nt:=20) Tryz.func32 rfl rfl (by simp) ?_
 refine Wk ?_
 refine cD (c_Make38 L n hn q hq hx s hs) ?_
 refine Wk ?_
 exact resP.mk rfl (Sees.bool rfl)
end
end HM
