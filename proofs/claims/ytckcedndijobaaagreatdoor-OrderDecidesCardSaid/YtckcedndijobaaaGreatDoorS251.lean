/- Changes: finding requests, the schedule behind a change. -/
import Derived.Test.YtckcedndijobaaaGreatDoorS162
import Derived.Test.YtckcedndijobaaaGreatDoorS34
import Derived.Test.YtckcedndijobaaaGreatDoorDd
import Derived.Test.YtckcedndijobaaaGreatDoorS70
import Derived.Test.YtckcedndijobaaaGreatDoorS30
import Derived.Test.YtckcedndijobaaaGreatDoorFh
import Derived.Test.YtckcedndijobaaaGreatDoorS68
import Derived.Test.YtckcedndijobaaaGreatDoorS33
set_option maxHeartbeats 64000000
set_option maxRecDepth 100000
namespace HM
open Go Go.RowKit Go.Proofs
section
variable (L:World→Prop)
theorem c_IndexFuncReqC (l:List Req)(p:Req→Bool)(g:Nat)(caps:List AV)(hl:l.length≤281474976710656)(hcb:callable Tryz.prog g=true)(hc:fzs caps=some caps)(hp:∀x∈l,PCall Tryz.prog L g (Req.av x :: caps) (.bool (p x))) :
  PCall Tryz.prog L 148 [.sl false (l.map Req.av),.fn g caps] (.int .i64 (idxF p l)):=by
 refine PCall.intro mixed [] (nt:=19) Tryz.func148 rfl rfl (by simp) ?_
 refine Wk ?_
 refine LoopK.run mixed [] (fun (k:Nat)=>k≤l.length∧∀j x,j < k→l[j]? = some x→p x=false) (fun k=>[(0,.sl false (l.map Req.av)),(1,.fn g caps),(7,.int .i64 l.length),(8,.int .i64 k)]) (fun k=>St.none) (fun k=>l.length-k) 0 ⟨by simp,by simp⟩ ?_ ?_
 ·refine fN ?_<;>repeat' (first|exact fQ|refine And.intro ?_ ?_|exact Sees.int (by simp)|exact fzs_okk hc)
 rintro k ⟨hk,hinv⟩
 refine Wk ?_
 refine BrK.mk (fun hb=>?_) (fun hb=>?_)<;>try rw[hb]
 ·have hlt:k < l.length:=by simpa using hb
  obtain⟨x,hgx⟩:=getLt hlt
  have hmx:=getMap (f:=Req.av) hgx
  repeat((conv=>whnf);first|refine sJ ?_|refine aI (by first|exact inbMap hlt|kernel_rfl) ?_|rw[hmx])
  try(conv=>whnf)
  refine CallK.data hcb (hp x (List.mem_of_getElem? hgx)) (by show(match fz _,fzs caps with|some a,some b=>some (a :: b)|_,_=>none)=_;rw[hc];rfl) ?_
  refine Wk ?_
  refine BrK.mk (fun h2=>?_) (fun h2=>?_)<;>(try rw[h2])
  ·refine Wk ?_
   exact resP.mk rfl (Sees.int (idxF_some hlt hinv hgx h2).symm)
  ·refine Wk ?_
   refine⟨k+1,⟨by omega,fun j y hj hy=>?_⟩,by omega,?_⟩
   ·rcases Nat.lt_succ_iff_lt_or_eq.1 hj with h|rfl
    ·exact hinv j y h hy
    ·rw[hgx]at hy;injection hy with hy;subst hy;exact h2
   ·refine fN ?_<;>repeat' (first|exact fQ|refine And.intro ?_ ?_|exact Sees.int (succI hlt hl)|exact fzs_okk hc)
 ·have hk':k=l.length:=by simp at hb;omega
  subst hk'
  refine Wk ?_
  exact resP.mk rfl (Sees.int (idxF_none hinv).symm)
theorem c_findC1 (x:Req)(id:Int):PCall Tryz.prog L 149 [x.av,.cptr (.agg [.int .i64 id]) 0] (.bool (x.flow.id==id)):=by
 refine PCall.intro mixed [] (nt:=9) Tryz.func149 rfl rfl (by simp) ?_
 refine Wk ?_
 exact resP.mk rfl (Sees.bool rfl)
theorem c_findC (q:List Req)(id:Int)(hq:q.length≤281474976710656):PCall Tryz.prog L 92 [encReqs q,.int .i64 id] (.tup [(getD q id).av,.bool (getQ q id).isSome]):=by
 refine PCall.intro mixed [] (nt:=17) Tryz.func92 rfl rfl (by simp) ?_
 refine Wk ?_
 refine cB (c_IndexFuncReqC L q (fun x=>x.flow.id==id) 149 [.cptr (.agg [.int .i64 id]) 0] hq rfl rfl (fun x _=>c_findC1 L x id)) ?_
 rcases idxF_find (fun x:Req=>x.flow.id==id) q with ⟨e1,e2⟩|⟨k,x,e1,e2,e3⟩
 ·have hg:getQ q id=none:=e2
  rw[e1]
  refine Wk ?_
  exact resP.mk rfl (Sees.of_eq (by unfold getD;rw[hg];rfl))
 ·have hg:getQ q id=some x:=e3
  have hmx:=getMap (f:=Req.av) e2
  have hkl:=(List.getElem?_eq_some_iff.1 e2).1
  have g:decide ((k:Int) < 0)=false:=decide_eq_false (by omega)
  rw[e1]
  repeat((conv=>whnf);first|refine sJ ?_|refine aI (by first|exact trivial|exact inbMap hkl|kernel_rfl) ?_|rw[g]|rw[hmx])
  try(conv=>whnf)
  exact resP.mk rfl (Sees.of_eq (by unfold getD;rw[hg];rfl))
theorem c_appliedC (s:Sched)(c:Chg):PCall Tryz.prog L 60 [s.av,c.av] (.tup [(chgM s c).1.av,.int .i64 (chgM s c).2]):=by
 refine PCall.intro mixed [] (nt:=20) Tryz.func60 rfl rfl (by simp) ?_
 refine Wk ?_
 refine BrK.mk (fun h=>?_) (fun h=>?_)<;>(try rw[h])
 ·refine Wk ?_
  refine cD (c_Add L s c.cell) ?_
  refine Wk ?_
  exact resP.mk rfl (Sees.of_eq (by rw[chgM,if_pos h];rfl))
 ·refine Wk ?_
  refine cD (c_Remove L s c.cell) ?_
  refine Wk ?_
  exact resP.mk rfl (Sees.of_eq (by rw[chgM,if_neg (by simp[h])];rfl))
end
theorem c_faultyC (n:Net)(hn:n.small)(h0:netE n=0)(q:List Req)(hq:q.length≤1099511627776)(hx:∀x∈q,x.small):PCall Tryz.prog LW 91 [n.av,encReqs q] (.bool (decide ((reqE n q).2≠0))):=by
 rw[←faulty_iff h0]
 refine PCall.intro mixed [] (nt:=22) Tryz.func91 rfl rfl (by simp) ?_
 refine Wk ?_
 refine cD (c_Make n hn q hq hx ⟨0,0,[]⟩ (by simp)) ?_
 cases g1:((makeM n q ⟨0,0,[]⟩).2.2 != 1) with
 | true=>
  repeat((conv=>whnf);first|refine sT ?_|rw[g1])
  try(conv=>whnf)
  exact resP.mk rfl (Sees.bool rfl)
 | false=>
  repeat((conv=>whnf);first|refine sT ?_|rw[g1])
  try(conv=>whnf)
  exact resP.mk rfl (Sees.bool rfl)
theorem dropC {α:Type}{l:List α}{k:Nat}{x:α}(h:l[k]? = some x):l.drop k=x :: l.drop (k+1):=by
 obtain⟨h1,h2⟩:=List.getElem?_eq_some_iff.1 h
 rw[List.drop_eq_getElem_cons h1,h2]
structure TmI (flows:List Flow)(l:List Chg)(fr:Int)(k:Nat)(o:List Chg)(t:Int):Prop where
 le:k≤l.length
 len:o.length=k
 same:timeG flows fr [] l=timeG flows t o (l.drop k)
 lo:0≤t
 hi:t≤1048576
 sl:∀d∈o,0≤d.slot∧d.slot≤1048576
theorem TmI.zero {flows:List Flow}{l:List Chg}{fr:Int}(h0:0≤fr)(h1:fr≤1048576):TmI flows l fr 0 [] fr:=⟨by simp,rfl,rfl,h0,h1,by simp⟩
theorem lastAdd_slot {o:List Chg}{id a:Int}(h:lastAdd o id=some a):∃d∈o,d.slot=a:=by
 unfold lastAdd at h
 obtain⟨d,h1,h2⟩:=Option.map_eq_some_iff.1 h
 exact⟨d,(List.mem_filter.1 (List.mem_of_getLast? h1)).1,h2⟩
theorem TmI.ge {flows:List Flow}{l:List Chg}{fr:Int}{k:Nat}{o:List Chg}{t:Int}(_h:TmI flows l fr k o t)(c:Chg):t≤timeN flows o t c:=by
 unfold timeN
 repeat' split
 all_goals omega
theorem TmI.out {flows:List Flow}{l:List Chg}{fr:Int}{k:Nat}{o:List Chg}{t:Int}(h:TmI flows l fr k o t){c:Chg}(hc:l[k]? = some c)(hl:1048576 < timeN flows o t c):timeG flows fr [] l=none:=by
 rw[h.same,dropC hc,timeG,if_pos hl]
theorem TmI.next {flows:List Flow}{l:List Chg}{fr:Int}{k:Nat}{o:List Chg}{t:Int}(h:TmI flows l fr k o t){c:Chg}(hc:l[k]? = some c)(hl:¬1048576 < timeN flows o t c):TmI flows l fr (k+1) (o++[⟨timeN flows o t c,c.add,c.cell⟩]) (timeN flows o t c) where
 le:=(List.getElem?_eq_some_iff.1 hc).1
 len:=by rw[List.length_append,h.len];rfl
 same:=by rw[h.same,dropC hc,timeG,if_neg hl]
 lo:=by have:=h.ge c;have:=h.lo;omega
 hi:=by omega
 sl:=fun d hd=>by
  rcases List.mem_append.1 hd with hd|hd
  ·exact h.sl d hd
  ·rw[List.mem_singleton.1 hd]
   have:=h.ge c
   have:=h.lo
   exact⟨by simp only;omega,by simp only;omega⟩
theorem TmI.done {flows:List Flow}{l:List Chg}{fr:Int}{o:List Chg}{t:Int}(h:TmI flows l fr l.length o t):timeG flows fr [] l=some o:=by
 rw[h.same,List.drop_length];rfl
theorem c_TimeC (flows:List Flow)(hfl:flows.length≤281474976710656)(l:List Chg)(hl:l.length≤281474976710656)(fr:Int):PCall Tryz.prog LW 40 [encFlows flows,encChgs l,.int .i64 fr] (.tup [encChgs (timeM flows l fr).1,.int .i64 (timeM flows l fr).2]):=by
 refine PCall.intro mixed [] (nt:=93) Tryz.func40 rfl rfl (by simp) ?_
 refine Wk ?_
 refine cD (c_FCheck LW 32 flows hfl) ?_
 by_cases h1:(flowsE 32 flows).2≠0
 ·have g:((flowsE 32 flows).2 != 0)=true:=by simpa using h1
  repeat((conv=>whnf);first|refine sT ?_|rw[g])
  try(conv=>whnf)
  exact resP.mk rfl (Sees.of_eq (by unfold timeM;rw[if_pos h1];rfl))
 have g:((flowsE 32 flows).2 != 0)=false:=by simpa using h1
 by_cases h2:fr < 0
 ·have g2:decide (fr < 0)=true:=decide_eq_true h2
  repeat((conv=>whnf);first|refine sT ?_|rw[g]|rw[g2])
  try(conv=>whnf)
  exact resP.mk rfl (Sees.of_eq (by unfold timeM;rw[if_neg h1,if_pos (.inl h2)];rfl))
 have g2:decide (fr < 0)=false:=decide_eq_false h2
 by_cases h3:1048576 < fr
 ·have g3:decide (1048576 < fr)=true:=decide_eq_true h3
  repeat((conv=>whnf);first|refine sT ?_|rw[g]|rw[g2]|rw[g3])
  try(conv=>whnf)
  exact resP.mk rfl (Sees.of_eq (by unfold timeM;rw[if_neg h1,if_pos (.inr h3)];rfl))
 have g3:decide (1048576 < fr)=false:=decide_eq_false h3
 by_cases h4:1024 < l.length
 ·have g4:decide ((1024:Int) < (l.length:Int))=true:=decide_eq_true (by omega)
  repeat((conv=>whnf);first|refine sT ?_|rw[g]|rw[g2]|rw[g3]|rw[List.length_map]|rw[g4])
  try(conv=>whnf)
  exact resP.mk rfl (Sees.of_eq (by unfold timeM;rw[if_neg h1,if_neg (by omega),if_pos h4];rfl))
 have g4:decide ((1024:Int) < (l.length:Int))=false:=decide_eq_false (by omega)
 have htm:timeM flows l fr=match timeG flows fr [] l with
  | none=>([],2)
  | some o=>(o,0):=by unfold timeM;rw[if_neg h1,if_neg (by omega),if_neg h4];cases timeG flows fr [] l<;>rfl
 rw[htm]
 have hfa:=(flowsE_all (l:=flows) (by omega)).2
 repeat((conv=>whnf);first|refine sT ?_|rw[g]|rw[g2]|rw[g3]|rw[List.length_map]|rw[g4])
 try(conv=>whnf)
 refine LoopK.born 11 7 54 rfl ?_
 refine LoopK.run mixed [] (fun q:Nat×IM×List Chg×Int=>TmI flows l fr q.1 q.2.2.1 q.2.2.2∧q.2.1.ok∧∀id,q.2.1.get [id] = lastAdd q.2.2.1 id) (fun q=>[(0,encFlows flows),(10,.mp 0),(11,.own (q.2.2.1.map Chg.av) 0),(12,.int .i64 q.2.2.2),(38,encChgs l),(39,.int .i64 l.length),(40,.int .i64 q.1)]) (fun q=>⟨[q.2.1.ob none],[(q.1,7)],0,0,fun k=>if k=0 then 54 else 0⟩) (fun q=>l.length-q.1) (0,IM.none,[],fr) ⟨TmI.zero (by omega) (by omega),IM.none_ok,fun id=>rfl⟩ ?_ ?_
 ·refine fN ?_<;>repeat' (first|exact fQ|refine And.intro ?_ ?_|exact Sees.int (by simp))
 rintro⟨k,m,o,t⟩ ⟨hI,hmo,hmg⟩
 dsimp only at hI hmo hmg ⊢
 by_cases hkl:k < l.length
 rotate_left
 ·have hke:k=l.length:=by have:=hI.le;omega
  subst hke
  have gk:decide ((l.length:Int) < (l.length:Int))=false:=decide_eq_false (by omega)
  have hd:=hI.done
  repeat((conv=>whnf);first|refine sT ?_|rw[gk])
  try(conv=>whnf)
  exact resP.mk rfl (Sees.of_eq (by rw[hd];rfl))
 obtain⟨c,hgc⟩:=getLt hkl
 have hmc:=getMap (f:=Chg.av) hgc
 have gk:decide ((k:Int) < (l.length:Int))=true:=decide_eq_true (by omega)
 repeat((conv=>whnf);first|refine sJ ?_|refine aI (by first|exact trivial|exact inbMap hkl|kernel_rfl) ?_|rw[gk]|rw[hmc])
 try(conv=>whnf)
 refine cD (c_Find LW flows c.cell.flow hfl) ?_
 repeat((conv=>whnf);first|refine sT ?_ )
 try(conv=>whnf)
 have has:=m.assoc [c.cell.flow]
 rw[hmg]at has
 have hol:(o.map Chg.av).length=k:=by rw[List.length_map,hI.len]
 have hz1:((o.map Chg.av).length+1)*56≤140737488355328:=by rw[hol];omega
 have hz2:(o.map Chg.av).length+1≤maxLen:=by rw[hol];unfold maxLen;omega
 have hz3:some (k,7)=some ((o.map Chg.av).length,6+1):=by rw[hol]
 have hn:¬1048576 < timeN flows o t c→c.add=false→(∀id,m.get [id] = lastAdd (o++[⟨timeN flows o t c,c.add,c.cell⟩]) id):=fun h1 h2 id=>by
  rw[lastAdd_app,h2,hmg];rfl
 cases hca:c.add with
 | true=>
  have hT:timeN flows o t c=t:=by unfold timeN;rw[if_pos hca]
  have g5:decide (1048576 < t)=false:=decide_eq_false (by have:=hI.hi;omega)
  have hnx:=hI.next hgc (by rw[hT];have:=hI.hi;omega)
  rw[hT,hca]at hnx
  have hms:∀id,(m.set [c.cell.flow] t).get [id] = lastAdd (o++[⟨t,true,c.cell⟩]) id:=fun id=>by
   rw[lastAdd_app,IM.get_set hmo,hmg]
   by_cases e:id=c.cell.flow
   ·subst e;simp
   ·rw[if_neg (by simpa using e),if_neg (by simpa using Ne.symm e)]
  cases hla:lastAdd o c.cell.flow with
  | none=>
   rw[hla]at has
   repeat((conv=>whnf);first|refine sJ ?_|refine aI (by first|exact trivial|exact Els.map (f:=Chg.av) (fun _=>⟨rfl,rfl⟩)|exact hz1|exact hz2|exact hz3|kernel_rfl) ?_|rw[has]|rw[hca]|rw[g5])
   try(conv=>whnf)
   refine⟨(k+1,m.set [c.cell.flow] t,o++[⟨t,true,c.cell⟩],t),⟨hnx,IM.set_ok hmo _ _,hms⟩,by dsimp only;omega,?_⟩
   refine fN ?_<;>repeat' (first|exact fQ|refine And.intro ?_ ?_|exact Sees.int (succI hkl (by omega))|exact Sees.own (by simp;rfl)|exact SeesL.of_eq (IM.setVs m [c.cell.flow] t)|(show(_,_)=(_,_);rw[List.length_append,hol];rfl)|exact SeesO.rfl' _|exact SeesL.rfl' _|exact rowI_okk _ _ _)
  | some a=>
   rw[hla]at has
   repeat((conv=>whnf);first|refine sJ ?_|refine aI (by first|exact trivial|exact Els.map (f:=Chg.av) (fun _=>⟨rfl,rfl⟩)|exact hz1|exact hz2|exact hz3|kernel_rfl) ?_|rw[has]|rw[hca]|rw[g5])
   try(conv=>whnf)
   refine⟨(k+1,m.set [c.cell.flow] t,o++[⟨t,true,c.cell⟩],t),⟨hnx,IM.set_ok hmo _ _,hms⟩,by dsimp only;omega,?_⟩
   refine fN ?_<;>repeat' (first|exact fQ|refine And.intro ?_ ?_|exact Sees.int (succI hkl (by omega))|exact Sees.own (by simp;rfl)|exact SeesL.of_eq (IM.setVs m [c.cell.flow] t)|(show(_,_)=(_,_);rw[List.length_append,hol];rfl)|exact SeesO.rfl' _|exact SeesL.rfl' _|exact rowI_okk _ _ _)
 | false=>
  rw[hca]at hn
  cases hla:lastAdd o c.cell.flow with
  | none=>
   rw[hla]at has
   have hT:timeN flows o t c=t:=by unfold timeN;rw[hla];repeat' split<;>simp_all
   have g5:decide (1048576 < t)=false:=decide_eq_false (by have:=hI.hi;omega)
   have hnx:=hI.next hgc (by rw[hT];have:=hI.hi;omega)
   have hms:=hn (by rw[hT];have:=hI.hi;omega) rfl
   rw[hT]at hnx hms
   rw[hca]at hnx
   cases gfi:decide ((0:Int)≤findF flows c.cell.flow) with
   | false=>
    repeat((conv=>whnf);first|refine sJ ?_|refine aI (by first|exact trivial|exact Els.map (f:=Chg.av) (fun _=>⟨rfl,rfl⟩)|exact hz1|exact hz2|exact hz3|kernel_rfl) ?_|rw[has]|rw[hca]|rw[gfi]|rw[g5])
    try(conv=>whnf)
    refine⟨(k+1,m,o++[⟨t,false,c.cell⟩],t),⟨hnx,hmo,hms⟩,by dsimp only;omega,?_⟩
    refine fN ?_<;>repeat' (first|exact fQ|refine And.intro ?_ ?_|exact Sees.int (succI hkl (by omega))|exact Sees.own (by simp;rfl)|exact SeesL.of_eq (IM.setVs m [c.cell.flow] t)|(show(_,_)=(_,_);rw[List.length_append,hol];rfl)|exact SeesO.rfl' _|exact SeesL.rfl' _|exact rowI_okk _ _ _)
   | true=>
    repeat((conv=>whnf);first|refine sJ ?_|refine aI (by first|exact trivial|exact Els.map (f:=Chg.av) (fun _=>⟨rfl,rfl⟩)|exact hz1|exact hz2|exact hz3|kernel_rfl) ?_|rw[has]|rw[hca]|rw[gfi]|rw[g5])
    try(conv=>whnf)
    refine⟨(k+1,m,o++[⟨t,false,c.cell⟩],t),⟨hnx,hmo,hms⟩,by dsimp only;omega,?_⟩
    refine fN ?_<;>repeat' (first|exact fQ|refine And.intro ?_ ?_|exact Sees.int (succI hkl (by omega))|exact Sees.own (by simp;rfl)|exact SeesL.of_eq (IM.setVs m [c.cell.flow] t)|(show(_,_)=(_,_);rw[List.length_append,hol];rfl)|exact SeesO.rfl' _|exact SeesL.rfl' _|exact rowI_okk _ _ _)
  | some a=>
   rw[hla]at has
   rcases flowOf_find flows c.cell.flow with ⟨hf,hfo⟩|⟨i,f,hf,hgf,hfo⟩
   ·have hT:timeN flows o t c=t:=by unfold timeN;rw[hfo];repeat' split<;>simp_all
    have g5:decide (1048576 < t)=false:=decide_eq_false (by have:=hI.hi;omega)
    have hnx:=hI.next hgc (by rw[hT];have:=hI.hi;omega)
    have hms:=hn (by rw[hT];have:=hI.hi;omega) rfl
    rw[hT]at hnx hms
    rw[hca]at hnx
    repeat((conv=>whnf);first|refine sJ ?_|refine aI (by first|exact trivial|exact Els.map (f:=Chg.av) (fun _=>⟨rfl,rfl⟩)|exact hz1|exact hz2|exact hz3|kernel_rfl) ?_|rw[has]|rw[hca]|rw[hf]|rw[g5])
    try(conv=>whnf)
    refine⟨(k+1,m,o++[⟨t,false,c.cell⟩],t),⟨hnx,hmo,hms⟩,by dsimp only;omega,?_⟩
    refine fN ?_<;>repeat' (first|exact fQ|refine And.intro ?_ ?_|exact Sees.int (succI hkl (by omega))|exact Sees.own (by simp;rfl)|exact SeesL.of_eq (IM.setVs m [c.cell.flow] t)|(show(_,_)=(_,_);rw[List.length_append,hol];rfl)|exact SeesO.rfl' _|exact SeesL.rfl' _|exact rowI_okk _ _ _)
   ·have hT:timeN flows o t c=max t (a+f.period):=by unfold timeN;rw[if_neg (by rw[hca];decide),hfo,hla]
    have hmf:=getMap (f:=Flow.av) hgf
    have hil:=(List.getElem?_eq_some_iff.1 hgf).1
    have hpe:=flowE_ok (hfa i f hgf).1
    obtain⟨d,hdm,hds⟩:=lastAdd_slot hla
    have hda:=hI.sl d hdm
    have hw:IntKind.i64.wrap (a+f.period)=a+f.period:=by rw[w64]<;>omega
    have gi:decide ((0:Int)≤(i:Int))=true:=decide_eq_true (by omega)
    have hmx:(if a+f.period > t then a+f.period else t)=max t (a+f.period):=by rw[Int.max_def];split<;>split<;>omega
    by_cases hm:1048576 < max t (a+f.period)
    ·have g5:decide (1048576 < max t (a+f.period))=true:=decide_eq_true hm
     have hno:=hI.out hgc (by rw[hT];exact hm)
     repeat((conv=>whnf);first|refine sJ ?_|refine aI (by first|exact trivial|exact Els.map (f:=Chg.av) (fun _=>⟨rfl,rfl⟩)|exact hz1|exact hz2|exact hz3|exact inbMap hil|kernel_rfl) ?_|rw[has]|rw[hca]|rw[hf]|rw[gi]|rw[hmf]|rw[hw]|rw[hmx]|rw[g5])
     try(conv=>whnf)
     exact resP.mk rfl (Sees.of_eq (by rw[hno];rfl))
    ·have g5:decide (1048576 < max t (a+f.period))=false:=decide_eq_false hm
     have hnx:=hI.next hgc (by rw[hT];exact hm)
     have hms:=hn (by rw[hT];exact hm) rfl
     rw[hT]at hnx hms
     rw[hca]at hnx
     repeat((conv=>whnf);first|refine sJ ?_|refine aI (by first|exact trivial|exact Els.map (f:=Chg.av) (fun _=>⟨rfl,rfl⟩)|exact hz1|exact hz2|exact hz3|exact inbMap hil|kernel_rfl) ?_|rw[has]|rw[hca]|rw[hf]|rw[gi]|rw[hmf]|rw[hw]|rw[hmx]|rw[g5])
     try(conv=>whnf)
     refine⟨(k+1,m,o++[⟨max t (a+f.period),false,c.cell⟩],max t (a+f.period)),⟨hnx,hmo,hms⟩,by dsimp only;omega,?_⟩
     refine fN ?_<;>repeat' (first|exact fQ|refine And.intro ?_ ?_|exact Sees.int (succI hkl (by omega))|exact Sees.own (by simp;rfl)|exact SeesL.of_eq (IM.setVs m [c.cell.flow] t)|(show(_,_)=(_,_);rw[List.length_append,hol];rfl)|exact SeesO.rfl' _|exact SeesL.rfl' _|exact rowI_okk _ _ _)
theorem chg_eqv (a b:Chg):(a.slot==b.slot&&(a.add==b.add&&((a.cell.slot==b.cell.slot&&(a.cell.off==b.cell.off&&(a.cell.src==b.cell.src&&(a.cell.dst==b.cell.dst&&(a.cell.flow==b.cell.flow&&true)))))&&true)))=decide (a=b):=by
 rw[Bool.eq_iff_iff]
 simp only[Bool.and_eq_true,beq_iff_eq,and_true,decide_eq_true_eq]
 constructor
 ·rintro⟨h1,h2,h3,h4,h5,h6,h7⟩
  obtain⟨a1,a2,⟨a3,a4,a5,a6,a7⟩⟩:=a
  obtain⟨b1,b2,⟨b3,b4,b5,b6,b7⟩⟩:=b
  simp only at h1 h2 h3 h4 h5 h6 h7
  subst h1;subst h2;subst h3;subst h4;subst h5;subst h6;subst h7;rfl
 ·rintro rfl;exact⟨rfl,rfl,rfl,rfl,rfl,rfl,rfl⟩
theorem c_SameChg42 (a b:List Chg)(ha:a.length≤281474976710656):PCall Tryz.prog LW 13 [encChgs a,encChgs b] (.bool (decide (a=b))):=by
 refine PCall.intro mixed [] (nt:=26) Tryz.func13 rfl rfl (by simp) ?_
 cases hl:(((a.map Chg.av).length:Int) != ((b.map Chg.av).length:Int)) with
 | true=>
  repeat((conv=>whnf);first|refine sT ?_|rw[hl])
  try(conv=>whnf)
  exact resP.mk rfl (Sees.bool (by symm;rw[decide_eq_false_iff_not];rintro rfl;simp at hl))
 | false=>
 have hln:a.length=b.length:=by simp only[List.length_map,bne_eq_false_iff_eq]at hl;omega
 repeat((conv=>whnf);first|refine sT ?_|rw[hl])
 try(conv=>whnf)
 refine LoopK.run mixed [] (fun (k:Nat)=>k≤a.length∧a.take k=b.take k) (fun k=>[(0,encChgs a),(1,encChgs b),(5,.int .i64 k)]) (fun k=>St.none) (fun k=>a.length-k) 0 ⟨by simp,by simp⟩ ?_ ?_
 ·refine fN ?_<;>repeat' (first|exact fQ|refine And.intro ?_ ?_ )
 rintro k ⟨hk,hinv⟩
 by_cases hkl:k < a.length
 rotate_left
 ·have hke:k=a.length:=by omega
  subst hke
  have gk:decide ((a.length:Int) < ((a.map Chg.av).length:Int))=false:=decide_eq_false (by rw[List.length_map];omega)
  repeat((conv=>whnf);first|refine sT ?_|rw[gk])
  try(conv=>whnf)
  rw[List.take_length,hln,List.take_length]at hinv
  exact resP.mk rfl (Sees.bool (by simp[hinv]))
 obtain⟨x,hgx⟩:=getLt hkl
 obtain⟨y,hgy⟩:=getLt (l:=b) (k:=k) (by omega)
 have hmx:=getMap (f:=Chg.av) hgx
 have hmy:=getMap (f:=Chg.av) hgy
 have gk:decide ((k:Int) < ((a.map Chg.av).length:Int))=true:=decide_eq_true (by rw[List.length_map];omega)
 by_cases e:x=y
 ·have he:decide (x=y)=true:=decide_eq_true e
  repeat((conv=>whnf);first|refine sJ ?_|refine aI (by first|exact trivial|exact inbMap hkl|exact inbMap (by omega)|kernel_rfl) ?_|rw[gk]|rw[hmx]|rw[hmy])
  try(conv=>whnf)
  rw[chg_eqv x y,he]
  repeat((conv=>whnf);first|refine sT ?_ )
  try(conv=>whnf)
  refine⟨k+1,⟨by omega,by rw[take_succ hgx,take_succ hgy,hinv,e]⟩,by omega,?_⟩
  refine fN ?_<;>repeat' (first|exact fQ|refine And.intro ?_ ?_|exact Sees.int (succI hkl (by omega)))
 ·have he:decide (x=y)=false:=decide_eq_false e
  repeat((conv=>whnf);first|refine sJ ?_|refine aI (by first|exact trivial|exact inbMap hkl|exact inbMap (by omega)|kernel_rfl) ?_|rw[gk]|rw[hmx]|rw[hmy])
  try(conv=>whnf)
  rw[chg_eqv x y,he]
  repeat((conv=>whnf);first|refine sT ?_ )
  try(conv=>whnf)
  exact resP.mk rfl (Sees.bool (by symm;rw[decide_eq_false_iff_not];rintro rfl;rw[hgx]at hgy;exact e (Option.some.inj hgy)))
end HM
