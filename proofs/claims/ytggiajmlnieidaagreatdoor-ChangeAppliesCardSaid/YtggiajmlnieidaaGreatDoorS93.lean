/- Changes: how many there are up to a slot. -/
import Derived.Test.YtggiajmlnieidaaGreatDoorS54
import Derived.Test.YtggiajmlnieidaaGreatDoorFh
import Derived.Test.YtggiajmlnieidaaGreatDoorS70
import Derived.Test.YtggiajmlnieidaaGreatDoorS30
import Derived.Test.YtggiajmlnieidaaGreatDoorS251
import Derived.Test.YtggiajmlnieidaaGreatDoorDd
set_option maxHeartbeats 64000000
set_option maxRecDepth 100000
namespace HM
open Go Go.RowKit Go.Proofs
section
variable (L:World→Prop)
theorem chgOk:EncOk Chg.av 7:=⟨fun _=>rfl,fun _=>rfl,fun _=>rfl,fun _=>rfl,by decide⟩
theorem c_Clone0Chg:PCall Tryz.prog L 17 [.sl false (([]:List Chg).map Chg.av)] (.sl false (([]:List Chg).map Chg.av)):=by
 refine PCall.intro mixed [] (nt:=8) Tryz.func17 rfl rfl (by simp) ?_
 refine Wk ?_
 intro b
 cases b
 ·repeat((conv=>whnf);first|refine sJ ?_|refine aI (by first|exact Els.map (f:=Chg.av) (fun x=>⟨(chgOk).len x,(chgOk).cell x⟩)|kernel_rfl) ?_ )
  try(conv=>whnf)
  exact resP.mk rfl (Sees.of_eq rfl)
 ·refine Wk ?_
  exact resP.mk rfl (Sees.of_eq rfl)
theorem c_CloneChg (l:List Chg)(hne:l≠[])(hl:l.length≤1099511627776):FCall Tryz.prog L 17 [.sl false (l.map Chg.av)] (l.map Chg.av) 7 42:=by
 refine FCall.of_ICall (ICall.intro mixed [] (nt:=8) Tryz.func17 rfl rfl (by simp) ?_)
 refine Wk ?_
 refine BrK.mk (fun h=>?_) (fun h=>?_)<;>(try rw[h])
 ·exact absurd (by simpa using h) hne
 ·repeat((conv=>whnf);first|refine sJ ?_|refine aI (by first|exact Els.map (f:=Chg.av) (fun x=>⟨(chgOk).len x,(chgOk).cell x⟩)|exact(show _*56≤_ by simp only[List.length_map,List.length_nil];omega)|exact(by simp only[List.length_map,List.length_nil,maxLen];omega)|kernel_rfl) ?_ )
  try(conv=>whnf)
  exact⟨_,rfl,rfl,rfl⟩
structure Upd (S S1:St)(b:Nat):Prop where
 bx:∀(id:Nat) (o:Ob),id≠b→S.bx[id]? = some o→S1.bx[id]? = some o
 fr:S1.fr=S.fr
 ty:S1.ty=S.ty
theorem Upd.setB {S S1:St}{b:Nat}(h:Upd S S1 b)(o:Ob):Upd S (S1.setB b o) b:=⟨fun id o' hne h1=>by rw[St.setB_ne hne.symm];exact h.bx id o' hne h1,h.fr,h.ty⟩
end
theorem dropC {α:Type}{l:List α}{k:Nat}{x:α}(h:l[k]? = some x):l.drop k=x :: l.drop (k+1):=by
 obtain⟨h1,h2⟩:=List.getElem?_eq_some_iff.1 h
 rw[List.drop_eq_getElem_cons h1,h2]
structure TmI (flows:List Flow)(l:List Chg)(fr:Int)(k:Nat)(o:List Chg)(t:Int):Prop where
 le:k≤l.length
 len:o.length=k
 same:timeG flows fr [] l=timeG flows t o (l.drop k)
 lo:0≤t
 hi:t≤1048576
 sl:∀d∈o,0≤d.slot∧d.slot≤1048576
theorem TmI.zero {flows:List Flow}{l:List Chg}{fr:Int}(h0:0≤fr)(h1:fr≤1048576):TmI flows l fr 0 [] fr:=⟨by simp,rfl,rfl,h0,h1,by simp⟩
theorem lastAdd_slot {o:List Chg}{id a:Int}(h:lastAdd o id=some a):∃d∈o,d.slot=a:=by
 unfold lastAdd at h
 obtain⟨d,h1,h2⟩:=Option.map_eq_some_iff.1 h
 exact⟨d,(List.mem_filter.1 (List.mem_of_getLast? h1)).1,h2⟩
theorem TmI.ge {flows:List Flow}{l:List Chg}{fr:Int}{k:Nat}{o:List Chg}{t:Int}(_h:TmI flows l fr k o t)(c:Chg):t≤timeN flows o t c:=by
 unfold timeN
 repeat' split
 all_goals omega
theorem TmI.out {flows:List Flow}{l:List Chg}{fr:Int}{k:Nat}{o:List Chg}{t:Int}(h:TmI flows l fr k o t){c:Chg}(hc:l[k]? = some c)(hl:1048576 < timeN flows o t c):timeG flows fr [] l=none:=by
 rw[h.same,dropC hc,timeG,if_pos hl]
theorem TmI.next {flows:List Flow}{l:List Chg}{fr:Int}{k:Nat}{o:List Chg}{t:Int}(h:TmI flows l fr k o t){c:Chg}(hc:l[k]? = some c)(hl:¬1048576 < timeN flows o t c):TmI flows l fr (k+1) (o++[⟨timeN flows o t c,c.add,c.cell⟩]) (timeN flows o t c) where
 le:=(List.getElem?_eq_some_iff.1 hc).1
 len:=by rw[List.length_append,h.len];rfl
 same:=by rw[h.same,dropC hc,timeG,if_neg hl]
 lo:=by have:=h.ge c;have:=h.lo;omega
 hi:=by omega
 sl:=fun d hd=>by
  rcases List.mem_append.1 hd with hd|hd
  ·exact h.sl d hd
  ·rw[List.mem_singleton.1 hd]
   have:=h.ge c
   have:=h.lo
   exact⟨by simp only;omega,by simp only;omega⟩
theorem TmI.done {flows:List Flow}{l:List Chg}{fr:Int}{o:List Chg}{t:Int}(h:TmI flows l fr l.length o t):timeG flows fr [] l=some o:=by
 rw[h.same,List.drop_length];rfl
theorem c_TimeC (flows:List Flow)(hfl:flows.length≤281474976710656)(l:List Chg)(hl:l.length≤281474976710656)(fr:Int):PCall Tryz.prog LW 16 [encFlows flows,encChgs l,.int .i64 fr] (.tup [encChgs (timeM flows l fr).1,.int .i64 (timeM flows l fr).2]):=by
 refine PCall.intro mixed [] (nt:=93) Tryz.func16 rfl rfl (by simp) ?_
 refine Wk ?_
 refine cD (c_FCheck LW 32 flows hfl) ?_
 by_cases h1:(flowsE 32 flows).2≠0
 ·have g:((flowsE 32 flows).2 != 0)=true:=by simpa using h1
  repeat((conv=>whnf);first|refine sT ?_|rw[g])
  try(conv=>whnf)
  exact resP.mk rfl (Sees.of_eq (by unfold timeM;rw[if_pos h1];rfl))
 have g:((flowsE 32 flows).2 != 0)=false:=by simpa using h1
 by_cases h2:fr < 0
 ·have g2:decide (fr < 0)=true:=decide_eq_true h2
  repeat((conv=>whnf);first|refine sT ?_|rw[g]|rw[g2])
  try(conv=>whnf)
  exact resP.mk rfl (Sees.of_eq (by unfold timeM;rw[if_neg h1,if_pos (.inl h2)];rfl))
 have g2:decide (fr < 0)=false:=decide_eq_false h2
 by_cases h3:1048576 < fr
 ·have g3:decide (1048576 < fr)=true:=decide_eq_true h3
  repeat((conv=>whnf);first|refine sT ?_|rw[g]|rw[g2]|rw[g3])
  try(conv=>whnf)
  exact resP.mk rfl (Sees.of_eq (by unfold timeM;rw[if_neg h1,if_pos (.inr h3)];rfl))
 have g3:decide (1048576 < fr)=false:=decide_eq_false h3
 by_cases h4:1024 < l.length
 ·have g4:decide ((1024:Int) < (l.length:Int))=true:=decide_eq_true (by omega)
  repeat((conv=>whnf);first|refine sT ?_|rw[g]|rw[g2]|rw[g3]|rw[List.length_map]|rw[g4])
  try(conv=>whnf)
  exact resP.mk rfl (Sees.of_eq (by unfold timeM;rw[if_neg h1,if_neg (by omega),if_pos h4];rfl))
 have g4:decide ((1024:Int) < (l.length:Int))=false:=decide_eq_false (by omega)
 have htm:timeM flows l fr=match timeG flows fr [] l with
  | none=>([],2)
  | some o=>(o,0):=by unfold timeM;rw[if_neg h1,if_neg (by omega),if_neg h4];cases timeG flows fr [] l<;>rfl
 rw[htm]
 have hfa:=(flowsE_all (l:=flows) (by omega)).2
 repeat((conv=>whnf);first|refine sT ?_|rw[g]|rw[g2]|rw[g3]|rw[List.length_map]|rw[g4])
 try(conv=>whnf)
 refine LoopK.born 11 7 42 rfl ?_
 refine LoopK.run mixed [] (fun q:Nat×IM×List Chg×Int=>TmI flows l fr q.1 q.2.2.1 q.2.2.2∧q.2.1.ok∧∀id,q.2.1.get [id] = lastAdd q.2.2.1 id) (fun q=>[(0,encFlows flows),(10,.mp 0),(11,.own (q.2.2.1.map Chg.av) 0),(12,.int .i64 q.2.2.2),(38,encChgs l),(39,.int .i64 l.length),(40,.int .i64 q.1)]) (fun q=>⟨[q.2.1.ob none],[(q.1,7)],0,0,fun k=>if k=0 then 42 else 0⟩) (fun q=>l.length-q.1) (0,IM.none,[],fr) ⟨TmI.zero (by omega) (by omega),IM.none_ok,fun id=>rfl⟩ ?_ ?_
 ·refine fN ?_<;>repeat' (first|exact fQ|refine And.intro ?_ ?_|exact Sees.int (by simp))
 rintro⟨k,m,o,t⟩ ⟨hI,hmo,hmg⟩
 dsimp only at hI hmo hmg ⊢
 by_cases hkl:k < l.length
 rotate_left
 ·have hke:k=l.length:=by have:=hI.le;omega
  subst hke
  have gk:decide ((l.length:Int) < (l.length:Int))=false:=decide_eq_false (by omega)
  have hd:=hI.done
  repeat((conv=>whnf);first|refine sT ?_|rw[gk])
  try(conv=>whnf)
  exact resP.mk rfl (Sees.of_eq (by rw[hd];rfl))
 obtain⟨c,hgc⟩:=getLt hkl
 have hmc:=getMap (f:=Chg.av) hgc
 have gk:decide ((k:Int) < (l.length:Int))=true:=decide_eq_true (by omega)
 repeat((conv=>whnf);first|refine sJ ?_|refine aI (by first|exact trivial|exact inbMap hkl|kernel_rfl) ?_|rw[gk]|rw[hmc])
 try(conv=>whnf)
 refine cD (c_Find LW flows c.cell.flow hfl) ?_
 repeat((conv=>whnf);first|refine sT ?_ )
 try(conv=>whnf)
 have has:=m.assoc [c.cell.flow]
 rw[hmg]at has
 have hol:(o.map Chg.av).length=k:=by rw[List.length_map,hI.len]
 have hz1:((o.map Chg.av).length+1)*56≤140737488355328:=by rw[hol];omega
 have hz2:(o.map Chg.av).length+1≤maxLen:=by rw[hol];unfold maxLen;omega
 have hz3:some (k,7)=some ((o.map Chg.av).length,6+1):=by rw[hol]
 have hn:¬1048576 < timeN flows o t c→c.add=false→(∀id,m.get [id] = lastAdd (o++[⟨timeN flows o t c,c.add,c.cell⟩]) id):=fun h1 h2 id=>by
  rw[lastAdd_app,h2,hmg];rfl
 cases hca:c.add with
 | true=>
  have hT:timeN flows o t c=t:=by unfold timeN;rw[if_pos hca]
  have g5:decide (1048576 < t)=false:=decide_eq_false (by have:=hI.hi;omega)
  have hnx:=hI.next hgc (by rw[hT];have:=hI.hi;omega)
  rw[hT,hca]at hnx
  have hms:∀id,(m.set [c.cell.flow] t).get [id] = lastAdd (o++[⟨t,true,c.cell⟩]) id:=fun id=>by
   rw[lastAdd_app,IM.get_set hmo,hmg]
   by_cases e:id=c.cell.flow
   ·subst e;simp
   ·rw[if_neg (by simpa using e),if_neg (by simpa using Ne.symm e)]
  cases hla:lastAdd o c.cell.flow with
  | none=>
   rw[hla]at has
   repeat((conv=>whnf);first|refine sJ ?_|refine aI (by first|exact trivial|exact Els.map (f:=Chg.av) (fun _=>⟨rfl,rfl⟩)|exact hz1|exact hz2|exact hz3|kernel_rfl) ?_|rw[has]|rw[hca]|rw[g5])
   try(conv=>whnf)
   refine⟨(k+1,m.set [c.cell.flow] t,o++[⟨t,true,c.cell⟩],t),⟨hnx,IM.set_ok hmo _ _,hms⟩,by dsimp only;omega,?_⟩
   refine fN ?_<;>repeat' (first|exact fQ|refine And.intro ?_ ?_|exact Sees.int (succI hkl (by omega))|exact Sees.own (by simp;rfl)|exact SeesL.of_eq (IM.setVs m [c.cell.flow] t)|(show(_,_)=(_,_);rw[List.length_append,hol];rfl)|exact SeesO.rfl' _|exact SeesL.rfl' _|exact rowI_okk _ _ _)
  | some a=>
   rw[hla]at has
   repeat((conv=>whnf);first|refine sJ ?_|refine aI (by first|exact trivial|exact Els.map (f:=Chg.av) (fun _=>⟨rfl,rfl⟩)|exact hz1|exact hz2|exact hz3|kernel_rfl) ?_|rw[has]|rw[hca]|rw[g5])
   try(conv=>whnf)
   refine⟨(k+1,m.set [c.cell.flow] t,o++[⟨t,true,c.cell⟩],t),⟨hnx,IM.set_ok hmo _ _,hms⟩,by dsimp only;omega,?_⟩
   refine fN ?_<;>repeat' (first|exact fQ|refine And.intro ?_ ?_|exact Sees.int (succI hkl (by omega))|exact Sees.own (by simp;rfl)|exact SeesL.of_eq (IM.setVs m [c.cell.flow] t)|(show(_,_)=(_,_);rw[List.length_append,hol];rfl)|exact SeesO.rfl' _|exact SeesL.rfl' _|exact rowI_okk _ _ _)
 | false=>
  rw[hca]at hn
  cases hla:lastAdd o c.cell.flow with
  | none=>
   rw[hla]at has
   have hT:timeN flows o t c=t:=by unfold timeN;rw[hla];repeat' split<;>simp_all
   have g5:decide (1048576 < t)=false:=decide_eq_false (by have:=hI.hi;omega)
   have hnx:=hI.next hgc (by rw[hT];have:=hI.hi;omega)
   have hms:=hn (by rw[hT];have:=hI.hi;omega) rfl
   rw[hT]at hnx hms
   rw[hca]at hnx
   cases gfi:decide ((0:Int)≤findF flows c.cell.flow) with
   | false=>
    repeat((conv=>whnf);first|refine sJ ?_|refine aI (by first|exact trivial|exact Els.map (f:=Chg.av) (fun _=>⟨rfl,rfl⟩)|exact hz1|exact hz2|exact hz3|kernel_rfl) ?_|rw[has]|rw[hca]|rw[gfi]|rw[g5])
    try(conv=>whnf)
    refine⟨(k+1,m,o++[⟨t,false,c.cell⟩],t),⟨hnx,hmo,hms⟩,by dsimp only;omega,?_⟩
    refine fN ?_<;>repeat' (first|exact fQ|refine And.intro ?_ ?_|exact Sees.int (succI hkl (by omega))|exact Sees.own (by simp;rfl)|exact SeesL.of_eq (IM.setVs m [c.cell.flow] t)|(show(_,_)=(_,_);rw[List.length_append,hol];rfl)|exact SeesO.rfl' _|exact SeesL.rfl' _|exact rowI_okk _ _ _)
   | true=>
    repeat((conv=>whnf);first|refine sJ ?_|refine aI (by first|exact trivial|exact Els.map (f:=Chg.av) (fun _=>⟨rfl,rfl⟩)|exact hz1|exact hz2|exact hz3|kernel_rfl) ?_|rw[has]|rw[hca]|rw[gfi]|rw[g5])
    try(conv=>whnf)
    refine⟨(k+1,m,o++[⟨t,false,c.cell⟩],t),⟨hnx,hmo,hms⟩,by dsimp only;omega,?_⟩
    refine fN ?_<;>repeat' (first|exact fQ|refine And.intro ?_ ?_|exact Sees.int (succI hkl (by omega))|exact Sees.own (by simp;rfl)|exact SeesL.of_eq (IM.setVs m [c.cell.flow] t)|(show(_,_)=(_,_);rw[List.length_append,hol];rfl)|exact SeesO.rfl' _|exact SeesL.rfl' _|exact rowI_okk _ _ _)
  | some a=>
   rw[hla]at has
   rcases flowOf_find flows c.cell.flow with ⟨hf,hfo⟩|⟨i,f,hf,hgf,hfo⟩
   ·have hT:timeN flows o t c=t:=by unfold timeN;rw[hfo];repeat' split<;>simp_all
    have g5:decide (1048576 < t)=false:=decide_eq_false (by have:=hI.hi;omega)
    have hnx:=hI.next hgc (by rw[hT];have:=hI.hi;omega)
    have hms:=hn (by rw[hT];have:=hI.hi;omega) rfl
    rw[hT]at hnx hms
    rw[hca]at hnx
    repeat((conv=>whnf);first|refine sJ ?_|refine aI (by first|exact trivial|exact Els.map (f:=Chg.av) (fun _=>⟨rfl,rfl⟩)|exact hz1|exact hz2|exact hz3|kernel_rfl) ?_|rw[has]|rw[hca]|rw[hf]|rw[g5])
    try(conv=>whnf)
    refine⟨(k+1,m,o++[⟨t,false,c.cell⟩],t),⟨hnx,hmo,hms⟩,by dsimp only;omega,?_⟩
    refine fN ?_<;>repeat' (first|exact fQ|refine And.intro ?_ ?_|exact Sees.int (succI hkl (by omega))|exact Sees.own (by simp;rfl)|exact SeesL.of_eq (IM.setVs m [c.cell.flow] t)|(show(_,_)=(_,_);rw[List.length_append,hol];rfl)|exact SeesO.rfl' _|exact SeesL.rfl' _|exact rowI_okk _ _ _)
   ·have hT:timeN flows o t c=max t (a+f.period):=by unfold timeN;rw[if_neg (by rw[hca];decide),hfo,hla]
    have hmf:=getMap (f:=Flow.av) hgf
    have hil:=(List.getElem?_eq_some_iff.1 hgf).1
    have hpe:=flowE_ok (hfa i f hgf).1
    obtain⟨d,hdm,hds⟩:=lastAdd_slot hla
    have hda:=hI.sl d hdm
    have hw:IntKind.i64.wrap (a+f.period)=a+f.period:=by rw[w64]<;>omega
    have gi:decide ((0:Int)≤(i:Int))=true:=decide_eq_true (by omega)
    have hmx:(if a+f.period > t then a+f.period else t)=max t (a+f.period):=by rw[Int.max_def];split<;>split<;>omega
    by_cases hm:1048576 < max t (a+f.period)
    ·have g5:decide (1048576 < max t (a+f.period))=true:=decide_eq_true hm
     have hno:=hI.out hgc (by rw[hT];exact hm)
     repeat((conv=>whnf);first|refine sJ ?_|refine aI (by first|exact trivial|exact Els.map (f:=Chg.av) (fun _=>⟨rfl,rfl⟩)|exact hz1|exact hz2|exact hz3|exact inbMap hil|kernel_rfl) ?_|rw[has]|rw[hca]|rw[hf]|rw[gi]|rw[hmf]|rw[hw]|rw[hmx]|rw[g5])
     try(conv=>whnf)
     exact resP.mk rfl (Sees.of_eq (by rw[hno];rfl))
    ·have g5:decide (1048576 < max t (a+f.period))=false:=decide_eq_false hm
     have hnx:=hI.next hgc (by rw[hT];exact hm)
     have hms:=hn (by rw[hT];exact hm) rfl
     rw[hT]at hnx hms
     rw[hca]at hnx
     repeat((conv=>whnf);first|refine sJ ?_|refine aI (by first|exact trivial|exact Els.map (f:=Chg.av) (fun _=>⟨rfl,rfl⟩)|exact hz1|exact hz2|exact hz3|exact inbMap hil|kernel_rfl) ?_|rw[has]|rw[hca]|rw[hf]|rw[gi]|rw[hmf]|rw[hw]|rw[hmx]|rw[g5])
     try(conv=>whnf)
     refine⟨(k+1,m,o++[⟨max t (a+f.period),false,c.cell⟩],max t (a+f.period)),⟨hnx,hmo,hms⟩,by dsimp only;omega,?_⟩
     refine fN ?_<;>repeat' (first|exact fQ|refine And.intro ?_ ?_|exact Sees.int (succI hkl (by omega))|exact Sees.own (by simp;rfl)|exact SeesL.of_eq (IM.setVs m [c.cell.flow] t)|(show(_,_)=(_,_);rw[List.length_append,hol];rfl)|exact SeesO.rfl' _|exact SeesL.rfl' _|exact rowI_okk _ _ _)
structure RevI (l R:List Chg)(i:Nat):Prop where
 len:R.length=l.length
 le:2*i≤l.length
 at_:∀(j:Nat),j < l.length→R[j]? = if j < i∨l.length-i≤j then l[l.length-1-j]? else l[j]?
theorem RevI.zero (l:List Chg):RevI l l 0:=⟨rfl,by omega,fun j hj=>by rw[if_neg (by omega)]⟩
theorem RevI.next {l R:List Chg}{i:Nat}(h:RevI l R i)(hi:2*i+1 < l.length){x y:Chg}(hx:R[i]? = some x)(hy:R[l.length-1-i]? = some y):RevI l ((R.set i y).set (l.length-1-i) x) (i+1) where
 len:=by rw[List.length_set,List.length_set,h.len]
 le:=by omega
 at_:=fun j hj=>by
  have hl:=h.len
  have h1:=h.at_ i (by omega)
  rw[if_neg (by omega),hx]at h1
  have h2:=h.at_ (l.length-1-i) (by omega)
  rw[if_neg (by omega),hy]at h2
  rw[List.getElem?_set,List.getElem?_set,List.length_set]
  by_cases e1:l.length-1-i=j
  ·rw[if_pos e1,if_pos (by omega),if_pos (by omega),show l.length-1-j=i by omega,h1]
  ·rw[if_neg e1]
   by_cases e2:i=j
   ·rw[if_pos e2,if_pos (by omega),if_pos (by omega),←e2,h2]
   ·rw[if_neg e2,h.at_ j hj]
    by_cases e3:j < i∨l.length-i≤j
    ·rw[if_pos e3,if_pos (by omega)]
    ·rw[if_neg e3,if_neg (by omega)]
theorem RevI.fin {l R:List Chg}{i:Nat}(h:RevI l R i)(hi:¬2*i+1 < l.length):R=l.reverse:=by
 refine List.ext_getElem? fun j=>?_
 by_cases hj:j < l.length
 ·rw[h.at_ j hj,List.getElem?_reverse hj]
  by_cases e:j < i∨l.length-i≤j
  ·rw[if_pos e]
  ·rw[if_neg e,show l.length-1-j=j by omega]
 ·rw[List.getElem?_eq_none (by rw[h.len];omega),List.getElem?_eq_none (by rw[List.length_reverse];omega)]
theorem i_RevChg {L:World→Prop}(S:St)(b:Nat)(l:List Chg)(ex:List AV){K:AV→St→Prop}(hl:l.length≤281474976710656)(hb:S.bx[b]? = some (.cells (flatE (l.map Chg.av)++ex) 42))
  (hK:∀S',Upd S S' b→S'.bx[b]? = some (.cells (flatE (l.reverse.map Chg.av)++ex) 42)→K (.tup []) S') :
  ICall Tryz.prog L 64 [.vsl b 0 l.length 7] S K:=by
 refine ICall.intro mixed [10003] (nt:=28) Tryz.func64 rfl rfl (by simp) ?_
 have hw1:IntKind.i64.wrap ((l.length:Int)-1)=(l.length:Int)-1:=by rw[w64]<;>omega
 repeat((conv=>whnf);first|refine sT ?_|rw[hw1])
 try(conv=>whnf)
 refine LoopK.runS mixed [10003] (fun (q:List Chg×Nat) S1=>RevI l q.1 q.2∧Upd S S1 b∧S1.bx[b]? = some (.cells (flatE (q.1.map Chg.av)++ex) 42)) (fun q=>[(0,.vsl b 0 l.length 7),(2,.int .i64 q.2),(3,.int .i64 ((l.length:Int)-1-q.2))]) (fun q=>l.length-q.2) (l,0) ⟨RevI.zero l,⟨fun _ _ _ h=>h,rfl,rfl⟩,hb⟩ ?_ ?_
 ·exact⟨Sees.of_eq rfl,Sees.of_eq rfl,Sees.int (by simp),trivial⟩
 rintro⟨R,i⟩ S1 ⟨hR,hu,hb1⟩
 dsimp only at hR hb1 ⊢
 by_cases hi:2*i+1 < l.length
 rotate_left
 ·have g:decide ((i:Int) < (l.length:Int)-1-(i:Int))=false:=decide_eq_false (by omega)
  have hRf:=hR.fin hi
  subst hRf
  repeat((conv=>whnf);first|refine sT ?_|rw[g])
  try(conv=>whnf)
  exact hK _ ⟨hu.bx,hu.fr,hu.ty⟩ hb1
 have g:decide ((i:Int) < (l.length:Int)-1-(i:Int))=true:=decide_eq_true (by omega)
 have hRl:=hR.len
 obtain⟨x,hgx⟩:=getLt (l:=R) (k:=i) (by omega)
 obtain⟨y,hgy⟩:=getLt (l:=R) (k:=l.length-1-i) (by omega)
 have hni:(l.length:Int)-1-(i:Int)=((l.length-1-i:Nat):Int):=by omega
 rw[hni]at g ⊢
 repeat((conv=>whnf);first|refine sT ?_|rw[g])
 try(conv=>whnf)
 refine SemK.regionFin mixed (fun X=>X.bx[b]? = some (.cells (flatE (R.map Chg.av)++ex) 42)) [0,1,4,5,6,7,8,9,10,11] 6 rfl rfl (by decide) rfl hb1 ?_
 have hfx:=chgOk.fit1 (l:=R) ex (k:=i) (by omega)
 have hfy:=chgOk.fit1 (l:=R) ex (k:=l.length-1-i) (by omega)
 iterate 5
  conv=>whnf
  apply exV
  ·rintro S' K' hI hh
   repeat((conv=>whnf);first|refine sJ ?_|refine aI (by first|exact⟨by omega,by omega⟩|kernel_rfl) ?_ )
   try(conv=>whnf)
   exact hh
 conv=>whnf
 apply exV
 ·rintro S' K' hI hh
  conv=>whnf
  erw [hI]
  repeat((conv=>whnf);first|refine sJ ?_|refine aI (by first|exact hfy|kernel_rfl) ?_ )
  try(conv=>whnf)
  rw[chgOk.ldr ex hgy _ _ (by kernel_rfl) (by kernel_rfl)]
  exact hh
 iterate 3
  conv=>whnf
  apply exV
  ·rintro S' K' hI hh
   repeat((conv=>whnf);first|refine sJ ?_|refine aI (by first|exact⟨by omega,by omega⟩|kernel_rfl) ?_ )
   try(conv=>whnf)
   exact hh
 conv=>whnf
 apply exV
 ·rintro S' K' hI hh
  conv=>whnf
  erw [hI]
  repeat((conv=>whnf);first|refine sJ ?_|refine aI (by first|exact hfx|kernel_rfl) ?_ )
  try(conv=>whnf)
  rw[chgOk.ldr ex hgx _ _ (by kernel_rfl) (by kernel_rfl)]
  exact hh
 conv=>whnf
 have hb2:∀o,(S1.setB b o).bx[b]? = some o:=fun o=>St.setB_get hb1
 have hs1:splice (flatE (R.map Chg.av)++ex) (0+(i:Int).toNat*7) y.av.cells=flatE ((R.set i y).map Chg.av)++ex:=by
  rw[Nat.zero_add,Int.toNat_natCast];exact chgOk.st y ex (by omega)
 have hs2:splice (flatE (R.map Chg.av)++ex) (0+((l.length-1-i:Nat):Int).toNat*7) x.av.cells=flatE ((R.set (l.length-1-i) x).map Chg.av)++ex:=by
  rw[Nat.zero_add,Int.toNat_natCast];exact chgOk.st x ex (by omega)
 have hs3:splice (flatE ((R.set i y).map Chg.av)++ex) (0+((l.length-1-i:Nat):Int).toNat*7) x.av.cells=flatE (((R.set i y).set (l.length-1-i) x).map Chg.av)++ex:=by
  rw[Nat.zero_add,Int.toNat_natCast];exact chgOk.st x ex (by rw[List.length_set];omega)
 have hs4:splice (flatE ((R.set (l.length-1-i) x).map Chg.av)++ex) (0+(i:Int).toNat*7) y.av.cells=flatE (((R.set i y).set (l.length-1-i) x).map Chg.av)++ex:=by
  rw[Nat.zero_add,Int.toNat_natCast,List.set_comm _ _ (by omega)];exact chgOk.st y ex (by rw[List.length_set];omega)
 have hfy2:0+((l.length-1-i:Nat):Int).toNat*7+7≤(splice (flatE (R.map Chg.av)++ex) (0+(i:Int).toNat*7) (AV.agg y.av.cells).cells).length:=by
  rw[show(AV.agg y.av.cells).cells=y.av.cells from rfl,hs1];exact chgOk.fit1 (l:=R.set i y) ex (by rw[List.length_set];omega)
 have hfx2:0+(i:Int).toNat*7+7≤(splice (flatE (R.map Chg.av)++ex) (0+((l.length-1-i:Nat):Int).toNat*7) (AV.agg x.av.cells).cells).length:=by
  rw[show(AV.agg x.av.cells).cells=x.av.cells from rfl,hs2];exact chgOk.fit1 (l:=R.set (l.length-1-i) x) ex (by rw[List.length_set];omega)
 repeat' ((conv=>whnf);first|exact trivial|refine sJ ?_|refine aI (by first|exact trivial|exact Or.inl rfl|exact Or.inr hb1|exact⟨by omega,by omega⟩|exact hfx|exact hfy|exact hfx2|exact hfy2|kernel_rfl) ?_|refine And.intro ?_ ?_|rw[hb1]|rw[hb2])
 all_goals(conv=>whnf)
 all_goals
  refine⟨((R.set i y).set (l.length-1-i) x,i+1),⟨hR.next hi hgx hgy,(hu.setB _).setB _,?_⟩,by dsimp only;omega,?_⟩
  ·rw[St.setB_get (hb2 _)]
   refine congrArg (fun z=>some (Ob.cells z 42)) ?_
   first
    | (show splice (splice (flatE (R.map Chg.av)++ex) (0+(i:Int).toNat*7) y.av.cells) (0+((l.length-1-i:Nat):Int).toNat*7) x.av.cells=_;rw[hs1,hs3])
    | (show splice (splice (flatE (R.map Chg.av)++ex) (0+((l.length-1-i:Nat):Int).toNat*7) x.av.cells) (0+(i:Int).toNat*7) y.av.cells=_;rw[hs2,hs4])
  ·exact⟨Sees.of_eq rfl,Sees.int (by dsimp only;rw[w64]<;>omega),Sees.int (by dsimp only;rw[w64]<;>omega),trivial⟩
end HM
