/- The schedule behind changes, and the offsets that are used there. -/
import Derived.Test.YtggiajmlnieidaaGreatDoorS164
import Derived.Test.YtggiajmlnieidaaGreatDoorS250
import Derived.Test.YtggiajmlnieidaaGreatDoorS33
import Derived.Test.YtggiajmlnieidaaGreatDoorDd
import Derived.Test.YtggiajmlnieidaaGreatDoorS70
import Derived.Test.YtggiajmlnieidaaGreatDoorS31
import Derived.Test.YtggiajmlnieidaaGreatDoorFh
import Derived.Test.YtggiajmlnieidaaGreatDoorS170
import Derived.Test.YtggiajmlnieidaaGreatDoorS257
set_option maxHeartbeats 64000000
set_option maxRecDepth 100000
namespace HM
open Go Go.RowKit Go.Proofs
theorem zh8 {l:List zJ}{t:Int}{k:Nat}(h:∀(j:Nat) c,j < k→l[j]? = some c→c.slot≤t)(he:∀c,l[k]? = some c→t < c.slot):xM l t=l.take k:=by
 unfold xM
 induction l generalizing k with
 | nil=>simp
 | cons c l ih=>
  cases k with
  | zero=>
   have:=he c rfl
   rw[List.takeWhile_cons,if_neg (by simp;omega)]
   rfl
  | succ k=>
   have h1:=h 0 c (by omega) rfl
   rw[List.takeWhile_cons,if_pos (by simpa using h1),List.take_succ_cons,ih (fun j d hj hd=>h (j+1) d (by omega) hd) fun d hd=>he d hd]
section
variable (L:World→Prop)
theorem zfY (l:List zg)(hl:l.length≤1099511627776):zb Tryz.prog L 66 [zy l] (zy l):=by
 by_cases hne:l=[]
 ·subst hne;exact kE L
 refine zb.intro mixed [] (nt:=8) Tryz.func66 rfl rfl (by simp) ?_
 refine Wk ?_
 refine zx.mk (fun h=>?_) (fun h=>?_)<;>(try rw[h])
 ·exact absurd (by simpa using h) hne
 ·repeat((conv=>whnf);first|refine sJ ?_|refine aI (by first|exact xF.map (f:=zg.av) (fun x=>⟨z8.len x,z8.cell x⟩)|exact(show _*40≤_ by simp only[List.length_map,List.length_nil];omega)|exact(by simp only[List.length_map,List.length_nil,maxLen];omega)|kernel_rfl) ?_ )
  try(conv=>whnf)
  exact ze.mk rfl (za.of_eq rfl)
end
def apO (s:zc)(out:List AV):List Ob:=[.cells s.av.cells 30,.cells out 30]
theorem zhI (s:zc)(hc:s.cells.length≤1099511627776)(l:List zJ)(hl:l.length≤281474976710656)(t:Int):zb Tryz.prog LW 22 [s.av,zT l,.int .i64 t] (.tup [(kI s l t).1.av,.int .i64 (kI s l t).2]):=by
 refine zb.intro mixed [] (nt:=40) Tryz.func22 rfl rfl (by simp) ?_
 refine Wk ?_
 refine cD (zhp s l hl) ?_
 by_cases hw:qg s l≠0
 ·have g:(qg s l != 0)=true:=by simpa using hw
  repeat((conv=>whnf);first|refine sT ?_|rw[g])
  try(conv=>whnf)
  exact ze.mk rfl (za.of_eq (by unfold kI;rw[if_pos hw];rfl))
 have g:(qg s l != 0)=false:=by simpa using hw
 repeat((conv=>whnf);first|refine sT ?_|rw[g])
 try(conv=>whnf)
 refine cD (zfY LW s.cells hc) ?_
 repeat((conv=>whnf);first|refine sT ?_ )
 try(conv=>whnf)
 refine zt.run mixed [] (fun k:Nat=>k≤l.length∧∀(j:Nat) c,j < k→l[j]? = some c→c.slot≤t) (fun k=>[(2,.int .i64 t),(3,.ptr 0 0),(6,.ptr 1 0),(22,zT l),(23,.int .i64 l.length),(24,.int .i64 k)]) (fun k=>⟨apO (ya s (l.take k)) [.int .i64 0,.int .i64 0,.nils],[],0,0,fun _=>0⟩) (fun k=>l.length-k) 0 ⟨by simp,by simp⟩ ?_ ?_
 ·refine fN ?_<;>repeat' (first|exact fQ|refine And.intro ?_ ?_|exact zn.zj _|exact za.int (by simp))
 rintro k ⟨hk,hinv⟩
 have hend:(∀c,l[k]? = some c→t < c.slot)→kI s l t=(ya s (l.take k),0):=fun h=>by
  unfold kI
  rw[if_neg hw,zh8 hinv h]
 by_cases hkl:k < l.length
 rotate_left
 ·have hke:k=l.length:=by omega
  subst hke
  have gk:decide ((l.length:Int) < (l.length:Int))=false:=decide_eq_false (by omega)
  have hpe:=hend fun c hc=>by rw[List.getElem?_eq_none (by omega)]at hc;cases hc
  repeat((conv=>whnf);first|refine sT ?_|rw[gk])
  try(conv=>whnf)
  exact ze.mk rfl (za.of_eq (by rw[hpe];rfl))
 obtain⟨c,hgc⟩:=zr hkl
 have hmc:=zk (f:=zJ.av) hgc
 have gk:decide ((k:Int) < (l.length:Int))=true:=decide_eq_true (by omega)
 by_cases hct:t < c.slot
 ·have g2:decide (t < c.slot)=true:=decide_eq_true hct
  have hpe:=hend fun d hd=>by rw[hgc]at hd;injection hd with hd;subst hd;exact hct
  repeat((conv=>whnf);first|refine sJ ?_|refine aI (by first|exact trivial|exact zh hkl|kernel_rfl) ?_|rw[gk]|rw[hmc]|rw[g2])
  try(conv=>whnf)
  exact ze.mk rfl (za.of_eq (by rw[hpe];rfl))
 ·have g2:decide (t < c.slot)=false:=decide_eq_false hct
  repeat((conv=>whnf);first|refine sJ ?_|refine aI (by first|exact trivial|exact zh hkl|kernel_rfl) ?_|rw[gk]|rw[hmc]|rw[g2])
  try(conv=>whnf)
  refine cD (Q4 LW (ya s (l.take k)) c) ?_
  repeat((conv=>whnf);first|refine sT ?_ )
  try(conv=>whnf)
  refine⟨k+1,⟨hkl,fun j d hj hd=>?_⟩,by omega,?_⟩
  ·rcases Nat.lt_succ_iff_lt_or_eq.1 hj with h'|rfl
   ·exact hinv j d h' hd
   ·rw[hgc]at hd;injection hd with hd;subst hd;omega
  ·rw[wG hgc]
   refine fN ?_<;>repeat' (first|exact fQ|refine And.intro ?_ ?_|exact zn.zj _|exact za.int (zu hkl (by omega)))
theorem zjA {α:Type}{l:List α}{k:Nat}{x:α}(h:l[k]? = some x):l.drop k=x :: l.drop (k+1):=by
 obtain⟨h1,h2⟩:=List.getElem?_eq_some_iff.1 h
 rw[List.drop_eq_getElem_cons h1,h2]
structure TmI (flows:List zf)(l:List zJ)(fr:Int)(k:Nat)(o:List zJ)(t:Int):Prop where
 le:k≤l.length
 len:o.length=k
 same:Yk flows fr [] l=Yk flows t o (l.drop k)
 lo:0≤t
 hi:t≤1048576
 sl:∀d∈o,0≤d.slot∧d.slot≤1048576
theorem TmI.zero {flows:List zf}{l:List zJ}{fr:Int}(h0:0≤fr)(h1:fr≤1048576):TmI flows l fr 0 [] fr:=⟨by simp,rfl,rfl,h0,h1,by simp⟩
theorem zan {o:List zJ}{id a:Int}(h:vr o id=some a):∃d∈o,d.slot=a:=by
 unfold vr at h
 obtain⟨d,h1,h2⟩:=Option.map_eq_some_iff.1 h
 exact⟨d,(List.mem_filter.1 (List.mem_of_getLast? h1)).1,h2⟩
theorem TmI.ge {flows:List zf}{l:List zJ}{fr:Int}{k:Nat}{o:List zJ}{t:Int}(_h:TmI flows l fr k o t)(c:zJ):t≤vi flows o t c:=by
 unfold vi
 repeat' split
 all_goals omega
theorem TmI.out {flows:List zf}{l:List zJ}{fr:Int}{k:Nat}{o:List zJ}{t:Int}(h:TmI flows l fr k o t){c:zJ}(hc:l[k]? = some c)(hl:1048576 < vi flows o t c):Yk flows fr [] l=none:=by
 rw[h.same,zjA hc,Yk,if_pos hl]
theorem TmI.next {flows:List zf}{l:List zJ}{fr:Int}{k:Nat}{o:List zJ}{t:Int}(h:TmI flows l fr k o t){c:zJ}(hc:l[k]? = some c)(hl:¬1048576 < vi flows o t c):TmI flows l fr (k+1) (o++[⟨vi flows o t c,c.add,c.cell⟩]) (vi flows o t c) where
 le:=(List.getElem?_eq_some_iff.1 hc).1
 len:=by rw[List.length_append,h.len];rfl
 same:=by rw[h.same,zjA hc,Yk,if_neg hl]
 lo:=by have:=h.ge c;have:=h.lo;omega
 hi:=by omega
 sl:=fun d hd=>by
  rcases List.mem_append.1 hd with hd|hd
  ·exact h.sl d hd
  ·rw[List.mem_singleton.1 hd]
   have:=h.ge c
   have:=h.lo
   exact⟨by simp only;omega,by simp only;omega⟩
theorem TmI.done {flows:List zf}{l:List zJ}{fr:Int}{o:List zJ}{t:Int}(h:TmI flows l fr l.length o t):Yk flows fr [] l=some o:=by
 rw[h.same,List.drop_length];rfl
theorem zi6 (flows:List zf)(hfl:flows.length≤281474976710656)(l:List zJ)(hl:l.length≤281474976710656)(fr:Int):zb Tryz.prog LW 16 [zN flows,zT l,.int .i64 fr] (.tup [zT (Xa flows l fr).1,.int .i64 (Xa flows l fr).2]):=by
 refine zb.intro mixed [] (nt:=93) Tryz.func16 rfl rfl (by simp) ?_
 refine Wk ?_
 refine cD (ZE LW 32 flows hfl) ?_
 by_cases h1:(yd 32 flows).2≠0
 ·have g:((yd 32 flows).2 != 0)=true:=by simpa using h1
  repeat((conv=>whnf);first|refine sT ?_|rw[g])
  try(conv=>whnf)
  exact ze.mk rfl (za.of_eq (by unfold Xa;rw[if_pos h1];rfl))
 have g:((yd 32 flows).2 != 0)=false:=by simpa using h1
 by_cases h2:fr < 0
 ·have g2:decide (fr < 0)=true:=decide_eq_true h2
  repeat((conv=>whnf);first|refine sT ?_|rw[g]|rw[g2])
  try(conv=>whnf)
  exact ze.mk rfl (za.of_eq (by unfold Xa;rw[if_neg h1,if_pos (.inl h2)];rfl))
 have g2:decide (fr < 0)=false:=decide_eq_false h2
 by_cases h3:1048576 < fr
 ·have g3:decide (1048576 < fr)=true:=decide_eq_true h3
  repeat((conv=>whnf);first|refine sT ?_|rw[g]|rw[g2]|rw[g3])
  try(conv=>whnf)
  exact ze.mk rfl (za.of_eq (by unfold Xa;rw[if_neg h1,if_pos (.inr h3)];rfl))
 have g3:decide (1048576 < fr)=false:=decide_eq_false h3
 by_cases h4:1024 < l.length
 ·have g4:decide ((1024:Int) < (l.length:Int))=true:=decide_eq_true (by omega)
  repeat((conv=>whnf);first|refine sT ?_|rw[g]|rw[g2]|rw[g3]|rw[List.length_map]|rw[g4])
  try(conv=>whnf)
  exact ze.mk rfl (za.of_eq (by unfold Xa;rw[if_neg h1,if_neg (by omega),if_pos h4];rfl))
 have g4:decide ((1024:Int) < (l.length:Int))=false:=decide_eq_false (by omega)
 have htm:Xa flows l fr=match Yk flows fr [] l with
  | none=>([],2)
  | some o=>(o,0):=by unfold Xa;rw[if_neg h1,if_neg (by omega),if_neg h4];cases Yk flows fr [] l<;>rfl
 rw[htm]
 have hfa:=(QK (l:=flows) (by omega)).2
 repeat((conv=>whnf);first|refine sT ?_|rw[g]|rw[g2]|rw[g3]|rw[List.length_map]|rw[g4])
 try(conv=>whnf)
 refine zt.born 11 7 42 rfl ?_
 refine zt.run mixed [] (fun q:Nat×IM×List zJ×Int=>TmI flows l fr q.1 q.2.2.1 q.2.2.2∧q.2.1.ok∧∀id,q.2.1.get [id] = vr q.2.2.1 id) (fun q=>[(0,zN flows),(10,.mp 0),(11,.own (q.2.2.1.map zJ.av) 0),(12,.int .i64 q.2.2.2),(38,zT l),(39,.int .i64 l.length),(40,.int .i64 q.1)]) (fun q=>⟨[q.2.1.ob none],[(q.1,7)],0,0,fun k=>if k=0 then 42 else 0⟩) (fun q=>l.length-q.1) (0,IM.none,[],fr) ⟨TmI.zero (by omega) (by omega),IM.qA,fun id=>rfl⟩ ?_ ?_
 ·refine fN ?_<;>repeat' (first|exact fQ|refine And.intro ?_ ?_|exact za.int (by simp))
 rintro⟨k,m,o,t⟩ ⟨hI,hmo,hmg⟩
 dsimp only at hI hmo hmg ⊢
 by_cases hkl:k < l.length
 rotate_left
 ·have hke:k=l.length:=by have:=hI.le;omega
  subst hke
  have gk:decide ((l.length:Int) < (l.length:Int))=false:=decide_eq_false (by omega)
  have hd:=hI.done
  repeat((conv=>whnf);first|refine sT ?_|rw[gk])
  try(conv=>whnf)
  exact ze.mk rfl (za.of_eq (by rw[hd];rfl))
 obtain⟨c,hgc⟩:=zr hkl
 have hmc:=zk (f:=zJ.av) hgc
 have gk:decide ((k:Int) < (l.length:Int))=true:=decide_eq_true (by omega)
 repeat((conv=>whnf);first|refine sJ ?_|refine aI (by first|exact trivial|exact zh hkl|kernel_rfl) ?_|rw[gk]|rw[hmc])
 try(conv=>whnf)
 refine cD (zdI LW flows c.cell.flow hfl) ?_
 repeat((conv=>whnf);first|refine sT ?_ )
 try(conv=>whnf)
 have has:=m.assoc [c.cell.flow]
 rw[hmg]at has
 have hol:(o.map zJ.av).length=k:=by rw[List.length_map,hI.len]
 have hz1:((o.map zJ.av).length+1)*56≤140737488355328:=by rw[hol];omega
 have hz2:(o.map zJ.av).length+1≤maxLen:=by rw[hol];unfold maxLen;omega
 have hz3:some (k,7)=some ((o.map zJ.av).length,6+1):=by rw[hol]
 have hn:¬1048576 < vi flows o t c→c.add=false→(∀id,m.get [id] = vr (o++[⟨vi flows o t c,c.add,c.cell⟩]) id):=fun h1 h2 id=>by
  rw[W0,h2,hmg];rfl
 cases hca:c.add with
 | true=>
  have hT:vi flows o t c=t:=by unfold vi;rw[if_pos hca]
  have g5:decide (1048576 < t)=false:=decide_eq_false (by have:=hI.hi;omega)
  have hnx:=hI.next hgc (by rw[hT];have:=hI.hi;omega)
  rw[hT,hca]at hnx
  have hms:∀id,(m.set [c.cell.flow] t).get [id] = vr (o++[⟨t,true,c.cell⟩]) id:=fun id=>by
   rw[W0,IM.vw hmo,hmg]
   by_cases e:id=c.cell.flow
   ·subst e;simp
   ·rw[if_neg (by simpa using e),if_neg (by simpa using Ne.symm e)]
  cases hla:vr o c.cell.flow with
  | none=>
   rw[hla]at has
   repeat((conv=>whnf);first|refine sJ ?_|refine aI (by first|exact trivial|exact xF.map (f:=zJ.av) (fun _=>⟨rfl,rfl⟩)|exact hz1|exact hz2|exact hz3|kernel_rfl) ?_|rw[has]|rw[hca]|rw[g5])
   try(conv=>whnf)
   refine⟨(k+1,m.set [c.cell.flow] t,o++[⟨t,true,c.cell⟩],t),⟨hnx,IM.WM hmo _ _,hms⟩,by dsimp only;omega,?_⟩
   refine fN ?_<;>repeat' (first|exact fQ|refine And.intro ?_ ?_|exact za.int (zu hkl (by omega))|exact za.own (by simp;rfl)|exact zn.of_eq (IM.setVs m [c.cell.flow] t)|(show(_,_)=(_,_);rw[List.length_append,hol];rfl)|exact yh.zj _|exact zn.zj _|exact qJ _ _ _)
  | some a=>
   rw[hla]at has
   repeat((conv=>whnf);first|refine sJ ?_|refine aI (by first|exact trivial|exact xF.map (f:=zJ.av) (fun _=>⟨rfl,rfl⟩)|exact hz1|exact hz2|exact hz3|kernel_rfl) ?_|rw[has]|rw[hca]|rw[g5])
   try(conv=>whnf)
   refine⟨(k+1,m.set [c.cell.flow] t,o++[⟨t,true,c.cell⟩],t),⟨hnx,IM.WM hmo _ _,hms⟩,by dsimp only;omega,?_⟩
   refine fN ?_<;>repeat' (first|exact fQ|refine And.intro ?_ ?_|exact za.int (zu hkl (by omega))|exact za.own (by simp;rfl)|exact zn.of_eq (IM.setVs m [c.cell.flow] t)|(show(_,_)=(_,_);rw[List.length_append,hol];rfl)|exact yh.zj _|exact zn.zj _|exact qJ _ _ _)
 | false=>
  rw[hca]at hn
  cases hla:vr o c.cell.flow with
  | none=>
   rw[hla]at has
   have hT:vi flows o t c=t:=by unfold vi;rw[hla];repeat' split<;>simp_all
   have g5:decide (1048576 < t)=false:=decide_eq_false (by have:=hI.hi;omega)
   have hnx:=hI.next hgc (by rw[hT];have:=hI.hi;omega)
   have hms:=hn (by rw[hT];have:=hI.hi;omega) rfl
   rw[hT]at hnx hms
   rw[hca]at hnx
   cases gfi:decide ((0:Int)≤xm flows c.cell.flow) with
   | false=>
    repeat((conv=>whnf);first|refine sJ ?_|refine aI (by first|exact trivial|exact xF.map (f:=zJ.av) (fun _=>⟨rfl,rfl⟩)|exact hz1|exact hz2|exact hz3|kernel_rfl) ?_|rw[has]|rw[hca]|rw[gfi]|rw[g5])
    try(conv=>whnf)
    refine⟨(k+1,m,o++[⟨t,false,c.cell⟩],t),⟨hnx,hmo,hms⟩,by dsimp only;omega,?_⟩
    refine fN ?_<;>repeat' (first|exact fQ|refine And.intro ?_ ?_|exact za.int (zu hkl (by omega))|exact za.own (by simp;rfl)|exact zn.of_eq (IM.setVs m [c.cell.flow] t)|(show(_,_)=(_,_);rw[List.length_append,hol];rfl)|exact yh.zj _|exact zn.zj _|exact qJ _ _ _)
   | true=>
    repeat((conv=>whnf);first|refine sJ ?_|refine aI (by first|exact trivial|exact xF.map (f:=zJ.av) (fun _=>⟨rfl,rfl⟩)|exact hz1|exact hz2|exact hz3|kernel_rfl) ?_|rw[has]|rw[hca]|rw[gfi]|rw[g5])
    try(conv=>whnf)
    refine⟨(k+1,m,o++[⟨t,false,c.cell⟩],t),⟨hnx,hmo,hms⟩,by dsimp only;omega,?_⟩
    refine fN ?_<;>repeat' (first|exact fQ|refine And.intro ?_ ?_|exact za.int (zu hkl (by omega))|exact za.own (by simp;rfl)|exact zn.of_eq (IM.setVs m [c.cell.flow] t)|(show(_,_)=(_,_);rw[List.length_append,hol];rfl)|exact yh.zj _|exact zn.zj _|exact qJ _ _ _)
  | some a=>
   rw[hla]at has
   rcases zcc flows c.cell.flow with ⟨hf,hfo⟩|⟨i,f,hf,hgf,hfo⟩
   ·have hT:vi flows o t c=t:=by unfold vi;rw[hfo];repeat' split<;>simp_all
    have g5:decide (1048576 < t)=false:=decide_eq_false (by have:=hI.hi;omega)
    have hnx:=hI.next hgc (by rw[hT];have:=hI.hi;omega)
    have hms:=hn (by rw[hT];have:=hI.hi;omega) rfl
    rw[hT]at hnx hms
    rw[hca]at hnx
    repeat((conv=>whnf);first|refine sJ ?_|refine aI (by first|exact trivial|exact xF.map (f:=zJ.av) (fun _=>⟨rfl,rfl⟩)|exact hz1|exact hz2|exact hz3|kernel_rfl) ?_|rw[has]|rw[hca]|rw[hf]|rw[g5])
    try(conv=>whnf)
    refine⟨(k+1,m,o++[⟨t,false,c.cell⟩],t),⟨hnx,hmo,hms⟩,by dsimp only;omega,?_⟩
    refine fN ?_<;>repeat' (first|exact fQ|refine And.intro ?_ ?_|exact za.int (zu hkl (by omega))|exact za.own (by simp;rfl)|exact zn.of_eq (IM.setVs m [c.cell.flow] t)|(show(_,_)=(_,_);rw[List.length_append,hol];rfl)|exact yh.zj _|exact zn.zj _|exact qJ _ _ _)
   ·have hT:vi flows o t c=max t (a+f.period):=by unfold vi;rw[if_neg (by rw[hca];decide),hfo,hla]
    have hmf:=zk (f:=zf.av) hgf
    have hil:=(List.getElem?_eq_some_iff.1 hgf).1
    have hpe:=yB (hfa i f hgf).1
    obtain⟨d,hdm,hds⟩:=zan hla
    have hda:=hI.sl d hdm
    have hw:IntKind.i64.wrap (a+f.period)=a+f.period:=by rw[xw]<;>omega
    have gi:decide ((0:Int)≤(i:Int))=true:=decide_eq_true (by omega)
    have hmx:(if a+f.period > t then a+f.period else t)=max t (a+f.period):=by rw[Int.max_def];split<;>split<;>omega
    by_cases hm:1048576 < max t (a+f.period)
    ·have g5:decide (1048576 < max t (a+f.period))=true:=decide_eq_true hm
     have hno:=hI.out hgc (by rw[hT];exact hm)
     repeat((conv=>whnf);first|refine sJ ?_|refine aI (by first|exact trivial|exact xF.map (f:=zJ.av) (fun _=>⟨rfl,rfl⟩)|exact hz1|exact hz2|exact hz3|exact zh hil|kernel_rfl) ?_|rw[has]|rw[hca]|rw[hf]|rw[gi]|rw[hmf]|rw[hw]|rw[hmx]|rw[g5])
     try(conv=>whnf)
     exact ze.mk rfl (za.of_eq (by rw[hno];rfl))
    ·have g5:decide (1048576 < max t (a+f.period))=false:=decide_eq_false hm
     have hnx:=hI.next hgc (by rw[hT];exact hm)
     have hms:=hn (by rw[hT];exact hm) rfl
     rw[hT]at hnx hms
     rw[hca]at hnx
     repeat((conv=>whnf);first|refine sJ ?_|refine aI (by first|exact trivial|exact xF.map (f:=zJ.av) (fun _=>⟨rfl,rfl⟩)|exact hz1|exact hz2|exact hz3|exact zh hil|kernel_rfl) ?_|rw[has]|rw[hca]|rw[hf]|rw[gi]|rw[hmf]|rw[hw]|rw[hmx]|rw[g5])
     try(conv=>whnf)
     refine⟨(k+1,m,o++[⟨max t (a+f.period),false,c.cell⟩],max t (a+f.period)),⟨hnx,hmo,hms⟩,by dsimp only;omega,?_⟩
     refine fN ?_<;>repeat' (first|exact fQ|refine And.intro ?_ ?_|exact za.int (zu hkl (by omega))|exact za.own (by simp;rfl)|exact zn.of_eq (IM.setVs m [c.cell.flow] t)|(show(_,_)=(_,_);rw[List.length_append,hol];rfl)|exact yh.zj _|exact zn.zj _|exact qJ _ _ _)
theorem zes (a b:zJ):(a.slot==b.slot&&(a.add==b.add&&((a.cell.slot==b.cell.slot&&(a.cell.off==b.cell.off&&(a.cell.src==b.cell.src&&(a.cell.dst==b.cell.dst&&(a.cell.flow==b.cell.flow&&true)))))&&true)))=decide (a=b):=by
 rw[Bool.eq_iff_iff]
 simp only[Bool.and_eq_true,beq_iff_eq,and_true,decide_eq_true_eq]
 constructor
 ·rintro⟨h1,h2,h3,h4,h5,h6,h7⟩
  obtain⟨a1,a2,⟨a3,a4,a5,a6,a7⟩⟩:=a
  obtain⟨b1,b2,⟨b3,b4,b5,b6,b7⟩⟩:=b
  simp only at h1 h2 h3 h4 h5 h6 h7
  subst h1;subst h2;subst h3;subst h4;subst h5;subst h6;subst h7;rfl
 ·rintro rfl;exact⟨rfl,rfl,rfl,rfl,rfl,rfl,rfl⟩
theorem zcz (a b:List zJ)(ha:a.length≤281474976710656):zb Tryz.prog LW 21 [zT a,zT b] (.bool (decide (a=b))):=by
 refine zb.intro mixed [] (nt:=26) Tryz.func21 rfl rfl (by simp) ?_
 cases hl:(((a.map zJ.av).length:Int) != ((b.map zJ.av).length:Int)) with
 | true=>
  repeat((conv=>whnf);first|refine sT ?_|rw[hl])
  try(conv=>whnf)
  exact ze.mk rfl (za.bool (by symm;rw[decide_eq_false_iff_not];rintro rfl;simp at hl))
 | false=>
 have hln:a.length=b.length:=by simp only[List.length_map,bne_eq_false_iff_eq]at hl;omega
 repeat((conv=>whnf);first|refine sT ?_|rw[hl])
 try(conv=>whnf)
 refine zt.run mixed [] (fun (k:Nat)=>k≤a.length∧a.take k=b.take k) (fun k=>[(0,zT a),(1,zT b),(5,.int .i64 k)]) (fun k=>St.none) (fun k=>a.length-k) 0 ⟨by simp,by simp⟩ ?_ ?_
 ·refine fN ?_<;>repeat' (first|exact fQ|refine And.intro ?_ ?_ )
 rintro k ⟨hk,hinv⟩
 by_cases hkl:k < a.length
 rotate_left
 ·have hke:k=a.length:=by omega
  subst hke
  have gk:decide ((a.length:Int) < ((a.map zJ.av).length:Int))=false:=decide_eq_false (by rw[List.length_map];omega)
  repeat((conv=>whnf);first|refine sT ?_|rw[gk])
  try(conv=>whnf)
  rw[List.take_length,hln,List.take_length]at hinv
  exact ze.mk rfl (za.bool (by simp[hinv]))
 obtain⟨x,hgx⟩:=zr hkl
 obtain⟨y,hgy⟩:=zr (l:=b) (k:=k) (by omega)
 have hmx:=zk (f:=zJ.av) hgx
 have hmy:=zk (f:=zJ.av) hgy
 have gk:decide ((k:Int) < ((a.map zJ.av).length:Int))=true:=decide_eq_true (by rw[List.length_map];omega)
 by_cases e:x=y
 ·have he:decide (x=y)=true:=decide_eq_true e
  repeat((conv=>whnf);first|refine sJ ?_|refine aI (by first|exact trivial|exact zh hkl|exact zh (by omega)|kernel_rfl) ?_|rw[gk]|rw[hmx]|rw[hmy])
  try(conv=>whnf)
  rw[zes x y,he]
  repeat((conv=>whnf);first|refine sT ?_ )
  try(conv=>whnf)
  refine⟨k+1,⟨by omega,by rw[zK hgx,zK hgy,hinv,e]⟩,by omega,?_⟩
  refine fN ?_<;>repeat' (first|exact fQ|refine And.intro ?_ ?_|exact za.int (zu hkl (by omega)))
 ·have he:decide (x=y)=false:=decide_eq_false e
  repeat((conv=>whnf);first|refine sJ ?_|refine aI (by first|exact trivial|exact zh hkl|exact zh (by omega)|kernel_rfl) ?_|rw[gk]|rw[hmx]|rw[hmy])
  try(conv=>whnf)
  rw[zes x y,he]
  repeat((conv=>whnf);first|refine sT ?_ )
  try(conv=>whnf)
  exact ze.mk rfl (za.bool (by symm;rw[decide_eq_false_iff_not];rintro rfl;rw[hgx]at hgy;exact e (Option.some.inj hgy)))
theorem Kg:n42.small:=⟨by decide,by decide,by decide,by decide⟩
theorem ZW:∀x∈J8,x.small:=fun x hx=>by
 simp only[J8,List.mem_singleton]at hx
 subst hx
 exact⟨by decide,by decide⟩
def zj0:List AV:=[.int .i64 0,.nils,.int .i64 0,.int .i64 0,.nils,.nils]
def zjQ:List AV:=[.int .i64 0,.int .i64 0,.nils]
theorem Vc (L:World→Prop)(r:Int):zb Tryz.prog L 45 [.int .i64 r] (.tup [n42.av,zH J8,s42.av,zT (Yy r)]):=by
 refine zb.intro mixed [2,3,4] (nt:=37) Tryz.func45 rfl rfl (by simp) ?_
 refine Wk ?_
 refine yF.Yg mixed [3,4] [(0,.int .i64 r),(2,.ptr 0 0),(3,.nils),(4,.ptr 1 0),(5,.nils),(6,.ptr 2 0)] ⟨[.cells zj0 26,.cells zjQ 30,.cells n42.cs 26],[],0,0,fun _=>0⟩ (zE (ct:=[]) mixed _ _ _ _ ?_) ?_
 ·refine Wk ?_
  refine fN ?_<;>repeat' (first|exact fQ|refine And.intro ?_ ?_|exact za.elems rfl)
 refine yF.Yg mixed [4] [(0,.int .i64 r),(2,.ptr 0 0),(3,.nils),(4,.ptr 1 0),(5,.nils),(6,.ptr 2 0),(7,zH J8)] ⟨[.cells zj0 26,.cells zjQ 30,.cells n42.cs 26],[],0,0,fun _=>0⟩ (zE (ct:=[]) mixed _ _ _ _ ?_) ?_
 ·refine Wk ?_
  refine fN ?_<;>repeat' (first|exact fQ|refine And.intro ?_ ?_|exact za.elems rfl)
 refine yF.Yg mixed [10004] [(0,.int .i64 r),(2,.ptr 0 0),(3,.nils),(4,.ptr 1 0),(5,.nils),(6,.ptr 2 0),(7,zH J8),(8,.ptr 3 0)] ⟨[.cells zj0 26,.cells zjQ 30,.cells n42.cs 26,.cells [.int .i64 4,.int .i64 1,zy s42.cells] 30],[],0,0,fun _=>0⟩ (zE (ct:=[]) mixed _ _ _ _ ?_) ?_
 ·refine Wk ?_
  refine fN ?_<;>repeat' (first|exact fQ|refine And.intro ?_ ?_|exact za.elems rfl)
 refine Wk ?_
 refine zW.ym mixed (fun X=>X.bx[2]? = some (.cells n42.cs 26)∧X.bx[3]? = some (.cells [.int .i64 4,.int .i64 1,zy s42.cells] 30)) [0,1,2,3,4,5,6,7,8,9,10,11] 4 rfl rfl (by decide) rfl ⟨rfl,rfl⟩ ?_
 iterate 12
  conv=>whnf
  apply vA
  ·rintro S' K' hI hh
   repeat((conv=>whnf);first|refine sJ ?_|refine aI (by first|exact trivial|exact⟨by decide,by decide⟩|kernel_rfl) ?_|erw [hI.1]|erw [hI.2])
   try(conv=>whnf)
   exact hh
 conv=>whnf
 repeat' ((conv=>whnf);first|exact trivial|refine sJ ?_|refine aI (by first|exact trivial|exact Or.inr ⟨rfl,rfl⟩|exact Or.inl rfl|kernel_rfl) ?_|refine And.intro ?_ ?_ )
 all_goals(conv=>whnf)
 exact ze.mk rfl (za.of_eq rfl)
def zf6:List Ob:=[.cells n42.cs 26,.cells [.int .i64 4,.int .i64 1,zy s42.cells] 30]
theorem zfS:zb Tryz.prog LW 9 [] (.bool true):=by
 refine zb.intro mixed [2,3,4,5,6,7] (nt:=90) Tryz.func9 rfl rfl (by simp) ?_
 refine Wk ?_
 refine yF.Yg mixed [3,4,5,6,7] [(1,.ptr 0 0),(2,zH J8),(3,.ptr 1 0),(4,zT (Yy 14))] ⟨zf6,[],0,0,fun _=>0⟩ (zE (ct:=[]) mixed _ _ _ _ ?_) ?_
 ·refine Wk ?_
  refine cD (Vc LW 14) ?_
  refine Wk ?_
  refine fN ?_<;>repeat' (first|exact fQ|refine And.intro ?_ ?_|exact zn.zj _)
 refine Wk ?_
 refine yF.Yg mixed [4,5,6,7] [(1,.ptr 0 0),(2,zH J8),(3,.ptr 1 0),(4,zT (Yy 14)),(5,.int .i64 (-1)),(6,.int .i64 0)] ⟨zf6,[],0,0,fun _=>0⟩ (zE (ct:=[]) mixed _ _ _ _ ?_) ?_
 ·refine Wk ?_
  refine cD (Q7 n42 Kg J8 J8 (by decide) (by decide) ZW ZW s42 (by decide) (Yy 14) (by simp[Yy])) ?_
  rw[zfD]
  refine Wk ?_
  refine fN ?_<;>repeat' (first|exact fQ|refine And.intro ?_ ?_|exact zn.zj _)
 refine Wk ?_
 refine yF.Yg mixed [5,6,7] [(1,.ptr 0 0),(2,zH J8),(3,.ptr 1 0),(4,zT (Yy 14)),(5,.int .i64 (-1)),(6,.int .i64 0),(7,zT (Yy 13))] ⟨zf6,[],0,0,fun _=>0⟩ (zE (ct:=[]) mixed _ _ _ _ ?_) ?_
 ·refine Wk ?_
  refine cD (Vc LW 13) ?_
  refine Wk ?_
  refine fN ?_<;>repeat' (first|exact fQ|refine And.intro ?_ ?_|exact zn.zj _)
 refine Wk ?_
 refine yF.Yg mixed [6,7] [(2,zH J8),(3,.ptr 1 0),(4,zT (Yy 14)),(5,.int .i64 (-1)),(6,.int .i64 0),(7,zT (Yy 13)),(8,.int .i64 1),(9,.int .i64 12)] ⟨zf6,[],0,0,fun _=>0⟩ (zE (ct:=[]) mixed _ _ _ _ ?_) ?_
 ·refine Wk ?_
  refine cD (Q7 n42 Kg J8 J8 (by decide) (by decide) ZW ZW s42 (by decide) (Yy 13) (by simp[Yy])) ?_
  rw[zdw]
  refine Wk ?_
  refine fN ?_<;>repeat' (first|exact fQ|refine And.intro ?_ ?_|exact zn.zj _)
 refine Wk ?_
 refine yF.Yg mixed [7] [(3,.ptr 1 0),(4,zT (Yy 14)),(5,.int .i64 (-1)),(6,.int .i64 0),(8,.int .i64 1),(9,.int .i64 12),(10,zT (Yy 14)),(11,.int .i64 0)] ⟨zf6,[],0,0,fun _=>0⟩ (zE (ct:=[]) mixed _ _ _ _ ?_) ?_
 ·refine Wk ?_
  refine cD (KL LW J8 (by decide)) ?_
  refine Wk ?_
  refine cD (zi6 (zL J8) (by decide) (Yy 13) (by simp[Yy]) 10) ?_
  rw[zhl]
  refine Wk ?_
  refine fN ?_<;>repeat' (first|exact fQ|refine And.intro ?_ ?_|exact zn.zj _)
 refine Wk ?_
 refine yF.Yg mixed [] [(4,zT (Yy 14)),(5,.int .i64 (-1)),(6,.int .i64 0),(8,.int .i64 1),(9,.int .i64 12),(10,zT (Yy 14)),(11,.int .i64 0),(12,.ptr 2 0),(13,.int .i64 0)] ⟨zf6++[.cells [.int .i64 4,.int .i64 1,zy (kI s42 (Yy 14) 12).1.cells] 30],[],0,0,fun _=>0⟩ (zE (ct:=[]) mixed _ _ _ _ ?_) ?_
 ·refine Wk ?_
  refine cD (zhI s42 (by decide) (Yy 14) (by simp[Yy]) 12) ?_
  rw[KC.1]
  refine Wk ?_
  refine fN ?_<;>repeat' (first|exact fQ|refine And.intro ?_ ?_|exact zn.zj _|exact zn.of_eq (by decide))
 have hlen:(((kI s42 (Yy 14) 12).1.cells.map zg.av).length:Int)=2:=by rw[List.length_map,KC.2];rfl
 refine Wk ?_
 refine cD (zcz (Yy 14) (Yy 14) (by simp[Yy])) ?_
 have hsm:decide (Yy 14=Yy 14)=true:=decide_eq_true rfl
 rw[hsm]
 repeat((conv=>whnf);first|refine sT ?_|rw[hlen])
 try(conv=>whnf)
 exact ze.mk rfl (za.of_eq rfl)
end HM
