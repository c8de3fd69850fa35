/- Breaches: the program. -/
import Derived.Test.YtggiajmlnieidaaGreatDoorS69
import Derived.Test.YtggiajmlnieidaaGreatDoorS70
import Derived.Test.YtggiajmlnieidaaGreatDoorFh
set_option maxHeartbeats 64000000
set_option maxRecDepth 100000
namespace HM
open Go Go.RowKit Go.Proofs
section
variable (L:World→Prop)
def bSl (n:zF)(r:wK)(k:Nat):List (Nat×AV):=[(2,.cptr n.av 0),(3,.cptr r.av 0),(5,.mp 2),(6,.mp 3),(20,zep r.atts),(21,.int .i64 r.atts.length),(22,.int .i64 k)]
def bSt (b:BS):St:=⟨[.dead,.dead,.map (some 4) b.ks (b.vs.map zdu),.map (some 4) b.fk (b.fv.map QV)],b.fr,0,0,fun _=>3⟩
theorem zg8 {α:Type}{ks:List (List Int)}{vs:List α}{x:List Int}{v:α}(h:jy ks vs x=some v):v∈vs:=by
 unfold jy at h
 cases hp:zV ks x with
 | none=>rw[hp]at h;cases h
 | some i=>rw[hp]at h;exact List.mem_of_getElem? h
theorem Zc:Y9 Tryz.prog 139=some (some 4,24):=by kernel_rfl
theorem zdJ (n:zF)(hn:n.small)(r:wK)(hr:r.atts.length≤1099511627776):zb Tryz.prog L 35 [n.av,r.av] (zaF (j0 n r)):=by
 refine zb.intro mixed [1] (nt:=106) Tryz.func35 rfl rfl (by simp) ?_
 refine Wk ?_
 refine yF.sem mixed [] ?_
 refine Wk ?_
 refine zW.za5 0 rfl rfl ?_
 refine zW.za5 1 rfl rfl ?_
 refine zE (ct:=[16]) mixed _ _ _ _ ?_
 refine Wk ?_
 refine cD (we L n hn) ?_
 refine Wk ?_
 refine zx.mk (fun h0=>?_) (fun h0=>?_)<;>(try rw[h0])
 ·have h0':yS n≠0:=by simpa using h0
  refine Wk ?_
  exact ze.mk rfl (za.of_eq (by rw[j0,if_neg h0'];rfl))
 have h0':yS n=0:=by simpa using h0
 repeat((conv=>whnf);first|refine sT ?_|rw[Zc])
 try(conv=>whnf)
 refine yF.sem mixed [] ?_
 refine Wk ?_
 refine zt.run mixed [13] (fun k:Nat=>k≤r.atts.length) (fun k=>bSl n r k) (fun k=>bSt (Wd n (r.atts.take k))) (fun k=>r.atts.length-k) 0 (by omega) ?_ ?_
 ·refine fN ?_<;>repeat' (first|exact fQ|refine And.intro ?_ ?_|exact yh.zj _|exact zn.zj _|exact za.int (by simp))
 rintro k hk
 have hok:=zd9 n (r.atts.take k)
 unfold bSt bSl
 refine Wk ?_
 refine zx.mk (fun hb=>?_) (fun hb=>?_)<;>try rw[hb]
 ·have hkt:k < r.atts.length:=by simpa using hb
  obtain⟨a,hga⟩:=zr hkt
  have hma:=zk (f:=y9.av) hga
  have hnext:Wd n (r.atts.take (k+1))=jG n (Wd n (r.atts.take k)) a:=by rw[zK hga,J5]
  obtain⟨b,hbb⟩:∃b,b=Wd n (r.atts.take k):=⟨_,rfl⟩
  rw[←hbb]at hok hnext ⊢
  have hidx:wb n a.cell.src a.cell.dst=va n a.key:=by rw[wb,if_pos h0'];rfl
  repeat((conv=>whnf);first|refine sJ ?_|refine aI (by first|exact zh hkt|kernel_rfl) ?_|rw[hma])
  try(conv=>whnf)
  refine cD (jn L n hn a.cell.src a.cell.dst) ?_
  rw[hidx]
  refine Wk ?_
  by_cases hlk:va n a.key < 0
  ·have hnb:jG n b a=b:=by rw[jG,if_pos (.inl hlk)]
   rw[hnb]at hnext
   rw[decide_eq_true hlk]
   refine Wk ?_
   refine⟨k+1,by omega,by omega,?_⟩
   rw[hnext]
   refine fN ?_<;>repeat' (first|exact fQ|refine And.intro ?_ ?_|exact y8.zj _|exact je.qY (fun _=>rfl) _|exact Zo hok _|exact Zn hok _|exact yh.zj _|exact zn.zj _|exact za.int (zu hkt (by omega)))
  rw[decide_eq_false hlk]
  cases hg:jy b.fk b.fv a.key with
  | some p=>
   have has:assoc b.fk (b.fv.map QV) a.key=some (QV p):=by rw[WG,hg];rfl
   have hnb:jG n b a=b:=by rw[jG,if_pos (.inr (by rw[hg];rfl))]
   rw[hnb]at hnext
   have hie:(List.map zM p.1).isEmpty=false:=by
    have:=(hok.ne p (zg8 hg)).1
    cases hp1:p.1 with
    | nil=>exact absurd hp1 this
    | cons _ _=>rfl
   repeat((conv=>whnf);first|refine sT ?_|rw[Zc]|(rw[XW has];rotate_left;rfl)|rw[hie])
   try(conv=>whnf)
   refine⟨k+1,by omega,by omega,?_⟩
   rw[hnext]
   refine fN ?_<;>repeat' (first|exact fQ|refine And.intro ?_ ?_|exact y8.zj _|exact je.qY (fun _=>rfl) _|exact Zo hok _|exact Zn hok _|exact yh.zj _|exact zn.zj _|exact za.int (zu hkt (by omega)))
  | none=>
   have has:assoc b.fk (b.fv.map QV) a.key=none:=by rw[WG,hg];rfl
   repeat((conv=>whnf);first|refine sT ?_|rw[Zc]|(rw[XW has];rotate_left;rfl))
   try(conv=>whnf)
   refine zx.mk (fun h1=>?_) (fun h1=>?_)<;>(try rw[h1])
   ·have h1':a.out=1:=by simpa using h1
    repeat((conv=>whnf);first|refine sT ?_|rw[Zc])
    try(conv=>whnf)
    refine⟨k+1,by omega,by omega,?_⟩
    have hnb:jG n b a={b with ks:=yu b.ks a.key,vs:=wT b.ks b.vs a.key none}:=by rw[jG,if_neg (fun h=>h.elim hlk (fun h=>by rw[hg]at h;cases h)),if_pos h1']
    have hok2:=hok.step a
    rw[←hnext]at hok2
    rw[hnb]at hnext
    rw[hnext]at hok2 ⊢
    refine fN ?_<;>repeat' (first|exact fQ|refine And.intro ?_ ?_|exact y8.zj _|exact je.qY (fun _=>rfl) _|exact Zo hok2 _|exact Zn hok2 _|exact yh.zj _|exact zn.zj _|exact za.int (zu hkt (by omega))|exact zn.of_eq (J3 zdu _ _ _ none))
   have h1':a.out≠1:=by simpa using h1
   obtain⟨p,hp⟩:∃p,p=ZI b.fr (b.row a.key) a.slot:=⟨_,rfl⟩
   repeat((conv=>whnf);first|refine sT ?_|rw[Zc])
   try(conv=>whnf)
   refine yF.Yg mixed [] ((8,.ptr 4 0) :: (9,.ptr 5 0) :: (10,.int .i64 (va n a.key)) :: bSl n r k) ⟨[.dead,.dead,.map (some 4) (yu b.ks a.key) ((wT b.ks b.vs a.key (some p)).map zdu),.map (some 4) b.fk (b.fv.map QV),.cells a.av.cells 141,.cells [.int .i64 a.cell.flow,.int .i64 a.frame,.int .i64 a.cell.src,.int .i64 a.cell.dst] 143],Wy b.fr (b.row a.key),0,0,fun _=>3⟩ (zE (ct:=[]) mixed _ _ _ _ ?_) ?_
   ·have hk1:=zff hok 6 a.key a.slot
    have hk2:=zfe hok 6 a.key
    rw[←hp]at hk1
    have hch:∀q,b.row a.key=some q→b.fr[q.2]? = some (q.1.length,1):=fun q hq=>by
     have hl0:0≤va n a.key:=by omega
     have:=hok.rw_ a.key hl0 (by rw[←hok.fo _ hl0,hg];rfl)
     rw[hq]at this
     exact this.2
    have hlen:∀q,b.row a.key=some q→q.1.length≤k:=fun q hq=>by
     have:=hok.rl _ q hq
     rw[List.length_take]at this;omega
    repeat((conv=>whnf);first|refine sT ?_|rw[Zc])
    try(conv=>whnf)
    intro stamp
    refine Vq.mk (fun i hi=>?_) (fun hi=>?_)
    ·have hi':zV b.ks a.key=some i:=hi
     obtain⟨v,hv⟩:=zr (l:=b.vs) (k:=i) (hok.l1▸V4 hi')
     have hrow:b.row a.key=v:=by simp only[BS.row,jy,hi',Option.bind_some,hv,Option.getD_some]
     have hks:b.ks=yu b.ks a.key:=by simp only[yu,hi']
     have hvs:wT b.ks b.vs a.key (some p)=b.vs.set i (some p):=by simp only[wT,hi']
     refine Vq.mk (fun u hu=>?_) (fun _=>trivial)
     rw[List.getElem?_map,hv,Option.map_some]at hu
     injection hu with hu
     subst hu
     rw[hvs,hrow]at hk1
     rw[hrow]at hk2 hp
     rw[hvs,←hks,hrow]
     cases v with
     | none=>
      repeat((conv=>whnf);first|refine sT ?_ )
      try(conv=>whnf)
      refine fN ?_<;>repeat' (first|exact fQ|refine And.intro ?_ ?_|exact y8.zj _|exact je.qY (fun c=>(wn (wn (fun _=>rfl)) c).symm) _|exact hk1|exact hk2|exact yh.zj _|exact zn.zj _|exact zn.of_eq (by rw[hp,List.map_set];rfl))
     | some q=>
      have hq:=hlen q hrow
      have hcq:=hch q hrow
      have hql:=(List.getElem?_eq_some_iff.1 hcq).1
      have hcq2:(b.fr++[(1,1)])[q.2]? = some ((List.map zM q.1).length,0+1):=by rw[List.getElem?_append_left hql,List.length_map];exact hcq
      repeat((conv=>whnf);first|refine sJ ?_|refine aI (by first|exact trivial|exact xF.map (f:=zM) (fun _=>⟨rfl,rfl⟩)|exact(show _*8≤_ by simp only[List.length_map,List.length_cons,List.length_nil];omega)|exact(by simp only[List.length_map,List.length_cons,List.length_nil,maxLen];omega)|exact hcq2|exact wn (fun _=>rfl) _|kernel_rfl) ?_ )
      try(conv=>whnf)
      have hff:y8 ((b.fr++[(1,1)]).set q.2 ((List.map zM q.1++[AV.int .i64 a.slot]).length,0+1)) (b.fr.set q.2 (q.1.length+1,1)):=by
       rw[List.length_append,List.length_map]
       exact y8.zku _ hql
      refine fN ?_<;>repeat' (first|exact fQ|refine And.intro ?_ ?_|exact hff|exact je.qY (fun c=>(wn (fun _=>rfl) c).symm) _|exact hk1|exact hk2|exact yh.zj _|exact zn.zj _|exact zn.of_eq (by rw[hp,List.map_set];show _=(List.map zdu b.vs).set i (.own ((q.1++[a.slot]).map zM) q.2);rw[List.map_append];rfl))
    ·have hi':zV b.ks a.key=none:=hi
     have hrow:b.row a.key=none:=by simp only[BS.row,jy,hi'];rfl
     have hks:b.ks++[a.key] = yu b.ks a.key:=by simp only[yu,hi']
     have hvs:wT b.ks b.vs a.key (some p)=b.vs++[some p]:=by simp only[wT,hi']
     rw[hvs,hrow]at hk1
     rw[hrow]at hk2 hp
     rw[hvs,←hks,hrow]
     repeat((conv=>whnf);first|refine sT ?_ )
     try(conv=>whnf)
     refine fN ?_<;>repeat' (first|exact fQ|refine And.intro ?_ ?_|exact y8.zj _|exact je.qY (fun c=>(wn (wn (fun _=>rfl)) c).symm) _|exact hk1|exact hk2|exact yh.zj _|exact zn.zj _|exact zn.of_eq (by rw[hp,List.map_append,List.set_append_right _ _ (by rw[List.length_map,hok.l1];exact Nat.le_refl _),hok.l1,List.length_map,Nat.sub_self];rfl))
   ·clear has
    have hl0:0≤va n a.key:=by omega
    obtain⟨i,l,e1,e2,_,_⟩:=jT (n:=n) (a:=a.cell.src) (b:=a.cell.dst) hl0
    have hil:=(List.getElem?_eq_some_iff.1 e2).1
    have hml:=zk (f:=yX.av) e2
    have hli:va n a.key=(i:Int):=e1
    have hlo:wi n a.key=l.loss:=by
     show Qi n a.cell.src a.cell.dst=_
     rw[Qi,e1,Int.toNat_natCast,e2]
    have has2:assoc (yu b.ks a.key) ((wT b.ks b.vs a.key (some p)).map zdu) a.key=some (QV p):=by rw[WG,zaw hok.l1,if_pos rfl];rfl
    rw[hli]
    repeat((conv=>whnf);first|refine sJ ?_|refine aI (by first|exact trivial|exact zh hil|kernel_rfl) ?_|rw[Zc]|(rw[XW has2];rotate_left;rfl)|rw[hml])
    try(conv=>whnf)
    rw[List.length_map]
    have hok2:=hok.step a
    rw[←hnext]at hok2
    have hnb:jG n b a=if l.loss < (p.1.length:Nat) then ⟨yu b.ks a.key,wT b.ks b.vs a.key (some p),yu b.fk a.key,wT b.fk b.fv a.key p,Wy b.fr (b.row a.key)⟩ else ⟨yu b.ks a.key,wT b.ks b.vs a.key (some p),b.fk,b.fv,Wy b.fr (b.row a.key)⟩:=by
     rw[jG,if_neg (fun h=>h.elim hlk (fun h=>by rw[hg]at h;cases h)),if_neg h1',←hp,hlo]
    rw[hnb]at hnext
    by_cases hgt:l.loss < (p.1.length:Nat)
    ·rw[if_pos hgt]at hnext
     rw[hnext]at hok2
     rw[decide_eq_true hgt]
     repeat((conv=>whnf);first|refine sT ?_|rw[Zc]|(rw[XW has2];rotate_left;rfl))
     try(conv=>whnf)
     refine⟨k+1,by omega,by omega,?_⟩
     rw[hnext]
     refine fN ?_<;>repeat' (first|exact fQ|refine And.intro ?_ ?_|exact y8.zj _|exact je.qY (fun _=>rfl) _|exact Zo hok2 _|exact Zn hok2 _|exact yh.zj _|exact zn.zj _|exact za.int (zu hkt (by omega))|exact zn.of_eq (J3 QV _ _ _ p))
    ·rw[if_neg hgt]at hnext
     rw[hnext]at hok2
     rw[decide_eq_false hgt]
     refine Wk ?_
     refine⟨k+1,by omega,by omega,?_⟩
     rw[hnext]
     refine fN ?_<;>repeat' (first|exact fQ|refine And.intro ?_ ?_|exact y8.zj _|exact je.qY (fun _=>rfl) _|exact Zo hok2 _|exact Zn hok2 _|exact yh.zj _|exact zn.zj _|exact za.int (zu hkt (by omega)))
 ·have hkn:k=r.atts.length:=by simp at hb;omega
  subst hkn
  rw[List.take_length]at hok ⊢
  have hbr:j0 n r=Xo n r.atts r.atts.length:=by rw[j0,if_pos h0']
  have hfin:=fun ds=>zja (n:=n) (ats:=r.atts) (ds:=ds)
  have hfl:=hok.fl
  rw[hbr]
  obtain⟨b,hbb⟩:∃b,b=Wd n r.atts:=⟨_,rfl⟩
  rw[←hbb]at hok hfl hfin ⊢
  refine Wk ?_
  refine zW.zjo 3 rfl (zb5 _) ?_
  refine zW.weak (l:=[(6,.cmp (some 4) b.fk (b.fv.map zfB))]) (S1:=⟨[.dead],[],0,0,fun _=>0⟩) ?_ ?_
  ·refine fN ?_<;>repeat' (first|exact fQ|refine And.intro ?_ ?_|exact y8.nil _)
  refine zE (ct:=[21]) mixed _ _ _ _ ?_
  refine Wk ?_
  refine yF.sem mixed [] ?_
  refine Wk ?_
  refine zt.runR mixed [] (fun s:List Nat×Nat=>s.1.Nodup∧∀i∈s.1,i < b.fk.length) (fun s=>[(11,if s.1=[] then .grown .nils 0 else .vsl 2 0 s.1.length 5),(84,.ptr 1 0)]) (fun s=>⟨[.dead,.iter (some 4) b.fk (b.fv.map zfB) s.1]++(if s.1=[] then [] else [.cells (zd ((Xq b s.1).map xL.av)++List.replicate (s.2*5) .undef) 86]),[],0,0,fun _=>0⟩) (fun s=>b.fk.length-s.1.length) ([],0) ⟨.nil,by simp⟩ ?_ ?_
  ·refine fN ?_<;>repeat' (first|exact fQ|refine And.intro ?_ ?_|exact y8.nil _|exact za.zjk)
  rintro⟨seen,d⟩ ⟨hnd,hlt⟩
  dsimp only at hnd hlt ⊢
  refine Wk ?_
  refine⟨fun i kk v hi hkk hv=>?_,fun hall=>?_⟩
  ·rw[List.getElem?_map]at hv
   cases hp:b.fv[i]? with
   | none=>rw[hp]at hv;cases hv
   | some p=>
   rw[hp]at hv
   injection hv with hv
   subst hv
   obtain⟨a,ha,rfl,hlk⟩:=hok.from_ kk (List.mem_of_getElem? hkk)
   have hif:=(List.getElem?_eq_some_iff.1 hkk).1
   have hsn:=zfd b seen hkk hp
   have hnd2:(seen++[i]).Nodup:=List.nodup_append.2 ⟨hnd,by simp,fun x hx y hy=>by simp at hy;subst hy;exact fun e=>hi (e▸hx)⟩
   have hlt2:∀j∈seen++[i],j < b.fk.length:=fun j hj=>by
    rcases List.mem_append.1 hj with hj|hj
    ·exact hlt j hj
    ·simp at hj;subst hj;exact hif
   have hsl:=Kf hnd2 hlt2
   rw[List.length_append,List.length_singleton]at hsl
   have hgl:(seen++[i]).getLast? = some i:=by simp
   have hvv:(b.fv.map zfB)[i]? = some (zfB p):=by rw[List.getElem?_map,hp];rfl
   by_cases hs:seen=[]
   ·rw[if_pos hs,if_pos hs]
    have hout:Xq b seen=[]:=by rw[hs];rfl
    rw[hout]at hsn
    have hne2:seen++[i]≠[]:=by simp
    have hl1:(seen++[i]).length=1:=by rw[hs];rfl
    repeat((conv=>whnf);first|refine sT ?_|rw[hgl]|rw[hkk]|rw[hvv]|refine And.intro ⟨rfl,xF.zgf rfl,Nat.succ_pos _,Nat.le_of_ble_eq_true rfl,Nat.le_of_ble_eq_true rfl⟩ ?_)
    try(conv=>whnf)
    intro d2
    refine Wk ?_
    refine⟨(seen++[i],d2),swp 2 3,⟨hnd2,hlt2⟩,by dsimp only;rw[hl1,hs];simp;omega,?_⟩
    dsimp only
    rw[if_neg hne2,if_neg hne2,hsn,hl1]
    refine Jr.mk' rfl rfl rfl rfl rfl rfl ?_ ?_ ?_ ?_ ?_<;>repeat' (first|exact trivial|exact y8.nil _|exact xc (ZH.okk _ _ _) (xq _ _ _)|exact zn.of_eq (by rw[ZH.ren];rfl)|refine And.intro ?_ ?_|exact zn.of_eq rfl|exact za.of_eq rfl|exact zfh rfl|rfl)
   ·rw[if_neg hs,if_neg hs]
    have hne2:seen++[i]≠[]:=by simp
    have hol:=zbF b seen
    have hfl5:=ZH.flen (Xq b seen)
    repeat((conv=>whnf);first|refine sT ?_|rw[hgl]|rw[hkk]|rw[hvv])
    try(conv=>whnf)
    refine And.intro ⟨rfl,rfl,xF.zgf rfl,Nat.succ_pos _,(show(_+1)*56≤_ by omega),(show _+1≤maxLen by simp only[maxLen];omega),(by rw[List.length_append,hfl5,hol];exact Nat.le_add_right _ _)⟩ ?_
    refine zdR.mk (fun hroom=>?_) (fun _=>?_)
    ·refine Wk ?_
     refine⟨(seen++[i],d-1),swp 2 2,⟨hnd2,hlt2⟩,by dsimp only;rw[List.length_append,List.length_singleton];omega,?_⟩
     dsimp only
     rw[if_neg hne2,if_neg hne2,hsn,List.length_append,List.length_singleton]
     rw[List.length_append,hfl5,hol]at hroom
     have hpush:=ZH.push (Xq b seen) (xL.of a.key p.1) d (by rw[List.length_append,hfl5,hol];exact hroom)
     rw[hol]at hpush
     refine Jr.mk' rfl rfl rfl rfl rfl rfl ?_ ?_ ?_ ?_ ?_<;>repeat' (first|exact trivial|exact y8.nil _|exact xc (ZH.okk _ _ _) (xq _ _ _)|exact zn.of_eq (by rw[ZH.ren,←hpush];rfl)|refine And.intro ?_ ?_|exact zn.of_eq rfl|exact za.of_eq rfl|exact zfh rfl|rfl)
    ·intro d2
     refine Wk ?_
     refine⟨(seen++[i],d2),swp 2 4,⟨hnd2,hlt2⟩,by dsimp only;rw[List.length_append,List.length_singleton];omega,?_⟩
     dsimp only
     rw[if_neg hne2,if_neg hne2,hsn,List.length_append,List.length_singleton]
     have hcut:=ZH.cut (Xq b seen) (List.replicate (d*5) .undef)
     rw[hol]at hcut
     refine Jr.mk' rfl rfl rfl rfl rfl rfl ?_ ?_ ?_ ?_ ?_<;>repeat' (first|exact trivial|exact y8.nil _|exact xc (ZH.okk _ _ _) (xq _ _ _)|exact zn.of_eq (by rw[ZH.ren,←YS];show List.take (seen.length*5) _++_++_=_;rw[hcut];rfl)|refine And.intro ?_ ?_|exact zn.of_eq rfl|exact za.of_eq rfl|exact zfh rfl|rfl)
  ·have hall':∀j,j < b.fk.length→j∈seen:=hall
   have hperm:=zgE hok.l2 hnd hlt hall'
   by_cases hs:seen=[]
   ·rw[if_pos hs,if_pos hs]
    rw[hs]at hperm
    have hfe:=hfin [] hperm .nil
    refine Wk ?_
    refine zW.weak (l:=[(11,.nils)]) (S1:=⟨[],[],0,0,fun _=>0⟩) ?_ ?_
    ·refine fN ?_<;>repeat' (first|exact fQ|refine And.intro ?_ ?_|exact y8.nil _|exact za.zkC)
    refine zE (ct:=[]) mixed _ _ _ _ ?_
    refine Wk ?_
    refine zo.inl rfl (zQ.zhU zbW ?_)
    refine Wk ?_
    exact ze.mk rfl (za.of_eq (by rw[←hfe];rfl))
   ·rw[if_neg hs,if_neg hs]
    have hol:=zbF b seen
    have hsl:=Kf hnd hlt
    refine Wk ?_
    refine zW.weak (l:=[(11,.vsl 2 0 seen.length 5)]) (S1:=⟨[.dead,.dead,.cells (zd ((Xq b seen).map xL.av)++List.replicate (d*5) .undef) 86],[],0,0,fun _=>0⟩) ?_ ?_
    ·refine fN ?_<;>repeat' (first|exact fQ|refine And.intro ?_ ?_|exact y8.nil _|exact xc (ZH.okk _ _ _) (xq _ _ _)|exact zn.zj _)
    refine zE (ct:=[]) mixed _ _ _ _ ?_
    refine Wk ?_
    rw[←hol]
    refine zo.inl rfl (ziA rfl (by omega) fun ds hds hso=>?_)
    have hfe:=hfin ds (hds.trans hperm) hso
    refine Wk ?_
    exact ze.mk (ZH.fzb rfl hds.length_eq) (za.of_eq (by rw[hfe];rfl))
end
end HM
