/- What can follow a set, how many orders there are: the program. -/
import Derived.Test.YtckcedndijobaaaGreatDoorS305
import Derived.Test.YtckcedndijobaaaGreatDoorS251
import Derived.Test.YtckcedndijobaaaGreatDoorDe
set_option maxHeartbeats 64000000
set_option maxRecDepth 100000
namespace HM
open Go Go.RowKit Go.Proofs
theorem i_full (L:World→Prop){n:Net}{before after:List Req}{s t:Sched}(hm:stO s t≤12){S:St}(hI:OJ n before after s t S){K:AV→St→Prop}(hK:∀S',S'.bx=S.bx→S'.fr=S.fr→S'.ty=S.ty→K (.int .i64 ((2 ^ stO s t-1:Nat):Int)) S') :
  ICall Tryz.prog L 36 [.ptr 8 0] S K:=by
 refine ICall.intro mixed [] (nt:=10) Tryz.func36 rfl rfl (by simp) ?_
 have hP:S.inner.bx[8]? = some (.cells (prC n s (bothM before after) (stayO before after) (stepsL s t) 6 7) 76):=hI.p
 have hsh:=shlN (i:=stO s t) (by omega)
 have htw:=two_le (i:=stO s t) (by omega)
 have hsb:=sub_one (stO s t)
 have hw:IntKind.i64.wrap (((2 ^ stO s t:Nat):Int)-1)=((2 ^ stO s t-1:Nat):Int):=by rw[hsb,w64 (by omega) (by omega)]
 repeat((conv=>whnf);first|refine sJ ?_|refine aI (by first|exact trivial|exact(show(0:Int)≤_ by omega)|kernel_rfl) ?_|rw[hP]|rw[List.length_map]|rw[hsh]|rw[hw])
 try(conv=>whnf)
 exact hK _ rfl rfl rfl
def nxtI (n:Net)(before after:List Req)(s t:Sched)(S S3:St):Prop:=OJ n before after s t S3∧Kp2 6 7 S S3
theorem i_next (n:Net)(hn:n.small)(before after:List Req)(hx1:∀x∈before,x.small)(hx2:∀x∈after,x.small)(s t:Sched)(hs:s.cells.length≤400)(ho:openO n before after s t=0)(T:Nat)(hT:T < 2 ^ stO s t)(S:St)(hI:OJ n before after s t S){K:AV→St→Prop}
  (hK:∀S',OJ n before after s t S'→Kp2 6 7 S S'→K (encIs ((nextM (stO s t) (cnO n before after s t) T).map fun i:Nat=>(i:Int))) S') :
  ICall Tryz.prog LW 37 [.ptr 8 0,.int .i64 T] S K:=by
 refine ICall.intro mixed [8] (nt:=34) Tryz.func37 rfl rfl (by simp) ?_
 have hop:=opn_ok ho
 have hm13:stO s t≤12:=hop.few
 have htw:=two_le (i:=stO s t) (by omega)
 have hP:S.inner.bx[8]? = some (.cells (prC n s (bothM before after) (stayO before after) (stepsL s t) 6 7) 76):=hI.p
 obtain⟨can,hcan⟩:∃can,can=cnO n before after s t:=⟨_,rfl⟩
 rw[←hcan]at hK
 obtain⟨nv,hnv⟩:∃nv:Nat→List AV,nv=fun k=>((nxtK can T k).map fun i:Nat=>(i:Int)).map encI:=⟨_,rfl⟩
 have hnl:∀k,(nv k).length=(nxtK can T k).length:=fun k=>by rw[hnv];simp
 have hn0:nv 0=[]:=by rw[hnv];rfl
 repeat((conv=>whnf);first|refine sT ?_|rw[hP]|rw[List.length_map])
 try(conv=>whnf)
 refine SeqK.cutN mixed [] [] (fun (_:Unit) (S3:St)=>nxtI n before after s t S S3) (fun _=>[(5,.sl false (nv (stO s t)))]) ?_ ?_
 rotate_left
 ·rintro⟨⟩ S3 ⟨h1,h2⟩
  refine Wk ?_
  have hr:=hK _ (h1.same (S':=S3.outer S) rfl) (h2.same rfl rfl rfl)
  rw[hnv]
  exact hr
 repeat((conv=>whnf);first|refine sT ?_|rw[hP]|rw[List.length_map])
 try(conv=>whnf)
 refine LoopK.born 5 1 3 rfl ?_
 obtain⟨ch,hch⟩:∃ch,ch=S.inner.fr.length:=⟨_,rfl⟩
 have hchl:S.fr.length≤ch:=by rw[hch];exact Nat.le_refl _
 refine LoopK.runS mixed [] (fun (k:Nat) (S3:St)=>k≤stO s t∧nxtI n before after s t S S3∧S3.fr[ch]? = some ((nv k).length,1)∧S3.ty ch=3) (fun k=>[(0,.ptr 8 0),(1,.int .i64 T),(5,.own (nv k) ch),(11,.int .i64 (stO s t)),(12,.int .i64 k)]) (fun k=>stO s t-k) 0 ⟨by omega,⟨hI.same rfl,(((Kp2.refl 6 7 S).same (S2:=S.inner) rfl rfl rfl).addF _ _)⟩,?_,?_⟩ ?_ ?_
 ·rw[hch,hn0];exact St.addF_get _ _ _
 ·rw[hch];exact St.addF_tyn _ _ _
 ·exact⟨Sees.of_eq rfl,Sees.of_eq rfl,Sees.of_eq (by rw[hn0,hch];rfl),Sees.of_eq rfl,Sees.of_eq rfl,trivial⟩
 rintro k S3 ⟨hk,⟨hI3,hK3⟩,hf3,ht3⟩
 by_cases hkt:k < stO s t
 rotate_left
 ·have hkn:k=stO s t:=by omega
  subst hkn
  have gk:decide ((stO s t:Int) < (stO s t:Int))=false:=decide_eq_false (by omega)
  repeat((conv=>whnf);first|refine sT ?_|rw[gk])
  try(conv=>whnf)
  exact⟨(),⟨hI3,hK3⟩,Sees.elems rfl,trivial⟩
 have gk:decide ((k:Int) < (stO s t:Int))=true:=decide_eq_true (by omega)
 have hsr:=shr_and (m:=(T:Int)) (k:=k) (by omega) (by omega) (by omega)
 have hbq:=bit_eq0 (S:=T) (k:=k)
 have hsh:=shlN (i:=k) (by omega)
 have htk:=two_le (i:=k) (by omega)
 have hor:=or64 (a:=T) (b:=2 ^ k) (by omega) (by omega)
 have hnk:=nxtK_len (can:=can) T k
 have hnlk:=hnl k
 cases hbit:bitB T k with
 | true=>
  rw[hbit]at hbq
  have hnx:nv (k+1)=nv k:=by rw[hnv];simp only;rw[nxtK_no (by rw[hbit];rfl)]
  repeat((conv=>whnf);first|refine sJ ?_|refine aI (by first|exact trivial|exact(show(0:Int)≤_ by omega)|kernel_rfl) ?_|rw[gk]|rw[hsr]|rw[hbq])
  try(conv=>whnf)
  exact⟨k+1,⟨by omega,⟨hI3,hK3⟩,by rw[hnx];exact hf3,ht3⟩,by omega,Sees.of_eq rfl,Sees.of_eq rfl,Sees.of_eq (by rw[hnx];rfl),Sees.of_eq rfl,Sees.int (succI hkt (by omega)),trivial⟩
 | false=>
  rw[hbit]at hbq
  repeat((conv=>whnf);first|refine sJ ?_|refine aI (by first|exact trivial|exact(show(0:Int)≤_ by omega)|kernel_rfl) ?_|rw[gk]|rw[hsr]|rw[hbq]|rw[hsh]|rw[hor])
  try(conv=>whnf)
  refine CallK.inl rfl (i_can n hn before after hx1 hx2 s t hs ho (T ||| 2 ^ k) (or_lt hT hkt) S3 hI3 fun S4 hI4 hK4=>?_)
  rw[←hcan]
  obtain⟨hf4,ht4⟩:=hK4.fr ch _ hf3
  have ht4':S4.ty ch=3:=ht4.trans ht3
  cases hc:can (T ||| 2 ^ k) with
  | false=>
   have hnx:nv (k+1)=nv k:=by rw[hnv];simp only;rw[nxtK_no (by rw[hbit,hc];rfl)]
   refine Wk ?_
   exact⟨k+1,⟨by omega,⟨hI4,hK3.trans hK4⟩,by rw[hnx];exact hf4,ht4'⟩,by omega,Sees.of_eq rfl,Sees.of_eq rfl,Sees.of_eq (by rw[hnx];rfl),Sees.of_eq rfl,Sees.int (succI hkt (by omega)),trivial⟩
  | true=>
   have hnx:nv (k+1)=nv k++[.int .i64 k]:=by rw[hnv];simp only;rw[nxtK_yes hbit hc,List.map_append,List.map_append];rfl
   have hel:Els (0+1) (nv k):=by rw[hnv];exact Els.map (f:=encI) (fun _=>⟨rfl,rfl⟩)
   repeat((conv=>whnf);first|refine sJ ?_|refine aI (by first|exact trivial|exact hel|exact Els.of_b rfl|exact(show((nv k).length+1)*8≤_ by omega)|exact(show(nv k).length+1≤maxLen by unfold maxLen;omega)|exact St.addF_old hf4|exact(St.addF_tyo hf4).trans ht4'|kernel_rfl) ?_ )
   try(conv=>whnf)
   refine⟨k+1,⟨by omega,⟨hI4.same rfl,((hK3.trans hK4).addF _ _).setFN hchl _⟩,?_,?_⟩,by omega,Sees.of_eq rfl,Sees.of_eq rfl,Sees.of_eq (by rw[hnx];rfl),Sees.of_eq rfl,Sees.int (succI hkt (by omega)),trivial⟩
   ·rw[hnx]
    exact(St.setF_get (St.addF_old hf4)).trans (by rw[List.length_append])
   ·exact(St.addF_tyo (x:=(1,1)) hf4).trans ht4'
theorem i_count (n:Net)(hn:n.small)(before after:List Req)(hx1:∀x∈before,x.small)(hx2:∀x∈after,x.small)(s t:Sched)(hs:s.cells.length≤400)(ho:openO n before after s t=0):∀(u T:Nat) (_:unM (stO s t) T=u) (_:T < 2 ^ stO s t) (S:St) (_:OJ n before after s t S) (K:AV→St→Prop)
  (_:∀S',OJ n before after s t S'→Kp2 6 7 S S'→K (.int .i64 (cntO (stO s t) (cnO n before after s t) T)) S'),
  ICall Tryz.prog LW 35 [.ptr 8 0,.int .i64 T] S K:=by
 have hop:=opn_ok ho
 have hm13:stO s t≤12:=hop.few
 have htw:=two_le (i:=stO s t) (by omega)
 intro u
 induction u using Nat.strongRecOn with
 | ind u ih=>
 intro T hu hT S hI K hK
 refine ICall.intro mixed [] (nt:=49) Tryz.func35 rfl rfl (by simp) ?_
 refine Wk ?_
 refine CallK.inl rfl (i_full LW hm13 (S:=S.inner) (hI.same rfl) fun S1 e1 e2 e3=>?_)
 have hI1:OJ n before after s t S1:=hI.same e1
 have hK1:Kp2 6 7 S S1:=(Kp2.refl 6 7 S).same e1 e2 e3
 by_cases hfull:T=2 ^ stO s t-1
 ·have g:(((T:Nat):Int)==((2 ^ stO s t-1:Nat):Int))=true:=by rw[hfull];simp
  have hc1:cntO (stO s t) (cnO n before after s t) T=1:=by rw[hfull];unfold cntO;rw[cmpO_full];rfl
  rw[hc1]at hK
  repeat((conv=>whnf);first|refine sT ?_|rw[g])
  try(conv=>whnf)
  exact hK _ (hI1.same rfl) (hK1.same rfl rfl rfl)
 have g:(((T:Nat):Int)==((2 ^ stO s t-1:Nat):Int))=false:=by
  rw[beq_eq_false_iff_ne]
  intro e
  exact hfull (Int.ofNat_inj.1 e)
 obtain⟨ks,vs,hB7,hmem⟩:=hI1.m2
 have hP1:=hI1.p
 have hoL:∀v,v=.mp 7→mapOfL S1 none v=some (ks,vs.map encI):=fun v hv=>mapOfL_at hB7 hv
 cases hg:getK ks vs [(T:Int)] with
 | some v=>
  have has:assoc ks (vs.map encI) [(T:Int)] = some (encI v):=by rw[assocI,hg];rfl
  have hv:=hmem.ok T v hg
  repeat((conv=>whnf);first|refine sT ?_|rw[g]|rw[hP1]|(rw[hoL];rotate_left;rfl)|(rw[assoc_at has];rotate_left;rfl))
  try(conv=>whnf)
  rw[hv]
  exact hK _ (hI1.same rfl) (hK1.same rfl rfl rfl)
 | none=>
 have has:assoc ks (vs.map encI) [(T:Int)] = none:=by rw[assocI,hg];rfl
 repeat((conv=>whnf);first|refine sT ?_|rw[g]|rw[hP1]|(rw[hoL];rotate_left;rfl)|(rw[assoc_at has];rotate_left;rfl))
 try(conv=>whnf)
 refine CallK.inl rfl (i_next n hn before after hx1 hx2 s t hs ho T hT S1 hI1 fun S2 hI2 hK2=>?_)
 have hK12:=hK1.trans hK2
 obtain⟨can,hcan⟩:∃can,can=cnO n before after s t:=⟨_,rfl⟩
 obtain⟨l,hl⟩:∃l,l=nextM (stO s t) can T:=⟨_,rfl⟩
 have hll:l.length≤12:=by rw[hl];have:=next_un (m:=stO s t) (can:=can) T;have:=un_le (stO s t) T;omega
 rw[←hcan,←hl]
 rw[←hcan]at hK ih
 have hcl:=cnt_le (can:=can) hm13 T
 have hsl:=fun k=>sumK_le (can:=can) hfull k
 repeat((conv=>whnf);first|refine sT ?_ )
 try(conv=>whnf)
 refine LoopK.runS mixed [] (fun (j:Nat) (S3:St)=>j≤l.length∧nxtI n before after s t S S3) (fun j=>[(0,.ptr 8 0),(1,.int .i64 T),(7,.int .i64 (sumK (stO s t) can T j)),(27,encIs (l.map fun i:Nat=>(i:Int))),(28,.int .i64 l.length),(29,.int .i64 j)]) (fun j=>l.length-j) 0 ⟨by omega,hI2,hK12⟩ ?_ ?_
 ·exact⟨Sees.of_eq rfl,Sees.of_eq rfl,Sees.of_eq rfl,Sees.of_eq rfl,Sees.int (by simp),Sees.of_eq rfl,trivial⟩
 rintro j S3 ⟨hj,hI3,hK3⟩
 by_cases hjl:j < l.length
 rotate_left
 ·have hjn:j=l.length:=by omega
  subst hjn
  have gj:decide ((l.length:Int) < (l.length:Int))=false:=decide_eq_false (by omega)
  obtain⟨ks3,vs3,hB37,hm3⟩:=hI3.m2
  have hmo:=mapOf_at (sh:=none) hB37
  have hP3:=hI3.p
  have hsum:sumK (stO s t) can T l.length=cntO (stO s t) can T:=sumK_all hfull (by rw[hl];exact Nat.le_refl _)
  repeat((conv=>whnf);first|refine sT ?_|rw[gj]|rw[hP3]|rw[hmo])
  try(conv=>whnf)
  rw[hsum]
  have hset:=hI3.setW (hm3.put' (S:=T) (v:=(cntO (stO s t) can T:Int)) (by rw[hcan]))
  rw[←setVs_map encI]at hset
  exact hK _ (hset.same rfl) ((hK3.setZ _).same rfl rfl rfl)
 have gj:decide ((j:Int) < (l.length:Int))=true:=decide_eq_true (by omega)
 obtain⟨i,hgi⟩:=getLt hjl
 have hmi:=getMap (f:=encI) (show(l.map fun i:Nat=>(i:Int))[j]? = some (i:Int) by rw[List.getElem?_map,hgi];rfl)
 have him:i∈nextM (stO s t) can T:=by rw[←hl];exact List.mem_of_getElem? hgi
 obtain⟨him1,hib,_⟩:=nextM_mem.1 him
 have hss:=sumK_succ (m:=stO s t) (can:=can) (S:=T) (k:=j) (i:=i) (by rw[←hl];exact hgi)
 have hsle:=hsl (j+1)
 have hsh:=shlN (i:=i) (by omega)
 have htk:=two_le (i:=i) (by omega)
 have hor:=or64 (a:=T) (b:=2 ^ i) (by omega) (by omega)
 have hun:=un_step him1 hib
 repeat((conv=>whnf);first|refine sJ ?_|refine aI (by first|exact trivial|exact inbMap (f:=encI) (show j < (l.map fun i:Nat=>(i:Int)).length by rw[List.length_map];exact hjl)|exact(show(0:Int)≤_ by omega)|kernel_rfl) ?_|rw[gj]|rw[hmi]|rw[hsh]|rw[hor])
 try(conv=>whnf)
 refine CallK.inl rfl ?_
 refine ih (unM (stO s t) (T ||| 2 ^ i)) (by omega) (T ||| 2 ^ i) rfl (or_lt hT him1) S3 hI3 _ fun S4 hI4 hK4=>?_
 refine Wk ?_
 refine⟨j+1,⟨by omega,hI4,hK3.trans hK4⟩,by omega,Sees.of_eq rfl,Sees.of_eq rfl,Sees.int ?_,Sees.of_eq rfl,Sees.of_eq rfl,Sees.int (succI hjl (by omega)),trivial⟩
 rw[hss]at hsle ⊢
 rw[w64 (by omega) (by omega)]
 omega
theorem OJ.start {n:Net}{before after:List Req}{s t:Sched}{S:St}(h8:S.bx[8]? = some (.cells (prC n s (bothM before after) (stayO before after) (stepsL s t) 6 7) 76))(h6:S.bx[6]? = some (.map none [] []))(h7:S.bx[7]? = some (.map none [] [])):OJ n before after s t S:=
 ⟨h8,⟨[],[],h6,MemO.nil⟩,⟨[],[],h7,MemO.nil⟩,by decide⟩
theorem c_CountO (n:Net)(hn:n.small)(before after:List Req)(hq1:before.length≤1000)(hq2:after.length≤1000)(hx1:∀x∈before,x.small)(hx2:∀x∈after,x.small)(s t:Sched)(hs:s.cells.length≤400)(ht:t.cells.length≤400) :
  PCall Tryz.prog LW 17 [n.av,encReqs before,encReqs after,s.av,t.av] (.tup [.int .i64 (countO n before after s t).1,.int .i64 (countO n before after s t).2]):=by
 refine PCall.intro mixed [] (nt:=28) Tryz.func17 rfl rfl (by simp) ?_
 refine Wk ?_
 refine CallK.inl rfl (i_open n hn before after hq1 hq2 hx1 hx2 s t (by omega) (by omega) _ _ _ _ _ _ (fun S' hne=>?_) (fun S' h0 h8 h6 h7=>?_))
 ·have g:(openO n before after s t != 0)=true:=by simpa using hne
  repeat((conv=>whnf);first|refine sT ?_|rw[g])
  try(conv=>whnf)
  exact resP.mk rfl (Sees.of_eq (by unfold countO;rw[if_pos hne]))
 ·have hpos:=Nat.two_pow_pos (stO s t)
  repeat((conv=>whnf);first|refine sT ?_ )
  try(conv=>whnf)
  refine CallK.inl rfl ?_
  refine i_count n hn before after hx1 hx2 s t hs h0 _ 0 rfl hpos S' (OJ.start h8 h6 h7) _ fun S2 hI2 hK2=>?_
  refine Wk ?_
  exact resP.mk rfl (Sees.of_eq (by unfold countO;rw[if_neg (by omega)]))
theorem c_fullO (L:World→Prop)(n:Net)(s:Sched)(fl:List Flow)(st:List Req)(LL:List Chg)(hm:LL.length≤12)(u v:AV):PCall Tryz.prog L 36 [.cptr (.agg (prA n s fl st LL u v)) 0] (.int .i64 ((2 ^ LL.length-1:Nat):Int)):=by
 refine PCall.intro mixed [] (nt:=10) Tryz.func36 rfl rfl (by simp) ?_
 have hsh:=shlN (i:=LL.length) (by omega)
 have htw:=two_le (i:=LL.length) (by omega)
 have hsb:=sub_one LL.length
 have hw:IntKind.i64.wrap (((2 ^ LL.length:Nat):Int)-1)=((2 ^ LL.length-1:Nat):Int):=by rw[hsb,w64 (by omega) (by omega)]
 repeat((conv=>whnf);first|refine sJ ?_|refine aI (by first|exact trivial|exact(show(0:Int)≤_ by omega)|kernel_rfl) ?_|rw[List.length_map]|rw[hsh]|rw[hw])
 try(conv=>whnf)
 exact resP.mk rfl (Sees.int rfl)
theorem OJ.fzp {n:Net}{before after:List Req}{s t:Sched}{S:St}(h:OJ n before after s t S):∃u v:AV,fzN S 1 (.ptr 8 0)=some (.cptr (.agg (prA n s (bothM before after) (stayO before after) (stepsL s t) u v)) 0):=by
 obtain⟨k1,v1,e1,g1⟩:=h.m1
 obtain⟨k2,v2,e2,g2⟩:=h.m2
 exact⟨_,_,fz_pr h.p (fzb_mp e1 (fzs_bool v1)) (fzb_mp e2 (fzs_encI v2))⟩
theorem OJ.cells {n:Net}{before after:List Req}{s t:Sched}{S S':St}(h:OJ n before after s t S)(hk:Kp2 6 7 S S'){b:Nat}{cs:List AV}{ty:TypeId}(hb:S.bx[b]? = some (.cells cs ty)):S'.bx[b]? = some (.cells cs ty):=by
 obtain⟨k1,v1,e1,_⟩:=h.m1
 obtain⟨k2,v2,e2,_⟩:=h.m2
 exact hk.bx b _ (ne_cm hb e1) (ne_cm hb e2) hb
theorem i_idxFind (n:Net)(hn:n.small)(before after:List Req)(hx1:∀x∈before,x.small)(hx2:∀x∈after,x.small)(s t:Sched)(hs:s.cells.length≤400)(ho:openO n before after s t=0)(T:Nat)(hT:T < 2 ^ stO s t)(S:St)(hI:OJ n before after s t S)(A D:Nat)(hA:S.bx[A]? = some (.cells [.ptr 8 0] 64))(hD:S.bx[D]? = some (.cells [.int .i64 T] 3))(l:List Nat)(hl:l=nextM (stO s t) (cnO n before after s t) T){K:AV→St→Prop}
  (hK:∀S',OJ n before after s t S'→Kp2 6 7 S S'→K (.int .i64 (idxF (fun i:Nat=>decide (0 < cntO (stO s t) (cnO n before after s t) (T ||| 2 ^ i))) l)) S') :
  ICall Tryz.prog LW 38 [encIs (l.map fun i:Nat=>(i:Int)),.fn 39 [.ptr A 0,.ptr D 0]] S K:=by
 have hop:=opn_ok ho
 have hm13:stO s t≤12:=hop.few
 have htw:=two_le (i:=stO s t) (by omega)
 obtain⟨can,hcan⟩:∃can,can=cnO n before after s t:=⟨_,rfl⟩
 have hct:=i_count n hn before after hx1 hx2 s t hs ho
 rw[←hcan]at hl hK hct
 have hll:l.length≤12:=by rw[hl];have:=next_un (m:=stO s t) (can:=can) T;have:=un_le (stO s t) T;omega
 obtain⟨pr,hpr⟩:∃pr:Nat→Bool,pr=fun i=>decide (0 < cntO (stO s t) can (T ||| 2 ^ i)):=⟨_,rfl⟩
 rw[←hpr]at hK
 refine ICall.intro mixed [] (nt:=19) Tryz.func38 rfl rfl (by simp) ?_
 repeat((conv=>whnf);first|refine sT ?_|rw[List.length_map]|rw[List.length_map])
 try(conv=>whnf)
 refine LoopK.runS mixed [] (fun (j:Nat) (S3:St)=>j≤l.length∧nxtI n before after s t S S3∧∀i x,i < j→l[i]? = some x→pr x=false) (fun j=>[(0,encIs (l.map fun i:Nat=>(i:Int))),(1,.fn 39 [.ptr A 0,.ptr D 0]),(7,.int .i64 l.length),(8,.int .i64 j)]) (fun j=>l.length-j) 0 ⟨by omega,⟨hI.same rfl,(Kp2.refl 6 7 S).same rfl rfl rfl⟩,by omega⟩ ?_ ?_
 ·exact⟨Sees.of_eq rfl,Sees.of_eq rfl,Sees.int (by simp),Sees.of_eq rfl,trivial⟩
 rintro j S3 ⟨hj,⟨hI3,hK3⟩,hinv⟩
 by_cases hjl:j < l.length
 rotate_left
 ·have hjn:j=l.length:=by omega
  subst hjn
  have gj:decide ((l.length:Int) < (l.length:Int))=false:=decide_eq_false (by omega)
  repeat((conv=>whnf);first|refine sT ?_|rw[gj])
  try(conv=>whnf)
  have hr:=hK (S3.outer S) (hI3.same rfl) (hK3.same rfl rfl rfl)
  rw[idxF_none fun i x hi hx=>hinv i x hi hx]at hr
  exact hr
 have gj:decide ((j:Int) < (l.length:Int))=true:=decide_eq_true (by omega)
 obtain⟨i,hgi⟩:=getLt hjl
 have hmi:=getMap (f:=encI) (show(l.map fun i:Nat=>(i:Int))[j]? = some (i:Int) by rw[List.getElem?_map,hgi];rfl)
 have him:i∈nextM (stO s t) can T:=by rw[←hl];exact List.mem_of_getElem? hgi
 obtain⟨him1,hib,_⟩:=nextM_mem.1 him
 have hsh:=shlN (i:=i) (by omega)
 have htk:=two_le (i:=i) (by omega)
 have hor:=or64 (a:=T) (b:=2 ^ i) (by omega) (by omega)
 have hA3:=hI.cells hK3 hA
 have hD3:=hI.cells hK3 hD
 repeat((conv=>whnf);first|refine sJ ?_|refine aI (by first|exact trivial|exact inbMap (f:=encI) (show j < (l.map fun i:Nat=>(i:Int)).length by rw[List.length_map];exact hjl)|kernel_rfl) ?_|rw[gj]|rw[hmi])
 try(conv=>whnf)
 refine CallK.inl rfl (ICall.intro mixed [10001] (nt:=12) Tryz.func39 rfl rfl (by simp) ?_)
 refine Wk ?_
 refine SemK.regionFin mixed (fun X=>X.bx[A]? = some (.cells [.ptr 8 0] 64)∧X.bx[D]? = some (.cells [.int .i64 T] 3)) [0,1,2,3,4] 3 rfl rfl (by decide) rfl ⟨hA3,hD3⟩ ?_
 iterate 5
  conv=>whnf
  apply exV
  ·rintro S' K' hI hh
   repeat((conv=>whnf);first|refine sJ ?_|refine aI (by first|exact trivial|exact(show(0:Int)≤_ by omega)|kernel_rfl) ?_|erw [hI.1]|erw [hI.2]|rw[hsh]|rw[hor])
   try(conv=>whnf)
   exact hh
 conv=>whnf
 repeat' ((conv=>whnf);first|exact trivial|refine sJ ?_|refine aI (by first|exact trivial|exact Or.inl rfl|exact Or.inr ⟨hA3,hD3⟩|kernel_rfl) ?_|refine And.intro ?_ ?_ )
 all_goals(conv=>whnf)
 all_goals refine CallK.inl rfl ?_
 all_goals refine hct _ (T ||| 2 ^ i) rfl (or_lt hT him1) S3.inner (hI3.same rfl) _ fun S4 hI4 hK4=>?_
 all_goals
  have hK34:Kp2 6 7 S3 S4:=⟨hK4.bx,hK4.fr,hK4.ln⟩
  have hA4:=hI3.cells hK34 hA3
  have hD4:=hI3.cells hK34 hD3
  cases hp:pr i with
  | true=>
   have g:decide ((0:Int) < (cntO (stO s t) can (T ||| 2 ^ i):Int))=true:=by
    rw[hpr]at hp
    have:=of_decide_eq_true hp
    exact decide_eq_true (by omega)
   repeat' ((conv=>whnf);first|exact trivial|refine sJ ?_|refine aI (by first|exact trivial|exact Or.inl rfl|exact Or.inr ⟨hA4,hD4⟩|kernel_rfl) ?_|refine And.intro ?_ ?_|rw[g])
   all_goals(conv=>whnf)
   all_goals
    have hr:=hK (S4.outer S) (hI4.same rfl) ((hK3.trans hK34).same rfl rfl rfl)
    rw[idxF_some hjl hinv hgi hp]at hr
    exact hr
  | false=>
   have g:decide ((0:Int) < (cntO (stO s t) can (T ||| 2 ^ i):Int))=false:=by
    rw[hpr]at hp
    have:=of_decide_eq_false hp
    exact decide_eq_false (by omega)
   repeat' ((conv=>whnf);first|exact trivial|refine sJ ?_|refine aI (by first|exact trivial|exact Or.inl rfl|exact Or.inr ⟨hA4,hD4⟩|kernel_rfl) ?_|refine And.intro ?_ ?_|rw[g])
   all_goals(conv=>whnf)
   all_goals
    refine⟨j+1,⟨by omega,⟨hI4.same rfl,(hK3.trans hK34).same rfl rfl rfl⟩,fun q x hq hx=>?_⟩,by omega,Sees.of_eq rfl,Sees.of_eq rfl,Sees.of_eq rfl,Sees.int (succI hjl (by omega)),trivial⟩
    rcases Nat.lt_succ_iff_lt_or_eq.1 hq with h'|rfl
    ·exact hinv q x h' hx
    ·rw[hgi]at hx;injection hx with hx;subst hx;exact hp
end HM
