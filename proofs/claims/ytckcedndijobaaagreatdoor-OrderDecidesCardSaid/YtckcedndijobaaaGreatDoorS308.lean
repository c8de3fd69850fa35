/- The first order: order.Find. -/
import Derived.Test.YtckcedndijobaaaGreatDoorS306
set_option maxHeartbeats 64000000
set_option maxRecDepth 100000
namespace HM
open Go Go.RowKit Go.Proofs
theorem OJ.setD {n:Net}{before after:List Req}{s t:Sched}{S:St}(h:OJ n before after s t S){D:Nat}{cs:List AV}(hb:S.bx[D]? = some (.cells cs 3))(o:Ob):OJ n before after s t (S.setB D o):=by
 have h8:D≠8:=fun e=>by
  rw[e,h.p]at hb
  have e2:=Ob.cells.inj (Option.some.inj hb)
  exact absurd e2.2 (by decide)
 obtain⟨k1,v1,e1,g1⟩:=h.m1
 obtain⟨k2,v2,e2,g2⟩:=h.m2
 exact⟨(St.setB_ne h8).trans h.p,⟨k1,v1,(St.setB_ne (ne_cm hb e1)).trans e1,g1⟩,⟨k2,v2,(St.setB_ne (ne_cm hb e2)).trans e2,g2⟩,by decide⟩
def fndI (n:Net)(before after:List Req)(s t:Sched)(S:St)(A D T:Nat):Prop:=OJ n before after s t S∧S.bx[A]? = some (.cells [.ptr 8 0] 64)∧S.bx[D]? = some (.cells [.int .i64 T] 3)
theorem fndI.keep {n:Net}{before after:List Req}{s t:Sched}{S S':St}{A D T:Nat}(h:fndI n before after s t S A D T)(hI:OJ n before after s t S')(hK:Kp2 6 7 S S'):fndI n before after s t S' A D T:=
 ⟨hI,h.1.cells hK h.2.1,h.1.cells hK h.2.2⟩
theorem fndI.next {n:Net}{before after:List Req}{s t:Sched}{S:St}{A D T T':Nat}(h:fndI n before after s t S A D T)(o:Ob) :
  fndI n before after s t (((S.setB D (.cells [.int .i64 T'] 3)).addB o).setB (S.setB D (.cells [.int .i64 T'] 3)).bx.length (.cells [.int .i64 T'] 3)) A (S.setB D (.cells [.int .i64 T'] 3)).bx.length T':=by
 obtain⟨h1,h2,h3⟩:=h
 have hAD:D≠A:=fun e=>by
  rw[e,h2]at h3
  have e2:=Ob.cells.inj (Option.some.inj h3)
  exact absurd e2.2 (by decide)
 exact⟨(h1.setD h3 _).more fun id x hx=>old_box _ _ _ _ _ hx,old_box _ _ _ _ _ ((St.setB_ne hAD).trans h2),St.setB_get (St.addB_get _ _)⟩
theorem c_FindO (n:Net)(hn:n.small)(before after:List Req)(hq1:before.length≤1000)(hq2:after.length≤1000)(hx1:∀x∈before,x.small)(hx2:∀x∈after,x.small)(s t:Sched)(hs:s.cells.length≤400)(ht:t.cells.length≤400) :
  PCall Tryz.prog LW 15 [n.av,encReqs before,encReqs after,s.av,t.av] (.tup [encChgs (findO n before after s t).1,.int .i64 (findO n before after s t).2]):=by
 refine PCall.intro mixed [6] (nt:=89) Tryz.func15 rfl rfl (by simp) ?_
 refine Wk ?_
 refine CallK.inl rfl (i_open n hn before after hq1 hq2 hx1 hx2 s t (by omega) (by omega) _ _ _ _ _ _ (fun S' hne=>?_) (fun S' h0 h8 h6 h7=>?_))
 ·have g:(openO n before after s t != 0)=true:=by simpa using hne
  have hA:∀(S:St) o,(S.addB o).bx[S.bx.length]? = some o:=fun S o=>St.addB_get S o
  repeat((conv=>whnf);first|refine sT ?_|rw[hA]|rw[g])
  try(conv=>whnf)
  exact resP.mk rfl (Sees.of_eq (by unfold findO;rw[if_pos hne];rfl))
 have hI1:OJ n before after s t S':=OJ.start h8 h6 h7
 have hpos:=Nat.two_pow_pos (stO s t)
 have hct:=i_count n hn before after hx1 hx2 s t hs h0
 have hop:=opn_ok h0
 have hm13:stO s t≤12:=hop.few
 have htw:=two_le (i:=stO s t) (by omega)
 have hA:∀(S:St) o,(S.addB o).bx[S.bx.length]? = some o:=fun S o=>St.addB_get S o
 have hA2:∀(S:St) o o',((S.addB o).setB S.bx.length o').bx[S.bx.length]? = some o':=fun S o o'=>St.setB_get (St.addB_get S o)
 obtain⟨A,hAe⟩:∃A,A=S'.bx.length:=⟨_,rfl⟩
 repeat((conv=>whnf);first|refine sT ?_|rw[hA]|rw[hA2])
 try(conv=>whnf)
 obtain⟨can,hcan⟩:∃can,can=cnO n before after s t:=⟨_,rfl⟩
 have hfo:findO n before after s t=if cntO (stO s t) can 0=0 then([],19) else((timeM (stayF before after) (pickL (stepsL s t) (fstO (stO s t) can 0)) 0).1,0):=by unfold findO;rw[if_neg (by omega),hcan]
 rw[hfo]
 refine SeqK.cutN mixed [] [15] (fun (_:Unit) (S3:St)=>OJ n before after s t S3∧S3.bx[A]? = some (.cells [.ptr 8 0] 64)∧cntO (stO s t) can 0≠0) (fun _=>[(12,.ptr A 0)]) ?_ ?_
 ·repeat((conv=>whnf);first|refine sT ?_|rw[hA2])
  try(conv=>whnf)
  refine CallK.inl rfl ?_
  refine hct _ 0 rfl hpos _ (hI1.more fun id x hx=>old_box _ _ _ _ _ hx) _ fun S2 hI2 hK2=>?_
  have hA3:S2.bx[A]? = some (.cells [.ptr 8 0] 64):=OJ.cells (hI1.more fun id x hx=>old_box _ _ _ _ _ hx) hK2 (by rw[hAe];exact hA2 _ _ _)
  rw[←hcan]
  by_cases hc0:cntO (stO s t) can 0=0
  ·have g:((cntO (stO s t) can 0:Int)==0)=true:=by rw[hc0];rfl
   rw[if_pos hc0]
   repeat((conv=>whnf);first|refine sT ?_|rw[g])
   try(conv=>whnf)
   exact resP.mk rfl (Sees.of_eq rfl)
  have g:((cntO (stO s t) can 0:Int)==0)=false:=by rw[beq_eq_false_iff_ne];omega
  repeat((conv=>whnf);first|refine sT ?_|rw[g])
  try(conv=>whnf)
  exact⟨(),⟨hI2,hA3,hc0⟩,Sees.of_eq (by rw[hAe];rfl),trivial⟩
 rintro⟨⟩ S3 ⟨hI3,hA4,hc0⟩
 rw[if_neg hc0]
 repeat((conv=>whnf);first|refine sT ?_ )
 try(conv=>whnf)
 refine SeqK.cutN mixed [10008,10011,10012] [] (fun (_:Unit) (S4:St)=>OJ n before after s t S4∧S4.bx[A]? = some (.cells [.ptr 8 0] 64)) (fun _=>[(12,.ptr A 0),(14,encChgs (pickL (stepsL s t) (fstO (stO s t) can 0)))]) ?_ ?_
 ·repeat((conv=>whnf);first|refine sT ?_|rw[hA])
  try(conv=>whnf)
  refine LoopK.born 14 7 54 rfl ?_
  obtain⟨S5,hS5⟩:∃S5,S5=(S3.addB (.cells [.int .i64 0] 3)).setB S3.bx.length (.cells [.int .i64 0] 3):=⟨_,rfl⟩
  obtain⟨ch,hch⟩:∃ch,ch=S3.fr.length:=⟨_,rfl⟩
  refine LoopK.runS mixed [10008,10011,10012] (fun (q:Nat×List Nat×Nat) (S6:St)=>FndO (stO s t) can q.1 q.2.1∧fndI n before after s t S6 A q.2.2 q.1∧S6.fr[ch]? = some (q.2.1.length,7)∧S6.ty ch=54) (fun q=>[(12,.ptr A 0),(14,.own ((pickL (stepsL s t) q.2.1).map Chg.av) ch),(15,.ptr q.2.2 0)]) (fun q=>unM (stO s t) q.1) (0,[],S3.bx.length) ⟨FndO.start (Nat.pos_of_ne_zero hc0),⟨hI3.more fun id x hx=>old_box _ _ _ _ _ hx,old_box _ _ _ _ _ hA4,hA2 _ _ _⟩,?_,?_⟩ ?_ ?_
  ·rw[hch];exact St.addF_get _ _ _
  ·rw[hch];exact St.addF_tyn _ _ _
  ·exact⟨Sees.of_eq rfl,Sees.of_eq (by rw[hch];rfl),Sees.of_eq rfl,trivial⟩
  rintro⟨T,p,D⟩ S6 ⟨hF,hN,hfr,hty⟩
  dsimp only at hF hN hfr hty ⊢
  have hT:=hF.lt
  have hpl:=hF.len
  have hpk:(pickL (stepsL s t) p).length=p.length:=pick_len (path_mem hF.path)
  refine Wk ?_
  refine SemK.regionFin mixed (fun X=>fndI n before after s t X A D T) [0,1,2,3] 0 rfl rfl (by decide) rfl hN ?_
  iterate 2
   conv=>whnf
   apply exV
   ·rintro S' K' hI hh
    repeat((conv=>whnf);first|refine sT ?_|erw [hI.2.1]|erw [hI.2.2])
    try(conv=>whnf)
    exact hh
  conv=>whnf
  apply exV
  ·rintro S' K' hI hh
   obtain⟨u1,u2,hz⟩:=hI.1.fzp
   refine Wk ?_
   refine CallK.boxN 1 rfl (c_fullO LW n s (bothM before after) (stayO before after) (stepsL s t) hm13 u1 u2) (mapQ2 hz rfl) rfl ?_
   exact hh
  conv=>whnf
  apply exV
  ·rintro S' K' hI hh
   refine Wk ?_
   exact hh
  conv=>whnf
  by_cases hfull:T=2 ^ stO s t-1
  ·have g:((T:Int) != ((2 ^ (stepsL s t).length-1:Nat):Int))=false:=by rw[hfull];simp[stO]
   subst hfull
   have hdone:=hF.done
   repeat((conv=>whnf);first|refine sT ?_|rw[g])
   try(conv=>whnf)
   exact⟨(),⟨hN.1,hN.2.1⟩,Sees.of_eq rfl,Sees.elems (by rw[←hdone];rfl),trivial⟩
  have g:((T:Int) != ((2 ^ (stepsL s t).length-1:Nat):Int))=true:=by
   rw[bne_iff_ne]
   intro e
   exact hfull (Int.ofNat_inj.1 e)
  have hA6:=hN.2.1
  have hD6:=hN.2.2
  repeat((conv=>whnf);first|refine sT ?_|rw[g]|rw[hA6]|rw[hD6])
  try(conv=>whnf)
  refine CallK.inl rfl (i_next n hn before after hx1 hx2 s t hs h0 T hT S6 hN.1 fun S7 hI7 hK7=>?_)
  rw[←hcan]
  have hN7:=hN.keep hI7 hK7
  obtain⟨hfr7,hty7⟩:=hK7.fr ch _ hfr
  obtain⟨l,hl⟩:∃l,l=nextM (stO s t) can T:=⟨_,rfl⟩
  rw[←hl]
  refine Wk ?_
  refine CallK.inl rfl (i_idxFind n hn before after hx1 hx2 s t hs h0 T hT S7 hI7 A D hN7.2.1 hN7.2.2 l (by rw[hl,hcan]) fun S8 hI8 hK8=>?_)
  rw[←hcan]
  have hN8:=hN7.keep hI8 hK8
  obtain⟨hfr8,hty8⟩:=hK8.fr ch _ hfr7
  have hty9:S8.ty ch=54:=(hty8.trans hty7).trans hty
  obtain⟨i0,hi0,hc0'⟩:=lead_any hfull hF.pos
  obtain⟨pr,hpr⟩:∃pr:Nat→Bool,pr=fun i=>decide (0 < cntO (stO s t) can (T ||| 2 ^ i)):=⟨_,rfl⟩
  rw[←hpr]
  have hidx:idxF pr l ≠ -1:=fun e=>by
   rw[←hl]at hi0
   obtain⟨j0,hj0⟩:=List.getElem?_of_mem hi0
   have:=idxF_none_iff e j0 i0 hj0
   rw[hpr]at this
   have:=of_decide_eq_false this
   omega
  obtain⟨k,i,e1,e2,e3⟩:=idxF_at hidx
  obtain⟨_,_,_,e4⟩:=idxF_first e1
  have hkl:=(List.getElem?_eq_some_iff.1 e2).1
  have him:i∈nextM (stO s t) can T:=by rw[←hl];exact List.mem_of_getElem? e2
  obtain⟨him1,hib,_⟩:=nextM_mem.1 him
  have hstep:=hF.step hfull (k:=k) (i:=i) (by rw[←hl];exact e2) (by rw[hpr]at e3;exact of_decide_eq_true e3) (fun j y hj hy=>by
   rw[←hl]at hy
   have:=e4 j y hj hy
   rw[hpr]at this
   have:=of_decide_eq_false this
   omega)
  obtain⟨x,hgx⟩:=getLt (l:=stepsL s t) him1
  have hmx:=getMap (f:=Chg.av) hgx
  have hmi:=getMap (f:=encI) (show(l.map fun i:Nat=>(i:Int))[k]? = some (i:Int) by rw[List.getElem?_map,e2];rfl)
  have hsh:=shlN (i:=i) (by omega)
  have htk:=two_le (i:=i) (by omega)
  have hor:=or64 (a:=T) (b:=2 ^ i) (by omega) (by omega)
  have hps:=pick_snoc (p:=p) hgx
  rw[e1]
  refine Wk ?_
  refine SemK.regionFin mixed (fun X=>fndI n before after s t X A D T) [0,1,2,3,4,5,6,7,8,9,10,11] 2 rfl rfl (by decide) rfl hN8 ?_
  iterate 12
   conv=>whnf
   apply exV
   ·rintro S' K' hI hh
    repeat((conv=>whnf);first|refine sJ ?_|refine aI (by first|exact trivial|exact inbMap him1|exact inbMap (f:=encI) (show k < (l.map fun i:Nat=>(i:Int)).length by rw[List.length_map];exact hkl)|kernel_rfl) ?_|erw [hI.2.1]|erw [hI.1.p]|rw[hmi]|rw[hmx])
    try(conv=>whnf)
    exact hh
  conv=>whnf
  have hlm:((pickL (stepsL s t) p).map Chg.av).length=p.length:=by rw[List.length_map,hpk]
  have hfr10:S8.fr[ch]? = some (((pickL (stepsL s t) p).map Chg.av).length,6+1):=by rw[hlm];exact hfr8
  have hsz1:(((pickL (stepsL s t) p).map Chg.av).length+1)*56≤140737488355328:=by rw[hlm];omega
  have hsz2:((pickL (stepsL s t) p).map Chg.av).length+1≤maxLen:=by rw[hlm];unfold maxLen;omega
  have hN9:∀y,fndI n before after s t (S8.setF ch y) A D T:=fun y=>⟨hN8.1.same rfl,hN8.2.1,hN8.2.2⟩
  have hD9:∀y,(S8.setF ch y).bx[D]? = some (.cells [.int .i64 T] 3):=fun y=>hN8.2.2
  have hD10:∀y o,((S8.setF ch y).setB D o).bx[D]? = some o:=fun y o=>St.setB_get (hD9 y)
  repeat' ((conv=>whnf);first|exact trivial|refine sJ ?_|refine aI (by first|exact trivial|exact Or.inl rfl|exact Or.inr hN8|exact Or.inr (hN9 _)|exact Els.map (f:=Chg.av) (fun _=>⟨rfl,rfl⟩)|exact Els.of_b rfl|exact hsz1|exact hsz2|exact hfr10|exact hty9|kernel_rfl) ?_|refine And.intro ?_ ?_ )
  all_goals(conv=>whnf)
  all_goals
   refine SemK.regionFin mixed (fun X=>fndI n before after s t X A D T) [0,1,2,3,4,5,6] 1 rfl rfl (by decide) rfl (hN9 _) ?_
   iterate 7
    conv=>whnf
    apply exV
    ·rintro S' K' hI hh
     repeat((conv=>whnf);first|refine sJ ?_|refine aI (by first|exact trivial|exact inbMap (f:=encI) (show k < (l.map fun i:Nat=>(i:Int)).length by rw[List.length_map];exact hkl)|exact(show(0:Int)≤_ by omega)|kernel_rfl) ?_|erw [hI.2.2]|rw[hmi]|rw[hsh]|rw[hor])
     try(conv=>whnf)
     exact hh
   conv=>whnf
   repeat' ((conv=>whnf);first|exact trivial|refine sJ ?_|refine aI (by first|exact trivial|exact Or.inl rfl|exact Or.inr (hN9 _)|kernel_rfl) ?_|refine And.intro ?_ ?_|rw[hD9])
   all_goals(conv=>whnf)
   all_goals
    repeat((conv=>whnf);first|refine sT ?_|rw[hD10]|rw[hA])
    try(conv=>whnf)
    refine⟨(T ||| 2 ^ i,p++[i],_),⟨hstep,(hN9 _).next _,?_,hty9⟩,?_,Sees.of_eq rfl,Sees.of_eq (by rw[hps,List.map_append];rfl),Sees.of_eq rfl,trivial⟩
    ·refine(St.setF_get (S:=S8) hfr8).trans ?_
     rw[List.length_append,List.length_append,hlm]
     rfl
    ·have:=un_step him1 hib
     show unM (stO s t) (T ||| 2 ^ i) < unM (stO s t) T
     omega
 rintro⟨⟩ S4 ⟨hI4,hA5⟩
 have hP4:=hI4.p
 obtain⟨hst0,_⟩:=stay_small hop.whole hx1 hx2
 have hdf:before.any (differB after)=false:=by
  have hw:=hop.whole
  unfold wholeC at hw
  split at hw
  ·exact absurd hw (by decide)
  split at hw
  ·exact absurd hw (by decide)
  rename_i h;simpa using h
 have hsf:=stay_flows (reqsOk (wholeC_ok hop.whole).rb) hdf
 obtain⟨st,hst⟩:∃st,st=stayO before after:=⟨_,rfl⟩
 rw[←hst]at hst0 hsf
 have hpth:=fstO_mem (m:=stO s t) (can:=can) (S:=0) (Nat.pos_of_ne_zero hc0)
 have hpl:(pickL (stepsL s t) (fstO (stO s t) can 0)).length≤281474976710656:=by
  have e1:=pick_len (L:=stepsL s t) (p:=fstO (stO s t) can 0) (path_mem hpth)
  have e2:=path_short hpth
  omega
 have htm:=c_TimeC (st.map Req.flow) (by rw[List.length_map];omega) (pickL (stepsL s t) (fstO (stO s t) can 0)) hpl 0
 rw[hsf]at htm
 unfold prC at hP4
 rw[←hst]at hP4
 repeat((conv=>whnf);first|refine sT ?_|rw[hA5]|rw[hP4]|rw[List.length_map])
 try(conv=>whnf)
 refine LoopK.born 18 6 78 rfl ?_
 obtain⟨c2,hc2⟩:∃c2,c2=S4.fr.length:=⟨_,rfl⟩
 refine LoopK.runS mixed [] (fun (j:Nat) (S5:St)=>j≤st.length∧S5.fr[c2]? = some (j,6)∧S5.ty c2=78) (fun j=>[(14,encChgs (pickL (stepsL s t) (fstO (stO s t) can 0))),(18,.own (((st.take j).map Req.flow).map Flow.av) c2),(70,encReqs st),(71,.int .i64 st.length),(72,.int .i64 j)]) (fun j=>st.length-j) 0 ⟨by omega,?_,?_⟩ ?_ ?_
 ·rw[hc2];exact St.addF_get _ _ _
 ·rw[hc2];exact St.addF_tyn _ _ _
 ·exact⟨Sees.of_eq rfl,Sees.of_eq (by rw[hc2];rfl),Sees.of_eq rfl,Sees.int (by simp),Sees.of_eq rfl,trivial⟩
 rintro j S5 ⟨hj,hfr,hty⟩
 by_cases hjl:j < st.length
 rotate_left
 ·have hjn:j=st.length:=by omega
  subst hjn
  have gj:decide ((st.length:Int) < (st.length:Int))=false:=decide_eq_false (by omega)
  rw[List.take_length,hsf]
  repeat((conv=>whnf);first|refine sT ?_|rw[gj])
  try(conv=>whnf)
  refine cD (htm) ?_
  refine Wk ?_
  exact resP.mk rfl (Sees.of_eq rfl)
 have gj:decide ((j:Int) < (st.length:Int))=true:=decide_eq_true (by omega)
 obtain⟨x,hgx⟩:=getLt hjl
 have hmx:=getMap (f:=Req.av) hgx
 have hlj:(((st.take j).map Req.flow).map Flow.av).length=j:=by rw[List.length_map,List.length_map,List.length_take];omega
 have hel:Els (5+1) (((st.take j).map Req.flow).map Flow.av):=Els.map (f:=Flow.av) (fun _=>⟨rfl,rfl⟩)
 have hfr2:S5.fr[c2]? = some ((((st.take j).map Req.flow).map Flow.av).length,5+1):=by rw[hlj];exact hfr
 have hfr3:∀o o' x e,(((S5.addB o).setB S5.bx.length o').addF x e).fr[c2]? = some ((((st.take j).map Req.flow).map Flow.av).length,5+1):=fun o o' x e=>St.addF_old (S:=(S5.addB o).setB S5.bx.length o') hfr2
 have hty3:∀o o' x e,(((S5.addB o).setB S5.bx.length o').addF x e).ty c2=78:=fun o o' x e=>(St.addF_tyo (S:=(S5.addB o).setB S5.bx.length o') hfr2).trans hty
 repeat((conv=>whnf);first|refine sJ ?_|refine aI (by first|exact trivial|exact inbMap hjl|exact hel|exact Els.of_b rfl|exact(show(_+1)*48≤_ by rw[hlj];omega)|exact(show _+1≤maxLen by rw[hlj];unfold maxLen;omega)|exact hfr3 _ _ _ _|exact hty3 _ _ _ _|kernel_rfl) ?_|rw[gj]|rw[hmx]|rw[hA]|rw[hA2])
 try(conv=>whnf)
 refine⟨j+1,⟨by omega,(St.setF_get (hfr3 _ _ _ _)).trans (by rw[List.length_append,hlj];rfl),hty3 .dead .dead (1,6) 78⟩,by omega,Sees.of_eq rfl,Sees.of_eq (by rw[take_succ hgx,List.map_append,List.map_append];rfl),Sees.of_eq rfl,Sees.of_eq rfl,Sees.int (succI hjl (by omega)),trivial⟩
end HM
