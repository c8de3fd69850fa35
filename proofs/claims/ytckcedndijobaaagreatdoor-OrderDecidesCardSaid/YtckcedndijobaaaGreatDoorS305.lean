/- Which sets of steps are possible: the program. -/
import Derived.Test.YtckcedndijobaaaGreatDoorS304
import Derived.Test.YtckcedndijobaaaGreatDoorS34
import Derived.Test.YtckcedndijobaaaGreatDoorS114
import Derived.Test.YtckcedndijobaaaGreatDoorDe
import Derived.Test.YtckcedndijobaaaGreatDoorFh
set_option maxHeartbeats 64000000
set_option maxRecDepth 100000
namespace HM
open Go Go.RowKit Go.Proofs
theorem c_canO1 (n:Net)(hn:n.small)(x:Req)(h1:x.routes.length≤281474976710656)(h2:∀r∈x.routes,r.length≤281474976710656)(s u:Sched)(hc:u.cells.length≤1000)(fl:List Flow)(st:List Req)(LL:List Chg)(v w:AV) :
  PCall Tryz.prog LW 120 [x.av,.cptr (.agg [.cptr (.agg (prA n s fl st LL v w)) 0]) 0,.cptr u.av 0] (.bool (lateO n u x)):=by
 refine PCall.intro mixed [10001] (nt:=29) Tryz.func120 rfl rfl (by simp) ?_
 have hle:=c_BLeast n u x.flow x.routes hn (by omega) h2 h1
 refine Wk ?_
 refine SemK.regionFin mixed (fun X=>X.bx[0]? = some (.cells x.av.cells 81)) [0,1,2,3,4,5,6,7,8,9,10,11,12,13,14] 0 rfl rfl (by decide) rfl rfl ?_
 iterate 9
  conv=>whnf
  apply exV
  ·rintro S' K' hI hh
   repeat((conv=>whnf);first|refine sT ?_|erw [hI])
   try(conv=>whnf)
   exact hh
 conv=>whnf
 apply exV
 ·rintro S' K' hI hh
  refine Wk ?_
  refine cD (hle) ?_
  exact hh
 iterate 5
  conv=>whnf
  apply exV
  ·rintro S' K' hI hh
   refine Wk ?_
   exact hh
 conv=>whnf
 unfold lateO
 cases g:((leastM n u x.flow x.routes).2 != 0) with
 | true=>
  repeat((conv=>whnf);first|refine sT ?_|rw[g])
  try(conv=>whnf)
  exact resP.mk rfl (Sees.bool rfl)
 | false=>
  repeat((conv=>whnf);first|refine sT ?_|rw[g])
  try(conv=>whnf)
  exact resP.mk rfl (Sees.bool rfl)
abbrev OJ (n:Net) (before after:List Req) (s t:Sched) (S:St):Prop:=OIv (prC n s (bothM before after) (stayO before after) (stepsL s t) 6 7) 76 (stO s t) (cnO n before after s t) S 8 6 7
def canI (n:Net)(before after:List Req)(s t:Sched)(S S3:St)(B C:Nat)(u:Sched):Prop:=OJ n before after s t S3∧Kp2 6 7 S S3∧S.bx.length≤B∧S.bx.length≤C∧S3.bx[B]? = some (.cells [.ptr 8 0] 64)∧S3.bx[C]? = some (.cells u.av.cells 24)
theorem canI.box {n:Net}{before after:List Req}{s t:Sched}{S S3:St}{B C:Nat}{u:Sched}(h:canI n before after s t S S3 B C u)(o o':Ob):canI n before after s t S ((S3.addB o).setB S3.bx.length o') B C u:=
 ⟨h.1.more (old_box S3 o o'),(h.2.1.addB o).setN h.2.1.ln o',h.2.2.1,h.2.2.2.1,old_box S3 o o' _ _ h.2.2.2.2.1,old_box S3 o o' _ _ h.2.2.2.2.2⟩
theorem canI.put {n:Net}{before after:List Req}{s t:Sched}{S S3:St}{B C:Nat}{u u':Sched}(h:canI n before after s t S S3 B C u):canI n before after s t S (S3.setB C (.cells u'.av.cells 24)) B C u':=by
 obtain⟨h1,h2,h3,h4,h5,h6⟩:=h
 have hBC:C≠B:=fun e=>by
  rw[e,h5]at h6
  have e2:=Ob.cells.inj (Option.some.inj h6)
  exact absurd e2.2 (by decide)
 have h8:C≠8:=fun e=>by
  rw[e,h1.p]at h6
  have e2:=Ob.cells.inj (Option.some.inj h6)
  exact absurd e2.2 (by decide)
 obtain⟨k1,v1,e1,g1⟩:=h1.m1
 obtain⟨k2,v2,e2,g2⟩:=h1.m2
 exact⟨⟨(St.setB_ne h8).trans h1.p,⟨k1,v1,(St.setB_ne (ne_cm h6 e1)).trans e1,g1⟩,⟨k2,v2,(St.setB_ne (ne_cm h6 e2)).trans e2,g2⟩,by decide⟩,h2.setN h4 _,h3,h4,(St.setB_ne hBC).trans h5,St.setB_get h6⟩
theorem canI.addF {n:Net}{before after:List Req}{s t:Sched}{S S3:St}{B C:Nat}{u:Sched}(h:canI n before after s t S S3 B C u)(x:Nat×Nat)(e:TypeId):canI n before after s t S (S3.addF x e) B C u:=
 ⟨h.1.same rfl,h.2.1.addF x e,h.2.2.1,h.2.2.2.1,h.2.2.2.2.1,h.2.2.2.2.2⟩
theorem canI.start {n:Net}{before after:List Req}{s t:Sched}{S:St}(h:OJ n before after s t S)(z:Ob) :
  canI n before after s t S (((S.inner.addB (.cells [.ptr 8 0] 64)).addB z).setB (S.inner.addB (.cells [.ptr 8 0] 64)).bx.length (.cells s.av.cells 24)) S.bx.length (S.bx.length+1) s:=by
 have hl:(S.inner.addB (.cells [.ptr 8 0] 64)).bx.length=S.bx.length+1:=St.addB_len _ _
 refine⟨h.more fun id o ho=>old_box _ _ _ _ _ (St.addB_old (S:=S.inner) ho),?_,Nat.le_refl _,by omega,old_box _ _ _ _ _ (St.addB_get S.inner _),?_⟩
 ·have k1:Kp2 6 7 S S.inner:=(Kp2.refl 6 7 S).same rfl rfl rfl
  exact((k1.addB _).addB _).setN (by rw[hl];omega) _
 ·rw[hl]
  exact St.setB_get (hl▸St.addB_get (S.inner.addB (.cells [.ptr 8 0] 64)) z)
def canSl (s t:Sched)(T B C:Nat)(f:Bool)(r ch k:Nat):List (Nat×AV):=[(1,.int .i64 T),(2,.ptr B 0),(7,.ptr C 0),(9,.bool f),(30,.own [.bool false,.bool true] ch),(31,.int .i64 2),(32,.int .i64 r),(39,encChgs (stepsL s t)),(40,.int .i64 (stO s t)),(41,.int .i64 k)]
theorem canI.fz {n:Net}{before after:List Req}{s t:Sched}{S S3:St}{B C:Nat}{u:Sched}(h:canI n before after s t S S3 B C u):∃v w:AV,∀(g:Nat) (l:List AV),mapQ (fzN S3 3) [.sl false l,.fn g [.ptr B 0,.ptr C 0]] = some [.sl false l,.fn g [.cptr (.agg [.cptr (.agg (prA n s (bothM before after) (stayO before after) (stepsL s t) v w)) 0]) 0,.cptr u.av 0]]:=by
 obtain⟨h1,h2,h3,h4,h5,h6⟩:=h
 obtain⟨k1,v1,e1,g1⟩:=h1.m1
 obtain⟨k2,v2,e2,g2⟩:=h1.m2
 have hp:=fz_pr h1.p (fzb_mp e1 (fzs_bool v1)) (fzb_mp e2 (fzs_encI v2))
 refine⟨.cmp none k1 (v1.map AV.bool),.cmp none k2 (v2.map encI),fun g l=>mapQ2 rfl (mapQ2 ?_ rfl)⟩
 show(mapQ (fzN S3 2) [.ptr B 0,.ptr C 0]).map (AV.fn g)=_
 have hb:fzN S3 2 (.ptr B 0)=some (.cptr (.agg [.cptr (.agg (prA n s (bothM before after) (stayO before after) (stepsL s t) (.cmp none k1 (v1.map AV.bool)) (.cmp none k2 (v2.map encI)))) 0]) 0):=by
  show(match S3.bx[B]? with
   | some (.cells cs _)=>(mapQ (fzN S3 1) cs).map fun cs=>AV.cptr (.agg cs) 0
   | _=>none)=_
  rw[h5]
  show Option.map (fun cs=>AV.cptr (.agg cs) 0) (mapQ (fzN S3 1) [.ptr 8 0])=_
  rw[mapQ2 hp rfl]
  rfl
 have hc:fzN S3 2 (.ptr C 0)=some (.cptr u.av 0):=by
  show(match S3.bx[C]? with
   | some (.cells cs _)=>(mapQ (fzN S3 1) cs).map fun cs=>AV.cptr (.agg cs) 0
   | _=>none)=_
  rw[h6]
  rfl
 rw[mapQ2 hb (mapQ2 hc rfl)]
 rfl
theorem stay_small {n:Net}{before after:List Req}{s:Sched}(hw:wholeC n before after s=0)(hx1:∀x∈before,x.small)(hx2:∀x∈after,x.small):(stayO before after).length≤16∧∀z∈stayO before after,z.routes.length≤4∧∀r∈z.routes,r.length≤281474976710656:=by
 have hW:=wholeC_ok hw
 obtain⟨_,hq16,hreq,_⟩:=reqE_ok hW.rb
 obtain⟨_,_,hreqa,_⟩:=reqE_ok hW.ra
 constructor
 ·rw[←stayK_all]
  have:=stayK_len before after before.length
  omega
 ·intro z hz
  obtain⟨x,hx,hzx⟩:=List.mem_flatMap.1 hz
  unfold stayR at hzx
  cases hy:getQ after x.flow.id with
  | none=>rw[hy]at hzx;cases hzx
  | some y=>
   rw[hy]at hzx
   rw[List.mem_singleton.1 hzx]
   have hym:=(getQ_some hy).1
   have h1:=(hreq x hx).len.2
   have h2:=(hreqa y hym).len.2
   refine⟨by simp only[List.length_append];omega,fun r hr=>?_⟩
   rcases List.mem_append.1 hr with h|h
   ·exact(hx1 x hx).2 r h
   ·exact(hx2 y hym).2 r h
theorem i_can (n:Net)(hn:n.small)(before after:List Req)(hx1:∀x∈before,x.small)(hx2:∀x∈after,x.small)(s t:Sched)(hs:s.cells.length≤400)(ho:openO n before after s t=0)(T:Nat)(hT:T < 2 ^ stO s t)(S:St)(hI:OJ n before after s t S){K:AV→St→Prop}
  (hK:∀S',OJ n before after s t S'→Kp2 6 7 S S'→K (.bool (cnO n before after s t T)) S') :
  ICall Tryz.prog LW 75 [.ptr 8 0,.int .i64 T] S K:=by
 refine ICall.intro mixed [5,10017,10019] (nt:=112) Tryz.func75 rfl rfl (by simp) ?_
 have hop:=opn_ok ho
 have hst:=hop.stp (by omega)
 have hm12:=hop.few
 have hm13:stO s t≤12:=hm12
 have htw:=two_le (i:=stO s t) (by show(stepsL s t).length≤20;omega)
 obtain⟨hss0,hss⟩:=stay_small hop.whole hx1 hx2
 have hsl:(stayO before after).length≤281474976710656:=by omega
 have hWk:=wholeC_ok hop.whole
 have hbl:(bothM before after).length≤281474976710656:=by
  obtain⟨_,_,_,_⟩:=reqE_ok hWk.rb
  obtain⟨_,_,_,_⟩:=reqE_ok hWk.ra
  have:=both_len (reqsOk hWk.rb) (reqsOk hWk.ra)
  have:=flowsA_len (before:=before) (after:=after) after.length
  rw[List.take_length]at this
  unfold flowsA at *
  omega
 obtain⟨ks,vs,hB6,hmem⟩:=hI.m1
 have hA:∀(S:St) o,(S.addB o).bx[S.bx.length]? = some o:=fun S o=>St.addB_get S o
 have hI8:∀o:Ob,(S.inner.addB o).bx[8]? = some (.cells (prC n s (bothM before after) (stayO before after) (stepsL s t) 6 7) 76):=fun o=>St.addB_old hI.p
 have hoL:∀o v,v=.mp 6→mapOfL (S.inner.addB o) none v=some (ks,vs.map AV.bool):=fun o v hv=>mapOfL_at (St.addB_old hB6) hv
 cases hg:getK ks vs [(T:Int)] with
 | some v=>
  have has:assoc ks (vs.map AV.bool) [(T:Int)] = some (.bool v):=by rw[assocB,hg];rfl
  have hv:=hmem.ok T v hg
  repeat((conv=>whnf);first|refine sT ?_|rw[hA]|rw[hI8]|(rw[hoL];rotate_left;rfl)|(rw[assoc_at has];rotate_left;rfl))
  try(conv=>whnf)
  rw[hv]
  refine hK _ (hI.more fun id o h=>St.addB_old (S:=S.inner) h) ?_
  exact(Kp2.addB (Kp2.refl 6 7 S) (S1:=S) _).same rfl rfl rfl
 | none=>
 have has:assoc ks (vs.map AV.bool) [(T:Int)] = none:=by rw[assocB,hg];rfl
 repeat((conv=>whnf);first|refine sT ?_|rw[hA]|rw[hI8]|(rw[hoL];rotate_left;rfl)|(rw[assoc_at has];rotate_left;rfl))
 try(conv=>whnf)
 refine SeqK.cutN mixed [] [10017,10019] (fun (q:Nat×Nat) (S1:St)=>canI n before after s t S S1 q.1 q.2 s) (fun q=>[(1,.int .i64 T),(2,.ptr q.1 0),(7,.ptr q.2 0)]) ?_ ?_
 ·repeat((conv=>whnf);first|refine sT ?_|rw[hA]|rw[hI8])
  try(conv=>whnf)
  exact⟨(S.bx.length,S.bx.length+1),canI.start hI _,Sees.of_eq rfl,Sees.of_eq rfl,Sees.of_eq (by rw[St.addB_len];rfl),trivial⟩
 rintro⟨B,C⟩ S1 hJ1
 dsimp only at hJ1 ⊢
 have hB1:∀x e,(S1.addF x e).bx[B]? = some (.cells [.ptr 8 0] 64):=fun x e=>hJ1.2.2.2.2.1
 have hP1:∀x e,(S1.addF x e).bx[8]? = some (.cells (prC n s (bothM before after) (stayO before after) (stepsL s t) 6 7) 76):=fun x e=>hJ1.1.p
 repeat((conv=>whnf);first|refine sJ ?_|refine aI (by first|exact trivial|exact Els.of_b rfl|kernel_rfl) ?_ )
 try(conv=>whnf)
 refine LoopK.rounds mixed [] 3 ?_
 repeat((conv=>whnf);first|refine sJ ?_|refine aI (by first|exact trivial|exact⟨by decide,by decide⟩|kernel_rfl) ?_|rw[hB1]|rw[hP1])
 try(conv=>whnf)
 obtain⟨ch,hch⟩:∃ch,ch=S1.fr.length:=⟨_,rfl⟩
 rw[←hch]
 have hJ:=hJ1.addF (2,1) 4
 refine LoopK.runS mixed [] (fun (k:Nat) (S3:St)=>k≤stO s t∧canI n before after s t S S3 B C (remC s (stepsL s t) T k)) (fun k=>canSl s t T B C false 0 ch k) (fun k=>stO s t-k) 0 ⟨by omega,hJ⟩ ?_ ?_
 ·exact⟨Sees.of_eq rfl,Sees.of_eq rfl,Sees.of_eq rfl,Sees.of_eq rfl,Sees.of_eq rfl,Sees.of_eq rfl,Sees.of_eq rfl,Sees.of_eq rfl,Sees.int (by simp),Sees.of_eq rfl,trivial⟩
 rintro k S3 ⟨hk,hJ3⟩
 unfold canSl
 by_cases hkt:k < stO s t
 rotate_left
 ·have hkn:k=stO s t:=by omega
  subst hkn
  have gk:decide ((stO s t:Int) < (stO s t:Int))=false:=decide_eq_false (by omega)
  have hB3:=hJ3.2.2.2.2.1
  have hP3:=hJ3.1.p
  repeat((conv=>whnf);first|refine sJ ?_|refine aI (by first|exact trivial|exact⟨by decide,by decide⟩|kernel_rfl) ?_|rw[gk]|rw[hB3]|rw[hP3])
  try(conv=>whnf)
  have hJ:=hJ3
  refine LoopK.runS mixed [] (fun (k:Nat) (S3:St)=>k≤stO s t∧canI n before after s t S S3 B C (addC s (stepsL s t) T k)) (fun k=>canSl s t T B C true 1 ch k) (fun k=>stO s t-k) 0 ⟨by omega,hJ⟩ ?_ ?_
  ·exact⟨Sees.of_eq rfl,Sees.of_eq rfl,Sees.of_eq rfl,Sees.of_eq rfl,Sees.of_eq rfl,Sees.of_eq rfl,Sees.of_eq rfl,Sees.of_eq rfl,Sees.int (by simp),Sees.of_eq rfl,trivial⟩
  rintro k S3 ⟨hk,hJ3⟩
  unfold canSl
  by_cases hkt:k < stO s t
  rotate_left
  ·have hkn:k=stO s t:=by omega
   subst hkn
   have gk:decide ((stO s t:Int) < (stO s t:Int))=false:=decide_eq_false (by omega)
   have hB3:=hJ3.2.2.2.2.1
   have hP3:=hJ3.1.p
   repeat((conv=>whnf);first|refine sJ ?_|refine aI (by first|exact trivial|exact⟨by decide,by decide⟩|kernel_rfl) ?_|rw[gk]|rw[hB3]|rw[hP3])
   try(conv=>whnf)
   obtain⟨u,hu⟩:∃u,u=addC s (stepsL s t) T (stO s t):=⟨_,rfl⟩
   rw[←hu]at hJ3
   have hcp:=can_prog hop (by omega) T
   rw[show(stepsL s t).length=stO s t from rfl,←hu]at hcp
   have hul:u.cells.length≤512:=hu▸addC_len hst T _
   have hck:=c_SCheck LW n hn (bothM before after) hbl u (by omega)
   refine SemK.regionFin mixed (fun X=>canI n before after s t S X B C u) [0,1,2,3,4,5,6,7,8,9,10,11,12,13,14] 0 rfl rfl (by decide) rfl hJ3 ?_
   iterate 9
    conv=>whnf
    apply exV
    ·rintro S' K' hI hh
     repeat((conv=>whnf);first|refine sT ?_|erw [hI.2.2.2.2.1]|erw [hI.1.p]|erw [hI.2.2.2.2.2])
     try(conv=>whnf)
     exact hh
   conv=>whnf
   apply exV
   ·rintro S' K' hI hh
    refine Wk ?_
    refine cD (hck) ?_
    exact hh
   iterate 5
    conv=>whnf
    apply exV
    ·rintro S' K' hI hh
     refine Wk ?_
     exact hh
   conv=>whnf
   obtain⟨ks3,vs3,hB36,hm3⟩:=hJ3.1.m1
   have hmo:=mapOf_at (sh:=none) hB36
   have hB5:∀o,(S3.setB 6 o).bx[B]? = some (.cells [.ptr 8 0] 64):=fun o=>(St.setB_ne (Ne.symm (ne_cm hJ3.2.2.2.2.1 hB36))).trans hJ3.2.2.2.2.1
   have hP5:∀o,(S3.setB 6 o).bx[8]? = some (.cells (prC n s (bothM before after) (stayO before after) (stepsL s t) 6 7) 76):=fun o=>(St.setB_ne (by decide)).trans hJ3.1.p
   have hoL5:∀o v,v=.mp 6→mapOfL (S3.setB 6 (.map none (setKs ks3 [(T:Int)]) o)) none v=some (setKs ks3 [(T:Int)],o):=fun o v hv=>mapOfL_at (St.setB_get hB36) hv
   by_cases he:(schedE n (bothM before after) u).2=0
   ·have ge:((schedE n (bothM before after) u).2==0)=true:=by simpa using he
    rw[ge,Bool.true_and]at hcp
    refine Wk ?_
    refine SemK.regionFin mixed (fun X=>canI n before after s t S X B C u) [0,1,2,3,4,5,6,7,8,9,10,11,12,13,14,15] 1 rfl rfl (by decide) rfl hJ3 ?_
    iterate 13
     conv=>whnf
     apply exV
     ·rintro S' K' hI hh
      repeat((conv=>whnf);first|refine sT ?_|erw [hI.2.2.2.2.1]|erw [hI.1.p]|rw[ge])
      try(conv=>whnf)
      exact hh
    conv=>whnf
    apply exV
    ·rintro S' K' hI hh
     obtain⟨v1,v2,hfz⟩:=canI.fz hI
     refine Wk ?_
     refine CallK.boxN 3 rfl (c_ContainsFuncReqC LW (stayO before after) (lateO n u) 120 [.cptr (.agg [.cptr (.agg (prA n s (bothM before after) (stayO before after) (stepsL s t) v1 v2)) 0]) 0,.cptr u.av 0] hsl rfl rfl fun x hx=>c_canO1 n hn x (by have:=(hss x hx).1;omega) (hss x hx).2 s u (by omega) _ _ _ _ _) (hfz _ _) rfl ?_
     exact hh
    iterate 2
     conv=>whnf
     apply exV
     ·rintro S' K' hI hh
      refine Wk ?_
      exact hh
    conv=>whnf
    have hv3:cnO n before after s t T=(!(stayO before after).any (lateO n u)):=hcp
    repeat' ((conv=>whnf);first|exact trivial|refine sJ ?_|refine aI (by first|exact trivial|exact Or.inr hJ3|exact Or.inl rfl|kernel_rfl) ?_|refine And.intro ?_ ?_|rw[hmo])
    all_goals(conv=>whnf)
    have has4:assoc (setKs ks3 [(T:Int)]) (setVs ks3 (vs3.map AV.bool) [(T:Int)] (.bool (!(stayO before after).any (lateO n u)))) [(T:Int)] = some (.bool (!(stayO before after).any (lateO n u))):=by rw[setVs_map AV.bool,assocB,get_put hm3.len,if_pos rfl];rfl
    repeat((conv=>whnf);first|refine sT ?_|rw[hB5]|rw[hP5]|(rw[hoL5];rotate_left;rfl)|(rw[assoc_at has4];rotate_left;rfl))
    try(conv=>whnf)
    have hset:=hJ3.1.setP (hm3.put' (S:=T) (v:=(!(stayO before after).any (lateO n u))) hv3.symm)
    rw[←setVs_map AV.bool]at hset
    rw[←hv3]at hset ⊢
    exact hK _ (hset.same rfl) ((hJ3.2.1.setA _).same rfl rfl rfl)
   ·have ge:((schedE n (bothM before after) u).2==0)=false:=by simpa using he
    rw[ge,Bool.false_and]at hcp
    refine Wk ?_
    refine SemK.regionFin mixed (fun X=>canI n before after s t S X B C u) [0,1,2,3,4,5,6,7,8,9,10,11,12,13,14,15] 1 rfl rfl (by decide) rfl hJ3 ?_
    iterate 16
     conv=>whnf
     apply exV
     ·rintro S' K' hI hh
      repeat((conv=>whnf);first|refine sT ?_|erw [hI.2.2.2.2.1]|erw [hI.1.p]|rw[ge])
      try(conv=>whnf)
      exact hh
    conv=>whnf
    have hv3:cnO n before after s t T=false:=hcp
    repeat' ((conv=>whnf);first|exact trivial|refine sJ ?_|refine aI (by first|exact trivial|exact Or.inr hJ3|exact Or.inl rfl|kernel_rfl) ?_|refine And.intro ?_ ?_|rw[hmo])
    all_goals(conv=>whnf)
    have has4:assoc (setKs ks3 [(T:Int)]) (setVs ks3 (vs3.map AV.bool) [(T:Int)] (.bool false)) [(T:Int)] = some (.bool false):=by rw[setVs_map AV.bool,assocB,get_put hm3.len,if_pos rfl];rfl
    repeat((conv=>whnf);first|refine sT ?_|rw[hB5]|rw[hP5]|(rw[hoL5];rotate_left;rfl)|(rw[assoc_at has4];rotate_left;rfl))
    try(conv=>whnf)
    have hset:=hJ3.1.setP (hm3.put' (S:=T) (v:=false) hv3.symm)
    rw[←setVs_map AV.bool]at hset
    rw[←hv3]at hset ⊢
    exact hK _ (hset.same rfl) ((hJ3.2.1.setA _).same rfl rfl rfl)
  ·obtain⟨x,hgx⟩:=getLt (l:=stepsL s t) hkt
   have hmx:=getMap (f:=Chg.av) hgx
   have gk:decide ((k:Int) < (stO s t:Int))=true:=decide_eq_true (by omega)
   have hA:∀(S:St) o,(S.addB o).bx[S.bx.length]? = some o:=fun S o=>St.addB_get S o
   have hA2:∀(S:St) o o',((S.addB o).setB S.bx.length o').bx[S.bx.length]? = some o':=fun S o o'=>St.setB_get (St.addB_get S o)
   have hb3:=fun o o'=>hJ3.box o o'
   have hC3:=fun o o'=>(hJ3.box o o').2.2.2.2.2
   have hsh:=shr_and (m:=(T:Int)) (k:=k) (by omega) (by omega) (by omega)
   have hbq:=bit_eq0 (S:=T) (k:=k)
   cases hbit:bitB T k with
   | false=>
    rw[hbit]at hbq
    have hskp:=addC_skip (s:=s) (S:=T) hgx (by rw[hbit];rfl)
    repeat((conv=>whnf);first|refine sJ ?_|refine aI (by first|exact trivial|exact inbMap hkt|exact(show(0:Int)≤_ by omega)|kernel_rfl) ?_|rw[gk]|rw[hmx]|rw[hA]|rw[hA2]|rw[hsh]|rw[hbq])
    try(conv=>whnf)
    exact⟨k+1,⟨by omega,by rw[hskp];exact hb3 _ _⟩,by omega,Sees.of_eq rfl,Sees.of_eq rfl,Sees.of_eq rfl,Sees.of_eq rfl,Sees.of_eq rfl,Sees.of_eq rfl,Sees.of_eq rfl,Sees.of_eq rfl,Sees.of_eq rfl,Sees.int (succI hkt (by show(stepsL s t).length≤_;omega)),trivial⟩
   | true=>
    rw[hbit]at hbq
    cases hadd:x.add with
    | false=>
     have hskp:=addC_skip (s:=s) (S:=T) hgx (by rw[hbit,hadd];rfl)
     repeat((conv=>whnf);first|refine sJ ?_|refine aI (by first|exact trivial|exact inbMap hkt|exact(show(0:Int)≤_ by omega)|kernel_rfl) ?_|rw[gk]|rw[hmx]|rw[hA]|rw[hA2]|rw[hsh]|rw[hbq]|rw[hadd])
     try(conv=>whnf)
     exact⟨k+1,⟨by omega,by rw[hskp];exact hb3 _ _⟩,by omega,Sees.of_eq rfl,Sees.of_eq rfl,Sees.of_eq rfl,Sees.of_eq rfl,Sees.of_eq rfl,Sees.of_eq rfl,Sees.of_eq rfl,Sees.of_eq rfl,Sees.of_eq rfl,Sees.int (succI hkt (by show(stepsL s t).length≤_;omega)),trivial⟩
    | true=>
     have hstp:=(addC_step hst (S:=T) hgx (by rw[hbit,hadd];rfl)).2.1
     have hcl:=c_Add LW (addC s (stepsL s t) T k) x.cell
     rw[hstp]at hcl
     repeat((conv=>whnf);first|refine sJ ?_|refine aI (by first|exact trivial|exact inbMap hkt|exact(show(0:Int)≤_ by omega)|kernel_rfl) ?_|rw[gk]|rw[hmx]|rw[hA]|rw[hA2]|rw[hsh]|rw[hbq]|rw[hadd]|rw[hC3])
     try(conv=>whnf)
     refine cD (hcl) ?_
     repeat((conv=>whnf);first|refine sT ?_|rw[hC3])
     try(conv=>whnf)
     exact⟨k+1,⟨by omega,(hb3 _ _).put⟩,by omega,Sees.of_eq rfl,Sees.of_eq rfl,Sees.of_eq rfl,Sees.of_eq rfl,Sees.of_eq rfl,Sees.of_eq rfl,Sees.of_eq rfl,Sees.of_eq rfl,Sees.of_eq rfl,Sees.int (succI hkt (by show(stepsL s t).length≤_;omega)),trivial⟩
 ·obtain⟨x,hgx⟩:=getLt (l:=stepsL s t) hkt
  have hmx:=getMap (f:=Chg.av) hgx
  have gk:decide ((k:Int) < (stO s t:Int))=true:=decide_eq_true (by omega)
  have hA:∀(S:St) o,(S.addB o).bx[S.bx.length]? = some o:=fun S o=>St.addB_get S o
  have hA2:∀(S:St) o o',((S.addB o).setB S.bx.length o').bx[S.bx.length]? = some o':=fun S o o'=>St.setB_get (St.addB_get S o)
  have hb3:=fun o o'=>hJ3.box o o'
  have hC3:=fun o o'=>(hJ3.box o o').2.2.2.2.2
  have hsh:=shr_and (m:=(T:Int)) (k:=k) (by omega) (by omega) (by omega)
  have hbq:=bit_eq0 (S:=T) (k:=k)
  cases hbit:bitB T k with
  | false=>
   rw[hbit]at hbq
   have hskp:=remC_skip (s:=s) (S:=T) hgx (by rw[hbit];rfl)
   repeat((conv=>whnf);first|refine sJ ?_|refine aI (by first|exact trivial|exact inbMap hkt|exact(show(0:Int)≤_ by omega)|kernel_rfl) ?_|rw[gk]|rw[hmx]|rw[hA]|rw[hA2]|rw[hsh]|rw[hbq])
   try(conv=>whnf)
   exact⟨k+1,⟨by omega,by rw[hskp];exact hb3 _ _⟩,by omega,Sees.of_eq rfl,Sees.of_eq rfl,Sees.of_eq rfl,Sees.of_eq rfl,Sees.of_eq rfl,Sees.of_eq rfl,Sees.of_eq rfl,Sees.of_eq rfl,Sees.of_eq rfl,Sees.int (succI hkt (by show(stepsL s t).length≤_;omega)),trivial⟩
  | true=>
   rw[hbit]at hbq
   cases hadd:x.add with
   | false=>
    have hstp:=(remC_step hst (S:=T) hgx (by rw[hbit,hadd];rfl)).2.1
    have hcl:=c_Remove LW (remC s (stepsL s t) T k) x.cell
    rw[hstp]at hcl
    repeat((conv=>whnf);first|refine sJ ?_|refine aI (by first|exact trivial|exact inbMap hkt|exact(show(0:Int)≤_ by omega)|kernel_rfl) ?_|rw[gk]|rw[hmx]|rw[hA]|rw[hA2]|rw[hsh]|rw[hbq]|rw[hadd]|rw[hC3])
    try(conv=>whnf)
    refine cD (hcl) ?_
    repeat((conv=>whnf);first|refine sT ?_|rw[hC3])
    try(conv=>whnf)
    exact⟨k+1,⟨by omega,(hb3 _ _).put⟩,by omega,Sees.of_eq rfl,Sees.of_eq rfl,Sees.of_eq rfl,Sees.of_eq rfl,Sees.of_eq rfl,Sees.of_eq rfl,Sees.of_eq rfl,Sees.of_eq rfl,Sees.of_eq rfl,Sees.int (succI hkt (by show(stepsL s t).length≤_;omega)),trivial⟩
   | true=>
    have hskp:=remC_skip (s:=s) (S:=T) hgx (by rw[hbit,hadd];rfl)
    repeat((conv=>whnf);first|refine sJ ?_|refine aI (by first|exact trivial|exact inbMap hkt|exact(show(0:Int)≤_ by omega)|kernel_rfl) ?_|rw[gk]|rw[hmx]|rw[hA]|rw[hA2]|rw[hsh]|rw[hbq]|rw[hadd])
    try(conv=>whnf)
    exact⟨k+1,⟨by omega,by rw[hskp];exact hb3 _ _⟩,by omega,Sees.of_eq rfl,Sees.of_eq rfl,Sees.of_eq rfl,Sees.of_eq rfl,Sees.of_eq rfl,Sees.of_eq rfl,Sees.of_eq rfl,Sees.of_eq rfl,Sees.of_eq rfl,Sees.int (succI hkt (by show(stepsL s t).length≤_;omega)),trivial⟩
end HM
