/- A reconfiguration as a whole. -/
import Derived.Test.YtckcedndijobaaaGreatDoorS250
set_option maxHeartbeats 64000000
set_option maxRecDepth 100000
namespace HM
open Go Go.RowKit Go.Proofs
theorem one_max:1≤maxLen:=by unfold maxLen;decide
def GVf (mb:Nat)(S:St)(v:AV)(l:List Flow):Prop:=(v=.grown .nils 0∧l=[])∨∃id d,id≠mb∧v=.vsl id 0 l.length 6∧S.bx[id]? = some (.cells (flatE (l.map Flow.av)++List.replicate (d*6) .undef) 78)
def GNf (mb:Nat)(S:St)(v:AV)(l:List Flow):Prop:=(v=.nils∧l=[])∨∃id ex,id≠mb∧v=.vsl id 0 l.length 6∧S.bx[id]? = some (.cells (flatE (l.map Flow.av)++ex) 78)
theorem flow_neq (a b:Flow):(!(a.id==b.id&&(a.src==b.src&&(a.dst==b.dst&&(a.period==b.period&&(a.phase==b.phase&&(a.dead==b.dead&&true)))))))=decide (a≠b):=by
 rw[decide_not]
 congr 1
 rw[Bool.eq_iff_iff]
 simp only[Bool.and_eq_true,beq_iff_eq,and_true,decide_eq_true_eq]
 constructor
 ·rintro⟨h1,h2,h3,h4,h5,h6⟩
  cases a;cases b
  simp only at h1 h2 h3 h4 h5 h6
  subst h1;subst h2;subst h3;subst h4;subst h5;subst h6;rfl
 ·rintro rfl;exact⟨rfl,rfl,rfl,rfl,rfl,rfl⟩
def mvO (n:Net)(before after:List Req)(v:AV)(s:Sched)(dn:AV):Ob:=.cells (movCs n before after v s dn) 92
theorem i_whole (n:Net)(hn:n.small)(before after:List Req)(hq1:before.length≤1099511627776)(hq2:after.length≤1099511627776)(hx1:∀x∈before,x.small)(hx2:∀x∈after,x.small)(s:Sched)(hc:s.cells.length≤281474976710656)(S:St)(mb:Nat)(hb:S.bx[mb]? = some (mvO n before after .nils s .nils)){K:AV→St→Prop}
  (hK1:∀S',wholeC n before after s≠0→K (.int .i64 (wholeC n before after s)) S')
  (hK0:∀S' v,wholeC n before after s=0→S'.bx[mb]? = some (mvO n before after v s .nils)→GNf mb S' v (bothM before after)→K (.int .i64 0) S') :
  ICall Tryz.prog LW 51 [.ptr mb 0] S K:=by
 refine ICall.intro mixed [10001,10002,12,21] (nt:=139) Tryz.func51 rfl rfl (by simp) ?_
 have hmk:=c_Make n hn before hq1 hx1 s hc
 refine Wk ?_
 refine SemK.regionFin mixed (fun X=>X.bx[mb]? = some (mvO n before after .nils s .nils)) [0,1,2,3,4,5,6,7,8,9,10,11,12,13,14,15,16] 3 rfl rfl (by decide) rfl hb ?_
 iterate 12
  conv=>whnf
  apply exV
  ·rintro S' K' hI hh
   repeat((conv=>whnf);first|refine sT ?_|rw[hI])
   try(conv=>whnf)
   exact hh
 conv=>whnf
 apply exV
 ·rintro S' K' hI hh
  refine Wk ?_
  refine cD (hmk) ?_
  exact hh
 iterate 4
  conv=>whnf
  apply exV
  ·rintro S' K' hI hh
   refine Wk ?_
   exact hh
 conv=>whnf
 repeat' ((conv=>whnf);first|exact trivial|refine sJ ?_|refine aI (by first|exact trivial|exact Or.inr hb|exact Or.inl rfl|kernel_rfl) ?_|refine And.intro ?_ ?_ )
 all_goals(conv=>whnf)
 by_cases h1:(makeM n before s).2.2≠0
 ·have g1:((makeM n before s).2.2 != 0)=true:=by simpa using h1
  have e1:wholeC n before after s=1:=by unfold wholeC;rw[if_pos (.inl h1)]
  refine SemK.regionFin mixed (fun _=>True) [0,1,2,3,4,5,6,7,8,9,10,11,12] 0 rfl rfl (by decide) rfl trivial ?_
  iterate 13
   conv=>whnf
   apply exV
   ·rintro S' K' hI hh
    repeat((conv=>whnf);first|refine sT ?_|rw[g1])
    try(conv=>whnf)
    exact hh
  refine Wk ?_
  have:=fun X=>hK1 X (by rw[e1];decide)
  rw[e1]at this
  exact this _
 have g1:((makeM n before s).2.2 != 0)=false:=by simpa using h1
 have h1':(makeM n before s).2.2=0:=by omega
 obtain⟨hrq,hv,_,_⟩:=make_parts h1'
 have hfc:=c_faultyC n hn hv.n0 after hq2 hx2
 refine SemK.regionFin mixed (fun X=>X.bx[mb]? = some (mvO n before after .nils s .nils)) [0,1,2,3,4,5,6,7,8,9,10,11,12] 0 rfl rfl (by decide) rfl hb ?_
 iterate 11
  conv=>whnf
  apply exV
  ·rintro S' K' hI hh
   repeat((conv=>whnf);first|refine sT ?_|rw[g1]|rw[hI])
   try(conv=>whnf)
   exact hh
 conv=>whnf
 apply exV
 ·rintro S' K' hI hh
  refine Wk ?_
  refine cD (hfc) ?_
  exact hh
 conv=>whnf
 apply exV
 ·rintro S' K' hI hh
  refine Wk ?_
  exact hh
 conv=>whnf
 by_cases h2:(reqE n after).2≠0
 ·have e1:wholeC n before after s=1:=by unfold wholeC;rw[if_pos (.inr h2)]
  rw[decide_eq_true h2]
  refine Wk ?_
  have:=fun X=>hK1 X (by rw[e1];decide)
  rw[e1]at this
  exact this _
 rw[decide_eq_false h2]
 have h2':(reqE n after).2=0:=by omega
 obtain⟨hok,hq16,hreq,hfl⟩:=reqE_ok hrq
 obtain⟨_,hqa16,hreqa,hfla⟩:=reqE_ok h2'
 repeat((conv=>whnf);first|refine sT ?_|rw[hb])
 try(conv=>whnf)
 refine SeqK.cutN mixed [8] [10017,10019,21] (fun (v:AV) (S1:St)=>S1.bx[mb]? = some (mvO n before after v s .nils)∧GVf mb S1 v (flowsQ before)∧before.any (differB after)=false) (fun _=>[(0,.ptr mb 0)]) ?_ ?_
 ·have hbi:S.inner.bx[mb]? = some (mvO n before after .nils s .nils):=hb
  repeat((conv=>whnf);first|refine sT ?_|rw[hbi])
  try(conv=>whnf)
  refine LoopK.recast (id:=mb) (mvO n before after (.grown .nils 0) s .nils) hbi rfl ⟨rfl,Sees.rfl' _,Sees.rfl' _,Sees.rfl' _,Sees.rfl' _,Sees.rfl' _,Sees.rfl' _,Sees.rfl' _,Sees.rfl' _,Sees.nilG,Sees.rfl' _,Sees.rfl' _,Sees.rfl' _,Sees.rfl' _,trivial⟩ ?_
  refine LoopK.runS mixed [8] (fun (t:Nat×AV) (S1:St)=>t.1≤before.length∧S1.bx[mb]? = some (mvO n before after t.2 s .nils)∧GVf mb S1 t.2 (flowsQ (before.take t.1))∧∀(j:Nat) x,j < t.1→before[j]? = some x→differB after x=false) (fun t=>[(0,.ptr mb 0),(47,encReqs before),(48,.int .i64 before.length),(49,.int .i64 t.1)]) (fun t=>before.length-t.1) (0,.grown .nils 0) ⟨by simp,St.setB_get hbi,.inl ⟨rfl,by simp[flowsQ]⟩,fun j x hj=>by omega⟩ ?_ ?_
  ·exact⟨Sees.of_eq rfl,Sees.of_eq rfl,Sees.int (by simp),Sees.of_eq rfl,trivial⟩
  rintro⟨k,v⟩ S1 ⟨hk,hB1,hgv,hinv⟩
  dsimp only at hk hB1 hgv hinv ⊢
  by_cases hkt:k < before.length
  rotate_left
  ·have hkn:k=before.length:=by omega
   subst hkn
   rw[List.take_length]at hgv
   have gk:decide ((before.length:Int) < (before.length:Int))=false:=decide_eq_false (by omega)
   repeat((conv=>whnf);first|refine sT ?_|rw[gk])
   try(conv=>whnf)
   exact⟨v,⟨hB1,hgv,List.any_eq_false.2 fun x hx=>by
    obtain⟨j,hj⟩:=List.getElem?_of_mem hx
    simpa using hinv j x (List.getElem?_eq_some_iff.1 hj).1 hj⟩,Sees.of_eq rfl,trivial⟩
  obtain⟨x,hgx⟩:=getLt hkt
  have hmx:=getMap (f:=Req.av) hgx
  have gk:decide ((k:Int) < (before.length:Int))=true:=decide_eq_true (by omega)
  have hi1:=(List.getElem?_eq_some_iff.1 hB1).1
  have hA:∀(S:St) o,(S.addB o).bx[S.bx.length]? = some o:=fun S o=>St.addB_get S o
  have hA2:∀(S:St) o o',((S.addB o).setB S.bx.length o').bx[S.bx.length]? = some o':=fun S o o'=>St.setB_get (St.addB_get S o)
  have hC1:∀o o':Ob,((S1.addB o).setB S1.bx.length o').bx[mb]? = some (mvO n before after v s .nils):=fun o o'=>by rw[St.setB_ne (by omega)];exact St.addB_old hB1
  have hft:flowsQ (before.take (k+1))=flowsQ (before.take k)++[x.flow]:=by unfold flowsQ;rw[take_succ hgx,List.map_append];rfl
  obtain⟨fl,hfle⟩:∃fl,fl=flowsQ (before.take k):=⟨_,rfl⟩
  have hfll:fl.length≤16:=by rw[hfle];unfold flowsQ;rw[List.length_map,List.length_take];omega
  rw[←hfle]at hft hgv
  repeat((conv=>whnf);first|refine sJ ?_|refine aI (by first|exact trivial|exact inbMap hkt|kernel_rfl) ?_|rw[gk]|rw[hmx]|rw[hA])
  try(conv=>whnf)
  refine SeqK.cutN mixed [10007] [10008] (fun (v:AV) (S2:St)=>S2.bx[mb]? = some (mvO n before after v s .nils)∧S2.bx[S1.bx.length]? = some (.cells x.av.cells 81)∧GVf mb S2 v (fl++[x.flow])) (fun _=>[(0,.ptr mb 0),(7,.ptr S1.bx.length 0),(47,encReqs before),(48,.int .i64 before.length),(49,.int .i64 k)]) ?_ ?_
  ·rcases hgv with ⟨rfl,ho⟩|⟨id,d,hid,rfl,hbx⟩
   ·have hD1:∀o o' o2:Ob,(((S1.addB o).setB S1.bx.length o').addB o2).bx[mb]? = some (mvO n before after (.grown .nils 0) s .nils):=fun o o' o2=>St.addB_old (hC1 o o')
    have hD2:∀o o' o2:Ob,(((S1.addB o).setB S1.bx.length o').addB o2).bx[S1.bx.length]? = some o':=fun o o' o2=>St.addB_old (hA2 _ o o')
    refine Wk ?_
    refine SemK.regionFin mixed (fun X=>X.bx[mb]? = some (mvO n before after (.grown .nils 0) s .nils)∧X.bx[S1.bx.length]? = some (.cells x.av.cells 81)) [0,1,2,3,4,5,6,7] 4 rfl rfl (by decide) rfl ⟨hC1 _ _,hA2 _ _ _⟩ ?_
    iterate 8
     conv=>whnf
     apply exV
     ·rintro S' K' hI hh
      repeat((conv=>whnf);first|refine sT ?_|erw [hI.1]|erw [hI.2])
      try(conv=>whnf)
      exact hh
    conv=>whnf
    repeat' ((conv=>whnf);first|exact trivial|refine sJ ?_|refine aI (by first|exact trivial|exact Or.inl rfl|kernel_rfl) ?_|refine And.intro ?_ ?_ )
    ·exact one_max
    intro d2
    repeat' ((conv=>whnf);first|exact trivial|refine sJ ?_|refine aI (by first|exact trivial|exact Or.inr ⟨hD1 _ _ _,hD2 _ _ _⟩|exact Or.inl rfl|kernel_rfl) ?_|refine And.intro ?_ ?_|rw[hD1]|rw[hD2])
    all_goals(conv=>whnf)
    all_goals
     refine⟨.vsl _ 0 1 6,⟨St.setB_get (hD1 _ _ _),(St.setB_ne (by omega)).trans (hD2 _ _ _),.inr ⟨_,d2,?_,by rw[ho];rfl,?_⟩⟩,Sees.of_eq rfl,Sees.of_eq rfl,Sees.of_eq rfl,Sees.of_eq rfl,Sees.of_eq rfl,trivial⟩
     ·rw[St.setB_len,St.addB_len];omega
     ·rw[ho]
      exact(St.setB_ne (by rw[St.setB_len,St.addB_len];omega)).trans (St.addB_get _ _)
   ·have hidl:=(List.getElem?_eq_some_iff.1 hbx).1
    have hBx:∀o o':Ob,((S1.addB o).setB S1.bx.length o').bx[id]? = some (.cells (flatE (fl.map Flow.av)++List.replicate (d*6) .undef) 78):=fun o o'=>by rw[St.setB_ne (by omega)];exact St.addB_old hbx
    refine Wk ?_
    refine SemK.regionFin mixed (fun X=>X.bx[mb]? = some (mvO n before after (.vsl id 0 fl.length 6) s .nils)∧X.bx[S1.bx.length]? = some (.cells x.av.cells 81)) [0,1,2,3,4,5,6,7] 4 rfl rfl (by decide) rfl ⟨hC1 _ _,hA2 _ _ _⟩ ?_
    iterate 8
     conv=>whnf
     apply exV
     ·rintro S' K' hI hh
      repeat((conv=>whnf);first|refine sT ?_|erw [hI.1]|erw [hI.2])
      try(conv=>whnf)
      exact hh
    conv=>whnf
    have hfl6:=flowEnc.flen fl
    have hpush:=flowEnc.push fl x.flow d
    have hcut:=flowEnc.cut fl (List.replicate (d*6) .undef)
    rw[List.length_append,hfl6]at hpush
    have hF1:∀o o' o2:Ob,(((S1.addB o).setB S1.bx.length o').setB id o2).bx[mb]? = some (mvO n before after (.vsl id 0 fl.length 6) s .nils):=fun o o' o2=>(St.setB_ne hid).trans (hC1 o o')
    have hF2:∀o o' o2:Ob,(((S1.addB o).setB S1.bx.length o').setB id o2).bx[S1.bx.length]? = some o':=fun o o' o2=>(St.setB_ne (by omega)).trans (hA2 _ o o')
    have hG1:∀o o' o2:Ob,(((S1.addB o).setB S1.bx.length o').addB o2).bx[mb]? = some (mvO n before after (.vsl id 0 fl.length 6) s .nils):=fun o o' o2=>St.addB_old (hC1 o o')
    have hG2:∀o o' o2:Ob,(((S1.addB o).setB S1.bx.length o').addB o2).bx[S1.bx.length]? = some o':=fun o o' o2=>St.addB_old (hA2 _ o o')
    repeat' ((conv=>whnf);first|exact trivial|refine sJ ?_|refine aI (by first|exact trivial|exact Or.inl rfl|kernel_rfl) ?_|refine And.intro ?_ ?_|rw[hBx])
    ·exact(show(fl.length+1)*48≤_ by omega)
    ·exact(show fl.length+1≤maxLen by unfold maxLen;omega)
    ·rw[List.length_append,hfl6];exact Nat.le_add_right _ _
    refine AppK.mk (fun hroom=>?_) (fun _=>?_)
    ·rw[List.length_append,hfl6]at hroom
     repeat' ((conv=>whnf);first|exact trivial|refine sJ ?_|refine aI (by first|exact trivial|exact Or.inr ⟨hF1 _ _ _,hF2 _ _ _⟩|exact Or.inl rfl|kernel_rfl) ?_|refine And.intro ?_ ?_|rw[hF1]|rw[hF2])
     all_goals(conv=>whnf)
     all_goals
      refine⟨.vsl id 0 (fl.length+1) 6,⟨St.setB_get (hF1 _ _ _),(St.setB_ne (by omega)).trans (hF2 _ _ _),.inr ⟨id,d-1,hid,by simp,?_⟩⟩,Sees.of_eq rfl,Sees.of_eq rfl,Sees.of_eq rfl,Sees.of_eq rfl,Sees.of_eq rfl,trivial⟩
      refine((St.setB_ne hid.symm).trans (St.setB_get (hBx _ _))).trans ?_
      rw[←hpush hroom]
      rfl
    ·intro d2
     repeat' ((conv=>whnf);first|exact trivial|refine sJ ?_|refine aI (by first|exact trivial|exact Or.inr ⟨hG1 _ _ _,hG2 _ _ _⟩|exact Or.inl rfl|kernel_rfl) ?_|refine And.intro ?_ ?_|rw[hG1]|rw[hG2])
     all_goals(conv=>whnf)
     all_goals
      refine⟨.vsl _ 0 (fl.length+1) 6,⟨St.setB_get (hG1 _ _ _),(St.setB_ne (by omega)).trans (hG2 _ _ _),.inr ⟨_,d2,?_,by rw[List.length_append];rfl,?_⟩⟩,Sees.of_eq rfl,Sees.of_eq rfl,Sees.of_eq rfl,Sees.of_eq rfl,Sees.of_eq rfl,trivial⟩
      ·rw[St.setB_len,St.addB_len];omega
      ·refine((St.setB_ne (by rw[St.setB_len,St.addB_len];omega)).trans (St.addB_get _ _)).trans ?_
       rw[←flatE_push]
       show some (Ob.cells (List.take (fl.length*6) _++_++_) _)=_
       rw[hcut];rfl
  rintro v2 S2 ⟨hB2,hX2,hgv2⟩
  rw[←hft]at hgv2
  have hfd:=c_findC LW after x.flow.id (by omega)
  have hi2:=(List.getElem?_eq_some_iff.1 hB2).1
  have hi3:=(List.getElem?_eq_some_iff.1 hX2).1
  have hH1:∀o o':Ob,((S2.addB o).setB S2.bx.length o').bx[mb]? = some (mvO n before after v2 s .nils):=fun o o'=>by rw[St.setB_ne (by omega)];exact St.addB_old hB2
  have hH2:∀o o':Ob,((S2.addB o).setB S2.bx.length o').bx[S1.bx.length]? = some (.cells x.av.cells 81):=fun o o'=>by rw[St.setB_ne (by omega)];exact St.addB_old hX2
  have hgvH:∀o o':Ob,GVf mb ((S2.addB o).setB S2.bx.length o') v2 (flowsQ (before.take (k+1))):=fun o o'=>by
   rcases hgv2 with h|⟨id,d,h1,h2,h3⟩
   ·exact .inl h
   ·have:=(List.getElem?_eq_some_iff.1 h3).1
    exact .inr ⟨id,d,h1,h2,by rw[St.setB_ne (by omega)];exact St.addB_old h3⟩
  have nxt:differB after x=false→∀(j:Nat) y,j < k+1→before[j]? = some y→differB after y=false:=fun h j y hj hy=>by
   rcases Nat.lt_succ_iff_lt_or_eq.1 hj with h'|rfl
   ·exact hinv j y h' hy
   ·rw[hgx]at hy;injection hy with hy;subst hy;exact h
  refine Wk ?_
  refine SemK.regionFin mixed (fun X=>X.bx[mb]? = some (mvO n before after v2 s .nils)∧X.bx[S1.bx.length]? = some (.cells x.av.cells 81)) [0,1,2,3,4,5,6,7,8,9,10] 3 rfl rfl (by decide) rfl ⟨hB2,hX2⟩ ?_
  iterate 7
   conv=>whnf
   apply exV
   ·rintro S' K' hI hh
    repeat((conv=>whnf);first|refine sT ?_|erw [hI.1]|erw [hI.2])
    try(conv=>whnf)
    exact hh
  conv=>whnf
  apply exV
  ·rintro S' K' hI hh
   refine Wk ?_
   refine cD (hfd) ?_
   exact hh
  iterate 3
   conv=>whnf
   apply exV
   ·rintro S' K' hI hh
    refine Wk ?_
    exact hh
  conv=>whnf
  repeat' ((conv=>whnf);first|exact trivial|refine sJ ?_|refine aI (by first|exact trivial|exact Or.inr ⟨hH1 _ _,hH2 _ _⟩|exact Or.inr ⟨St.addB_old hB2,St.addB_old hX2⟩|exact Or.inl rfl|kernel_rfl) ?_|refine And.intro ?_ ?_|rw[hA])
  all_goals(conv=>whnf)
  cases his:(getQ after x.flow.id).isSome with
  | false=>
   have hno:differB after x=false:=by
    unfold differB
    cases hg:getQ after x.flow.id with
    | none=>rfl
    | some y=>rw[hg]at his;cases his
   refine Wk ?_
   exact⟨(k+1,v2),⟨by simp only;omega,hH1 _ _,hgvH _ _,nxt hno⟩,by simp only;omega,Sees.of_eq rfl,Sees.of_eq rfl,Sees.of_eq rfl,Sees.int (succI hkt (by omega)),trivial⟩
  | true=>
   obtain⟨y,hgy⟩:=Option.isSome_iff_exists.1 his
   have hyd:getD after x.flow.id=y:=by unfold getD;rw[hgy];rfl
   rw[hyd]
   have hne:=flow_neq y.flow x.flow
   by_cases hyx:y.flow=x.flow
   ·have hno:differB after x=false:=by unfold differB;rw[hgy];simp[hyx]
    rw[decide_eq_false (by simp[hyx])]at hne
    repeat((conv=>whnf);first|refine sT ?_|rw[hA2]|rw[hH2]|rw[hne])
    try(conv=>whnf)
    exact⟨(k+1,v2),⟨by simp only;omega,hH1 _ _,hgvH _ _,nxt hno⟩,by simp only;omega,Sees.of_eq rfl,Sees.of_eq rfl,Sees.of_eq rfl,Sees.int (succI hkt (by omega)),trivial⟩
   ·have hyes:differB after x=true:=by unfold differB;rw[hgy];simp[hyx]
    have e1:wholeC n before after s=11:=by unfold wholeC;rw[if_neg (by omega),if_pos (List.any_eq_true.2 ⟨x,List.mem_of_getElem? hgx,hyes⟩)]
    rw[decide_eq_true hyx]at hne
    repeat((conv=>whnf);first|refine sT ?_|rw[hA2]|rw[hH2]|rw[hne])
    try(conv=>whnf)
    have:=fun X=>hK1 X (by rw[e1];decide)
    rw[e1]at this
    exact this _
 ·rintro v S1 ⟨hB1,hgv,hdf⟩
  obtain⟨flA,hflA⟩:∃flA:Nat→List Flow,flA=fun k=>flowsQ before++((after.take k).filter fun x=>!hasQ before x.flow.id).map Req.flow:=⟨_,rfl⟩
  have hA0:flA 0=flowsQ before:=by rw[hflA];simp
  have hAe:flA after.length=flowsA before after:=by rw[hflA];simp only[List.take_length];rfl
  have hAl:∀k,(flA k).length≤32:=fun k=>by
   rw[hflA]
   have h1:=List.length_filter_le (fun x:Req=>!hasQ before x.flow.id) (after.take k)
   rw[List.length_take]at h1
   simp only[List.length_append,List.length_map,flowsQ]
   omega
  have hAs:∀(k:Nat) x,after[k]? = some x→flA (k+1)=flA k++if hasQ before x.flow.id=true then [] else [x.flow]:=fun k x hx=>by
   rw[hflA]
   simp only
   rw[take_succ hx,List.filter_append,List.map_append,List.append_assoc]
   congr 2
   simp only[List.filter_cons,List.filter_nil]
   cases hasQ before x.flow.id<;>rfl
  conv=>whnf
  refine SeqK.cutNT mixed [20] (fun (v:AV) (S2:St)=>S2.bx[mb]? = some (mvO n before after v s .nils)∧GVf mb S2 v (flowsA before after)∧(after.any fun x=>s.len % x.flow.period != 0)=false) (fun _=>[(0,.ptr mb 0)]) ?_ ?_
  ·repeat((conv=>whnf);first|refine sT ?_|rw[hB1])
   try(conv=>whnf)
   refine LoopK.runS mixed [20] (fun (t:Nat×AV) (S2:St)=>t.1≤after.length∧S2.bx[mb]? = some (mvO n before after t.2 s .nils)∧GVf mb S2 t.2 (flA t.1)∧∀(j:Nat) x,j < t.1→after[j]? = some x→(s.len % x.flow.period != 0)=false) (fun t=>[(0,.ptr mb 0),(87,encReqs after),(88,.int .i64 after.length),(89,.int .i64 t.1)]) (fun t=>after.length-t.1) (0,v) ⟨by simp,hB1,by rw[hA0];exact hgv,fun j x hj=>by omega⟩ ?_ ?_
   ·exact⟨Sees.of_eq rfl,Sees.of_eq rfl,Sees.int (by simp),Sees.of_eq rfl,trivial⟩
   rintro⟨k,v2⟩ S2 ⟨hk,hB2,hgv2,hinv⟩
   dsimp only at hk hB2 hgv2 hinv ⊢
   by_cases hkt:k < after.length
   rotate_left
   ·have hkn:k=after.length:=by omega
    subst hkn
    have gk:decide ((after.length:Int) < (after.length:Int))=false:=decide_eq_false (by omega)
    repeat((conv=>whnf);first|refine sT ?_|rw[gk])
    try(conv=>whnf)
    exact⟨v2,⟨hB2,by rw[←hAe];exact hgv2,List.any_eq_false.2 fun x hx=>by
     obtain⟨j,hj⟩:=List.getElem?_of_mem hx
     simpa using hinv j x (List.getElem?_eq_some_iff.1 hj).1 hj⟩,Sees.of_eq rfl,trivial⟩
   obtain⟨x,hgx⟩:=getLt hkt
   have hmx:=getMap (f:=Req.av) hgx
   have hxm:=List.mem_of_getElem? hgx
   have gk:decide ((k:Int) < (after.length:Int))=true:=decide_eq_true (by omega)
   have hfe:=flowE_ok (hreqa x hxm).flow
   have hsz:=sized_bd hv.size
   have htm:s.len.tmod x.flow.period=s.len % x.flow.period:=tmod_eq (by omega)
   have hnx:=hAs k x hgx
   have hal:=hAl k
   repeat((conv=>whnf);first|refine sT ?_|rw[gk])
   try(conv=>whnf)
   refine SeqK.cutN mixed [18] [] (fun (v:AV) (S3:St)=>S3.bx[mb]? = some (mvO n before after v s .nils)∧GVf mb S3 v (flA (k+1))∧(s.len % x.flow.period != 0)=false) (fun _=>[(0,.ptr mb 0),(87,encReqs after),(88,.int .i64 after.length),(89,.int .i64 k)]) ?_ ?_
   rotate_left
   ·rintro v3 S3 ⟨hB3,hgv3,hr⟩
    refine Wk ?_
    refine⟨(k+1,v3),⟨by simp only;omega,hB3,hgv3,fun j y hj hy=>?_⟩,by simp only;omega,Sees.of_eq rfl,Sees.of_eq rfl,Sees.of_eq rfl,Sees.int (succI hkt (by omega)),trivial⟩
    rcases Nat.lt_succ_iff_lt_or_eq.1 hj with h'|rfl
    ·exact hinv j y h' hy
    ·rw[hgx]at hy;injection hy with hy;subst hy;exact hr
   have hi1:=(List.getElem?_eq_some_iff.1 hB2).1
   have hA:∀(S:St) o,(S.addB o).bx[S.bx.length]? = some o:=fun S o=>St.addB_get S o
   have hA2:∀(S:St) o o',((S.addB o).setB S.bx.length o').bx[S.bx.length]? = some o':=fun S o o'=>St.setB_get (St.addB_get S o)
   have hC1:∀o o':Ob,((S2.addB o).setB S2.bx.length o').bx[mb]? = some (mvO n before after v2 s .nils):=fun o o'=>by rw[St.setB_ne (by omega)];exact St.addB_old hB2
   cases hr:(s.len % x.flow.period != 0) with
   | true=>
    have e1:wholeC n before after s=2:=by unfold wholeC;rw[if_neg (by omega),if_neg (by rw[hdf];decide),if_pos (List.any_eq_true.2 ⟨x,hxm,hr⟩)]
    repeat((conv=>whnf);first|refine sJ ?_|refine aI (by first|exact trivial|exact inbMap hkt|exact(show x.flow.period≠0 by omega)|kernel_rfl) ?_|rw[hmx]|rw[hA]|rw[hA2]|rw[hC1]|rw[htm]|rw[hr])
    try(conv=>whnf)
    have:=fun X=>hK1 X (by rw[e1];decide)
    rw[e1]at this
    exact this _
   | false=>
   repeat((conv=>whnf);first|refine sJ ?_|refine aI (by first|exact trivial|exact inbMap hkt|exact(show x.flow.period≠0 by omega)|kernel_rfl) ?_|rw[hmx]|rw[hA]|rw[hA2]|rw[hC1]|rw[htm]|rw[hr])
   try(conv=>whnf)
   have hJ1:∀o o' o2 o3:Ob,((((S2.addB o).setB S2.bx.length o').addB o2).setB ((S2.addB o).setB S2.bx.length o').bx.length o3).bx[mb]? = some (mvO n before after v2 s .nils):=fun o o' o2 o3=>(St.setB_ne (by rw[St.setB_len,St.addB_len];omega)).trans (St.addB_old (hC1 o o'))
   have hJ2:∀o o' o2 o3:Ob,((((S2.addB o).setB S2.bx.length o').addB o2).setB ((S2.addB o).setB S2.bx.length o').bx.length o3).bx[S2.bx.length]? = some o':=fun o o' o2 o3=>(St.setB_ne (by rw[St.setB_len,St.addB_len];omega)).trans (St.addB_old (hA2 _ o o'))
   have hJ3:∀o o' o2 o3:Ob,GVf mb ((((S2.addB o).setB S2.bx.length o').addB o2).setB ((S2.addB o).setB S2.bx.length o').bx.length o3) v2 (flA k):=fun o o' o2 o3=>by
    rcases hgv2 with h|⟨id,d,h1,h2,h3⟩
    ·exact .inl h
    ·have:=(List.getElem?_eq_some_iff.1 h3).1
     exact .inr ⟨id,d,h1,h2,(St.setB_ne (by rw[St.setB_len,St.addB_len];omega)).trans (St.addB_old ((St.setB_ne (by omega)).trans (St.addB_old h3)))⟩
   have hfd:=c_findC LW before x.flow.id (by omega)
   have hgh:=getQ_has before x.flow.id
   refine SeqK.cutN mixed [10017] [10019] (fun (_:Unit) (S4:St)=>S4.bx[mb]? = some (mvO n before after v2 s .nils)∧S4.bx[S2.bx.length]? = some (.cells x.av.cells 81)∧GVf mb S4 v2 (flA k)) (fun _=>[(0,.ptr mb 0),(11,.ptr S2.bx.length 0),(13,.bool (getQ before x.flow.id).isSome),(87,encReqs after),(88,.int .i64 after.length),(89,.int .i64 k)]) ?_ ?_
   ·refine Wk ?_
    refine SemK.regionFin mixed (fun X=>X.bx[mb]? = some (mvO n before after v2 s .nils)∧X.bx[S2.bx.length]? = some (.cells x.av.cells 81)) [0,1,2,3,4,5,6,7,8,9,10] 3 rfl rfl (by decide) rfl ⟨hC1 _ _,hA2 _ _ _⟩ ?_
    iterate 7
     conv=>whnf
     apply exV
     ·rintro S' K' hI hh
      repeat((conv=>whnf);first|refine sT ?_|erw [hI.1]|erw [hI.2])
      try(conv=>whnf)
      exact hh
    conv=>whnf
    apply exV
    ·rintro S' K' hI hh
     refine Wk ?_
     refine cD (hfd) ?_
     exact hh
    iterate 3
     conv=>whnf
     apply exV
     ·rintro S' K' hI hh
      refine Wk ?_
      exact hh
    conv=>whnf
    repeat' ((conv=>whnf);first|exact trivial|refine sJ ?_|refine aI (by first|exact trivial|exact Or.inr ⟨St.addB_old (hC1 _ _),St.addB_old (hA2 _ _ _)⟩|exact Or.inr ⟨hJ1 _ _ _ _,hJ2 _ _ _ _⟩|exact Or.inl rfl|kernel_rfl) ?_|refine And.intro ?_ ?_|rw[hA])
    all_goals(conv=>whnf)
    all_goals exact⟨(),⟨hJ1 _ _ _ _,hJ2 _ _ _ _,hJ3 _ _ _ _⟩,Sees.of_eq rfl,Sees.of_eq rfl,Sees.of_eq rfl,Sees.of_eq rfl,Sees.of_eq rfl,Sees.of_eq rfl,trivial⟩
   rintro⟨⟩ S4 ⟨hB4,hX4,hgv4⟩
   obtain⟨fl,hfle⟩:∃fl,fl=flA k:=⟨_,rfl⟩
   rw[←hfle]at hnx hgv4 hal
   have hi4:=(List.getElem?_eq_some_iff.1 hB4).1
   have hi5:=(List.getElem?_eq_some_iff.1 hX4).1
   cases his:(getQ before x.flow.id).isSome with
   | true=>
    rw[his]at hgh
    rw[←hgh,if_pos rfl,List.append_nil]at hnx
    refine Wk ?_
    exact⟨v2,⟨hB4,by rw[hnx];exact hgv4,rfl⟩,Sees.of_eq rfl,Sees.of_eq rfl,Sees.of_eq rfl,Sees.of_eq rfl,trivial⟩
   | false=>
   rw[his]at hgh
   rw[←hgh,if_neg (by decide)]at hnx
   rw[hnx]
   rcases hgv4 with ⟨rfl,ho⟩|⟨id,d,hid,rfl,hbx⟩
   ·have hD1:∀o2:Ob,(S4.addB o2).bx[mb]? = some (mvO n before after (.grown .nils 0) s .nils):=fun o2=>St.addB_old hB4
    have hD2:∀o2:Ob,(S4.addB o2).bx[S2.bx.length]? = some (.cells x.av.cells 81):=fun o2=>St.addB_old hX4
    refine Wk ?_
    refine SemK.regionFin mixed (fun X=>X.bx[mb]? = some (mvO n before after (.grown .nils 0) s .nils)∧X.bx[S2.bx.length]? = some (.cells x.av.cells 81)) [0,1,2,3,4,5,6,7] 4 rfl rfl (by decide) rfl ⟨hB4,hX4⟩ ?_
    iterate 8
     conv=>whnf
     apply exV
     ·rintro S' K' hI hh
      repeat((conv=>whnf);first|refine sT ?_|erw [hI.1]|erw [hI.2])
      try(conv=>whnf)
      exact hh
    conv=>whnf
    repeat' ((conv=>whnf);first|exact trivial|refine sJ ?_|refine aI (by first|exact trivial|exact Or.inl rfl|kernel_rfl) ?_|refine And.intro ?_ ?_ )
    ·exact one_max
    intro d2
    repeat' ((conv=>whnf);first|exact trivial|refine sJ ?_|refine aI (by first|exact trivial|exact Or.inr ⟨hD1 _,hD2 _⟩|exact Or.inl rfl|kernel_rfl) ?_|refine And.intro ?_ ?_|rw[hD1]|rw[hD2])
    all_goals(conv=>whnf)
    all_goals
     refine⟨.vsl _ 0 1 6,⟨St.setB_get (hD1 _),.inr ⟨_,d2,?_,by rw[ho];rfl,?_⟩,rfl⟩,Sees.of_eq rfl,Sees.of_eq rfl,Sees.of_eq rfl,Sees.of_eq rfl,trivial⟩
     ·omega
     ·rw[ho]
      exact(St.setB_ne (by omega)).trans (St.addB_get _ _)
   ·have hidl:=(List.getElem?_eq_some_iff.1 hbx).1
    have hfl6:=flowEnc.flen fl
    have hpush:=flowEnc.push fl x.flow d
    have hcut:=flowEnc.cut fl (List.replicate (d*6) .undef)
    rw[List.length_append,hfl6]at hpush
    have hpid:id≠S2.bx.length:=fun h=>by
     rw[h,hX4]at hbx
     have e:=Ob.cells.inj (Option.some.inj hbx)
     exact absurd e.2 (by decide)
    have hF1:∀o2:Ob,(S4.setB id o2).bx[mb]? = some (mvO n before after (.vsl id 0 fl.length 6) s .nils):=fun o2=>(St.setB_ne hid).trans hB4
    have hF2:∀o2:Ob,(S4.setB id o2).bx[S2.bx.length]? = some (.cells x.av.cells 81):=fun o2=>(St.setB_ne hpid).trans hX4
    have hG1:∀o2:Ob,(S4.addB o2).bx[mb]? = some (mvO n before after (.vsl id 0 fl.length 6) s .nils):=fun o2=>St.addB_old hB4
    have hG2:∀o2:Ob,(S4.addB o2).bx[S2.bx.length]? = some (.cells x.av.cells 81):=fun o2=>St.addB_old hX4
    refine Wk ?_
    refine SemK.regionFin mixed (fun X=>X.bx[mb]? = some (mvO n before after (.vsl id 0 fl.length 6) s .nils)∧X.bx[S2.bx.length]? = some (.cells x.av.cells 81)) [0,1,2,3,4,5,6,7] 4 rfl rfl (by decide) rfl ⟨hB4,hX4⟩ ?_
    iterate 8
     conv=>whnf
     apply exV
     ·rintro S' K' hI hh
      repeat((conv=>whnf);first|refine sT ?_|erw [hI.1]|erw [hI.2])
      try(conv=>whnf)
      exact hh
    conv=>whnf
    repeat' ((conv=>whnf);first|exact trivial|refine sJ ?_|refine aI (by first|exact trivial|exact Or.inl rfl|kernel_rfl) ?_|refine And.intro ?_ ?_|rw[hbx])
    ·exact(show(fl.length+1)*48≤_ by omega)
    ·exact(show fl.length+1≤maxLen by unfold maxLen;omega)
    ·rw[List.length_append,hfl6];exact Nat.le_add_right _ _
    refine AppK.mk (fun hroom=>?_) (fun _=>?_)
    ·rw[List.length_append,hfl6]at hroom
     repeat' ((conv=>whnf);first|exact trivial|refine sJ ?_|refine aI (by first|exact trivial|exact Or.inr ⟨hF1 _,hF2 _⟩|exact Or.inl rfl|kernel_rfl) ?_|refine And.intro ?_ ?_|rw[hF1]|rw[hF2])
     all_goals(conv=>whnf)
     all_goals
      refine⟨.vsl id 0 (fl.length+1) 6,⟨St.setB_get (hF1 _),.inr ⟨id,d-1,hid,by rw[List.length_append];rfl,?_⟩,rfl⟩,Sees.of_eq rfl,Sees.of_eq rfl,Sees.of_eq rfl,Sees.of_eq rfl,trivial⟩
      refine((St.setB_ne hid.symm).trans (St.setB_get hbx)).trans ?_
      rw[←hpush hroom]
      rfl
    ·intro d2
     repeat' ((conv=>whnf);first|exact trivial|refine sJ ?_|refine aI (by first|exact trivial|exact Or.inr ⟨hG1 _,hG2 _⟩|exact Or.inl rfl|kernel_rfl) ?_|refine And.intro ?_ ?_|rw[hG1]|rw[hG2])
     all_goals(conv=>whnf)
     all_goals
      refine⟨.vsl _ 0 (fl.length+1) 6,⟨St.setB_get (hG1 _),.inr ⟨_,d2,?_,by rw[List.length_append];rfl,?_⟩,rfl⟩,Sees.of_eq rfl,Sees.of_eq rfl,Sees.of_eq rfl,Sees.of_eq rfl,trivial⟩
      ·omega
      ·refine((St.setB_ne (by omega)).trans (St.addB_get _ _)).trans ?_
       rw[←flatE_push]
       show some (Ob.cells (List.take (fl.length*6) _++_++_) _)=_
       rw[hcut];rfl
  rintro v S2 ⟨hB2,hgv2,hper⟩
  have hro:=reqsOk hrq
  have hra:=reqsOk h2'
  have hbl:=both_len hro hra
  have hal:=hAl after.length
  rw[hAe]at hal
  have hw:wholeC n before after s=if 16 < (bothM before after).length then 2 else 0:=by unfold wholeC;rw[if_neg (by omega),if_neg (by rw[hdf];decide),if_neg (by rw[hper];decide)]
  rcases hgv2 with ⟨rfl,ho⟩|⟨id,d,hid,rfl,hbx⟩
  ·refine SemK.recast (id:=mb) (mvO n before after .nils s .nils) hB2 rfl ⟨rfl,Sees.rfl' _,Sees.rfl' _,Sees.rfl' _,Sees.rfl' _,Sees.rfl' _,Sees.rfl' _,Sees.rfl' _,Sees.rfl' _,Sees.gNil,Sees.rfl' _,Sees.rfl' _,Sees.rfl' _,Sees.rfl' _,trivial⟩ ?_
   have hB3:∀o,(S2.setB mb o).bx[mb]? = some o:=fun o=>St.setB_get hB2
   have hB4:∀o,((S2.setB mb o).inner.outer (S2.setB mb o)).bx[mb]? = some o:=fun o=>St.setB_get hB2
   have hbn:bothM before after=[]:=(both_eq hro hra (ds:=[]) (by rw[ho]) List.Pairwise.nil).symm
   have hw0:wholeC n before after s=0:=by rw[hw,hbn];rfl
   refine twC_sound (ct:=[]) mixed _ _ _ _ ?_
   repeat((conv=>whnf);first|refine sT ?_|rw[hB3])
   try(conv=>whnf)
   refine CallK.inl rfl (ICall.sort0 k_sortFl0 ?_)
   repeat((conv=>whnf);first|refine sT ?_|rw[hB4]|rw[hB3])
   try(conv=>whnf)
   exact hK0 _ .nils hw0 (hB3 _) (.inl ⟨rfl,hbn⟩)
  ·refine twC_sound (ct:=[]) mixed _ _ _ _ ?_
   repeat((conv=>whnf);first|refine sT ?_|rw[hB2])
   try(conv=>whnf)
   refine CallK.inl rfl (i_sortFl hbx (by omega) rfl fun ds hp hs=>?_)
   have hds:=both_eq hro hra hp hs
   have hB3:∀o,(S2.setB id o).bx[mb]? = some (mvO n before after (.vsl id 0 (flowsA before after).length 6) s .nils):=fun o=>(St.setB_ne hid).trans hB2
   by_cases h16:16 < (bothM before after).length
   ·have g:decide ((16:Int) < ((flowsA before after).length:Int))=true:=decide_eq_true (by omega)
    rw[if_pos h16]at hw
    repeat((conv=>whnf);first|refine sT ?_|rw[hB3]|rw[g])
    try(conv=>whnf)
    have:=fun X=>hK1 X (by rw[hw];decide)
    rw[hw]at this
    exact this _
   ·have g:decide ((16:Int) < ((flowsA before after).length:Int))=false:=decide_eq_false (by omega)
    rw[if_neg h16]at hw
    repeat((conv=>whnf);first|refine sT ?_|rw[hB3]|rw[g])
    try(conv=>whnf)
    refine hK0 _ _ hw (hB3 _) (.inr ⟨id,List.replicate (d*6) .undef,hid,by rw[hbl],?_⟩)
    rw[←hds]
    exact St.setB_get hbx
end HM
