/- A reconfiguration as a whole. -/
import Derived.Test.YtggiajmlnieidaaGreatDoorS250
set_option maxHeartbeats 64000000
set_option maxRecDepth 100000
namespace HM
open Go Go.RowKit Go.Proofs
theorem zee:1≤maxLen:=by unfold maxLen;decide
def GVf (mb:Nat)(S:St)(v:AV)(l:List zf):Prop:=(v=.grown .nils 0∧l=[])∨∃id d,id≠mb∧v=.vsl id 0 l.length 6∧S.bx[id]? = some (.cells (zd (l.map zf.av)++List.replicate (d*6) .undef) 46)
def GNf (mb:Nat)(S:St)(v:AV)(l:List zf):Prop:=(v=.nils∧l=[])∨∃id ex,id≠mb∧v=.vsl id 0 l.length 6∧S.bx[id]? = some (.cells (zd (l.map zf.av)++ex) 46)
theorem zhd (a b:zf):(!(a.id==b.id&&(a.src==b.src&&(a.dst==b.dst&&(a.period==b.period&&(a.phase==b.phase&&(a.dead==b.dead&&true)))))))=decide (a≠b):=by
 rw[decide_not]
 congr 1
 rw[Bool.eq_iff_iff]
 simp only[Bool.and_eq_true,beq_iff_eq,and_true,decide_eq_true_eq]
 constructor
 ·rintro⟨h1,h2,h3,h4,h5,h6⟩
  cases a;cases b
  simp only at h1 h2 h3 h4 h5 h6
  subst h1;subst h2;subst h3;subst h4;subst h5;subst h6;rfl
 ·rintro rfl;exact⟨rfl,rfl,rfl,rfl,rfl,rfl⟩
def qu (n:zF)(before after:List ye)(v:AV)(s:zc)(dn:AV):Ob:=.cells (zgL n before after v s dn) 100
theorem ziy (n:zF)(hn:n.small)(before after:List ye)(hq1:before.length≤1099511627776)(hq2:after.length≤1099511627776)(hx1:∀x∈before,x.small)(hx2:∀x∈after,x.small)(s:zc)(hc:s.cells.length≤281474976710656)(S:St)(mb:Nat)(hb:S.bx[mb]? = some (qu n before after .nils s .nils)){K:AV→St→Prop}
  (hK1:∀S',yJ n before after s≠0→K (.int .i64 (yJ n before after s)) S')
  (hK0:∀S' v,yJ n before after s=0→S'.bx[mb]? = some (qu n before after v s .nils)→GNf mb S' v (yN before after)→K (.int .i64 0) S') :
  zQ Tryz.prog LW 48 [.ptr mb 0] S K:=by
 refine zQ.intro mixed [10001,10002,12,21] (nt:=139) Tryz.func48 rfl rfl (by simp) ?_
 have hmk:=zdH n hn before hq1 hx1 s hc
 refine Wk ?_
 refine zW.ym mixed (fun X=>X.bx[mb]? = some (qu n before after .nils s .nils)) [0,1,2,3,4,5,6,7,8,9,10,11,12,13,14,15,16] 3 rfl rfl (by decide) rfl hb ?_
 iterate 12
  conv=>whnf
  apply vA
  ·rintro S' K' hI hh
   repeat((conv=>whnf);first|refine sT ?_|rw[hI])
   try(conv=>whnf)
   exact hh
 conv=>whnf
 apply vA
 ·rintro S' K' hI hh
  refine Wk ?_
  refine cD (hmk) ?_
  exact hh
 iterate 4
  conv=>whnf
  apply vA
  ·rintro S' K' hI hh
   refine Wk ?_
   exact hh
 conv=>whnf
 repeat' ((conv=>whnf);first|exact trivial|refine sJ ?_|refine aI (by first|exact trivial|exact Or.inr hb|exact Or.inl rfl|kernel_rfl) ?_|refine And.intro ?_ ?_ )
 all_goals(conv=>whnf)
 by_cases h1:(xh n before s).2.2≠0
 ·have g1:((xh n before s).2.2 != 0)=true:=by simpa using h1
  have e1:yJ n before after s=1:=by unfold yJ;rw[if_pos (.inl h1)]
  refine zW.ym mixed (fun _=>True) [0,1,2,3,4,5,6,7,8,9,10,11,12] 0 rfl rfl (by decide) rfl trivial ?_
  iterate 13
   conv=>whnf
   apply vA
   ·rintro S' K' hI hh
    repeat((conv=>whnf);first|refine sT ?_|rw[g1])
    try(conv=>whnf)
    exact hh
  refine Wk ?_
  have:=fun X=>hK1 X (by rw[e1];decide)
  rw[e1]at this
  exact this _
 have g1:((xh n before s).2.2 != 0)=false:=by simpa using h1
 have h1':(xh n before s).2.2=0:=by omega
 obtain⟨hrq,hv,_,_⟩:=qO h1'
 have hfc:=zfR n hn hv.n0 after hq2 hx2
 refine zW.ym mixed (fun X=>X.bx[mb]? = some (qu n before after .nils s .nils)) [0,1,2,3,4,5,6,7,8,9,10,11,12] 0 rfl rfl (by decide) rfl hb ?_
 iterate 11
  conv=>whnf
  apply vA
  ·rintro S' K' hI hh
   repeat((conv=>whnf);first|refine sT ?_|rw[g1]|rw[hI])
   try(conv=>whnf)
   exact hh
 conv=>whnf
 apply vA
 ·rintro S' K' hI hh
  refine Wk ?_
  refine cD (hfc) ?_
  exact hh
 conv=>whnf
 apply vA
 ·rintro S' K' hI hh
  refine Wk ?_
  exact hh
 conv=>whnf
 by_cases h2:(wZ n after).2≠0
 ·have e1:yJ n before after s=1:=by unfold yJ;rw[if_pos (.inr h2)]
  rw[decide_eq_true h2]
  refine Wk ?_
  have:=fun X=>hK1 X (by rw[e1];decide)
  rw[e1]at this
  exact this _
 rw[decide_eq_false h2]
 have h2':(wZ n after).2=0:=by omega
 obtain⟨hok,hq16,hreq,hfl⟩:=xu hrq
 obtain⟨_,hqa16,hreqa,hfla⟩:=xu h2'
 repeat((conv=>whnf);first|refine sT ?_|rw[hb])
 try(conv=>whnf)
 refine yF.jf mixed [8] [10017,10019,21] (fun (v:AV) (S1:St)=>S1.bx[mb]? = some (qu n before after v s .nils)∧GVf mb S1 v (zL before)∧before.any (wW after)=false) (fun _=>[(0,.ptr mb 0)]) ?_ ?_
 ·have hbi:S.inner.bx[mb]? = some (qu n before after .nils s .nils):=hb
  repeat((conv=>whnf);first|refine sT ?_|rw[hbi])
  try(conv=>whnf)
  refine zt.vR (id:=mb) (qu n before after (.grown .nils 0) s .nils) hbi rfl ⟨rfl,za.zj _,za.zj _,za.zj _,za.zj _,za.zj _,za.zj _,za.zj _,za.zj _,za.zjk,za.zj _,za.zj _,za.zj _,za.zj _,trivial⟩ ?_
  refine zt.za3 mixed [8] (fun (t:Nat×AV) (S1:St)=>t.1≤before.length∧S1.bx[mb]? = some (qu n before after t.2 s .nils)∧GVf mb S1 t.2 (zL (before.take t.1))∧∀(j:Nat) x,j < t.1→before[j]? = some x→wW after x=false) (fun t=>[(0,.ptr mb 0),(47,zH before),(48,.int .i64 before.length),(49,.int .i64 t.1)]) (fun t=>before.length-t.1) (0,.grown .nils 0) ⟨by simp,St.zw hbi,.inl ⟨rfl,by simp[zL]⟩,fun j x hj=>by omega⟩ ?_ ?_
  ·exact⟨za.of_eq rfl,za.of_eq rfl,za.int (by simp),za.of_eq rfl,trivial⟩
  rintro⟨k,v⟩ S1 ⟨hk,hB1,hgv,hinv⟩
  dsimp only at hk hB1 hgv hinv ⊢
  by_cases hkt:k < before.length
  rotate_left
  ·have hkn:k=before.length:=by omega
   subst hkn
   rw[List.take_length]at hgv
   have gk:decide ((before.length:Int) < (before.length:Int))=false:=decide_eq_false (by omega)
   repeat((conv=>whnf);first|refine sT ?_|rw[gk])
   try(conv=>whnf)
   exact⟨v,⟨hB1,hgv,List.any_eq_false.2 fun x hx=>by
    obtain⟨j,hj⟩:=List.getElem?_of_mem hx
    simpa using hinv j x (List.getElem?_eq_some_iff.1 hj).1 hj⟩,za.of_eq rfl,trivial⟩
  obtain⟨x,hgx⟩:=zr hkt
  have hmx:=zk (f:=ye.av) hgx
  have gk:decide ((k:Int) < (before.length:Int))=true:=decide_eq_true (by omega)
  have hi1:=(List.getElem?_eq_some_iff.1 hB1).1
  have hA:∀(S:St) o,(S.addB o).bx[S.bx.length]? = some o:=fun S o=>St.zP S o
  have hA2:∀(S:St) o o',((S.addB o).setB S.bx.length o').bx[S.bx.length]? = some o':=fun S o o'=>St.zw (St.zP S o)
  have hC1:∀o o':Ob,((S1.addB o).setB S1.bx.length o').bx[mb]? = some (qu n before after v s .nils):=fun o o'=>by rw[St.zi (by omega)];exact St.zm hB1
  have hft:zL (before.take (k+1))=zL (before.take k)++[x.flow]:=by unfold zL;rw[zK hgx,List.map_append];rfl
  obtain⟨fl,hfle⟩:∃fl,fl=zL (before.take k):=⟨_,rfl⟩
  have hfll:fl.length≤16:=by rw[hfle];unfold zL;rw[List.length_map,List.length_take];omega
  rw[←hfle]at hft hgv
  repeat((conv=>whnf);first|refine sJ ?_|refine aI (by first|exact trivial|exact zh hkt|kernel_rfl) ?_|rw[gk]|rw[hmx]|rw[hA])
  try(conv=>whnf)
  refine yF.jf mixed [10007] [10008] (fun (v:AV) (S2:St)=>S2.bx[mb]? = some (qu n before after v s .nils)∧S2.bx[S1.bx.length]? = some (.cells x.av.cells 49)∧GVf mb S2 v (fl++[x.flow])) (fun _=>[(0,.ptr mb 0),(7,.ptr S1.bx.length 0),(47,zH before),(48,.int .i64 before.length),(49,.int .i64 k)]) ?_ ?_
  ·rcases hgv with ⟨rfl,ho⟩|⟨id,d,wp,rfl,hbx⟩
   ·have hD1:∀o o' o2:Ob,(((S1.addB o).setB S1.bx.length o').addB o2).bx[mb]? = some (qu n before after (.grown .nils 0) s .nils):=fun o o' o2=>St.zm (hC1 o o')
    have hD2:∀o o' o2:Ob,(((S1.addB o).setB S1.bx.length o').addB o2).bx[S1.bx.length]? = some o':=fun o o' o2=>St.zm (hA2 _ o o')
    refine Wk ?_
    refine zW.ym mixed (fun X=>X.bx[mb]? = some (qu n before after (.grown .nils 0) s .nils)∧X.bx[S1.bx.length]? = some (.cells x.av.cells 49)) [0,1,2,3,4,5,6,7] 4 rfl rfl (by decide) rfl ⟨hC1 _ _,hA2 _ _ _⟩ ?_
    iterate 8
     conv=>whnf
     apply vA
     ·rintro S' K' hI hh
      repeat((conv=>whnf);first|refine sT ?_|erw [hI.1]|erw [hI.2])
      try(conv=>whnf)
      exact hh
    conv=>whnf
    repeat' ((conv=>whnf);first|exact trivial|refine sJ ?_|refine aI (by first|exact trivial|exact Or.inl rfl|kernel_rfl) ?_|refine And.intro ?_ ?_ )
    ·exact zee
    intro d2
    repeat' ((conv=>whnf);first|exact trivial|refine sJ ?_|refine aI (by first|exact trivial|exact Or.inr ⟨hD1 _ _ _,hD2 _ _ _⟩|exact Or.inl rfl|kernel_rfl) ?_|refine And.intro ?_ ?_|rw[hD1]|rw[hD2])
    all_goals(conv=>whnf)
    all_goals
     refine⟨.vsl _ 0 1 6,⟨St.zw (hD1 _ _ _),(St.zi (by omega)).trans (hD2 _ _ _),.inr ⟨_,d2,?_,by rw[ho];rfl,?_⟩⟩,za.of_eq rfl,za.of_eq rfl,za.of_eq rfl,za.of_eq rfl,za.of_eq rfl,trivial⟩
     ·rw[St.qX,St.wm];omega
     ·rw[ho]
      exact(St.zi (by rw[St.qX,St.wm];omega)).trans (St.zP _ _)
   ·have hidl:=(List.getElem?_eq_some_iff.1 hbx).1
    have hBx:∀o o':Ob,((S1.addB o).setB S1.bx.length o').bx[id]? = some (.cells (zd (fl.map zf.av)++List.replicate (d*6) .undef) 46):=fun o o'=>by rw[St.zi (by omega)];exact St.zm hbx
    refine Wk ?_
    refine zW.ym mixed (fun X=>X.bx[mb]? = some (qu n before after (.vsl id 0 fl.length 6) s .nils)∧X.bx[S1.bx.length]? = some (.cells x.av.cells 49)) [0,1,2,3,4,5,6,7] 4 rfl rfl (by decide) rfl ⟨hC1 _ _,hA2 _ _ _⟩ ?_
    iterate 8
     conv=>whnf
     apply vA
     ·rintro S' K' hI hh
      repeat((conv=>whnf);first|refine sT ?_|erw [hI.1]|erw [hI.2])
      try(conv=>whnf)
      exact hh
    conv=>whnf
    have hfl6:=Z3.flen fl
    have hpush:=Z3.push fl x.flow d
    have hcut:=Z3.cut fl (List.replicate (d*6) .undef)
    rw[List.length_append,hfl6]at hpush
    have hF1:∀o o' o2:Ob,(((S1.addB o).setB S1.bx.length o').setB id o2).bx[mb]? = some (qu n before after (.vsl id 0 fl.length 6) s .nils):=fun o o' o2=>(St.zi wp).trans (hC1 o o')
    have hF2:∀o o' o2:Ob,(((S1.addB o).setB S1.bx.length o').setB id o2).bx[S1.bx.length]? = some o':=fun o o' o2=>(St.zi (by omega)).trans (hA2 _ o o')
    have hG1:∀o o' o2:Ob,(((S1.addB o).setB S1.bx.length o').addB o2).bx[mb]? = some (qu n before after (.vsl id 0 fl.length 6) s .nils):=fun o o' o2=>St.zm (hC1 o o')
    have hG2:∀o o' o2:Ob,(((S1.addB o).setB S1.bx.length o').addB o2).bx[S1.bx.length]? = some o':=fun o o' o2=>St.zm (hA2 _ o o')
    repeat' ((conv=>whnf);first|exact trivial|refine sJ ?_|refine aI (by first|exact trivial|exact Or.inl rfl|kernel_rfl) ?_|refine And.intro ?_ ?_|rw[hBx])
    ·exact(show(fl.length+1)*48≤_ by omega)
    ·exact(show fl.length+1≤maxLen by unfold maxLen;omega)
    ·rw[List.length_append,hfl6];exact Nat.le_add_right _ _
    refine zdR.mk (fun hroom=>?_) (fun _=>?_)
    ·rw[List.length_append,hfl6]at hroom
     repeat' ((conv=>whnf);first|exact trivial|refine sJ ?_|refine aI (by first|exact trivial|exact Or.inr ⟨hF1 _ _ _,hF2 _ _ _⟩|exact Or.inl rfl|kernel_rfl) ?_|refine And.intro ?_ ?_|rw[hF1]|rw[hF2])
     all_goals(conv=>whnf)
     all_goals
      refine⟨.vsl id 0 (fl.length+1) 6,⟨St.zw (hF1 _ _ _),(St.zi (by omega)).trans (hF2 _ _ _),.inr ⟨id,d-1,wp,by simp,?_⟩⟩,za.of_eq rfl,za.of_eq rfl,za.of_eq rfl,za.of_eq rfl,za.of_eq rfl,trivial⟩
      refine((St.zi wp.symm).trans (St.zw (hBx _ _))).trans ?_
      rw[←hpush hroom]
      rfl
    ·intro d2
     repeat' ((conv=>whnf);first|exact trivial|refine sJ ?_|refine aI (by first|exact trivial|exact Or.inr ⟨hG1 _ _ _,hG2 _ _ _⟩|exact Or.inl rfl|kernel_rfl) ?_|refine And.intro ?_ ?_|rw[hG1]|rw[hG2])
     all_goals(conv=>whnf)
     all_goals
      refine⟨.vsl _ 0 (fl.length+1) 6,⟨St.zw (hG1 _ _ _),(St.zi (by omega)).trans (hG2 _ _ _),.inr ⟨_,d2,?_,by rw[List.length_append];rfl,?_⟩⟩,za.of_eq rfl,za.of_eq rfl,za.of_eq rfl,za.of_eq rfl,za.of_eq rfl,trivial⟩
      ·rw[St.qX,St.wm];omega
      ·refine((St.zi (by rw[St.qX,St.wm];omega)).trans (St.zP _ _)).trans ?_
       rw[←YS]
       show some (Ob.cells (List.take (fl.length*6) _++_++_) _)=_
       rw[hcut];rfl
  rintro v2 S2 ⟨hB2,hX2,hgv2⟩
  rw[←hft]at hgv2
  have hfd:=kD LW after x.flow.id (by omega)
  have hi2:=(List.getElem?_eq_some_iff.1 hB2).1
  have hi3:=(List.getElem?_eq_some_iff.1 hX2).1
  have hH1:∀o o':Ob,((S2.addB o).setB S2.bx.length o').bx[mb]? = some (qu n before after v2 s .nils):=fun o o'=>by rw[St.zi (by omega)];exact St.zm hB2
  have hH2:∀o o':Ob,((S2.addB o).setB S2.bx.length o').bx[S1.bx.length]? = some (.cells x.av.cells 49):=fun o o'=>by rw[St.zi (by omega)];exact St.zm hX2
  have hgvH:∀o o':Ob,GVf mb ((S2.addB o).setB S2.bx.length o') v2 (zL (before.take (k+1))):=fun o o'=>by
   rcases hgv2 with h|⟨id,d,h1,h2,h3⟩
   ·exact .inl h
   ·have:=(List.getElem?_eq_some_iff.1 h3).1
    exact .inr ⟨id,d,h1,h2,by rw[St.zi (by omega)];exact St.zm h3⟩
  have nxt:wW after x=false→∀(j:Nat) y,j < k+1→before[j]? = some y→wW after y=false:=fun h j y hj hy=>by
   rcases Nat.lt_succ_iff_lt_or_eq.1 hj with h'|rfl
   ·exact hinv j y h' hy
   ·rw[hgx]at hy;injection hy with hy;subst hy;exact h
  refine Wk ?_
  refine zW.ym mixed (fun X=>X.bx[mb]? = some (qu n before after v2 s .nils)∧X.bx[S1.bx.length]? = some (.cells x.av.cells 49)) [0,1,2,3,4,5,6,7,8,9,10] 3 rfl rfl (by decide) rfl ⟨hB2,hX2⟩ ?_
  iterate 7
   conv=>whnf
   apply vA
   ·rintro S' K' hI hh
    repeat((conv=>whnf);first|refine sT ?_|erw [hI.1]|erw [hI.2])
    try(conv=>whnf)
    exact hh
  conv=>whnf
  apply vA
  ·rintro S' K' hI hh
   refine Wk ?_
   refine cD (hfd) ?_
   exact hh
  iterate 3
   conv=>whnf
   apply vA
   ·rintro S' K' hI hh
    refine Wk ?_
    exact hh
  conv=>whnf
  repeat' ((conv=>whnf);first|exact trivial|refine sJ ?_|refine aI (by first|exact trivial|exact Or.inr ⟨hH1 _ _,hH2 _ _⟩|exact Or.inr ⟨St.zm hB2,St.zm hX2⟩|exact Or.inl rfl|kernel_rfl) ?_|refine And.intro ?_ ?_|rw[hA])
  all_goals(conv=>whnf)
  cases his:(yx after x.flow.id).isSome with
  | false=>
   have hno:wW after x=false:=by
    unfold wW
    cases hg:yx after x.flow.id with
    | none=>rfl
    | some y=>rw[hg]at his;cases his
   refine Wk ?_
   exact⟨(k+1,v2),⟨by simp only;omega,hH1 _ _,hgvH _ _,nxt hno⟩,by simp only;omega,za.of_eq rfl,za.of_eq rfl,za.of_eq rfl,za.int (zu hkt (by omega)),trivial⟩
  | true=>
   obtain⟨y,hgy⟩:=Option.isSome_iff_exists.1 his
   have hyd:getD after x.flow.id=y:=by unfold getD;rw[hgy];rfl
   rw[hyd]
   have hne:=zhd y.flow x.flow
   by_cases hyx:y.flow=x.flow
   ·have hno:wW after x=false:=by unfold wW;rw[hgy];simp[hyx]
    rw[decide_eq_false (by simp[hyx])]at hne
    repeat((conv=>whnf);first|refine sT ?_|rw[hA2]|rw[hH2]|rw[hne])
    try(conv=>whnf)
    exact⟨(k+1,v2),⟨by simp only;omega,hH1 _ _,hgvH _ _,nxt hno⟩,by simp only;omega,za.of_eq rfl,za.of_eq rfl,za.of_eq rfl,za.int (zu hkt (by omega)),trivial⟩
   ·have hyes:wW after x=true:=by unfold wW;rw[hgy];simp[hyx]
    have e1:yJ n before after s=11:=by unfold yJ;rw[if_neg (by omega),if_pos (List.any_eq_true.2 ⟨x,List.mem_of_getElem? hgx,hyes⟩)]
    rw[decide_eq_true hyx]at hne
    repeat((conv=>whnf);first|refine sT ?_|rw[hA2]|rw[hH2]|rw[hne])
    try(conv=>whnf)
    have:=fun X=>hK1 X (by rw[e1];decide)
    rw[e1]at this
    exact this _
 ·rintro v S1 ⟨hB1,hgv,hdf⟩
  obtain⟨flA,hflA⟩:∃flA:Nat→List zf,flA=fun k=>zL before++((after.take k).filter fun x=>!JM before x.flow.id).map ye.flow:=⟨_,rfl⟩
  have hA0:flA 0=zL before:=by rw[hflA];simp
  have hAe:flA after.length=vJ before after:=by rw[hflA];simp only[List.take_length];rfl
  have hAl:∀k,(flA k).length≤32:=fun k=>by
   rw[hflA]
   have h1:=List.length_filter_le (fun x:ye=>!JM before x.flow.id) (after.take k)
   rw[List.length_take]at h1
   simp only[List.length_append,List.length_map,zL]
   omega
  have hAs:∀(k:Nat) x,after[k]? = some x→flA (k+1)=flA k++if JM before x.flow.id=true then [] else [x.flow]:=fun k x hx=>by
   rw[hflA]
   simp only
   rw[zK hx,List.filter_append,List.map_append,List.append_assoc]
   congr 2
   simp only[List.filter_cons,List.filter_nil]
   cases JM before x.flow.id<;>rfl
  conv=>whnf
  refine yF.zjL mixed [20] (fun (v:AV) (S2:St)=>S2.bx[mb]? = some (qu n before after v s .nils)∧GVf mb S2 v (vJ before after)∧(after.any fun x=>s.len % x.flow.period != 0)=false) (fun _=>[(0,.ptr mb 0)]) ?_ ?_
  ·repeat((conv=>whnf);first|refine sT ?_|rw[hB1])
   try(conv=>whnf)
   refine zt.za3 mixed [20] (fun (t:Nat×AV) (S2:St)=>t.1≤after.length∧S2.bx[mb]? = some (qu n before after t.2 s .nils)∧GVf mb S2 t.2 (flA t.1)∧∀(j:Nat) x,j < t.1→after[j]? = some x→(s.len % x.flow.period != 0)=false) (fun t=>[(0,.ptr mb 0),(87,zH after),(88,.int .i64 after.length),(89,.int .i64 t.1)]) (fun t=>after.length-t.1) (0,v) ⟨by simp,hB1,by rw[hA0];exact hgv,fun j x hj=>by omega⟩ ?_ ?_
   ·exact⟨za.of_eq rfl,za.of_eq rfl,za.int (by simp),za.of_eq rfl,trivial⟩
   rintro⟨k,v2⟩ S2 ⟨hk,hB2,hgv2,hinv⟩
   dsimp only at hk hB2 hgv2 hinv ⊢
   by_cases hkt:k < after.length
   rotate_left
   ·have hkn:k=after.length:=by omega
    subst hkn
    have gk:decide ((after.length:Int) < (after.length:Int))=false:=decide_eq_false (by omega)
    repeat((conv=>whnf);first|refine sT ?_|rw[gk])
    try(conv=>whnf)
    exact⟨v2,⟨hB2,by rw[←hAe];exact hgv2,List.any_eq_false.2 fun x hx=>by
     obtain⟨j,hj⟩:=List.getElem?_of_mem hx
     simpa using hinv j x (List.getElem?_eq_some_iff.1 hj).1 hj⟩,za.of_eq rfl,trivial⟩
   obtain⟨x,hgx⟩:=zr hkt
   have hmx:=zk (f:=ye.av) hgx
   have hxm:=List.mem_of_getElem? hgx
   have gk:decide ((k:Int) < (after.length:Int))=true:=decide_eq_true (by omega)
   have hfe:=yB (hreqa x hxm).flow
   have hsz:=vj hv.size
   have htm:s.len.tmod x.flow.period=s.len % x.flow.period:=Vr (by omega)
   have hnx:=hAs k x hgx
   have hal:=hAl k
   repeat((conv=>whnf);first|refine sT ?_|rw[gk])
   try(conv=>whnf)
   refine yF.jf mixed [18] [] (fun (v:AV) (S3:St)=>S3.bx[mb]? = some (qu n before after v s .nils)∧GVf mb S3 v (flA (k+1))∧(s.len % x.flow.period != 0)=false) (fun _=>[(0,.ptr mb 0),(87,zH after),(88,.int .i64 after.length),(89,.int .i64 k)]) ?_ ?_
   rotate_left
   ·rintro v3 S3 ⟨hB3,hgv3,hr⟩
    refine Wk ?_
    refine⟨(k+1,v3),⟨by simp only;omega,hB3,hgv3,fun j y hj hy=>?_⟩,by simp only;omega,za.of_eq rfl,za.of_eq rfl,za.of_eq rfl,za.int (zu hkt (by omega)),trivial⟩
    rcases Nat.lt_succ_iff_lt_or_eq.1 hj with h'|rfl
    ·exact hinv j y h' hy
    ·rw[hgx]at hy;injection hy with hy;subst hy;exact hr
   have hi1:=(List.getElem?_eq_some_iff.1 hB2).1
   have hA:∀(S:St) o,(S.addB o).bx[S.bx.length]? = some o:=fun S o=>St.zP S o
   have hA2:∀(S:St) o o',((S.addB o).setB S.bx.length o').bx[S.bx.length]? = some o':=fun S o o'=>St.zw (St.zP S o)
   have hC1:∀o o':Ob,((S2.addB o).setB S2.bx.length o').bx[mb]? = some (qu n before after v2 s .nils):=fun o o'=>by rw[St.zi (by omega)];exact St.zm hB2
   cases hr:(s.len % x.flow.period != 0) with
   | true=>
    have e1:yJ n before after s=2:=by unfold yJ;rw[if_neg (by omega),if_neg (by rw[hdf];decide),if_pos (List.any_eq_true.2 ⟨x,hxm,hr⟩)]
    repeat((conv=>whnf);first|refine sJ ?_|refine aI (by first|exact trivial|exact zh hkt|exact(show x.flow.period≠0 by omega)|kernel_rfl) ?_|rw[hmx]|rw[hA]|rw[hA2]|rw[hC1]|rw[htm]|rw[hr])
    try(conv=>whnf)
    have:=fun X=>hK1 X (by rw[e1];decide)
    rw[e1]at this
    exact this _
   | false=>
   repeat((conv=>whnf);first|refine sJ ?_|refine aI (by first|exact trivial|exact zh hkt|exact(show x.flow.period≠0 by omega)|kernel_rfl) ?_|rw[hmx]|rw[hA]|rw[hA2]|rw[hC1]|rw[htm]|rw[hr])
   try(conv=>whnf)
   have hJ1:∀o o' o2 o3:Ob,((((S2.addB o).setB S2.bx.length o').addB o2).setB ((S2.addB o).setB S2.bx.length o').bx.length o3).bx[mb]? = some (qu n before after v2 s .nils):=fun o o' o2 o3=>(St.zi (by rw[St.qX,St.wm];omega)).trans (St.zm (hC1 o o'))
   have hJ2:∀o o' o2 o3:Ob,((((S2.addB o).setB S2.bx.length o').addB o2).setB ((S2.addB o).setB S2.bx.length o').bx.length o3).bx[S2.bx.length]? = some o':=fun o o' o2 o3=>(St.zi (by rw[St.qX,St.wm];omega)).trans (St.zm (hA2 _ o o'))
   have hJ3:∀o o' o2 o3:Ob,GVf mb ((((S2.addB o).setB S2.bx.length o').addB o2).setB ((S2.addB o).setB S2.bx.length o').bx.length o3) v2 (flA k):=fun o o' o2 o3=>by
    rcases hgv2 with h|⟨id,d,h1,h2,h3⟩
    ·exact .inl h
    ·have:=(List.getElem?_eq_some_iff.1 h3).1
     exact .inr ⟨id,d,h1,h2,(St.zi (by rw[St.qX,St.wm];omega)).trans (St.zm ((St.zi (by omega)).trans (St.zm h3)))⟩
   have hfd:=kD LW before x.flow.id (by omega)
   have hgh:=Zr before x.flow.id
   refine yF.jf mixed [10017] [10019] (fun (_:Unit) (S4:St)=>S4.bx[mb]? = some (qu n before after v2 s .nils)∧S4.bx[S2.bx.length]? = some (.cells x.av.cells 49)∧GVf mb S4 v2 (flA k)) (fun _=>[(0,.ptr mb 0),(11,.ptr S2.bx.length 0),(13,.bool (yx before x.flow.id).isSome),(87,zH after),(88,.int .i64 after.length),(89,.int .i64 k)]) ?_ ?_
   ·refine Wk ?_
    refine zW.ym mixed (fun X=>X.bx[mb]? = some (qu n before after v2 s .nils)∧X.bx[S2.bx.length]? = some (.cells x.av.cells 49)) [0,1,2,3,4,5,6,7,8,9,10] 3 rfl rfl (by decide) rfl ⟨hC1 _ _,hA2 _ _ _⟩ ?_
    iterate 7
     conv=>whnf
     apply vA
     ·rintro S' K' hI hh
      repeat((conv=>whnf);first|refine sT ?_|erw [hI.1]|erw [hI.2])
      try(conv=>whnf)
      exact hh
    conv=>whnf
    apply vA
    ·rintro S' K' hI hh
     refine Wk ?_
     refine cD (hfd) ?_
     exact hh
    iterate 3
     conv=>whnf
     apply vA
     ·rintro S' K' hI hh
      refine Wk ?_
      exact hh
    conv=>whnf
    repeat' ((conv=>whnf);first|exact trivial|refine sJ ?_|refine aI (by first|exact trivial|exact Or.inr ⟨St.zm (hC1 _ _),St.zm (hA2 _ _ _)⟩|exact Or.inr ⟨hJ1 _ _ _ _,hJ2 _ _ _ _⟩|exact Or.inl rfl|kernel_rfl) ?_|refine And.intro ?_ ?_|rw[hA])
    all_goals(conv=>whnf)
    all_goals exact⟨(),⟨hJ1 _ _ _ _,hJ2 _ _ _ _,hJ3 _ _ _ _⟩,za.of_eq rfl,za.of_eq rfl,za.of_eq rfl,za.of_eq rfl,za.of_eq rfl,za.of_eq rfl,trivial⟩
   rintro⟨⟩ S4 ⟨hB4,hX4,hgv4⟩
   obtain⟨fl,hfle⟩:∃fl,fl=flA k:=⟨_,rfl⟩
   rw[←hfle]at hnx hgv4 hal
   have hi4:=(List.getElem?_eq_some_iff.1 hB4).1
   have hi5:=(List.getElem?_eq_some_iff.1 hX4).1
   cases his:(yx before x.flow.id).isSome with
   | true=>
    rw[his]at hgh
    rw[←hgh,if_pos rfl,List.append_nil]at hnx
    refine Wk ?_
    exact⟨v2,⟨hB4,by rw[hnx];exact hgv4,rfl⟩,za.of_eq rfl,za.of_eq rfl,za.of_eq rfl,za.of_eq rfl,trivial⟩
   | false=>
   rw[his]at hgh
   rw[←hgh,if_neg (by decide)]at hnx
   rw[hnx]
   rcases hgv4 with ⟨rfl,ho⟩|⟨id,d,wp,rfl,hbx⟩
   ·have hD1:∀o2:Ob,(S4.addB o2).bx[mb]? = some (qu n before after (.grown .nils 0) s .nils):=fun o2=>St.zm hB4
    have hD2:∀o2:Ob,(S4.addB o2).bx[S2.bx.length]? = some (.cells x.av.cells 49):=fun o2=>St.zm hX4
    refine Wk ?_
    refine zW.ym mixed (fun X=>X.bx[mb]? = some (qu n before after (.grown .nils 0) s .nils)∧X.bx[S2.bx.length]? = some (.cells x.av.cells 49)) [0,1,2,3,4,5,6,7] 4 rfl rfl (by decide) rfl ⟨hB4,hX4⟩ ?_
    iterate 8
     conv=>whnf
     apply vA
     ·rintro S' K' hI hh
      repeat((conv=>whnf);first|refine sT ?_|erw [hI.1]|erw [hI.2])
      try(conv=>whnf)
      exact hh
    conv=>whnf
    repeat' ((conv=>whnf);first|exact trivial|refine sJ ?_|refine aI (by first|exact trivial|exact Or.inl rfl|kernel_rfl) ?_|refine And.intro ?_ ?_ )
    ·exact zee
    intro d2
    repeat' ((conv=>whnf);first|exact trivial|refine sJ ?_|refine aI (by first|exact trivial|exact Or.inr ⟨hD1 _,hD2 _⟩|exact Or.inl rfl|kernel_rfl) ?_|refine And.intro ?_ ?_|rw[hD1]|rw[hD2])
    all_goals(conv=>whnf)
    all_goals
     refine⟨.vsl _ 0 1 6,⟨St.zw (hD1 _),.inr ⟨_,d2,?_,by rw[ho];rfl,?_⟩,rfl⟩,za.of_eq rfl,za.of_eq rfl,za.of_eq rfl,za.of_eq rfl,trivial⟩
     ·omega
     ·rw[ho]
      exact(St.zi (by omega)).trans (St.zP _ _)
   ·have hidl:=(List.getElem?_eq_some_iff.1 hbx).1
    have hfl6:=Z3.flen fl
    have hpush:=Z3.push fl x.flow d
    have hcut:=Z3.cut fl (List.replicate (d*6) .undef)
    rw[List.length_append,hfl6]at hpush
    have hpid:id≠S2.bx.length:=fun h=>by
     rw[h,hX4]at hbx
     have e:=Ob.cells.inj (Option.some.inj hbx)
     exact absurd e.2 (by decide)
    have hF1:∀o2:Ob,(S4.setB id o2).bx[mb]? = some (qu n before after (.vsl id 0 fl.length 6) s .nils):=fun o2=>(St.zi wp).trans hB4
    have hF2:∀o2:Ob,(S4.setB id o2).bx[S2.bx.length]? = some (.cells x.av.cells 49):=fun o2=>(St.zi hpid).trans hX4
    have hG1:∀o2:Ob,(S4.addB o2).bx[mb]? = some (qu n before after (.vsl id 0 fl.length 6) s .nils):=fun o2=>St.zm hB4
    have hG2:∀o2:Ob,(S4.addB o2).bx[S2.bx.length]? = some (.cells x.av.cells 49):=fun o2=>St.zm hX4
    refine Wk ?_
    refine zW.ym mixed (fun X=>X.bx[mb]? = some (qu n before after (.vsl id 0 fl.length 6) s .nils)∧X.bx[S2.bx.length]? = some (.cells x.av.cells 49)) [0,1,2,3,4,5,6,7] 4 rfl rfl (by decide) rfl ⟨hB4,hX4⟩ ?_
    iterate 8
     conv=>whnf
     apply vA
     ·rintro S' K' hI hh
      repeat((conv=>whnf);first|refine sT ?_|erw [hI.1]|erw [hI.2])
      try(conv=>whnf)
      exact hh
    conv=>whnf
    repeat' ((conv=>whnf);first|exact trivial|refine sJ ?_|refine aI (by first|exact trivial|exact Or.inl rfl|kernel_rfl) ?_|refine And.intro ?_ ?_|rw[hbx])
    ·exact(show(fl.length+1)*48≤_ by omega)
    ·exact(show fl.length+1≤maxLen by unfold maxLen;omega)
    ·rw[List.length_append,hfl6];exact Nat.le_add_right _ _
    refine zdR.mk (fun hroom=>?_) (fun _=>?_)
    ·rw[List.length_append,hfl6]at hroom
     repeat' ((conv=>whnf);first|exact trivial|refine sJ ?_|refine aI (by first|exact trivial|exact Or.inr ⟨hF1 _,hF2 _⟩|exact Or.inl rfl|kernel_rfl) ?_|refine And.intro ?_ ?_|rw[hF1]|rw[hF2])
     all_goals(conv=>whnf)
     all_goals
      refine⟨.vsl id 0 (fl.length+1) 6,⟨St.zw (hF1 _),.inr ⟨id,d-1,wp,by rw[List.length_append];rfl,?_⟩,rfl⟩,za.of_eq rfl,za.of_eq rfl,za.of_eq rfl,za.of_eq rfl,trivial⟩
      refine((St.zi wp.symm).trans (St.zw hbx)).trans ?_
      rw[←hpush hroom]
      rfl
    ·intro d2
     repeat' ((conv=>whnf);first|exact trivial|refine sJ ?_|refine aI (by first|exact trivial|exact Or.inr ⟨hG1 _,hG2 _⟩|exact Or.inl rfl|kernel_rfl) ?_|refine And.intro ?_ ?_|rw[hG1]|rw[hG2])
     all_goals(conv=>whnf)
     all_goals
      refine⟨.vsl _ 0 (fl.length+1) 6,⟨St.zw (hG1 _),.inr ⟨_,d2,?_,by rw[List.length_append];rfl,?_⟩,rfl⟩,za.of_eq rfl,za.of_eq rfl,za.of_eq rfl,za.of_eq rfl,trivial⟩
      ·omega
      ·refine((St.zi (by omega)).trans (St.zP _ _)).trans ?_
       rw[←YS]
       show some (Ob.cells (List.take (fl.length*6) _++_++_) _)=_
       rw[hcut];rfl
  rintro v S2 ⟨hB2,hgv2,hper⟩
  have hro:=qK hrq
  have hra:=qK h2'
  have hbl:=zcK hro hra
  have hal:=hAl after.length
  rw[hAe]at hal
  have hw:yJ n before after s=if 16 < (yN before after).length then 2 else 0:=by unfold yJ;rw[if_neg (by omega),if_neg (by rw[hdf];decide),if_neg (by rw[hper];decide)]
  rcases hgv2 with ⟨rfl,ho⟩|⟨id,d,wp,rfl,hbx⟩
  ·refine zW.vR (id:=mb) (qu n before after .nils s .nils) hB2 rfl ⟨rfl,za.zj _,za.zj _,za.zj _,za.zj _,za.zj _,za.zj _,za.zj _,za.zj _,za.zkC,za.zj _,za.zj _,za.zj _,za.zj _,trivial⟩ ?_
   have hB3:∀o,(S2.setB mb o).bx[mb]? = some o:=fun o=>St.zw hB2
   have hB4:∀o,((S2.setB mb o).inner.outer (S2.setB mb o)).bx[mb]? = some o:=fun o=>St.zw hB2
   have hbn:yN before after=[]:=(zaO hro hra (ds:=[]) (by rw[ho]) List.Pairwise.nil).symm
   have hw0:yJ n before after s=0:=by rw[hw,hbn];rfl
   refine zE (ct:=[]) mixed _ _ _ _ ?_
   repeat((conv=>whnf);first|refine sT ?_|rw[hB3])
   try(conv=>whnf)
   refine zo.inl rfl (zQ.zhU Kj ?_)
   repeat((conv=>whnf);first|refine sT ?_|rw[hB4]|rw[hB3])
   try(conv=>whnf)
   exact hK0 _ .nils hw0 (hB3 _) (.inl ⟨rfl,hbn⟩)
  ·refine zE (ct:=[]) mixed _ _ _ _ ?_
   repeat((conv=>whnf);first|refine sT ?_|rw[hB2])
   try(conv=>whnf)
   refine zo.inl rfl (zg2 hbx (by omega) rfl fun ds hp hs=>?_)
   have hds:=zaO hro hra hp hs
   have hB3:∀o,(S2.setB id o).bx[mb]? = some (qu n before after (.vsl id 0 (vJ before after).length 6) s .nils):=fun o=>(St.zi wp).trans hB2
   by_cases h16:16 < (yN before after).length
   ·have g:decide ((16:Int) < ((vJ before after).length:Int))=true:=decide_eq_true (by omega)
    rw[if_pos h16]at hw
    repeat((conv=>whnf);first|refine sT ?_|rw[hB3]|rw[g])
    try(conv=>whnf)
    have:=fun X=>hK1 X (by rw[hw];decide)
    rw[hw]at this
    exact this _
   ·have g:decide ((16:Int) < ((vJ before after).length:Int))=false:=decide_eq_false (by omega)
    rw[if_neg h16]at hw
    repeat((conv=>whnf);first|refine sT ?_|rw[hB3]|rw[g])
    try(conv=>whnf)
    refine hK0 _ _ hw (hB3 _) (.inr ⟨id,List.replicate (d*6) .undef,wp,by rw[hbl],?_⟩)
    rw[←hds]
    exact St.zw hbx
end HM
