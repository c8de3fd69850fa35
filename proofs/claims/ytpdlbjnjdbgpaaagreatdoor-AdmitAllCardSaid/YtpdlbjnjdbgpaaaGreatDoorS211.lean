/- The cells for a release: the reference of Admit. -/
import Derived.Test.YtpdlbjnjdbgpaaaGreatDoorS192
import Derived.Test.YtpdlbjnjdbgpaaaGreatDoorFh
import Derived.Test.YtpdlbjnjdbgpaaaGreatDoorDc
set_option maxHeartbeats 64000000
set_option maxRecDepth 100000
namespace HM
open Go Go.RowKit Go.Proofs
section
variable (L:World→Prop)
def sv41 (s:Sched):List Ob:=[.dead,.cells [.int .i64 s.len,.int .i64 s.offs,encCells s.cells] 30,.dead,.cells [.int .i64 0,.int .i64 0,.nils] 30]
theorem c_serve41 (n:Net)(hn:n.small)(hok:NetOk n)(s:Sched)(hg:GridOk s)(hs:s.cells.length≤1000000)(hz:1≤s.len∧s.len≤512∧s.offs≤16)(f:Flow)(hfd:1≤f.dead∧f.dead≤512)(r:List Int)(hr:1≤r.length∧r.length≤9)(hop:∀i,i+1 < r.length→goodL n (r.getD i 0) (r.getD (i+1) 0)=true)(rel:Int)(h0:0≤rel∧rel≤1048576) :
  PCall Tryz.prog L 148 [n.av,s.av,f.av,encIs r,.int .i64 rel] (.tup [(relL n f r (rel+f.dead) (r.length-1) s rel).av,.bool (relA n f r (rel+f.dead) (r.length-1) s rel).isSome]):=by
 have w1:IntKind.i64.wrap (rel+f.dead)=rel+f.dead:=w64 (by omega) (by omega)
 have w2:IntKind.i64.wrap (rel+f.dead-1)=rel+f.dead-1:=w64 (by omega) (by omega)
 refine PCall.intro mixed [1] (nt:=71) Tryz.func148 rfl rfl (by simp) ?_
 refine Wk ?_
 refine SeqK.sem mixed [] ?_
 refine Wk ?_
 refine SemK.freezeB 0 rfl rfl ?_
 refine SemK.freezeB 2 rfl rfl ?_
 refine twC_sound (ct:=[]) mixed _ _ _ _ ?_
 refine Wk ?_
 refine LoopK.run mixed [] (fun st:Nat×Sched×Int=>st.1+1≤r.length∧relA n f r (rel+f.dead) st.1 s rel=some (st.2.1,st.2.2)∧GridOk st.2.1∧(st.2.1.len=s.len∧st.2.1.offs=s.offs)∧st.2.1.cells.length≤s.cells.length+16*st.1∧rel≤st.2.2∧st.2.2≤rel+f.dead) (fun st=>[(3,encIs r),(4,.int .i64 rel),(5,.cptr n.av 0),(6,.ptr 1 0),(7,.cptr f.av 0),(10,.ptr 3 0),(12,.int .i64 st.2.2),(13,.int .i64 (st.1+1:Nat))]) (fun st=>⟨sv41 st.2.1,[],0,0,fun _=>0⟩) (fun st=>r.length-st.1) (0,s,rel) ⟨by simp only;omega,rfl,hg,⟨rfl,rfl⟩,by simp,Int.le_refl _,by simp only;omega⟩ ?_ ?_
 ·refine fN ?_<;>repeat' (first|exact fQ|refine And.intro ?_ ?_|exact SeesL.rfl' _)
 rintro⟨i,s1,t1⟩ ⟨hi,hrel,hg1,hl1,hc1,ht0,ht1⟩
 dsimp only at hi hrel hg1 hl1 hc1 ht0 ht1 ⊢
 by_cases hlt:i+1 < r.length
 ·obtain⟨y,hgy⟩:=getLt hlt
  have hmy:=getMap (f:=encI) hgy
  obtain⟨x,hgx⟩:=getLt (l:=r) (k:=i) (by omega)
  have hmx:=getMap (f:=encI) hgx
  have hil:i < r.length:=by omega
  have hxd:r.getD i 0=x:=by rw[List.getD_eq_getElem?_getD,hgx];rfl
  have hyd:r.getD (i+1) 0=y:=by rw[List.getD_eq_getElem?_getD,hgy];rfl
  have hwi:IntKind.i64.wrap (((i+1:Nat):Int)-1)=(i:Int):=by rw[w64]<;>omega
  have gb:decide (((i+1:Nat):Int) < ((r.map encI).length:Int))=true:=decide_eq_true (by rw[List.length_map];omega)
  have hgl:=hop i hlt
  rw[hxd,hyd]at hgl
  obtain⟨q,l,e1,e2,e3,e4⟩:=findL_at (n:=n) (a:=x) (b:=y) (by unfold goodL at hgl;simp only[Bool.and_eq_true,decide_eq_true_eq]at hgl;exact hgl.1.1.1)
  have hb:=linkR_bd (hok.link q l e2).1
  have hnd:=hok.nodes
  have hxy:0≤x∧x < 32∧0≤y∧y < 32∧x≠y:=by rw[←e3,←e4];omega
  have hL:lossL n x y=l.loss:=by unfold lossL;rw[e1,Int.toNat_natCast,e2]
  have hla:linkAt n r i=l:=by unfold linkAt;rw[hxd,hyd,e1,Int.toNat_natCast,e2];rfl
  have hneed:IntKind.i64.wrap (l.loss+1)=(needAt n r 0 i:Int):=by rw[w64 (x:=l.loss+1) (by omega) (by omega),needAt,hla];omega
  have hnl:needAt n r 0 i≤16:=by unfold needAt;rw[hla];omega
  repeat((conv=>whnf);first|refine sJ ?_|refine aI (by first|exact trivial|exact inbMap hlt|exact inbMap hil|(rw[hwi];exact inbMap hil)|kernel_rfl) ?_|rw[gb]|rw[hwi]|rw[hmx]|rw[hmy])
  try(conv=>whnf)
  refine cD (c_Loss33 L n hn.2.2.1 x y (by omega)) ?_
  rw[hL]
  repeat((conv=>whnf);first|refine sT ?_|rw[hneed])
  try(conv=>whnf)
  refine LoopK.run mixed [10009] (fun st:Sched×Nat×Int=>fillM n x y f.id (rel+f.dead-t1).toNat s1 (needAt n r 0 i) t1=fillM n x y f.id (rel+f.dead-st.2.2).toNat st.1 st.2.1 st.2.2∧GridOk st.1∧(st.1.len=s.len∧st.1.offs=s.offs)∧st.1.cells.length+st.2.1≤s1.cells.length+needAt n r 0 i∧st.2.1≤needAt n r 0 i∧t1≤st.2.2∧st.2.2≤rel+f.dead) (fun st=>[(3,encIs r),(4,.int .i64 rel),(5,.cptr n.av 0),(6,.ptr 1 0),(7,.cptr f.av 0),(10,.ptr 3 0),(12,.int .i64 st.2.2),(13,.int .i64 (i+1:Nat)),(14,.int .i64 st.2.1)]) (fun st=>⟨sv41 st.1,[],0,0,fun _=>0⟩) (fun st=>(rel+f.dead-st.2.2).toNat) (s1,needAt n r 0 i,t1) ⟨rfl,hg1,hl1,Nat.le_refl _,Nat.le_refl _,Int.le_refl _,ht1⟩ ?_ ?_
  ·refine fN ?_<;>repeat' (first|exact fQ|refine And.intro ?_ ?_|exact SeesL.rfl' _)
  rintro⟨s2,left,t2⟩ ⟨hfill,hg2,hl2,hc2,hle2,hta,htb⟩
  dsimp only at hfill hg2 hl2 hc2 hle2 hta htb ⊢
  have hrs:relA n f r (rel+f.dead) (i+1) s rel=if (fillM n x y f.id (rel+f.dead-t2).toNat s2 left t2).2.1≠0 then none else some ((fillM n x y f.id (rel+f.dead-t2).toNat s2 left t2).1,(fillM n x y f.id (rel+f.dead-t2).toNat s2 left t2).2.2):=by
   rw[relA,hrel]
   simp only
   rw[hxd,hyd,hfill]
  by_cases hl0:left=0
  ·subst hl0
   rw[fillM_stop]at hrs
   simp only[ne_eq,not_true_eq_false,if_false]at hrs
   have g1:decide ((0:Int) < ((0:Nat):Int))=false:=rfl
   repeat((conv=>whnf);first|refine sT ?_|rw[g1])
   try(conv=>whnf)
   refine⟨(i+1,s2,t2),⟨by omega,hrs,hg2,hl2,by simp only;omega,by simp only;omega,htb⟩,by simp only;omega,?_⟩
   refine fN ?_<;>repeat' (first|exact fQ|refine And.intro ?_ ?_|exact SeesL.rfl' _|exact Sees.int (succI hlt (by omega)))
  have g1:decide ((0:Int) < (left:Int))=true:=decide_eq_true (by omega)
  by_cases hend:t2=rel+f.dead
  ·have g2:decide (rel+f.dead-1 < t2)=true:=decide_eq_true (by omega)
   have hz0:(rel+f.dead-t2).toNat=0:=by omega
   rw[hz0]at hfill
   obtain⟨hnone,hlast⟩:=relL_stop (m:=r.length-1) hrel (by rw[hxd,hyd,hfill];rfl) hl0 (by omega)
   rw[hnone,hlast]
   repeat((conv=>whnf);first|refine sT ?_|rw[g1]|rw[w1]|rw[w2]|rw[g2])
   try(conv=>whnf)
   exact resP.mk rfl (Sees.of_eq rfl)
  have g2:decide (rel+f.dead-1 < t2)=false:=decide_eq_false (by omega)
  have wt:IntKind.i64.wrap (t2+1)=t2+1:=w64 (by omega) (by omega)
  have wl:IntKind.i64.wrap ((left:Int)-1)=((left-1:Nat):Int):=by rw[w64]<;>omega
  obtain⟨D,hD⟩:∃D,(rel+f.dead-t2).toNat=D+1:=⟨(rel+f.dead-t2).toNat-1,by omega⟩
  have hD2:(rel+f.dead-(t2+1)).toNat=D:=by omega
  have hstep:fillM n x y f.id (rel+f.dead-t1).toNat s1 (needAt n r 0 i) t1=fillM n x y f.id D (slotM n s2 x y f.id (t2 % s2.len)).1 (if (slotM n s2 x y f.id (t2 % s2.len)).2=true then left-1 else left) (t2+1):=by
   rw[hfill,hD,fillM,if_neg hl0]
  have hgs:=gridOk_slot (n:=n) hg2 hxy f.id (t2 % s2.len)
  have hls:=slotM_len n s2 x y f.id (t2 % s2.len)
  have hcs:=slotM_cells2 n s2 x y f.id (t2 % s2.len)
  repeat((conv=>whnf);first|refine sT ?_|rw[g1]|rw[w1]|rw[w2]|rw[g2])
  try(conv=>whnf)
  refine SemK.regionFin mixed (fun X=>X.bx[1]? = some (.cells [.int .i64 s2.len,.int .i64 s2.offs,encCells s2.cells] 30)) [0,1,2,3,4,5,6,7,8,9,10,11,12,13,14,15,16,17] 3 rfl rfl (by decide) rfl rfl ?_
  iterate 14
   conv=>whnf
   apply exV
   ·rintro S' K' hI hh
    repeat((conv=>whnf);first|refine sJ ?_|refine aI (by first|exact trivial|exact inbMap hlt|exact inbMap hil|(rw[hwi];exact inbMap hil)|kernel_rfl) ?_|rw[hI]|rw[hwi]|rw[hmx]|rw[hmy])
    try(conv=>whnf)
    exact hh
  conv=>whnf
  apply exV
  ·rintro S' K' hI hh
   refine Wk ?_
   refine cD (c_find41 L n hn s2 hg2 (by omega) ⟨by omega,by omega⟩ f.id x y t2 (by omega)) ?_
   exact hh
  iterate 3
   conv=>whnf
   apply exV
   ·rintro S' K' hI hh
    refine Wk ?_
    exact hh
  conv=>whnf
  repeat' ((conv=>whnf);first|exact trivial|refine sJ ?_|refine aI (by first|exact Or.inr rfl|exact Or.inl rfl|kernel_rfl) ?_|refine And.intro ?_ ?_ )
  all_goals(conv=>whnf)
  all_goals
   cases hsl:(slotM n s2 x y f.id (t2 % s2.len)).2 with
   | true=>
    rw[hsl]at hstep hcs
    repeat((conv=>whnf);first|refine sT ?_|rw[wl]|rw[wt])
    try(conv=>whnf)
    refine⟨((slotM n s2 x y f.id (t2 % s2.len)).1,left-1,t2+1),⟨by simp only;rw[hD2];exact hstep,hgs,⟨hls.1.trans hl2.1,hls.2.trans hl2.2⟩,by simp only;simp only[if_true]at hcs;omega,by simp only;omega,by simp only;omega,by simp only;omega⟩,by simp only;omega,?_⟩
    refine fN ?_<;>repeat' (first|exact fQ|refine And.intro ?_ ?_|exact SeesL.rfl' _|exact Sees.int wl|exact Sees.int wt)
   | false=>
    rw[hsl]at hstep hcs
    have hsame:(slotM n s2 x y f.id (t2 % s2.len)).1=s2:=by
     unfold slotM at hsl ⊢
     split
     ·rfl
     ·rename_i hh
      rw[if_neg hh]at hsl
      split
      ·rename_i o ho;rw[ho]at hsl;cases hsl
      ·rfl
    rw[hsame]at hstep
    repeat((conv=>whnf);first|refine sT ?_|rw[wt])
    try(conv=>whnf)
    refine⟨(s2,left,t2+1),⟨by simp only;rw[hD2];exact hstep,hg2,hl2,hc2,hle2,by simp only;omega,by simp only;omega⟩,by simp only;omega,?_⟩
    refine fN ?_<;>repeat' (first|exact fQ|refine And.intro ?_ ?_|exact SeesL.rfl' _|exact Sees.int wt)
 ·have hie:i=r.length-1:=by omega
  subst hie
  have gb:decide (((r.length-1+1:Nat):Int) < ((r.map encI).length:Int))=false:=decide_eq_false (by rw[List.length_map];omega)
  rw[relL_some hrel,hrel]
  repeat((conv=>whnf);first|refine sT ?_|rw[gb])
  try(conv=>whnf)
  exact resP.mk rfl (Sees.of_eq rfl)
end
end HM
