/- One cell more, where there is room: the program. -/
import Derived.Test.YtpdlbjnjdbgpaaaGreatDoorS218
import Derived.Test.YtpdlbjnjdbgpaaaGreatDoorS219
import Derived.Test.YtpdlbjnjdbgpaaaGreatDoorDc
import Derived.Test.YtpdlbjnjdbgpaaaGreatDoorS30
import Derived.Test.YtpdlbjnjdbgpaaaGreatDoorFh
import Derived.Test.YtpdlbjnjdbgpaaaGreatDoorS206
import Derived.Test.YtpdlbjnjdbgpaaaGreatDoorS217
import Derived.Test.YtpdlbjnjdbgpaaaGreatDoorDb
set_option maxHeartbeats 64000000
namespace HM
open Go Go.RowKit Go.Proofs
theorem c_slot (n:Net)(s:Sched)(l:Link)(id k:Int)(hn:n.small)(hg:GridOk s)(hs:s.cells.length≤1000000)(hz:1≤s.offs∧s.offs≤16)(hk:0≤k∧k≤512):PCall Tryz.prog LW 162 [gridAv n s,l.av,.int .i64 id,.int .i64 k] (.tup [gridAv n (slotM n s l.src l.dst id k).1,.bool (slotM n s l.src l.dst id k).2]):=
 (slotHalf n s l id k hn hg hs hz hk).2 (fun _=>slotFirst n s l id k hn hg hs hz hk) (fun _=>slotSecond n s l id k hn hg hs hz hk)
end HM
set_option maxRecDepth 100000
namespace HM
open Go Go.RowKit Go.Proofs
def rlS (n:Net)(s:Sched):List Ob:=[.cells (slG n s (encCells s.cells)) 96,.dead,.cells slZ 96]
theorem c_grelease (n:Net)(hn:n.small)(hok:NetOk n)(h0n:netE n=0)(s:Sched)(hg:GridOk s)(hs:s.cells.length≤900000)(hz:1≤s.len∧s.len≤512∧1≤s.offs∧s.offs≤16)(f:Flow)(hfd:1≤f.dead∧f.dead≤512)(r:List Int)(hr:1≤r.length∧r.length≤9)(hop:HopsOk n r)(rel:Int)(h0:0≤rel∧rel≤1048576) :
  PCall Tryz.prog LW 104 [gridAv n s,f.av,encIs r,.int .i64 rel] (.tup [gridAv n (relL n f r (rel+f.dead) (r.length-1) s rel),.bool (relA n f r (rel+f.dead) (r.length-1) s rel).isSome]):=by
 have w1:IntKind.i64.wrap (rel+f.dead)=rel+f.dead:=w64 (by omega) (by omega)
 refine PCall.intro mixed [1] (nt:=74) Tryz.func104 rfl rfl (by simp) ?_
 refine Wk ?_
 refine SeqK.sem mixed [] ?_
 refine Wk ?_
 refine SemK.freezeB 1 rfl rfl ?_
 refine twC_sound (ct:=[]) mixed _ _ _ _ ?_
 repeat((conv=>whnf);first|refine sT ?_|rw[w1])
 try(conv=>whnf)
 refine LoopK.run mixed [10005] (fun st:Nat×Sched×Int=>st.1+1≤r.length∧relA n f r (rel+f.dead) st.1 s rel=some (st.2.1,st.2.2)∧GridOk st.2.1∧(st.2.1.len=s.len∧st.2.1.offs=s.offs)∧st.2.1.cells.length≤s.cells.length+16*st.1∧rel≤st.2.2∧st.2.2≤rel+f.dead) (fun st=>[(2,encIs r),(3,.int .i64 st.2.2),(4,.ptr 0 0),(5,.cptr f.av 0),(8,.ptr 2 0),(10,.int .i64 (rel+f.dead)),(11,.int .i64 (st.1+1:Nat))]) (fun st=>⟨rlS n st.2.1,[],0,0,fun _=>0⟩) (fun st=>r.length-st.1) (0,s,rel) ⟨by simp only;omega,rfl,hg,⟨rfl,rfl⟩,by simp,Int.le_refl _,by simp only;omega⟩ ?_ ?_
 ·refine fN ?_<;>repeat' (first|exact fQ|refine And.intro ?_ ?_|exact SeesL.rfl' _)
 rintro⟨i,s1,t1⟩ ⟨hi,hrel,hg1,hl1,hc1,ht0,ht1⟩
 dsimp only at hi hrel hg1 hl1 hc1 ht0 ht1 ⊢
 by_cases hlt:i+1 < r.length
 ·obtain⟨y,hgy⟩:=getLt hlt
  have hmy:=getMap (f:=encI) hgy
  obtain⟨x,hgx⟩:=getLt (l:=r) (k:=i) (by omega)
  have hmx:=getMap (f:=encI) hgx
  have hil:i < r.length:=by omega
  have hxd:r.getD i 0=x:=by rw[List.getD_eq_getElem?_getD,hgx];rfl
  have hyd:r.getD (i+1) 0=y:=by rw[List.getD_eq_getElem?_getD,hgy];rfl
  have hwi:IntKind.i64.wrap (((i+1:Nat):Int)-1)=(i:Int):=by rw[w64]<;>omega
  have gb:decide (((i+1:Nat):Int) < ((r.map encI).length:Int))=true:=decide_eq_true (by rw[List.length_map];omega)
  obtain⟨l,hl⟩:=hop_at hok (hop i hlt)
  obtain⟨q,hq1,hq2⟩:=hl.at_
  have hxy:=hl.ends
  have hls:=hl.src
  have hld:=hl.dst
  have hnd:=hl.need
  have hll:=hl.loss
  rw[hxd,hyd]at hq1 hxy
  rw[hxd]at hls
  rw[hyd]at hld
  have hidx:indexN n x y=(q:Int):=by rw[indexN,if_pos h0n,hq1]
  have hqb:=(List.getElem?_eq_some_iff.1 hq2).1
  have hml:=getMap (f:=Link.av) hq2
  have hneed:IntKind.i64.wrap (l.loss+1)=(needAt n r 0 i:Int):=by rw[w64 (x:=l.loss+1) (by omega) (by omega)];omega
  have hnl:needAt n r 0 i≤16:=by omega
  repeat((conv=>whnf);first|refine sJ ?_|refine aI (by first|exact trivial|exact inbMap hlt|exact inbMap hil|(rw[hwi];exact inbMap hil)|kernel_rfl) ?_|rw[gb]|rw[hwi]|rw[hmx]|rw[hmy])
  try(conv=>whnf)
  refine SemK.regionFin mixed (fun X=>X.bx[0]? = some (.cells (slG n s1 (encCells s1.cells)) 96)) [0,1,2,3,4,5,6,7,8,9,10,11,12,13,14,15,16] 2 rfl rfl (by decide) rfl rfl ?_
  iterate 14
   conv=>whnf
   apply exV
   ·rintro S' K' hI hh
    repeat((conv=>whnf);first|refine sJ ?_|refine aI (by first|exact trivial|exact inbMap hlt|exact inbMap hil|(rw[hwi];exact inbMap hil)|kernel_rfl) ?_|rw[hI]|rw[hwi]|rw[hmx]|rw[hmy])
    try(conv=>whnf)
    exact hh
  conv=>whnf
  apply exV
  ·rintro S' K' hI hh
   refine Wk ?_
   refine cD (c_index LW n hn x y) ?_
   rw[hidx]
   exact hh
  iterate 2
   conv=>whnf
   apply exV
   ·rintro S' K' hI hh
    repeat((conv=>whnf);first|refine sJ ?_|refine aI (by first|exact trivial|exact inbMap hqb|kernel_rfl) ?_|rw[hI]|rw[hml])
    try(conv=>whnf)
    exact hh
  conv=>whnf
  repeat' ((conv=>whnf);first|exact trivial|refine sJ ?_|refine aI (by first|exact trivial|exact Or.inr rfl|exact Or.inl rfl|kernel_rfl) ?_|refine And.intro ?_ ?_ )
  all_goals(conv=>whnf)
  have hneed2:IntKind.i64.wrap (l.loss+1)=(needAt n r 0 i:Int):=hneed
  refine LoopK.run mixed [10009] (fun st:Sched×Nat×Int=>fillM n x y f.id (rel+f.dead-t1).toNat s1 (needAt n r 0 i) t1=fillM n x y f.id (rel+f.dead-st.2.2).toNat st.1 st.2.1 st.2.2∧GridOk st.1∧(st.1.len=s.len∧st.1.offs=s.offs)∧st.1.cells.length+st.2.1≤s1.cells.length+needAt n r 0 i∧st.2.1≤needAt n r 0 i∧t1≤st.2.2∧st.2.2≤rel+f.dead) (fun st=>[(2,encIs r),(3,.int .i64 st.2.2),(4,.ptr 0 0),(5,.cptr f.av 0),(8,.ptr 2 0),(10,.int .i64 (rel+f.dead)),(11,.int .i64 (i+1:Nat)),(12,.ptr 3 0),(13,.int .i64 st.2.1)]) (fun st=>⟨rlS n st.1++[.cells [.int .i64 l.src,.int .i64 l.dst,.int .i64 l.loss] 53],[],0,0,fun _=>0⟩) (fun st=>(rel+f.dead-st.2.2).toNat) (s1,needAt n r 0 i,t1) ⟨rfl,hg1,hl1,Nat.le_refl _,Nat.le_refl _,Int.le_refl _,ht1⟩ ?_ ?_
  ·refine fN ?_<;>repeat' (first|exact fQ|refine And.intro ?_ ?_|exact SeesL.rfl' _|exact Sees.int hneed)
  rintro⟨s2,left,t2⟩ ⟨hfill,hg2,hl2,hc2,hle2,hta,htb⟩
  dsimp only at hfill hg2 hl2 hc2 hle2 hta htb ⊢
  have hrs:relA n f r (rel+f.dead) (i+1) s rel=if (fillM n x y f.id (rel+f.dead-t2).toNat s2 left t2).2.1≠0 then none else some ((fillM n x y f.id (rel+f.dead-t2).toNat s2 left t2).1,(fillM n x y f.id (rel+f.dead-t2).toNat s2 left t2).2.2):=by
   rw[relA,hrel]
   simp only
   rw[hxd,hyd,hfill]
  by_cases hl0:left=0
  ·subst hl0
   rw[fillM_stop]at hrs
   simp only[ne_eq,not_true_eq_false,if_false]at hrs
   have g1:decide ((0:Int) < ((0:Nat):Int))=false:=rfl
   repeat((conv=>whnf);first|refine sT ?_|rw[g1])
   try(conv=>whnf)
   refine⟨(i+1,s2,t2),⟨by omega,hrs,hg2,hl2,by simp only;omega,by simp only;omega,htb⟩,by simp only;omega,?_⟩
   refine fN ?_<;>repeat' (first|exact fQ|refine And.intro ?_ ?_|exact SeesL.rfl' _|exact Sees.int (succI hlt (by omega)))
  have g1:decide ((0:Int) < (left:Int))=true:=decide_eq_true (by omega)
  by_cases hend:t2=rel+f.dead
  ·have g2:decide (t2 < rel+f.dead)=false:=decide_eq_false (by omega)
   have hz0:(rel+f.dead-t2).toNat=0:=by omega
   rw[hz0]at hfill
   obtain⟨hnone,hlast⟩:=relL_stop (m:=r.length-1) hrel (by rw[hxd,hyd,hfill];rfl) hl0 (by omega)
   rw[hnone,hlast]
   repeat((conv=>whnf);first|refine sT ?_|rw[g1]|rw[g2])
   try(conv=>whnf)
   exact⟨.tup [gridAv n s2,.bool false],rfl,Sees.of_eq rfl⟩
  have g2:decide (t2 < rel+f.dead)=true:=decide_eq_true (by omega)
  have wt:IntKind.i64.wrap (t2+1)=t2+1:=w64 (by omega) (by omega)
  have wl:IntKind.i64.wrap ((left:Int)-1)=((left-1:Nat):Int):=by rw[w64]<;>omega
  have htm:t2.tmod s2.len=t2 % s2.len:=tmod_eq (by omega)
  have hml2:s2.len≠0:=by omega
  have hmb:0≤t2 % s2.len∧t2 % s2.len < s2.len:=⟨Int.emod_nonneg _ hml2,Int.emod_lt_of_pos _ (by omega)⟩
  obtain⟨D,hD⟩:∃D,(rel+f.dead-t2).toNat=D+1:=⟨(rel+f.dead-t2).toNat-1,by omega⟩
  have hD2:(rel+f.dead-(t2+1)).toNat=D:=by omega
  have hstep:fillM n x y f.id (rel+f.dead-t1).toNat s1 (needAt n r 0 i) t1=fillM n x y f.id D (slotM n s2 x y f.id (t2 % s2.len)).1 (if (slotM n s2 x y f.id (t2 % s2.len)).2=true then left-1 else left) (t2+1):=by
   rw[hfill,hD,fillM,if_neg hl0]
  have hgs:=gridOk_slot (n:=n) hg2 hxy f.id (t2 % s2.len)
  have hlns:=slotM_len n s2 x y f.id (t2 % s2.len)
  have hcs:=slotM_cells2 n s2 x y f.id (t2 % s2.len)
  repeat((conv=>whnf);first|refine sT ?_|rw[g1]|rw[g2])
  try(conv=>whnf)
  refine SemK.regionFin mixed (fun X=>X.bx[0]? = some (.cells (slG n s2 (encCells s2.cells)) 96)∧X.bx[3]? = some (.cells [.int .i64 l.src,.int .i64 l.dst,.int .i64 l.loss] 53)) [0,1,2,3,4,5,6,7,8,9,10,11] 3 rfl rfl (by decide) rfl ⟨rfl,rfl⟩ ?_
  iterate 8
   conv=>whnf
   apply exV
   ·rintro S' K' ⟨hI,hI3⟩ hh
    repeat((conv=>whnf);first|refine sT ?_|rw[hI]|rw[hI3])
    try(conv=>whnf)
    exact hh
  conv=>whnf
  apply exV
  ·rintro S' K' ⟨hI,hI3⟩ hh
   repeat((conv=>whnf);first|refine sJ ?_|refine aI (by first|exact trivial|exact hml2|kernel_rfl) ?_|rw[hI])
   try(conv=>whnf)
   exact hh
  conv=>whnf
  apply exV
  ·rintro S' K' ⟨hI,hI3⟩ hh
   repeat((conv=>whnf);first|refine sT ?_|rw[htm])
   try(conv=>whnf)
   refine cD (c_slot n s2 l f.id (t2 % s2.len) hn hg2 (by omega) ⟨by omega,by omega⟩ ⟨by omega,by omega⟩) ?_
   rw[hls,hld]
   exact hh
  iterate 2
   conv=>whnf
   apply exV
   ·rintro S' K' ⟨hI,hI3⟩ hh
    refine Wk ?_
    exact hh
  conv=>whnf
  repeat' ((conv=>whnf);first|exact trivial|refine sJ ?_|refine aI (by first|exact trivial|exact Or.inr ⟨rfl,rfl⟩|exact Or.inl rfl|kernel_rfl) ?_|refine And.intro ?_ ?_ )
  all_goals(conv=>whnf)
  all_goals
   cases hsl:(slotM n s2 x y f.id (t2 % s2.len)).2 with
   | true=>
    rw[hsl]at hstep hcs
    repeat((conv=>whnf);first|refine sT ?_|rw[wl]|rw[wt])
    try(conv=>whnf)
    refine⟨((slotM n s2 x y f.id (t2 % s2.len)).1,left-1,t2+1),⟨by simp only;rw[hD2];exact hstep,hgs,⟨hlns.1.trans hl2.1,hlns.2.trans hl2.2⟩,by simp only;simp only[if_true]at hcs;omega,by simp only;omega,by simp only;omega,by simp only;omega⟩,by simp only;omega,?_⟩
    refine fN ?_<;>repeat' (first|exact fQ|refine And.intro ?_ ?_|exact SeesL.rfl' _|exact Sees.int wl|exact Sees.int wt)
   | false=>
    rw[hsl]at hstep hcs
    rw[slotM_same hsl]at hstep
    have hsame:=slotM_same hsl
    repeat((conv=>whnf);first|refine sT ?_|rw[wt])
    try(conv=>whnf)
    refine⟨(s2,left,t2+1),⟨by simp only;rw[hD2];exact hstep,hg2,hl2,hc2,hle2,by simp only;omega,by simp only;omega⟩,by simp only;omega,?_⟩
    refine fN ?_<;>repeat' (first|exact fQ|refine And.intro ?_ ?_|exact SeesL.rfl' _|exact Sees.int wt|(rw[hsame])|exact SeesL.of_eq (by rw[hsame];rfl))
 ·have hie:i=r.length-1:=by omega
  subst hie
  have gb:decide (((r.length-1+1:Nat):Int) < ((r.map encI).length:Int))=false:=decide_eq_false (by rw[List.length_map];omega)
  rw[relL_some hrel,hrel]
  repeat((conv=>whnf);first|refine sT ?_|rw[gb])
  try(conv=>whnf)
  exact⟨.tup [gridAv n s1,.bool true],rfl,Sees.of_eq rfl⟩
def gplS (n:Net)(s:Sched):List Ob:=[.dead,.dead,.dead,.cells [.int .i64 0,.int .i64 0,.nils] 30,.cells (slG n s (encCells s.cells)) 96]
theorem c_place (n:Net)(hn:n.small)(hok:NetOk n)(h0n:netE n=0)(s:Sched)(hg:GridOk s)(hs:s.cells.length≤512)(hz:1≤s.len∧s.len≤512∧1≤s.offs∧s.offs≤16)(x:Req)(hl:x.routes.length≤2)(hp:1≤x.flow.period∧x.flow.period≤512)(hph:0≤x.flow.phase∧x.flow.phase < x.flow.period)(hfd:1≤x.flow.dead∧x.flow.dead≤512)(hd:s.len % x.flow.period=0)(hr:∀r∈x.routes,(1≤r.length∧r.length≤9)∧HopsOk n r) :
  PCall Tryz.prog LW 51 [n.av,s.av,x.av] (.tup [((placeA n x.flow (relN s x.flow) x.routes s).getD s).av,.bool (placeA n x.flow (relN s x.flow) x.routes s).isSome]):=by
 obtain⟨N,hN⟩:∃N,N=relN s x.flow:=⟨_,rfl⟩
 have hNl:N≤512:=by rw[hN];exact relN_le hz.2.1 hp.1
 have hlt:=relN_lt hz.1 hp.1 hph hd
 rw[←hN]at hlt ⊢
 refine PCall.intro mixed [1] (nt:=50) Tryz.func51 rfl rfl (by simp) ?_
 refine Wk ?_
 refine SeqK.sem mixed [] ?_
 refine Wk ?_
 refine SemK.freezeB 0 rfl rfl ?_
 refine SemK.freezeB 1 rfl rfl ?_
 refine SemK.freezeB 2 rfl rfl ?_
 refine twC_sound (ct:=[]) mixed _ _ _ _ ?_
 refine Wk ?_
 refine LoopK.run mixed [] (fun st:Nat×Sched=>st.1≤x.routes.length∧placeA n x.flow N (x.routes.take st.1) s=some st.2∧GridOk st.2∧(st.2.len=s.len∧st.2.offs=s.offs)∧st.2.cells.length≤s.cells.length+128*N*st.1) (fun st=>[(3,.cptr n.av 0),(4,.cptr s.av 0),(5,.cptr x.av 0),(6,.ptr 3 0),(8,.ptr 4 0),(17,encRows x.routes),(18,.int .i64 x.routes.length),(19,.int .i64 st.1)]) (fun st=>⟨gplS n st.2,[],0,0,fun _=>0⟩) (fun st=>x.routes.length-st.1) (0,s) ⟨by simp,by simp[placeA],hg,⟨rfl,rfl⟩,by simp⟩ ?_ ?_
 ·refine fN ?_<;>repeat' (first|exact fQ|refine And.intro ?_ ?_|exact SeesL.rfl' _|exact Sees.int (by simp))
 rintro⟨k,s1⟩ ⟨hk,hpl,hg1,hl1,hc1⟩
 dsimp only at hk hpl hg1 hl1 hc1 ⊢
 by_cases hkl:k < x.routes.length
 rotate_left
 ·have hkn:k=x.routes.length:=by omega
  have g0:decide ((k:Int) < (x.routes.length:Int))=false:=decide_eq_false (by omega)
  rw[hkn,List.take_length]at hpl
  rw[hpl]
  repeat((conv=>whnf);first|refine sT ?_|rw[g0])
  try(conv=>whnf)
  exact⟨.tup [s1.av,.bool true],rfl,Sees.of_eq rfl⟩
 obtain⟨r,hgr⟩:=getLt hkl
 have hmr:=getMap (f:=encIs) hgr
 have g0:decide ((k:Int) < (x.routes.length:Int))=true:=decide_eq_true (by omega)
 obtain⟨hr1,hr2⟩:=hr r (List.mem_of_getElem? hgr)
 have hts:=take_succ hgr
 have happ:=placeA_append n x.flow N r (x.routes.take k) s
 rw[hpl,←hts]at happ
 have happ2:placeA n x.flow N (x.routes.take (k+1)) s=relsA n x.flow r N s1:=happ
 repeat((conv=>whnf);first|refine sJ ?_|refine aI (by first|exact trivial|exact inbMap hkl|kernel_rfl) ?_|rw[g0]|rw[hmr])
 try(conv=>whnf)
 refine LoopK.run mixed [] (fun st:Nat×Sched=>st.1≤N∧relsA n x.flow r st.1 s1=some st.2∧GridOk st.2∧(st.2.len=s.len∧st.2.offs=s.offs)∧st.2.cells.length≤s1.cells.length+128*st.1) (fun st=>[(3,.cptr n.av 0),(4,.cptr s.av 0),(5,.cptr x.av 0),(6,.ptr 3 0),(8,.ptr 4 0),(11,encIs r),(12,.int .i64 (atA x.flow st.1)),(17,encRows x.routes),(18,.int .i64 x.routes.length),(19,.int .i64 k)]) (fun st=>⟨gplS n st.2,[],0,0,fun _=>0⟩) (fun st=>N-st.1) (0,s1) ⟨by simp,by simp[relsA],hg1,hl1,by simp⟩ ?_ ?_
 ·refine fN ?_<;>repeat' (first|exact fQ|refine And.intro ?_ ?_|exact SeesL.rfl' _|exact Sees.int (by simp[atA]))
 rintro⟨j,s2⟩ ⟨hj,hrl,hg2,hl2,hc2⟩
 dsimp only at hj hrl hg2 hl2 hc2 ⊢
 have hat:=atA_le hz.2.1 hp hph j
 have hN2:128*N*k≤128*512*2:=Nat.mul_le_mul (Nat.mul_le_mul (Nat.le_refl _) hNl) (by omega)
 by_cases hjN:j < N
 rotate_left
 ·have hjn:j=N:=by omega
  subst hjn
  have g1:decide (atA x.flow j < s.len)=false:=decide_eq_false fun h=>by have:=(hlt j).1 h;omega
  rw[hrl]at happ2
  have hw2:IntKind.i64.wrap ((k:Int)+1)=((k+1:Nat):Int):=by rw[w64]<;>omega
  repeat((conv=>whnf);first|refine sT ?_|rw[g1])
  try(conv=>whnf)
  refine⟨(k+1,s2),⟨by omega,happ2,hg2,hl2,by simp only;rw[Nat.mul_add];omega⟩,by simp only;omega,?_⟩
  refine fN ?_<;>repeat' (first|exact fQ|refine And.intro ?_ ?_|exact SeesL.rfl' _|exact Sees.int hw2)
 have g1:decide (atA x.flow j < s.len)=true:=decide_eq_true ((hlt j).2 hjN)
 have hatl:=(hlt j).2 hjN
 have hsz:s2.cells.length≤900000:=by omega
 repeat((conv=>whnf);first|refine sT ?_|rw[g1])
 try(conv=>whnf)
 refine cD (c_grelease n hn hok h0n s2 hg2 hsz ⟨by omega,by omega,by omega,by omega⟩ x.flow hfd r hr1 hr2 (atA x.flow j) ⟨hat.1,by omega⟩) ?_
 have hnx:relsA n x.flow r (j+1) s1=(relA n x.flow r (atA x.flow j+x.flow.dead) (r.length-1) s2 (atA x.flow j)).map (·.1):=by rw[relsA,hrl]
 cases hra:relA n x.flow r (atA x.flow j+x.flow.dead) (r.length-1) s2 (atA x.flow j) with
 | none=>
  rw[hra]at hnx
  have hnone:placeA n x.flow N x.routes s=none:=by
   have h1:placeA n x.flow N (x.routes.take (k+1)) s=none:=by rw[happ2];exact relsA_none hnx (by omega)
   have:=(placeA_none (m:=x.routes.drop (k+1)) h1).1
   rwa [List.take_append_drop]at this
  rw[hnone]
  refine Wk ?_
  exact⟨.tup [s.av,.bool false],rfl,Sees.of_eq rfl⟩
 | some p=>
  obtain⟨s3,t3⟩:=p
  rw[hra]at hnx
  obtain⟨f1,f2,f3,f4⟩:=relA_ok hok hr2 (by omega) hra hg2
  have hwa:IntKind.i64.wrap (atA x.flow j+x.flow.period)=atA x.flow (j+1):=by rw[atA_succ,w64 (by omega) (by omega)]
  rw[relL_some hra]
  refine Wk ?_
  refine⟨(j+1,s3),⟨by omega,hnx,f1,⟨f2.trans hl2.1,f3.trans hl2.2⟩,by simp only;omega⟩,by simp only;omega,?_⟩
  refine fN ?_<;>repeat' (first|exact fQ|refine And.intro ?_ ?_|exact SeesL.rfl' _|exact Sees.int hwa)
theorem ids_sorted {n:Net}{q:List Req}(h:(reqE n q).2=0):q.Pairwise fun a b=>a.flow.id < b.flow.id:=by
 have h1:=flows_sorted (reqE_ok h).2.2.2
 unfold flowsQ at h1
 exact List.Pairwise.of_map Req.flow (fun a b h=>h) h1
theorem make_req {n:Net}{q:List Req}{s:Sched}(h:(makeM n q s).2.2=0):(reqE n q).2=0:=by
 unfold makeM at h
 split at h
 ·rename_i hh;exact absurd h hh
 ·omega
theorem make_vok {n:Net}{q:List Req}{s:Sched}(h:(makeM n q s).2.2=0):VOk n (flowsQ q) s:=by
 unfold makeM at h
 split at h
 ·rename_i hh;exact absurd h hh
 split at h
 ·cases h
 ·exact schedE_ok (by omega)
theorem insQ_small {q:List Req}{x:Req}(hx:∀y∈q,y.small)(hxs:x.small):∀y∈insQ q x,y.small:=fun y hy=>by
 rcases insAt_mem.1 hy with rfl|hy
 ·exact hxs
 ·exact hx y hy
theorem c_Admit (n:Net)(hn:n.small)(q:List Req)(hq:q.length≤1099511627776)(hx:∀x∈q,x.small)(s:Sched)(hc:s.cells.length≤281474976710656)(x:Req)(hxs:x.small) :
  PCall Tryz.prog LW 18 [n.av,encReqs q,s.av,x.av] (.tup [(admM n q s x).1.av,.int .i64 (admM n q s x).2]):=by
 refine PCall.intro mixed [1] (nt:=60) Tryz.func18 rfl rfl (by simp) ?_
 refine Wk ?_
 refine SeqK.sem mixed [] ?_
 refine Wk ?_
 refine SemK.freezeB 0 rfl rfl ?_
 refine SemK.freezeB 1 rfl rfl ?_
 refine SemK.freezeB 2 rfl rfl ?_
 refine twC_sound (ct:=[]) mixed _ _ _ _ ?_
 refine Wk ?_
 refine cD (c_servesA n hn q hq hx s hc) ?_
 cases g1:((makeM n q s).2.2==0) with
 | false=>
  have e1:admM n q s x=(⟨0,0,[]⟩,1):=by unfold admM;rw[if_pos (by simpa using g1)]
  rw[e1]
  refine Wk ?_
  exact resP.mk rfl (Sees.of_eq rfl)
 | true=>
 have g1':(makeM n q s).2.2=0:=by simpa using g1
 have hrq:=make_req g1'
 obtain⟨hok,hq16,hreq,hfl⟩:=reqE_ok hrq
 have hv:=make_vok g1'
 have hsz:=sized_bd hv.size
 refine Wk ?_
 refine CallK.data rfl (c_ContainsFuncReqA LW q (fun y=>y.flow.id==x.flow.id) 49 [.cptr x.av 0] (by omega) rfl rfl (fun y _=>c_adm1 LW y x)) rfl ?_
 cases g2:hasQ q x.flow.id with
 | true=>
  have e1:admM n q s x=(⟨0,0,[]⟩,6):=by unfold admM;rw[if_neg (by omega),if_pos g2]
  rw[e1]
  rw[show(q.any fun y=>y.flow.id==x.flow.id)=true from g2]
  refine Wk ?_
  exact resP.mk rfl (Sees.of_eq rfl)
 | false=>
 rw[show(q.any fun y=>y.flow.id==x.flow.id)=false from g2]
 refine Wk ?_
 refine cD (c_insertedA LW q x (by omega) (ids_sorted hrq)) ?_
 refine Wk ?_
 have hil:(insQ q x).length=q.length+1:=insAt_len _ _ _
 refine cD (c_faultyA n hn hv.n0 (insQ q x) (by omega) (insQ_small hx hxs)) ?_
 by_cases h3:(reqE n (insQ q x)).2≠0
 ·rw[decide_eq_true h3]
  have e1:admM n q s x=(⟨0,0,[]⟩,1):=by unfold admM;rw[if_neg (by omega),if_neg (by rw[g2];decide),if_pos h3]
  rw[e1]
  refine Wk ?_
  exact resP.mk rfl (Sees.of_eq rfl)
 rw[decide_eq_false h3]
 have h3':(reqE n (insQ q x)).2=0:=by omega
 obtain⟨_,_,hreq2,_⟩:=reqE_ok h3'
 have hxo:=hreq2 x (insAt_mem.2 (.inl rfl))
 have hfe:=flowE_ok hxo.flow
 have htm:s.len.tmod x.flow.period=s.len % x.flow.period:=tmod_eq (by omega)
 repeat((conv=>whnf);first|refine sJ ?_|refine aI (by first|exact(show x.flow.period≠0 by omega)|kernel_rfl) ?_|rw[htm])
 try(conv=>whnf)
 by_cases h4:s.len % x.flow.period≠0
 ·have g4:(s.len % x.flow.period != 0)=true:=by simpa using h4
  have e1:admM n q s x=(⟨0,0,[]⟩,11):=by unfold admM;rw[if_neg (by omega),if_neg (by rw[g2];decide),if_neg h3,if_pos h4]
  rw[e1]
  repeat((conv=>whnf);first|refine sT ?_|rw[g4])
  try(conv=>whnf)
  exact resP.mk rfl (Sees.of_eq rfl)
 have g4:(s.len % x.flow.period != 0)=false:=by simpa using h4
 have e0:admM n q s x=match placeA n x.flow (relN s x.flow) x.routes s with
  | none=>(⟨0,0,[]⟩,18)
  | some t=>if 512 < t.cells.length then(⟨0,0,[]⟩,8) else(t,0):=by unfold admM;rw[if_neg (by omega),if_neg (by rw[g2];decide),if_neg h3,if_neg h4];rfl
 rw[e0]
 have hrt:∀r∈x.routes,(1≤r.length∧r.length≤9)∧HopsOk n r:=fun r hr=>by
  obtain⟨k1,k2,_⟩:=routeF_ok (hxo.route r hr)
  exact⟨⟨by omega,k1.2⟩,k2⟩
 repeat((conv=>whnf);first|refine sT ?_|rw[g4])
 try(conv=>whnf)
 refine cD (c_place n hn hok hv.n0 s hv.grid hv.many hsz x hxo.len.2 ⟨by omega,by omega⟩ ⟨by omega,by omega⟩ ⟨by omega,by omega⟩ (by omega) hrt) ?_
 cases hpl:placeA n x.flow (relN s x.flow) x.routes s with
 | none=>
  refine Wk ?_
  exact resP.mk rfl (Sees.of_eq rfl)
 | some t=>
  obtain⟨t1,t2,t3,t4⟩:=placeA_ok hok hrt hpl hv.grid
  simp only[Option.getD_some,Option.isSome_some]
  by_cases h5:512 < t.cells.length
  ·have g5:decide ((512:Int) < ((t.cells.map Cell.av).length:Int))=true:=decide_eq_true (by rw[List.length_map];omega)
   rw[if_pos h5]
   repeat((conv=>whnf);first|refine sT ?_|rw[g5])
   try(conv=>whnf)
   exact resP.mk rfl (Sees.of_eq rfl)
  have g5:decide ((512:Int) < ((t.cells.map Cell.av).length:Int))=false:=decide_eq_false (by rw[List.length_map];omega)
  rw[if_neg h5]
  by_cases hne:t.cells=[]
  ·obtain⟨a,b,cs⟩:=t
   simp only at hne
   subst hne
   repeat((conv=>whnf);first|refine sT ?_|rw[g5])
   try(conv=>whnf)
   refine cD (c_Clone0Cell LW) ?_
   refine Wk ?_
   exact resP.mk rfl (Sees.of_eq rfl)
  ·repeat((conv=>whnf);first|refine sT ?_|rw[g5])
   try(conv=>whnf)
   refine CallK.fresh rfl (c_CloneCell LW t.cells hne (by omega)) (by rfl) (cellOk.els _) (cellOk.scal (fun _=>rfl) _) (fun h=>absurd (by simpa using h) hne) (fun d=>?_)
   refine Wk ?_
   exact⟨_,fzAdd (cellOk.fzb rfl (List.length_map ..).symm),Sees.of_eq rfl⟩
end HM
