/- The cells that count: the second order. -/
import Derived.Test.YtpdlbjnjdbgpaaaGreatDoorS62
set_option maxHeartbeats 64000000
set_option maxRecDepth 100000
namespace HM
open Go Go.RowKit Go.Proofs
theorem needSecond (n:Net)(s:Sched)(f:Flow)(l:List (List Int))(hn:n.small)(hc:s.cells.length≤281474976710656)(hr:∀r∈l,r.length≤281474976710656)(hl:l.length≤281474976710656):(needHalf n s f l hn hc hr hl).1.2:=by
 conv=>whnf
 intro kk hkk hkl r hgr hrm hw0 x hb h jj hjj hjl rel hrb hsome hrel C hC L1 hL1
 obtain⟨w,rfl,rfl,rfl,rfl,hmz⟩:∃w:Way,n=w.n∧s=w.s∧f=w.f∧r=w.r∧w.more=0:=⟨⟨n,s,f,r,0⟩,rfl,rfl,rfl,rfl,rfl⟩
 have hW:(⟨w.n,w.s,w.f,w.r,0⟩:Way)=w:=by cases w;simp at hmz;subst hmz;rfl
 rw[hW]at hL1 ⊢
 have h0:=wayE_net hw0
 have hlen:=h.len
 have hfl:=h.flow
 obtain⟨hsz,hcl,hfm⟩:=form_all h.form
 have hsb:=sized_bd hsz
 have hmul:0≤(jj:Int)*w.f.period:=Int.mul_nonneg (by omega) (by omega)
 have hr0:0≤rel:=by omega
 have hr1:rel≤1048576:=by omega
 have hm0:0≤w.more:=by omega
 have hm1:w.more≤8:=by omega
 have hwp:IntKind.i64.wrap (rel+w.f.period)=rel+w.f.period:=w64 (by omega) (by omega)
 have hw2:IntKind.i64.wrap (rel+w.f.period)=w.f.phase+((jj+1:Nat):Int)*w.f.period:=by rw[hwp,hrel,Int.natCast_add,Int.add_mul];omega
 have hok1:∀k m,6≤k→Ob.okk k m (.loop L1):=fun k m hk=>loop_okk (l:=nSl w l rel kk) (by rw[hL1]) ⟨trivial,trivial,trivial,trivial,(show 4 < k by omega),(show 5 < k by omega),trivial,trivial,trivial,trivial,⟨trivial,trivial,trivial⟩,trivial⟩
 refine Wk ?_
 refine cD (c_wlinks w) ?_
 refine Wk ?_
 refine RangeK.weak (l:=nSl2 w rel 8 9) (S1:=⟨nBx w rel C L1 rel,[],7,0,fun _=>0⟩) ?_ ?_
 ·refine fN ?_<;>repeat' (first|exact fQ|refine And.intro ?_ ?_|exact hok1 _ _ (le_b rfl)|exact okk_mapO _ _ _|exact SeesL.rfl' _|exact SeesO.rfl' _)
 refine RangeK.named rfl rfl fun L2 hL2=>?_
 have hok2:∀k m,10≤k→Ob.okk k m (.loop L2):=fun k m hk=>loop_okk (l:=nSl2 w rel 8 9) (by rw[hL2]) ⟨trivial,trivial,(show 7 < k by omega),(show 8 < k by omega),(show 9 < k by omega),⟨trivial,trivial⟩,trivial⟩
 refine ICall.intro mixed [] (nt:=41) Tryz.func164 rfl rfl (by simp) ?_
 refine Wk ?_
 refine LoopK.run mixed [] (fun q:Nat×List Int×Int=>q.1+1≤w.r.length∧slotsUp w.n w.s w.f w.r rel w.more q.1=some (q.2.1,q.2.2)) (fun q=>[(0,.yld 10),(1,.cptr w.av 0),(3,.int .i64 (q.1+1:Nat))]) (fun q=>⟨nBx w rel (C++cellsUp w.n w.s w.f w.r rel q.1) L1 q.2.2++[.loop L2],[],11,0,fun _=>0⟩) (fun q=>w.r.length-q.1) (0,[],rel) ⟨by simp;omega,rfl⟩ ?_ ?_
 ·refine fN ?_<;>repeat' (first|exact fQ|refine And.intro ?_ ?_|exact hok1 _ _ (le_b rfl)|exact hok2 _ _ (le_b rfl)|exact okk_mapO _ _ _|exact SeesL.rfl' _|exact SeesO.rfl' _|(rw[show cellsUp w.n w.s w.f w.r rel 0=[] from rfl,List.append_nil])|exact SeesL.of_eq (by rw[show cellsUp w.n w.s w.f w.r rel 0=[] from rfl,List.append_nil]))
 rintro⟨k,o,a⟩ ⟨hk,hup⟩
 simp only at hk hup
 obtain⟨u1,u2,u3,u4⟩:=slotsUp_ok (by omega) hup
 refine Wk ?_
 refine BrK.mk (fun hb=>?_) (fun hb=>?_)<;>try rw[hb]
 ·have hlt:k+1 < w.r.length:=lenLt hb
  obtain⟨y,hgy⟩:=getLt hlt
  have hmy:=getMap (f:=encI) hgy
  obtain⟨x,hgx⟩:=getLt (l:=w.r) (k:=k) (by omega)
  have hmx:=getMap (f:=encI) hgx
  have hxd:w.r.getD k 0=x:=by rw[List.getD_eq_getElem?_getD,hgx];rfl
  have hyd:w.r.getD (k+1) 0=y:=by rw[List.getD_eq_getElem?_getD,hgy];rfl
  have hw:IntKind.i64.wrap (((k+1:Nat):Int)-1)=(k:Int):=by rw[w64]<;>omega
  obtain⟨i,l,e1,e2,e3,e4,e5,e6,e7⟩:=h.at hlt
  rw[hxd,hyd]at e1
  have hidx:indexN w.n x y=(i:Int):=by rw[indexN,if_pos h0,e1]
  have hml:=getMap (f:=Link.av) e2
  have hil:=(List.getElem?_eq_some_iff.1 e2).1
  have hnu:=h.need hm0 hm1 (k:=k) (by omega)
  have hloss:IntKind.i64.wrap (l.loss+w.more)=l.loss+w.more:=w64 (by omega) (by omega)
  have hneed:IntKind.i64.wrap (l.loss+w.more+1)=(needAt w.n w.r w.more k:Int):=by rw[w64 (by omega) (by omega),needAt,e7];omega
  have hnle:needAt w.n w.r w.more k≤16:=by unfold needAt;rw[e7];omega
  repeat((conv=>whnf);first|refine sJ ?_|refine aI (by first|exact inbMap hlt|(rw[hw];exact inbMap (by omega))|kernel_rfl) ?_|rw[hw]|rw[hmx]|rw[hmy])
  try(conv=>whnf)
  refine cD (c_index LW w.n hn x y) ?_
  rw[hidx]
  repeat((conv=>whnf);first|refine sJ ?_|refine aI (by first|exact inbMap hil|kernel_rfl) ?_|rw[hml])
  try(conv=>whnf)
  rw[hloss]
  refine CallK.round mixed [] hL2 rfl rfl rfl ?_
  clear hL2
  refine Wk ?_
  rw[hneed]
  refine cD (c_wcells LW w ⟨l.src,l.dst,l.loss+w.more⟩ (by omega)) ?_
  obtain⟨cs,hcs⟩:∃cs,cs=cellsL w.s w.f l.src l.dst:=⟨_,rfl⟩
  obtain⟨need,hnd⟩:∃need,need=needAt w.n w.r w.more k:=⟨_,rfl⟩
  have hcsl:cs.length≤512:=by rw[hcs];exact Nat.le_trans (List.length_filter_le _ _) hcl
  have hon:∀t,(allS cs w.s.len a (rel+w.f.period-a).toNat).take need=t→slotsOn w.s w.f (w.r.getD k 0) (w.r.getD (k+1) 0) (needAt w.n w.r w.more k) a (rel+w.f.period)=t:=fun t ht=>by rw[slotsOn,←e3,←e4,←ht,hcs,hnd]
  rw[show cellsL w.s w.f (Link.mk l.src l.dst (l.loss+w.more)).src (Link.mk l.src l.dst (l.loss+w.more)).dst=cs from hcs.symm,←hnd]
  rw[←hnd]at hnle
  refine Wk ?_
  have ht0:tS cs w.s.len a need 0 0=[]:=by rw[tS,partS_zero];simp[allS]
  have htc0:tC cs w.s.len a need 0 0=[]:=by simp[tC,tE,evC]
  refine LoopK.run mixed [] (fun d:Nat=>a+d≤rel+w.f.period) (fun d=>[(1,.cptr (.agg [.int .i64 rel]) 0),(2,.cptr w.av 0),(3,.ptr 7 0),(4,.ptr 8 0),(5,.ptr 9 0),(7,.int .i64 (need-(tS cs w.s.len a need d 0).length:Nat)),(8,encCells cs),(9,.int .i64 (a+d))]) (fun d=>⟨nBx w rel (C++cellsUp w.n w.s w.f w.r rel k++tC cs w.s.len a need d 0) L1 (nextA a (tS cs w.s.len a need d 0))++[.loop {L2 with st:=.busy},.cells [.int .i64 l.src,.int .i64 l.dst,.int .i64 (l.loss+w.more)] 53],[],12,0,fun _=>0⟩) (fun d=>(rel+w.f.period-a).toNat-d) 0 (by omega) ?_ ?_
  ·refine fN ?_<;>repeat' (first|exact fQ|refine And.intro ?_ ?_|exact hok1 _ _ (le_b rfl)|exact hok2 _ _ (le_b rfl)|exact okk_mapO _ _ _|exact SeesL.rfl' _|exact SeesO.rfl' _|(rw[htc0,List.append_nil])|exact SeesL.of_eq (by rw[htc0,List.append_nil])|exact Sees.int (by first|(rw[ht0];rfl)|(rw[ht0];simp;done)|(simp;done)))
  rintro d hd
  have htl:=tS_le cs w.s.len a need d 0
  refine Wk ?_
  refine BrK.mk (fun f1=>?_) (fun f1=>?_)<;>(try rw[f1])
  ·have hlt1:(tS cs w.s.len a need d 0).length < need:=by simp at f1;omega
   refine Wk ?_
   refine BrK.mk (fun f2=>?_) (fun f2=>?_)<;>(try rw[f2])
   ·have hd2:d=(rel+w.f.period-a).toNat:=by simp at f2;omega
    have hstop:=slotsUp_stop hup (hon (tS cs w.s.len a need d 0) (by rw[tS,partS_zero,hd2])) (by rw[←hnd];exact hlt1)
    exact absurd (slotsUp_none (by rw[←hmz];exact hstop) (by omega:k+1≤w.r.length-1)) hsome
   ·have hd2:a+d < rel+w.f.period:=by simp at f2;omega
    refine Wk ?_
    refine LoopK.run mixed [] (fun j:Nat=>j≤cs.length) (fun j=>[(1,.cptr (.agg [.int .i64 rel]) 0),(2,.cptr w.av 0),(3,.ptr 7 0),(4,.ptr 8 0),(5,.ptr 9 0),(7,.int .i64 (need-(tS cs w.s.len a need d j).length:Nat)),(8,encCells cs),(9,.int .i64 (a+d)),(35,encCells cs),(36,.int .i64 cs.length),(37,.int .i64 j)]) (fun j=>⟨nBx w rel (C++cellsUp w.n w.s w.f w.r rel k++tC cs w.s.len a need d j) L1 (nextA a (tS cs w.s.len a need d j))++[.loop {L2 with st:=.busy},.cells [.int .i64 l.src,.int .i64 l.dst,.int .i64 (l.loss+w.more)] 53],[],12,0,fun _=>0⟩) (fun j=>cs.length-j) 0 (by omega) ?_ ?_
    ·refine fN ?_<;>repeat' (first|exact fQ|refine And.intro ?_ ?_|exact hok1 _ _ (le_b rfl)|exact hok2 _ _ (le_b rfl)|exact okk_mapO _ _ _|exact SeesL.rfl' _|exact SeesO.rfl' _|exact Sees.int (by simp))
    rintro j hj
    have htl:=tS_le cs w.s.len a need d j
    refine Wk ?_
    refine BrK.mk (fun g1=>?_) (fun g1=>?_)<;>(try rw[g1])
    ·have hjt:j < cs.length:=by simpa using g1
     obtain⟨c,hgc⟩:=getLt hjt
     have hmc:=getMap (f:=Cell.av) hgc
     repeat((conv=>whnf);first|refine sJ ?_|refine aI (by first|exact inbMap hjt|exact(show w.s.len≠0 by omega)|kernel_rfl) ?_|rw[hmc])
     try(conv=>whnf)
     rw[tmod_eq (by omega)]
     refine BrK.mk (fun g2=>?_) (fun g2=>?_)<;>(try rw[g2])
     ·have hT:=tS_miss (need:=need) hgc (by simpa using g2:c.slot≠(a+d) % w.s.len)
      have hTC:=tC_miss (need:=need) hgc (by simpa using g2:c.slot≠(a+d) % w.s.len)
      refine Wk ?_
      refine⟨j+1,by omega,by omega,?_⟩
      rw[hT,hTC]
      refine fN ?_<;>repeat' (first|exact fQ|refine And.intro ?_ ?_|exact hok1 _ _ (le_b rfl)|exact hok2 _ _ (le_b rfl)|exact okk_mapO _ _ _|exact SeesL.rfl' _|exact SeesO.rfl' _|exact Sees.int (succI hjt (by omega)))
     ·have hsl:c.slot=(a+d) % w.s.len:=by simpa using g2
      refine Wk ?_
      refine BrK.mk (fun g3=>?_) (fun g3=>?_)<;>(try rw[g3])
      ·have g3':((need-(tS cs w.s.len a need d j).length:Nat):Int)=0:=by simpa only[beq_iff_eq] using g3
       have hT:=tS_full (len:=w.s.len) (a:=a) (d:=d) (need:=need) hgc (by omega)
       have hTC:=tC_full (len:=w.s.len) (a:=a) (d:=d) (need:=need) hgc (by rw[tC_len];omega)
       refine Wk ?_
       refine⟨j+1,by omega,by omega,?_⟩
       rw[hT,hTC]
       refine fN ?_<;>repeat' (first|exact fQ|refine And.intro ?_ ?_|exact hok1 _ _ (le_b rfl)|exact hok2 _ _ (le_b rfl)|exact okk_mapO _ _ _|exact SeesL.rfl' _|exact SeesO.rfl' _|exact Sees.int (succI hjt (by omega)))
      ·have g3':((need-(tS cs w.s.len a need d j).length:Nat):Int)≠0:=by simpa only[beq_eq_false_iff_ne] using g3
       have hlt2:(tS cs w.s.len a need d j).length < need:=by omega
       have hT:=tS_hit (need:=need) hgc hsl hlt2
       have hTC:=tC_hit (need:=need) hgc hsl (by rw[tC_len];exact hlt2)
       have hnx:=nextA_snoc a (a+d) (tS cs w.s.len a need d j)
       refine Wk ?_
       refine CallK.round mixed [] hL1 rfl rfl rfl ?_
       clear hL1
       repeat((conv=>whnf);first|refine sT ?_ )
       try(conv=>whnf)
       refine⟨j+1,by omega,by omega,?_⟩
       rw[hT,hTC]
       refine fN ?_<;>repeat' (first|exact fQ|refine And.intro ?_ ?_|exact hok1 _ _ (le_b rfl)|exact hok2 _ _ (le_b rfl)|exact okk_mapO _ _ _|exact SeesL.rfl' _|exact SeesO.rfl' _|exact Sees.int (succI hjt (by omega))|exact keysOf_add _ _ _|exact SeesL.of_eq (vals_add _ _ _)|exact Sees.int (by rw[hnx,w64]<;>omega)|exact Sees.int (by rw[w64 (by omega) (by omega),List.length_append,List.length_singleton];omega))
    ·have hjn:j=cs.length:=by simp at g1;omega
     subst hjn
     refine Wk ?_
     refine⟨d+1,by omega,by omega,?_⟩
     rw[←tS_next,←tC_next]
     refine fN ?_<;>repeat' (first|exact fQ|refine And.intro ?_ ?_|exact hok1 _ _ (le_b rfl)|exact hok2 _ _ (le_b rfl)|exact okk_mapO _ _ _|exact SeesL.rfl' _|exact SeesO.rfl' _|exact Sees.int (by rw[w64]<;>omega))
  ·have hful:(tS cs w.s.len a need d 0).length=need:=by simp at f1;omega
   have hstep:=slotsUp_step hup (hon _ (tS_done (e:=(rel+w.f.period-a).toNat) (by omega) hful)) (by rw[hful,hnd])
   have hcell:=cellsUp_step hup hmz (tC_done (d:=d) (stop:=rel+w.f.period) hcs hnd (by omega) (by rw[tC_len];exact hful) e3 e4)
   refine Wk ?_
   refine⟨(k+1,o++tS cs w.s.len a need d 0,nextA a (tS cs w.s.len a need d 0)),⟨by simp only;omega,hstep⟩,by simp only;omega,?_⟩
   refine fN ?_<;>repeat' (first|exact fQ|refine And.intro ?_ ?_|exact hok1 _ _ (le_b rfl)|exact hok2 _ _ (le_b rfl)|exact okk_mapO _ _ _|exact SeesL.rfl' _|exact SeesO.rfl' _|(rw[hcell,List.append_assoc])|exact SeesL.of_eq (by rw[hcell,List.append_assoc])|exact Sees.int (succI hlt (by omega)))
 ·have hk':k=w.r.length-1:=by have:=lenGe hb;omega
  subst hk'
  refine Wk ?_
  rw[show L2.st=.ready from by rw[hL2],show L2.pend=none from by rw[hL2]]
  clear hL2
  refine Wk ?_
  rw[show L1.st=.ready from by rw[hL1],show L1.pend=none from by rw[hL1]]
  clear hL1
  refine Wk ?_
  refine⟨jj+1,by omega,by omega,?_⟩
  refine fN ?_<;>repeat' (first|exact fQ|refine And.intro ?_ ?_|exact okk_mapO _ _ _|(rw[hC,hrel,List.append_assoc];rfl)|exact SeesL.of_eq (by rw[hC,hrel,List.append_assoc];rfl)|exact SeesL.rfl' _|exact SeesO.rfl' _|exact Sees.int hw2)
section
variable (L:World→Prop)
end
theorem c_Needed (n:Net)(s:Sched)(f:Flow)(l:List (List Int))(hn:n.small)(hc:s.cells.length≤281474976710656)(hr:∀r∈l,r.length≤281474976710656)(hl:l.length≤281474976710656) :
  PCall Tryz.prog LW 23 [n.av,s.av,f.av,encRows l] (.tup [encCells (needM n s f l).1,.int .i64 (needM n s f l).2]):=
 (needHalf n s f l hn hc hr hl).2 (fun _=>needFirst n s f l hn hc hr hl) (fun _=>needSecond n s f l hn hc hr hl)
end HM
