/- Which slots count for a release: the second order. -/
import Derived.Test.YtckcedndijobaaaGreatDoorS35
set_option maxHeartbeats 64000000
set_option maxRecDepth 100000
namespace HM
open Go Go.RowKit Go.Proofs
theorem relSecond (w:Way)(rel:Int)(hn:w.n.small)(h:WayOk w.n w.s w.f w.r)(h0:netE w.n=0)(hm0:0≤w.more)(hm1:w.more≤8)(hr0:0≤rel)(hr1:rel≤1048576):(relHalf w rel h hr0 hr1).1.2:=by
 have hlen:=h.len
 have hfl:=h.flow
 have hwp:IntKind.i64.wrap (rel+w.f.period)=rel+w.f.period:=w64 (by omega) (by omega)
 obtain⟨hsz,hcl,hfm⟩:=form_all h.form
 have hsb:=sized_bd hsz
 conv=>whnf
 intro L1 hL1
 have hok1:∀k m,3≤k→Ob.okk k m (.loop L1):=fun k m hk=>loop_okk (l:=rSl w rel) (by rw[hL1]) (by simp[rSl,okL,AV.okk,okks];omega)
 refine Wk ?_
 refine cD (c_wlinks w) ?_
 refine Wk ?_
 refine RangeK.weak (l:=rSl2 w rel 5 6) (S1:=⟨rBx w rel [] L1 rel,[(0,1)],4,1,fun _=>3⟩) ?_ ?_
 ·refine fN ?_<;>repeat' (first|exact fQ|refine And.intro ?_ ?_|exact hok1 _ _ (le_b rfl)|exact SeesO.rfl' _)
 refine RangeK.named rfl rfl fun L2 hL2=>?_
 have hok2:∀k m,7≤k→Ob.okk k m (.loop L2):=fun k m hk=>loop_okk (l:=rSl2 w rel 5 6) (by rw[hL2]) (by simp[rSl2,okL,AV.okk,okks];omega)
 refine ICall.intro mixed [] (nt:=41) Tryz.func298 rfl rfl (by simp) ?_
 refine Wk ?_
 refine LoopK.run mixed [] (fun s:Nat×List Int×Int=>s.1+1≤w.r.length∧slotsUp w.n w.s w.f w.r rel w.more s.1=some (s.2.1,s.2.2)) (fun s=>[(0,.yld 7),(1,.cptr w.av 0),(3,.int .i64 (s.1+1:Nat))]) (fun s=>⟨rBx w rel (s.2.1.map (·-rel)) L1 s.2.2++[.loop L2],[(s.2.1.length,1)],8,1,fun _=>3⟩) (fun s=>w.r.length-s.1) (0,[],rel) ⟨by simp;omega,rfl⟩ ?_ ?_
 ·refine fN ?_<;>repeat' (first|exact fQ|refine And.intro ?_ ?_|exact hok1 _ _ (le_b rfl)|exact hok2 _ _ (le_b rfl)|exact SeesO.rfl' _)
 rintro⟨k,o,a⟩ ⟨hk,hup⟩
 simp only at hk hup
 obtain⟨u1,u2,u3,u4⟩:=slotsUp_ok (by omega) hup
 refine Wk ?_
 refine BrK.mk (fun hb=>?_) (fun hb=>?_)<;>try rw[hb]
 ·have hlt:k+1 < w.r.length:=lenLt hb
  obtain⟨y,hgy⟩:=getLt hlt
  have hmy:=getMap (f:=encI) hgy
  obtain⟨x,hgx⟩:=getLt (l:=w.r) (k:=k) (by omega)
  have hmx:=getMap (f:=encI) hgx
  have hxd:w.r.getD k 0=x:=by rw[List.getD_eq_getElem?_getD,hgx];rfl
  have hyd:w.r.getD (k+1) 0=y:=by rw[List.getD_eq_getElem?_getD,hgy];rfl
  have hw:IntKind.i64.wrap (((k+1:Nat):Int)-1)=(k:Int):=by rw[w64]<;>omega
  obtain⟨i,l,e1,e2,e3,e4,e5,e6,e7⟩:=h.at hlt
  rw[hxd,hyd]at e1
  have hidx:indexN w.n x y=(i:Int):=by rw[indexN,if_pos h0,e1]
  have hml:=getMap (f:=Link.av) e2
  have hil:=(List.getElem?_eq_some_iff.1 e2).1
  have hnu:=h.need hm0 hm1 (k:=k) (by omega)
  have hloss:IntKind.i64.wrap (l.loss+w.more)=l.loss+w.more:=w64 (by omega) (by omega)
  have hneed:IntKind.i64.wrap (l.loss+w.more+1)=(needAt w.n w.r w.more k:Int):=by rw[w64 (by omega) (by omega),needAt,e7];omega
  have hnle:needAt w.n w.r w.more k≤16:=by unfold needAt;rw[e7];omega
  repeat((conv=>whnf);first|refine sJ ?_|refine aI (by first|exact inbMap hlt|(rw[hw];exact inbMap (by omega))|kernel_rfl) ?_|rw[hw]|rw[hmx]|rw[hmy])
  try(conv=>whnf)
  refine cD (c_index LW w.n hn x y) ?_
  rw[hidx]
  repeat((conv=>whnf);first|refine sJ ?_|refine aI (by first|exact inbMap hil|kernel_rfl) ?_|rw[hml])
  try(conv=>whnf)
  rw[hloss]
  refine CallK.round mixed [] hL2 rfl rfl rfl ?_
  clear hL2
  refine Wk ?_
  rw[hneed]
  refine cD (c_wcells LW w ⟨l.src,l.dst,l.loss+w.more⟩ (by omega)) ?_
  obtain⟨cs,hcs⟩:∃cs,cs=cellsL w.s w.f l.src l.dst:=⟨_,rfl⟩
  obtain⟨need,hnd⟩:∃need,need=needAt w.n w.r w.more k:=⟨_,rfl⟩
  have hcsl:cs.length≤512:=by rw[hcs];exact Nat.le_trans (List.length_filter_le _ _) hcl
  have hon:∀t,(allS cs w.s.len a (rel+w.f.period-a).toNat).take need=t→slotsOn w.s w.f (w.r.getD k 0) (w.r.getD (k+1) 0) (needAt w.n w.r w.more k) a (rel+w.f.period)=t:=fun t ht=>by rw[slotsOn,←e3,←e4,←ht,hcs,hnd]
  rw[show cellsL w.s w.f (Link.mk l.src l.dst (l.loss+w.more)).src (Link.mk l.src l.dst (l.loss+w.more)).dst=cs from hcs.symm,←hnd]
  rw[←hnd]at hnle
  refine Wk ?_
  have ht0:tS cs w.s.len a need 0 0=[]:=by rw[tS,partS_zero];simp[allS]
  refine LoopK.run mixed [] (fun d:Nat=>a+d≤rel+w.f.period) (fun d=>[(1,.cptr (.agg [.int .i64 rel]) 0),(2,.cptr w.av 0),(3,.ptr 4 0),(4,.ptr 5 0),(5,.ptr 6 0),(7,.int .i64 (need-(tS cs w.s.len a need d 0).length:Nat)),(8,encCells cs),(9,.int .i64 (a+d))]) (fun d=>⟨rBx w rel ((o++tS cs w.s.len a need d 0).map (·-rel)) L1 (nextA a (tS cs w.s.len a need d 0))++[.loop {L2 with st:=.busy},.cells [.int .i64 l.src,.int .i64 l.dst,.int .i64 (l.loss+w.more)] 103],[((o++tS cs w.s.len a need d 0).length,1)],9,1,fun _=>3⟩) (fun d=>(rel+w.f.period-a).toNat-d) 0 (by omega) ?_ ?_
  ·refine fN ?_<;>repeat' (first|exact fQ|refine And.intro ?_ ?_|exact hok1 _ _ (le_b rfl)|exact hok2 _ _ (le_b rfl)|exact SeesO.rfl' _|exact Sees.own (by rw[ht0,List.append_nil])|exact Sees.int (by first|(rw[ht0];rfl)|(rw[ht0];simp;done)|(simp;done))|(show(_,_)=(_,_);rw[ht0,List.append_nil]))
  rintro d hd
  have htl:=tS_le cs w.s.len a need d 0
  refine Wk ?_
  refine BrK.mk (fun f1=>?_) (fun f1=>?_)<;>(try rw[f1])
  ·have hlt1:(tS cs w.s.len a need d 0).length < need:=by simp at f1;omega
   refine Wk ?_
   refine BrK.mk (fun f2=>?_) (fun f2=>?_)<;>(try rw[f2])
   ·have hd2:d=(rel+w.f.period-a).toNat:=by simp at f2;omega
    have hstop:=slotsUp_stop hup (hon (tS cs w.s.len a need d 0) (by rw[tS,partS_zero,hd2])) (by rw[←hnd];exact hlt1)
    have hmono:needUp w.n w.r w.more (k+1)≤needUp w.n w.r w.more (w.r.length-1):=needUp_mono (by omega)
    rw[needUp,←hnd]at hmono
    refine Wk ?_
    rw[show L1.st=.ready from by rw[hL1],show L1.pend=none from by rw[hL1]]
    clear hL1
    refine Wk ?_
    refine cD (c_needed w hn h h0 hm0 hm1) ?_
    refine Wk ?_
    refine BrK.mk (fun f3=>?_) (fun f3=>?_)<;>(try rw[f3])
    ·refine Wk ?_
     exact resP.mk rfl (Sees.of_eq (by rw[relR,slotsW,slotsUp_none hstop (by omega)];rfl))
    ·exfalso
     simp at f3
     omega
   ·have hd2:a+d < rel+w.f.period:=by simp at f2;omega
    refine Wk ?_
    refine LoopK.run mixed [] (fun j:Nat=>j≤cs.length) (fun j=>[(1,.cptr (.agg [.int .i64 rel]) 0),(2,.cptr w.av 0),(3,.ptr 4 0),(4,.ptr 5 0),(5,.ptr 6 0),(7,.int .i64 (need-(tS cs w.s.len a need d j).length:Nat)),(8,encCells cs),(9,.int .i64 (a+d)),(35,encCells cs),(36,.int .i64 cs.length),(37,.int .i64 j)]) (fun j=>⟨rBx w rel ((o++tS cs w.s.len a need d j).map (·-rel)) L1 (nextA a (tS cs w.s.len a need d j))++[.loop {L2 with st:=.busy},.cells [.int .i64 l.src,.int .i64 l.dst,.int .i64 (l.loss+w.more)] 103],[((o++tS cs w.s.len a need d j).length,1)],9,1,fun _=>3⟩) (fun j=>cs.length-j) 0 (by omega) ?_ ?_
    ·refine fN ?_<;>repeat' (first|exact fQ|refine And.intro ?_ ?_|exact hok1 _ _ (le_b rfl)|exact hok2 _ _ (le_b rfl)|exact SeesO.rfl' _|exact Sees.int (by simp))
    rintro j hj
    have htl:=tS_le cs w.s.len a need d j
    refine Wk ?_
    refine BrK.mk (fun g1=>?_) (fun g1=>?_)<;>(try rw[g1])
    ·have hjt:j < cs.length:=by simpa using g1
     obtain⟨c,hgc⟩:=getLt hjt
     have hmc:=getMap (f:=Cell.av) hgc
     repeat((conv=>whnf);first|refine sJ ?_|refine aI (by first|exact inbMap hjt|exact(show w.s.len≠0 by omega)|kernel_rfl) ?_|rw[hmc])
     try(conv=>whnf)
     rw[tmod_eq (by omega)]
     refine BrK.mk (fun g2=>?_) (fun g2=>?_)<;>(try rw[g2])
     ·have hT:=tS_miss (need:=need) hgc (by simpa using g2:c.slot≠(a+d) % w.s.len)
      refine Wk ?_
      refine⟨j+1,by omega,by omega,?_⟩
      rw[hT]
      refine fN ?_<;>repeat' (first|exact fQ|refine And.intro ?_ ?_|exact hok1 _ _ (le_b rfl)|exact hok2 _ _ (le_b rfl)|exact SeesO.rfl' _|exact Sees.int (succI hjt (by omega)))
     ·have hsl:c.slot=(a+d) % w.s.len:=by simpa using g2
      refine Wk ?_
      refine BrK.mk (fun g3=>?_) (fun g3=>?_)<;>(try rw[g3])
      ·have g3':((need-(tS cs w.s.len a need d j).length:Nat):Int)=0:=by simpa only[beq_iff_eq] using g3
       have hT:=tS_full (len:=w.s.len) (a:=a) (d:=d) (need:=need) hgc (by omega)
       refine Wk ?_
       refine⟨j+1,by omega,by omega,?_⟩
       rw[hT]
       refine fN ?_<;>repeat' (first|exact fQ|refine And.intro ?_ ?_|exact hok1 _ _ (le_b rfl)|exact hok2 _ _ (le_b rfl)|exact SeesO.rfl' _|exact Sees.int (succI hjt (by omega)))
      ·have g3':((need-(tS cs w.s.len a need d j).length:Nat):Int)≠0:=by simpa only[beq_eq_false_iff_ne] using g3
       have hlt2:(tS cs w.s.len a need d j).length < need:=by omega
       have hT:=tS_hit (need:=need) hgc hsl hlt2
       have hws:IntKind.i64.wrap (a+d-rel)=a+d-rel:=w64 (by omega) (by omega)
       have hnx:=nextA_snoc a (a+d) (tS cs w.s.len a need d j)
       refine Wk ?_
       refine CallK.round mixed [] hL1 rfl rfl rfl ?_
       clear hL1
       repeat((conv=>whnf);first|refine sJ ?_|refine aI (by first|exact Els.map (f:=encI) (fun _=>⟨rfl,rfl⟩)|exact(show _*8≤_ by simp only[List.length_map,List.length_append,List.length_cons,List.length_nil];omega)|exact(by simp only[List.length_map,List.length_append,List.length_cons,List.length_nil,maxLen];omega)|exact(show some (_,_)=some (_,_) by simp only[List.length_map])|kernel_rfl) ?_ )
       try(conv=>whnf)
       refine⟨j+1,by omega,by omega,?_⟩
       rw[hT]
       refine fN ?_<;>repeat' (first|exact fQ|refine And.intro ?_ ?_|exact hok1 _ _ (le_b rfl)|exact hok2 _ _ (le_b rfl)|exact SeesO.rfl' _|exact Sees.int (succI hjt (by omega))|exact Sees.own (by rw[hws];simp[encI])|exact Sees.int (by rw[hnx,w64]<;>omega)|exact Sees.int (by rw[w64 (by omega) (by omega),List.length_append,List.length_singleton];omega)|(show(_,_)=(_,_);simp only[List.length_append,List.length_map,List.length_cons,List.length_nil,Nat.add_assoc]))
    ·have hjn:j=cs.length:=by simp at g1;omega
     subst hjn
     refine Wk ?_
     refine⟨d+1,by omega,by omega,?_⟩
     rw[←tS_next]
     refine fN ?_<;>repeat' (first|exact fQ|refine And.intro ?_ ?_|exact hok1 _ _ (le_b rfl)|exact hok2 _ _ (le_b rfl)|exact SeesO.rfl' _|exact Sees.int (by rw[w64]<;>omega))
  ·have hful:(tS cs w.s.len a need d 0).length=need:=by simp at f1;omega
   have hstep:=slotsUp_step hup (hon _ (tS_done (e:=(rel+w.f.period-a).toNat) (by omega) hful)) (by rw[hful,hnd])
   refine Wk ?_
   refine⟨(k+1,o++tS cs w.s.len a need d 0,nextA a (tS cs w.s.len a need d 0)),⟨by simp only;omega,hstep⟩,by simp only;omega,?_⟩
   refine fN ?_<;>repeat' (first|exact fQ|refine And.intro ?_ ?_|exact hok1 _ _ (le_b rfl)|exact hok2 _ _ (le_b rfl)|exact SeesO.rfl' _|exact Sees.int (succI hlt (by omega)))
 ·have hk':k=w.r.length-1:=by have:=lenGe hb;omega
  subst hk'
  refine Wk ?_
  rw[show L2.st=.ready from by rw[hL2],show L2.pend=none from by rw[hL2]]
  clear hL2
  refine Wk ?_
  rw[show L1.st=.ready from by rw[hL1],show L1.pend=none from by rw[hL1]]
  clear hL1
  refine Wk ?_
  refine cD (c_needed w hn h h0 hm0 hm1) ?_
  refine Wk ?_
  have hol:(o.map (·-rel)).length=needUp w.n w.r w.more (w.r.length-1):=by rw[List.length_map];exact u1
  have hpos:0 < needUp w.n w.r w.more (w.r.length-1):=needUp_pos h hm0
  refine BrK.mk (fun f3=>?_) (fun f3=>?_)<;>(try rw[f3])
  ·exfalso
   simp at f3
   omega
  ·obtain⟨z,hz⟩:=List.getLast?_isSome.2 (show o≠[] by rintro rfl;simp at hol;omega) |> Option.isSome_iff_exists.1
   have hz2:(o.map (·-rel))[o.length-1]? = some (z-rel):=by rw[List.getElem?_map,←List.getLast?_eq_getElem?,hz];rfl
   have hmz:=getMap (f:=encI) hz2
   have hnu:=h.need hm0 hm1 (k:=w.r.length-1) (Nat.le_refl _)
   have hzb:=u4 z (List.mem_of_getLast? hz)
   have hwz:IntKind.i64.wrap (z-rel+1)=z-rel+1:=w64 (by omega) (by omega)
   have hrel:relR w.n w.s w.f w.r w.more rel=some (z-rel+1,o.map (·-rel)):=by rw[relR,slotsW,hup];simp[List.getLastD_eq_getLast?,hz]
   have hwl:IntKind.i64.wrap (((List.map encI (List.map (fun x=>x-rel) o)).length:Int)-1)=((o.length-1:Nat):Int):=by rw[w64]<;>simp<;>omega
   repeat((conv=>whnf);first|refine sJ ?_|refine aI (by first|(rw[hwl];exact inbMap (by simp;omega))|kernel_rfl) ?_|rw[hwl]|rw[hmz])
   try(conv=>whnf)
   rw[hwz,hrel]
   exact resP.mk rfl (Sees.of_eq rfl)
end HM
