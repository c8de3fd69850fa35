/- The cells that count: the reference. -/
import Derived.Test.YtpdlbjnjdbgpaaaGreatDoorS103
import Derived.Test.YtpdlbjnjdbgpaaaGreatDoorS62
import Derived.Test.YtpdlbjnjdbgpaaaGreatDoorDd
set_option maxHeartbeats 64000000
set_option maxRecDepth 100000
namespace HM
open Go Go.RowKit Go.Proofs
section
variable (L:World→Prop)
def cn37 (n:Net)(s:Sched)(f:Flow)(c:Cell):List Ob:=[.cells [.int .i64 n.nodes,encRows n.power,.int .i64 n.noise,.int .i64 n.thr,encLinks n.links,encIs n.margin] 26,.cells [.int .i64 s.len,.int .i64 s.offs,encCells s.cells] 30,.cells [.int .i64 f.id,.int .i64 f.src,.int .i64 f.dst,.int .i64 f.period,.int .i64 f.phase,.int .i64 f.dead] 56,.cells [.int .i64 c.slot,.int .i64 c.off,.int .i64 c.src,.int .i64 c.dst,.int .i64 c.flow] 63]
theorem c_counts37 (n:Net)(s:Sched)(f:Flow)(r:List Int)(c:Cell)(hl:n.links.length≤281474976710656)(h:WayOk n s f r)(hok:(routeM n s f r).2.2.2=0) :
  PCall Tryz.prog L 89 [n.av,s.av,f.av,encIs r,c.av] (.bool (decide (c∈relsC n s f r (relsN s f)))):=by
 have hfl:=h.flow
 have hlen:=h.len
 obtain⟨hsz,hcl,hfm⟩:=form_all h.form
 have hsb:=sized_bd hsz
 refine PCall.intro mixed [] (nt:=169) Tryz.func89 rfl rfl (by simp) ?_
 refine Wk ?_
 refine LoopK.run mixed [] (fun (k:Nat)=>k≤relsN s f∧c ∉ relsC n s f r k) (fun k=>[(3,encIs r),(5,.ptr 0 0),(6,.ptr 1 0),(7,.ptr 2 0),(9,.ptr 3 0),(11,.int .i64 (f.phase+k*f.period))]) (fun k=>⟨cn37 n s f c,[],0,0,fun _=>0⟩) (fun k=>relsN s f-k) 0 ⟨by simp,by simp[relsC]⟩ ?_ ?_
 ·refine fN ?_<;>repeat' (first|exact fQ|refine And.intro ?_ ?_|exact SeesL.rfl' _|exact Sees.int (by simp))
 rintro k ⟨hk,hnk⟩
 have hltN:=relsN_lt (s:=s) (f:=f) (k:=k) (by omega)
 have hms:((k+1:Nat):Int)*f.period=k*f.period+f.period:=by rw[Int.natCast_add,Int.add_mul];simp
 have hp0:0≤(k:Int)*f.period:=Int.mul_nonneg (by omega) (by omega)
 refine Wk ?_
 refine BrK.mk (fun hb=>?_) (fun hb=>?_)<;>try rw[hb]
 ·have hb':f.phase+k*f.period < s.len:=by simpa using hb
  have hkl:=hltN.2 hb'
  obtain⟨rel,hrel⟩:∃rel,rel=f.phase+k*f.period:=⟨_,rfl⟩
  have hall:=slotsUp_all hok (show k < relsN s f from hkl)
  rw[←hrel]at hall ⊢
  have hwp:IntKind.i64.wrap (rel+f.period)=rel+f.period:=w64 (by omega) (by omega)
  have hwp1:IntKind.i64.wrap (rel+f.period-1)=rel+f.period-1:=w64 (by omega) (by omega)
  refine Wk ?_
  refine LoopK.run mixed [] (fun st:Nat×List Int×Int=>st.1+1≤r.length∧slotsUp n s f r rel 0 st.1=some (st.2.1,st.2.2)∧c ∉ cellsUp n s f r rel st.1) (fun st=>[(3,encIs r),(5,.ptr 0 0),(6,.ptr 1 0),(7,.ptr 2 0),(9,.ptr 3 0),(11,.int .i64 rel),(12,.int .i64 st.2.2),(13,.int .i64 (st.1+1:Nat))]) (fun _=>⟨cn37 n s f c,[],0,0,fun _=>0⟩) (fun st=>r.length-st.1) (0,[],rel) ⟨by simp;omega,rfl,by simp[cellsUp]⟩ ?_ ?_
  ·refine fN ?_<;>repeat' (first|exact fQ|refine And.intro ?_ ?_|exact SeesL.rfl' _)
  rintro⟨i,o,a⟩ ⟨hi,hup,hni⟩
  simp only at hi hup hni
  obtain⟨u1,u2,u3,u4⟩:=slotsUp_ok (by omega) hup
  refine Wk ?_
  refine BrK.mk (fun hb2=>?_) (fun hb2=>?_)<;>(try rw[hb2])
  ·have hlt:i+1 < r.length:=lenLt hb2
   obtain⟨y,hgy⟩:=getLt hlt
   have hmy:=getMap (f:=encI) hgy
   obtain⟨x,hgx⟩:=getLt (l:=r) (k:=i) (by omega)
   have hmx:=getMap (f:=encI) hgx
   have hxd:r.getD i 0=x:=by rw[List.getD_eq_getElem?_getD,hgx];rfl
   have hyd:r.getD (i+1) 0=y:=by rw[List.getD_eq_getElem?_getD,hgy];rfl
   have hw:IntKind.i64.wrap (((i+1:Nat):Int)-1)=(i:Int):=by rw[w64]<;>omega
   obtain⟨q,l,e1,e2,e3,e4,e5,e6,e7⟩:=h.at hlt
   rw[hxd,hyd]at e1
   have hL:lossL n x y=l.loss:=by unfold lossL;rw[e1,Int.toNat_natCast,e2]
   have hneed:IntKind.i64.wrap (l.loss+1)=(needAt n r 0 i:Int):=by rw[w64 (x:=l.loss+1) (by omega) (by omega),needAt,e7];omega
   have hnle:needAt n r 0 i≤16∧1≤needAt n r 0 i:=by unfold needAt;rw[e7];omega
   repeat((conv=>whnf);first|refine sJ ?_|refine aI (by first|exact inbMap hlt|(rw[hw];exact inbMap (by omega))|kernel_rfl) ?_|rw[hw]|rw[hmx]|rw[hmy])
   try(conv=>whnf)
   refine cD (c_Loss33 L n hl x y (by omega)) ?_
   rw[hL]
   obtain⟨need,hnd⟩:∃need,need=needAt n r 0 i:=⟨_,rfl⟩
   repeat((conv=>whnf);first|refine sJ ?_|refine aI (by first|exact inbMap hlt|(rw[hw];exact inbMap (by omega))|kernel_rfl) ?_|rw[hneed]|rw[hwp]|rw[hwp1]|rw[hw]|rw[hmx]|rw[hmy])
   try(conv=>whnf)
   rw[←hnd]
   rw[←hnd]at hnle
   refine cD (c_hop L s f x y a (rel+f.period) need hcl (by omega) (by omega) (by omega) (by omega) (by omega)) ?_
   have hlt16:=slotsOn_le s f x y need a (rel+f.period)
   have hmem:∀z∈slotsOn s f x y need a (rel+f.period),a≤z∧z < rel+f.period:=fun z hz=>slotsOn_mem hz
   obtain⟨t,ht⟩:∃t,slotsOn s f x y need a (rel+f.period)=t:=⟨_,rfl⟩
   have ht':slotsOn s f (r.getD i 0) (r.getD (i+1) 0) (needAt n r 0 i) a (rel+f.period)=t:=by rw[hxd,hyd,←hnd,ht]
   rw[ht]at hlt16 hmem ⊢
   have hlen2:t.length=need:=by
    rcases Nat.lt_or_ge t.length need with hh|hh
    ·obtain⟨o2,a2,hh2⟩:=hall (i+1) (by omega)
     rw[slotsUp_stop' hup ht' (by rw[←hnd];exact hh)]at hh2
     cases hh2
    ·omega
   have hs:=slotsUp_step' hup ht' (by rw[←hnd];exact hlen2)
   obtain⟨z,hz⟩:=Option.isSome_iff_exists.1 (List.getLast?_isSome.2 (show t≠[] by rintro rfl;simp at hlen2;omega))
   have hz2:t[t.length-1]? = some z:=by rw[←List.getLast?_eq_getElem?,hz]
   have hmz:=getMap (f:=encI) hz2
   have hzb:=hmem z (List.mem_of_getLast? hz)
   have hwl:IntKind.i64.wrap (((List.map encI t).length:Int)-1)=((t.length-1:Nat):Int):=by rw[w64]<;>simp<;>omega
   have hnx:nextA a t=z+1:=by rw[nextA,hz]
   have hon:=onC_stop (s:=s) (f:=f) (a:=x) (b:=y) (need:=need) (at_:=a) (stop:=rel+f.period) (L:=z) (by rw[ht];exact hz) (by rw[ht];omega) c
   have hof:c∈onC s f x y need a (rel+f.period)→c∈relsC n s f r (relsN s f):=fun hc=>by
    rw[hrel]at hup hc
    exact relsC_of (show k < relsN s f from hkl) hlt hup (by rw[hxd,hyd,←hnd];exact hc)
   have hnext:c ∉ onC s f x y need a (rel+f.period)→c ∉ cellsUp n s f r rel (i+1):=fun hn hc=>by
    rcases (cellsUp_next hup c).1 hc with hc|hc
    ·exact hni hc
    ·rw[hxd,hyd,←hnd]at hc;exact hn hc
   have hskip:offL f.id x y c=true→c ∉ onC s f x y need a (rel+f.period):=fun hh hc=>by rw[onC_link hc]at hh;cases hh
   refine Wk ?_
   cases k1:(c.flow==f.id) with
   | false=>
    have hnx2:=hnext (hskip (by unfold offL;simp at k1;simp[k1]))
    refine Wk ?_
    repeat((conv=>whnf);first|refine sJ ?_|refine aI (by first|(rw[hwl];exact inbMap (by omega))|kernel_rfl) ?_|rw[hwl]|rw[hmz])
    try(conv=>whnf)
    refine⟨(i+1,o++t,nextA a t),⟨by simp only;omega,hs,hnx2⟩,by simp only;omega,?_⟩
    refine fN ?_<;>repeat' (first|exact fQ|refine And.intro ?_ ?_|exact SeesL.rfl' _|exact Sees.int (by simp only[hnx];rw[w64]<;>omega)|exact Sees.int (succI hlt (by omega)))
   | true=>
    repeat((conv=>whnf);first|refine sJ ?_|refine aI (by first|exact inbMap hlt|(rw[hw];exact inbMap (by omega))|kernel_rfl) ?_|rw[hw]|rw[hmx]|rw[hmy])
    try(conv=>whnf)
    cases k2:(c.src==x) with
    | false=>
     have hnx2:=hnext (hskip (by unfold offL;simp at k2;simp[k2]))
     refine Wk ?_
     repeat((conv=>whnf);first|refine sJ ?_|refine aI (by first|(rw[hwl];exact inbMap (by omega))|kernel_rfl) ?_|rw[hwl]|rw[hmz])
     try(conv=>whnf)
     refine⟨(i+1,o++t,nextA a t),⟨by simp only;omega,hs,hnx2⟩,by simp only;omega,?_⟩
     refine fN ?_<;>repeat' (first|exact fQ|refine And.intro ?_ ?_|exact SeesL.rfl' _|exact Sees.int (by simp only[hnx];rw[w64]<;>omega)|exact Sees.int (succI hlt (by omega)))
    | true=>
     repeat((conv=>whnf);first|refine sJ ?_|refine aI (by first|exact inbMap hlt|(rw[hw];exact inbMap (by omega))|kernel_rfl) ?_|rw[hw]|rw[hmx]|rw[hmy])
     try(conv=>whnf)
     cases k3:(c.dst==y) with
     | false=>
      have hnx2:=hnext (hskip (by unfold offL;simp at k3;simp[k3]))
      refine Wk ?_
      repeat((conv=>whnf);first|refine sJ ?_|refine aI (by first|(rw[hwl];exact inbMap (by omega))|kernel_rfl) ?_|rw[hwl]|rw[hmz])
      try(conv=>whnf)
      refine⟨(i+1,o++t,nextA a t),⟨by simp only;omega,hs,hnx2⟩,by simp only;omega,?_⟩
      refine fN ?_<;>repeat' (first|exact fQ|refine And.intro ?_ ?_|exact SeesL.rfl' _|exact Sees.int (by simp only[hnx];rw[w64]<;>omega)|exact Sees.int (succI hlt (by omega)))
     | true=>
      have hoff:offL f.id x y c=false:=by unfold offL;simp at k1 k2 k3;simp[k1,k2,k3]
      have hD:(z+1-a).toNat≤1024:=by omega
      refine Wk ?_
      refine LoopK.run mixed [] (fun d:Nat=>d≤(z+1-a).toNat∧¬hitC need (partC s.cells f x y s.len a d 0) c) (fun d=>[(3,encIs r),(5,.ptr 0 0),(6,.ptr 1 0),(7,.ptr 2 0),(9,.ptr 3 0),(11,.int .i64 rel),(12,.int .i64 a),(13,.int .i64 (i+1:Nat)),(14,.int .i64 need),(15,encIs t),(17,.int .i64 (partC s.cells f x y s.len a d 0).length),(18,.int .i64 (a+d))]) (fun _=>⟨cn37 n s f c,[],0,0,fun _=>0⟩) (fun d=>(z+1-a).toNat-d) 0 ⟨by omega,by rw[partC_zero];simp[evC,hitC]⟩ ?_ ?_
      ·refine fN ?_<;>repeat' (first|exact fQ|refine And.intro ?_ ?_|exact SeesL.rfl' _|exact Sees.int (by simp)|exact Sees.int (by rw[partC_zero];rfl))
      rintro d ⟨hd,hnd2⟩
      repeat((conv=>whnf);first|refine sJ ?_|refine aI (by first|(rw[hwl];exact inbMap (by omega))|kernel_rfl) ?_|rw[hwl]|rw[hmz])
      try(conv=>whnf)
      refine BrK.mk (fun hb3=>?_) (fun hb3=>?_)<;>(try rw[hb3])
      ·have hdz:a+d≤z:=by simpa using hb3
       have hdl:d < (z+1-a).toNat:=by omega
       refine Wk ?_
       refine LoopK.run mixed [] (fun j:Nat=>j≤s.cells.length∧¬hitC need (partC s.cells f x y s.len a d j) c) (fun j=>[(3,encIs r),(5,.ptr 0 0),(6,.ptr 1 0),(7,.ptr 2 0),(9,.ptr 3 0),(11,.int .i64 rel),(12,.int .i64 a),(13,.int .i64 (i+1:Nat)),(14,.int .i64 need),(15,encIs t),(17,.int .i64 (partC s.cells f x y s.len a d j).length),(18,.int .i64 (a+d)),(19,.int .i64 j)]) (fun _=>⟨cn37 n s f c,[],0,0,fun _=>0⟩) (fun j=>s.cells.length-j) 0 ⟨by omega,hnd2⟩ ?_ ?_
       ·refine fN ?_<;>repeat' (first|exact fQ|refine And.intro ?_ ?_|exact SeesL.rfl' _)
       rintro j ⟨hj,hnj⟩
       refine Wk ?_
       refine BrK.mk (fun hb4=>?_) (fun hb4=>?_)<;>(try rw[hb4])
       ·have hjt:j < s.cells.length:=by simpa using hb4
        obtain⟨e,hgd⟩:=getLt hjt
        have hmd:=getMap (f:=Cell.av) hgd
        repeat((conv=>whnf);first|refine sJ ?_|refine aI (by first|exact inbMap hjt|exact(show s.len≠0 by omega)|kernel_rfl) ?_|rw[hmd])
        try(conv=>whnf)
        rw[tmod_eq (by omega)]
        cases m1:(e.slot==(a+d) % s.len) with
        | false=>
         have hms:=partC_miss (f:=f) (a:=x) (b:=y) (len:=s.len) (at_:=a) (d:=d) hgd (.inr (by simpa using m1))
         refine Wk ?_
         refine⟨j+1,⟨by omega,by rw[hms];exact hnj⟩,by omega,?_⟩
         refine fN ?_<;>repeat' (first|exact fQ|refine And.intro ?_ ?_|exact SeesL.rfl' _|exact Sees.int (succI hjt (by omega))|exact Sees.int (by rw[hms]))
        | true=>
         refine Wk ?_
         cases m2:(e.flow==f.id) with
         | false=>
          have hms:=partC_miss (f:=f) (a:=x) (b:=y) (len:=s.len) (at_:=a) (d:=d) hgd (.inl (by unfold offL;simp at m2;simp[m2]))
          refine Wk ?_
          refine⟨j+1,⟨by omega,by rw[hms];exact hnj⟩,by omega,?_⟩
          refine fN ?_<;>repeat' (first|exact fQ|refine And.intro ?_ ?_|exact SeesL.rfl' _|exact Sees.int (succI hjt (by omega))|exact Sees.int (by rw[hms]))
         | true=>
          repeat((conv=>whnf);first|refine sJ ?_|refine aI (by first|exact inbMap hlt|(rw[hw];exact inbMap (by omega))|kernel_rfl) ?_|rw[hw]|rw[hmx]|rw[hmy])
          try(conv=>whnf)
          cases m3:(e.src==x) with
          | false=>
           have hms:=partC_miss (f:=f) (a:=x) (b:=y) (len:=s.len) (at_:=a) (d:=d) hgd (.inl (by unfold offL;simp at m3;simp[m3]))
           refine Wk ?_
           refine⟨j+1,⟨by omega,by rw[hms];exact hnj⟩,by omega,?_⟩
           refine fN ?_<;>repeat' (first|exact fQ|refine And.intro ?_ ?_|exact SeesL.rfl' _|exact Sees.int (succI hjt (by omega))|exact Sees.int (by rw[hms]))
          | true=>
           repeat((conv=>whnf);first|refine sJ ?_|refine aI (by first|exact inbMap hlt|(rw[hw];exact inbMap (by omega))|kernel_rfl) ?_|rw[hw]|rw[hmx]|rw[hmy])
           try(conv=>whnf)
           cases m4:(e.dst==y) with
           | false=>
            have hms:=partC_miss (f:=f) (a:=x) (b:=y) (len:=s.len) (at_:=a) (d:=d) hgd (.inl (by unfold offL;simp at m4;simp[m4]))
            refine Wk ?_
            refine⟨j+1,⟨by omega,by rw[hms];exact hnj⟩,by omega,?_⟩
            refine fN ?_<;>repeat' (first|exact fQ|refine And.intro ?_ ?_|exact SeesL.rfl' _|exact Sees.int (succI hjt (by omega))|exact Sees.int (by rw[hms]))
           | true=>
            have hoe:offL f.id x y e=false:=by unfold offL;simp at m2 m3 m4;simp[m2,m3,m4]
            have hht:=partC_hit (f:=f) (a:=x) (b:=y) (len:=s.len) (at_:=a) (d:=d) hgd hoe (by simpa using m1)
            have hlj:=partC_le s.cells f x y s.len a d (j+1)
            have hlj2:(d+1)*s.cells.length≤1024*512:=Nat.mul_le_mul (by omega) hcl
            rw[hht,List.length_append,List.length_singleton]at hlj
            refine Wk ?_
            cases m5:(e.slot==c.slot&&(e.off==c.off&&(e.src==c.src&&(e.dst==c.dst&&(e.flow==c.flow&&true))))) with
            | false=>
             have hne:e≠c:=by rintro rfl;simp at m5
             have hnj2:¬hitC need (partC s.cells f x y s.len a d (j+1)) c:=by
              rw[hht,hitC_snoc]
              rintro (hh|⟨_,hh⟩)
              ·exact hnj hh
              ·exact hne hh
             refine Wk ?_
             refine⟨j+1,⟨by omega,hnj2⟩,by omega,?_⟩
             refine fN ?_<;>repeat' (first|exact fQ|refine And.intro ?_ ?_|exact SeesL.rfl' _|exact Sees.int (succI hjt (by omega))|exact Sees.int (by rw[hht,List.length_append,List.length_singleton];rw[w64]<;>omega))
            | true=>
             have hec:e=c:=by
              cases e;cases c
              simp only[Bool.and_eq_true,beq_iff_eq,and_true]at m5
              simp only[Cell.mk.injEq]
              exact⟨m5.1,m5.2.1,m5.2.2.1,m5.2.2.2.1,m5.2.2.2.2⟩
             by_cases hlt2:(partC s.cells f x y s.len a d j).length < need
             ·have g:decide (((partC s.cells f x y s.len a d j).length:Int) < (need:Int))=true:=decide_eq_true (by omega)
              have hin:c∈relsC n s f r (relsN s f):=hof (hon.1 (by
               obtain⟨tt,htt⟩:=partC_prefix (cs:=s.cells) (f:=f) (a:=x) (b:=y) (len:=s.len) (at_:=a) (d:=d) (j:=j+1) (e:=(z+1-a).toNat) (by omega)
               rw[htt]
               exact hitC_mono (by rw[hht,hitC_snoc];exact .inr ⟨hlt2,hec⟩)))
              repeat((conv=>whnf);first|refine sT ?_|rw[g])
              try(conv=>whnf)
              exact resP.mk rfl (Sees.bool (by rw[decide_eq_true hin]))
             ·have g:decide (((partC s.cells f x y s.len a d j).length:Int) < (need:Int))=false:=decide_eq_false (by omega)
              have hnj2:¬hitC need (partC s.cells f x y s.len a d (j+1)) c:=by
               rw[hht,hitC_snoc]
               rintro (hh|⟨hh,_⟩)
               ·exact hnj hh
               ·exact hlt2 hh
              repeat((conv=>whnf);first|refine sT ?_|rw[g])
              try(conv=>whnf)
              refine⟨j+1,⟨by omega,hnj2⟩,by omega,?_⟩
              refine fN ?_<;>repeat' (first|exact fQ|refine And.intro ?_ ?_|exact SeesL.rfl' _|exact Sees.int (succI hjt (by omega))|exact Sees.int (by rw[hht,List.length_append,List.length_singleton];rw[w64]<;>omega))
       ·have hjn:j=s.cells.length:=by simp at hb4;omega
        subst hjn
        rw[partC_all]at hnj
        refine Wk ?_
        refine⟨d+1,⟨by omega,hnj⟩,by omega,?_⟩
        refine fN ?_<;>repeat' (first|exact fQ|refine And.intro ?_ ?_|exact SeesL.rfl' _|exact Sees.int (by rw[partC_all])|exact Sees.int (by rw[w64]<;>omega))
      ·have hde:d=(z+1-a).toNat:=by simp at hb3;omega
       subst hde
       have hnx2:=hnext fun hc=>hnd2 (hon.2 hc)
       repeat((conv=>whnf);first|refine sJ ?_|refine aI (by first|(rw[hwl];exact inbMap (by omega))|kernel_rfl) ?_|rw[hwl]|rw[hmz])
       try(conv=>whnf)
       refine⟨(i+1,o++t,nextA a t),⟨by simp only;omega,hs,hnx2⟩,by simp only;omega,?_⟩
       refine fN ?_<;>repeat' (first|exact fQ|refine And.intro ?_ ?_|exact SeesL.rfl' _|exact Sees.int (by simp only[hnx];rw[w64]<;>omega)|exact Sees.int (succI hlt (by omega)))
  ·have hi':i=r.length-1:=by have:=lenGe hb2;omega
   subst hi'
   have hnk2:c ∉ relsC n s f r (k+1):=fun hc=>by
    rcases List.mem_append.1 hc with hc|hc
    ·exact hnk hc
    ·rw[←hrel]at hc;exact hni hc
   refine Wk ?_
   refine⟨k+1,⟨hkl,hnk2⟩,by omega,?_⟩
   refine fN ?_<;>repeat' (first|exact fQ|refine And.intro ?_ ?_|exact SeesL.rfl' _|exact Sees.int (by rw[hms,←Int.add_assoc,←hrel];rw[w64]<;>omega))
 ·have hk':k=relsN s f:=by
   rcases Nat.lt_or_ge k (relsN s f) with hh|hh
   ·have:=hltN.1 hh
    simp at hb;omega
   ·omega
  subst hk'
  refine Wk ?_
  exact resP.mk rfl (Sees.bool (by rw[decide_eq_false hnk]))
theorem c_Needed37 (n:Net)(s:Sched)(f:Flow)(l:List (List Int))(hn:n.small)(hc:s.cells.length≤281474976710656)(hr:∀r∈l,r.length≤281474976710656)(hl0:l.length≤281474976710656)(hl:n.links.length≤281474976710656) :
  PCall Tryz.prog L 43 [n.av,s.av,f.av,encRows l] (.tup [encCells (needM n s f l).1,.int .i64 (needM n s f l).2]):=by
 refine PCall.intro mixed [] (nt:=84) Tryz.func43 rfl rfl (by simp) ?_
 refine Wk ?_
 refine BrK.mk (fun h0=>?_) (fun h0=>?_)<;>(try rw[h0])
 ·have h0':l.length=0:=by simpa using h0
  refine Wk ?_
  exact resP.mk rfl (Sees.of_eq (by rw[needM,if_pos h0'];rfl))
 have h0':¬l.length=0:=by simpa using h0
 refine Wk ?_
 refine LoopK.run mixed [] (fun (k:Nat)=>k≤l.length∧∀(j:Nat) (x:List Int),j < k→l[j]? = some x→(routeM n s f x).2.2.2=0) (fun k=>[(3,encRows l),(4,.ptr 0 0),(5,.ptr 1 0),(6,.ptr 2 0),(10,.int .i64 k)]) (fun k=>⟨sl37 n s f,[],0,0,fun _=>0⟩) (fun k=>l.length-k) 0 ⟨by simp,by simp⟩ ?_ ?_
 ·refine fN ?_<;>repeat' (first|exact fQ|refine And.intro ?_ ?_|exact SeesL.rfl' _)
 rintro k ⟨hk,hinv⟩
 refine Wk ?_
 refine BrK.mk (fun h1=>?_) (fun h1=>?_)<;>(try rw[h1])
 ·have hlt:k < l.length:=by simpa using h1
  obtain⟨r,hgr⟩:=getLt hlt
  have hmr:=getMap (f:=fun r:List Int=>encIs r) hgr
  have hrm:=hr r (List.mem_of_getElem? hgr)
  repeat((conv=>whnf);first|refine sJ ?_|refine aI (by first|exact inbMap hlt|kernel_rfl) ?_|rw[hmr])
  try(conv=>whnf)
  refine cD (c_Route37 L n s f r hn hc hrm hl) ?_
  cases g:((routeM n s f r).2.2.2 != 0) with
  | true=>
   have hb:=badR_at hgr hinv (by simpa using g)
   repeat((conv=>whnf);first|refine sT ?_|rw[g])
   try(conv=>whnf)
   exact resP.mk rfl (Sees.of_eq (by rw[needM,if_neg h0',if_pos (by rw[hb];simpa using g),hb];rfl))
  | false=>
   have hb:(routeM n s f r).2.2.2=0:=by simpa using g
   repeat((conv=>whnf);first|refine sT ?_|rw[g])
   try(conv=>whnf)
   refine⟨k+1,⟨by omega,fun j x hj hx=>?_⟩,by omega,?_⟩
   ·rcases Nat.lt_succ_iff_lt_or_eq.1 hj with hj|rfl
    ·exact hinv j x hj hx
    ·rw[hgr]at hx;injection hx with hx;subst hx;exact hb
   refine fN ?_<;>repeat' (first|exact fQ|refine And.intro ?_ ?_|exact SeesL.rfl' _|exact Sees.int (succI hlt (by omega)))
 ·have hkl:k=l.length:=by simp at h1;omega
  subst hkl
  have hz:badR n s f l=0:=badR_zero fun j x hx=>hinv j x (List.getElem?_eq_some_iff.1 hx).1 hx
  have hN:needM n s f l=(needL n s f l,0):=by rw[needM,if_neg h0',if_neg (by simpa using hz)]
  rw[hN,needL_any]
  obtain⟨N,hNd⟩:∃N,N=relsN s f:=⟨_,rfl⟩
  rw[←hNd]
  obtain⟨p,hp⟩:∃p:Cell→Bool,p=fun c=>l.any fun r=>decide (c∈relsC n s f r N):=⟨_,rfl⟩
  rw[←hp]
  have hcell:(l≠[])→s.cells.length≤512:=fun hne=>by
   obtain⟨r0,hr0⟩:=List.exists_mem_of_ne_nil _ hne
   exact(form_all (wayE_ok (routeM_ok (badR_all hz r0 hr0)).1).form).2.1
  have hc5:=hcell (by rintro rfl;simp at h0')
  refine Wk ?_
  refine LoopK.run mixed [] (fun k:Nat=>k≤s.cells.length) (fun k=>[(3,encRows l),(4,.ptr 0 0),(5,.ptr 1 0),(6,.ptr 2 0),(15,.own (((s.cells.take k).filter p).map Cell.av) 0),(16,.int .i64 k)]) (fun k=>⟨sl37 n s f,[(((s.cells.take k).filter p).length,5)],0,0,fun _=>63⟩) (fun k=>s.cells.length-k) 0 (by omega) ?_ ?_
  ·refine fN ?_<;>repeat' (first|exact fQ|refine And.intro ?_ ?_|exact SeesL.rfl' _)
  rintro k hk
  have hfl:((s.cells.take k).filter p).length≤k:=Nat.le_trans (List.length_filter_le _ _) (by rw[List.length_take];omega)
  refine Wk ?_
  refine BrK.mk (fun h2=>?_) (fun h2=>?_)<;>(try rw[h2])
  ·have hlt:k < s.cells.length:=by simpa using h2
   obtain⟨c,hgc⟩:=getLt hlt
   have hmc:=getMap (f:=Cell.av) hgc
   have htk:=take_succ hgc
   refine Wk ?_
   refine LoopK.run mixed [] (fun j:Nat=>j≤l.length) (fun j=>[(3,encRows l),(4,.ptr 0 0),(5,.ptr 1 0),(6,.ptr 2 0),(15,.own (((s.cells.take k).filter p).map Cell.av) 0),(16,.int .i64 k),(17,.bool ((l.take j).any fun r=>decide (c∈relsC n s f r N))),(18,.int .i64 j)]) (fun j=>⟨sl37 n s f,[(((s.cells.take k).filter p).length,5)],0,0,fun _=>63⟩) (fun j=>l.length-j) 0 (by omega) ?_ ?_
   ·refine fN ?_<;>repeat' (first|exact fQ|refine And.intro ?_ ?_|exact SeesL.rfl' _|exact Sees.bool (by simp))
   rintro j hj
   refine Wk ?_
   refine BrK.mk (fun h3=>?_) (fun h3=>?_)<;>(try rw[h3])
   ·have hltj:j < l.length:=by simpa using h3
    obtain⟨r,hgr⟩:=getLt hltj
    have hmr:=getMap (f:=fun r:List Int=>encIs r) hgr
    have hmem:=List.mem_of_getElem? hgr
    have hrok:=badR_all hz r hmem
    have hwr:=wayE_ok (routeM_ok hrok).1
    have hany:((l.take (j+1)).any fun r=>decide (c∈relsC n s f r N))=(((l.take j).any fun r=>decide (c∈relsC n s f r N))||decide (c∈relsC n s f r N)):=by rw[take_succ hgr,List.any_append];simp
    refine Wk ?_
    cases g:((l.take j).any fun r=>decide (c∈relsC n s f r N)) with
    | true=>
     rw[g]at hany
     refine Wk ?_
     refine⟨j+1,by omega,by omega,?_⟩
     refine fN ?_<;>repeat' (first|exact fQ|refine And.intro ?_ ?_|exact SeesL.rfl' _|exact Sees.bool (by rw[hany];rfl)|exact Sees.int (succI hltj (by omega)))
    | false=>
     rw[g,Bool.false_or,hNd]at hany
     repeat((conv=>whnf);first|refine sJ ?_|refine aI (by first|exact inbMap hltj|exact inbMap hlt|kernel_rfl) ?_|rw[hmr]|rw[hmc])
     try(conv=>whnf)
     refine cD (c_counts37 L n s f r c hl hwr hrok) ?_
     refine Wk ?_
     refine⟨j+1,by omega,by omega,?_⟩
     refine fN ?_<;>repeat' (first|exact fQ|refine And.intro ?_ ?_|exact SeesL.rfl' _|exact Sees.bool (by rw[hNd,hany])|exact Sees.int (succI hltj (by omega)))
   ·have hjl:j=l.length:=by simp at h3;omega
    subst hjl
    rw[List.take_length,show(l.any fun r=>decide (c∈relsC n s f r N))=p c by rw[hp]]
    refine Wk ?_
    cases g:p c with
    | true=>
     have hnx:(s.cells.take (k+1)).filter p=(s.cells.take k).filter p++[c]:=by rw[htk,List.filter_append];simp[g]
     repeat((conv=>whnf);first|refine sJ ?_|refine aI (by first|exact inbMap hlt|exact Els.map (f:=Cell.av) (fun x=>⟨cellOk.len x,cellOk.cell x⟩)|exact(show _*40≤_ by simp only[List.length_map,List.length_cons,List.length_nil];omega)|exact(by simp only[List.length_map,List.length_cons,List.length_nil,maxLen];omega)|exact(show some (_,_)=some (_,_) by simp only[List.length_map])|kernel_rfl) ?_|rw[hmc])
     try(conv=>whnf)
     refine⟨k+1,by omega,by omega,?_⟩
     refine fN ?_<;>repeat' (first|exact fQ|refine And.intro ?_ ?_|exact SeesL.rfl' _|exact Sees.own (by rw[hnx,List.map_append];rfl)|exact Sees.int (succI hlt (by omega))|(show(_,_)=(_,_);rw[hnx];simp only[List.length_append,List.length_map,List.length_cons,List.length_nil]))
    | false=>
     have hnx:(s.cells.take (k+1)).filter p=(s.cells.take k).filter p:=by rw[htk,List.filter_append];simp[g]
     refine Wk ?_
     refine⟨k+1,by omega,by omega,?_⟩
     refine fN ?_<;>repeat' (first|exact fQ|refine And.intro ?_ ?_|exact SeesL.rfl' _|exact Sees.own (by rw[hnx])|exact Sees.int (succI hlt (by omega))|(show(_,_)=(_,_);rw[hnx]))
  ·have hkl2:k=s.cells.length:=by simp at h2;omega
   subst hkl2
   rw[List.take_length]
   refine Wk ?_
   exact resP.mk rfl (Sees.of_eq rfl)
end
end HM
