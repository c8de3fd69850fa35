/- Check of a schedule: the reference. -/
import Derived.Test.YtggiajmlnieidaaGreatDoorS200
import Derived.Test.YtggiajmlnieidaaGreatDoorFh
import Derived.Test.YtggiajmlnieidaaGreatDoorDe
set_option maxHeartbeats 64000000
set_option maxRecDepth 100000
namespace HM
open Go Go.RowKit Go.Proofs
theorem in_ins (x n:Int):inB x 0 (n-1)=insB x n:=by
 unfold inB insB
 congr 1
 exact decide_eq_decide.2 (by omega)
theorem beq_sym (a b:Int):(a==b)=(b==a):=by rw[Bool.eq_iff_iff,beq_iff_eq,beq_iff_eq];exact eq_comm
section
variable (L:World→Prop)
theorem c_Check35 (n:Net)(hn:n.small)(l:List Flow)(hl:l.length≤281474976710656)(s:Sched)(hs:s.cells.length≤281474976710656):PCall Tryz.prog L 171 [n.av,encFlows l,s.av] (.tup [.int .i64 (schedE n l s).1,.int .i64 (schedE n l s).2]):=by
 refine PCall.intro mixed [1] (nt:=157) Tryz.func171 rfl rfl (by simp) ?_
 refine Wk ?_
 refine SeqK.sem mixed [] ?_
 refine Wk ?_
 refine SemK.freezeB 0 rfl rfl ?_
 refine SemK.freezeB 1 rfl rfl ?_
 refine twC_sound (ct:=[]) mixed _ _ _ _ ?_
 refine Wk ?_
 refine cD (c_whole35 L n hn l hl s) ?_
 cases g0:(wholeM n l s != 0) with
 | true=>
  repeat((conv=>whnf);first|refine sT ?_|rw[g0])
  try(conv=>whnf)
  exact resP.mk rfl (Sees.of_eq (by rw[schedE_whole (by simpa using g0)]))
 | false=>
 obtain⟨h0,hfl,hz,hm,hE⟩:=schedE_parts (n:=n) (l:=l) (s:=s) (by simpa using g0)
 have hsb:=sized_bd hz
 have hok:=netE_ok h0
 have w1:IntKind.i64.wrap (s.len-1)=s.len-1:=w64 (by omega) (by omega)
 have w2:IntKind.i64.wrap (s.offs-1)=s.offs-1:=w64 (by omega) (by omega)
 repeat((conv=>whnf);first|refine sT ?_|rw[g0])
 try(conv=>whnf)
 refine LoopK.run mixed [] (fun k:Nat=>k≤s.cells.length∧∀j,j < k→cellF n l s j=0) (fun k=>[(1,encFlows l),(3,.cptr n.av 0),(5,.cptr s.av 0),(9,.int .i64 k)]) (fun _=>⟨[.dead,.dead],[],0,0,fun _=>0⟩) (fun k=>s.cells.length-k) 0 ⟨by omega,fun j hj=>by omega⟩ ?_ ?_
 ·refine fN ?_<;>repeat' (first|exact fQ|refine And.intro ?_ ?_ )
 rintro k ⟨hk,hinv⟩
 by_cases hkt:k < s.cells.length
 ·obtain⟨c,hgc⟩:=getLt hkt
  have hmc:=getMap (f:=Cell.av) hgc
  have gk:decide ((k:Int) < ((s.cells.map Cell.av).length:Int))=true:=decide_eq_true (by rw[List.length_map];omega)
  have hit:=firstAt_hit hinv (k:=k) (n:=s.cells.length)
  have hv:∀v:Int,v≠0→cellF n l s k=v→schedE n l s=((k:Int),v):=fun v hv0 hcf=>by
   have h1:=hit (by rw[hcf];exact hv0) hkt
   rw[hE,if_pos (by rw[h1];show cellF n l s k≠0;rw[hcf];exact hv0),h1,hcf]
  repeat((conv=>whnf);first|refine sJ ?_|refine aI (by first|exact trivial|exact inbMap hkt|kernel_rfl) ?_|rw[gk]|rw[hmc]|rw[w1])
  try(conv=>whnf)
  refine cD (c_in35 L c.slot 0 (s.len-1)) ?_
  rw[in_ins]
  cases hp1:insB c.slot s.len with
  | false=>
   rw[hv 2 (by decide) (by unfold cellF;rw[hgc];simp[placedB,hp1])]
   refine Wk ?_
   exact resP.mk rfl (Sees.of_eq rfl)
  | true=>
  repeat((conv=>whnf);first|refine sT ?_|rw[w2])
  try(conv=>whnf)
  refine cD (c_in35 L c.off 0 (s.offs-1)) ?_
  rw[in_ins]
  cases hp2:insB c.off s.offs with
  | false=>
   rw[hv 2 (by decide) (by unfold cellF;rw[hgc];simp[placedB,hp1,hp2])]
   refine Wk ?_
   exact resP.mk rfl (Sees.of_eq rfl)
  | true=>
  refine Wk ?_
  refine cD (c_Good31 L n hok c.src c.dst) ?_
  cases hg:goodL n c.src c.dst with
  | false=>
   rw[hv 7 (by decide) (by unfold cellF;rw[hgc];simp[placedB,hp1,hp2,hg])]
   refine Wk ?_
   exact resP.mk rfl (Sees.of_eq rfl)
  | true=>
  refine Wk ?_
  refine cD (c_Find32 L l c.flow hl) ?_
  have hfi:=findF_ids l c.flow
  cases hid:idsB l c.flow with
  | false=>
   rw[hid]at hfi
   rw[hv 7 (by decide) (by unfold cellF;rw[hgc];simp[placedB,hp1,hp2,hg,hid])]
   repeat((conv=>whnf);first|refine sT ?_|rw[hfi])
   try(conv=>whnf)
   exact resP.mk rfl (Sees.of_eq rfl)
  | true=>
  rw[hid]at hfi
  have nxt:cellF n l s k=0→∀j,j < k+1→cellF n l s j=0:=fun h j hj=>by
   rcases Nat.lt_succ_iff_lt_or_eq.1 hj with hj|rfl
   ·exact hinv j hj
   ·exact h
  cases k with
  | zero=>
   have hc0:cellF n l s 0=0:=by unfold cellF;rw[hgc];simp[placedB,hp1,hp2,hg,hid,ordC]
   have g1:decide ((0:Int) < ((0:Nat):Int))=false:=rfl
   repeat((conv=>whnf);first|refine sT ?_|rw[hfi]|rw[g1])
   try(conv=>whnf)
   refine⟨0+1,⟨by omega,nxt hc0⟩,by omega,?_⟩
   refine fN ?_<;>repeat' (first|exact fQ|refine And.intro ?_ ?_|exact Sees.int (succI hkt (by omega)))
  | succ j=>
   obtain⟨p,hgp⟩:=getLt (l:=s.cells) (k:=j) (by omega)
   have hmp:=getMap (f:=Cell.av) hgp
   have g1:decide ((0:Int) < ((j+1:Nat):Int))=true:=decide_eq_true (by omega)
   have wj:IntKind.i64.wrap (((j+1:Nat):Int)-1)=(j:Int):=by rw[w64]<;>omega
   have hjl:j < s.cells.length:=by omega
   repeat((conv=>whnf);first|refine sJ ?_|refine aI (by first|exact trivial|exact inbMap hjl|(rw[wj];exact inbMap hjl)|kernel_rfl) ?_|rw[hfi]|rw[g1]|rw[wj]|rw[hmp])
   try(conv=>whnf)
   refine cD (c_Less L p c) ?_
   cases hod:decide (p.cmp c < 0) with
   | false=>
    rw[hv 5 (by decide) (by unfold cellF;rw[hgc];simp only[placedB,hp1,hp2,hg,hid,ordC,hgp,hod];simp)]
    refine Wk ?_
    exact resP.mk rfl (Sees.of_eq rfl)
   | true=>
    have hc0:cellF n l s (j+1)=0:=by unfold cellF;rw[hgc];simp only[placedB,hp1,hp2,hg,hid,ordC,hgp,hod];simp
    refine Wk ?_
    refine⟨j+1+1,⟨by omega,nxt hc0⟩,by omega,?_⟩
    refine fN ?_<;>repeat' (first|exact fQ|refine And.intro ?_ ?_|exact Sees.int (succI hkt (by omega)))
 ·have hkn:k=s.cells.length:=by omega
  subst hkn
  have gk:decide ((s.cells.length:Int) < ((s.cells.map Cell.av).length:Int))=false:=decide_eq_false (by rw[List.length_map];omega)
  have hcell:firstAt (cellF n l s) s.cells.length=(-1,0):=firstAt_zero hinv
  rw[hcell,if_neg (by simp)]at hE
  have hgood:∀(i:Nat) c,s.cells[i]? = some c→goodL n c.src c.dst=true:=fun i c hi=>by
   have h1:=hinv i (List.getElem?_eq_some_iff.1 hi).1
   unfold cellF at h1
   rw[hi]at h1
   simp only at h1
   split at h1
   ·cases h1
   split at h1
   ·cases h1
   rename_i h2
   simp only[not_or,Bool.not_eq_false]at h2
   exact h2.1
  repeat((conv=>whnf);first|refine sT ?_|rw[gk])
  try(conv=>whnf)
  refine LoopK.run mixed [] (fun i:Nat=>i≤s.cells.length∧∀j,j < i→twI s.cells j=0) (fun i=>[(1,encFlows l),(3,.cptr n.av 0),(5,.cptr s.av 0),(11,.int .i64 i)]) (fun _=>⟨[.dead,.dead],[],0,0,fun _=>0⟩) (fun i=>s.cells.length-i) 0 ⟨by omega,fun j hj=>by omega⟩ ?_ ?_
  ·refine fN ?_<;>repeat' (first|exact fQ|refine And.intro ?_ ?_ )
  rintro i ⟨hi,hinv2⟩
  by_cases hit2:i < s.cells.length
  ·obtain⟨c,hgc⟩:=getLt hit2
   have hmc:=getMap (f:=Cell.av) hgc
   have gi:decide ((i:Int) < ((s.cells.map Cell.av).length:Int))=true:=decide_eq_true (by rw[List.length_map];omega)
   have hhit:=firstAt_hit hinv2 (k:=i) (n:=s.cells.length)
   have hv:twiceM s.cells i=true→schedE n l s=((i:Int),6):=fun ht=>by
    have h1:twI s.cells i=6:=by unfold twI;rw[ht];rfl
    have h2:=hhit (by rw[h1];decide) hit2
    rw[hE,if_pos (by rw[h2];show twI s.cells i≠0;rw[h1];decide),h2,h1]
   repeat((conv=>whnf);first|refine sT ?_|rw[gi])
   try(conv=>whnf)
   refine LoopK.run mixed [10020] (fun j:Nat=>j≤i∧∀q,q < j→twAt s.cells c q=false) (fun j=>[(1,encFlows l),(3,.cptr n.av 0),(5,.cptr s.av 0),(11,.int .i64 i),(12,.int .i64 j)]) (fun _=>⟨[.dead,.dead],[],0,0,fun _=>0⟩) (fun j=>i-j) 0 ⟨by omega,fun q hq=>by omega⟩ ?_ ?_
   ·refine fN ?_<;>repeat' (first|exact fQ|refine And.intro ?_ ?_ )
   rintro j ⟨hj,hinv3⟩
   by_cases hji:j < i
   ·obtain⟨d,hgd⟩:=getLt (l:=s.cells) (k:=j) (by omega)
    have hmd:=getMap (f:=Cell.av) hgd
    have hjl:j < s.cells.length:=by omega
    have gj:decide ((j:Int) < (i:Int))=true:=decide_eq_true (by omega)
    have htw:twAt s.cells c j=(c.slot==d.slot&&touchB c d):=by unfold twAt;rw[hgd];simp only;rw[beq_sym]
    have nx:(c.slot==d.slot&&touchB c d)=false→∀q,q < j+1→twAt s.cells c q=false:=fun h q hq=>by
     rcases Nat.lt_succ_iff_lt_or_eq.1 hq with hq|rfl
     ·exact hinv3 q hq
     ·rw[htw];exact h
    have yes:(c.slot==d.slot&&touchB c d)=true→schedE n l s=((i:Int),6):=fun h=>hv (by
     unfold twiceM
     rw[hgc]
     exact List.any_eq_true.2 ⟨j,List.mem_range.2 hji,by rw[htw];exact h⟩)
    repeat((conv=>whnf);first|refine sT ?_|rw[gj])
    try(conv=>whnf)
    refine SemK.regionFin mixed (fun _=>True) [0,1,2,3,4,5,6,7,8,9] 4 rfl rfl (by decide) rfl trivial ?_
    iterate 10
     conv=>whnf
     apply exV
     ·rintro S' K' hI hh
      repeat((conv=>whnf);first|refine sJ ?_|refine aI (by first|exact trivial|exact inbMap hit2|exact inbMap hjl|kernel_rfl) ?_|rw[hmc]|rw[hmd])
      try(conv=>whnf)
      exact hh
    conv=>whnf
    repeat' ((conv=>whnf);first|exact trivial|refine sJ ?_|refine aI (by first|exact Or.inr trivial|kernel_rfl) ?_|refine And.intro ?_ ?_ )
    all_goals(conv=>whnf)
    all_goals
     cases b0:(c.slot==d.slot) with
     | false=>
      repeat((conv=>whnf);first|refine sT ?_|rw[b0])
      try(conv=>whnf)
      refine⟨j+1,⟨by omega,nx (by rw[b0];rfl)⟩,by omega,?_⟩
      refine fN ?_<;>repeat' (first|exact fQ|refine And.intro ?_ ?_|exact Sees.int (succI hji (by omega)))
     | true=>
      cases a1:(c.src==d.src)<;>cases a2:(c.src==d.dst)<;>cases a3:(c.dst==d.src)<;>cases a4:(c.dst==d.dst)
      ·have ht:(c.slot==d.slot&&touchB c d)=false:=by unfold touchB;rw[b0,a1,a2,a3,a4];rfl
       repeat((conv=>whnf);first|refine sT ?_|rw[b0]|rw[a1]|rw[a2]|rw[a3]|rw[a4])
       try(conv=>whnf)
       refine⟨j+1,⟨by omega,nx ht⟩,by omega,?_⟩
       refine fN ?_<;>repeat' (first|exact fQ|refine And.intro ?_ ?_|exact Sees.int (succI hji (by omega)))
      all_goals
       have ht:(c.slot==d.slot&&touchB c d)=true:=by unfold touchB;rw[b0,a1,a2,a3,a4];rfl
       rw[yes ht]
       repeat((conv=>whnf);first|refine sT ?_|rw[b0]|rw[a1]|rw[a2]|rw[a3]|rw[a4])
       try(conv=>whnf)
       exact resP.mk rfl (Sees.of_eq rfl)
   ·have hjn:j=i:=by omega
    subst hjn
    have gj:decide ((j:Int) < (j:Int))=false:=decide_eq_false (by omega)
    have hz2:twiceM s.cells j=false:=by
     unfold twiceM
     rw[hgc]
     exact List.any_eq_false.2 fun q hq=>by rw[hinv3 q (List.mem_range.1 hq)];simp
    have htz:twI s.cells j=0:=by unfold twI;rw[hz2];rfl
    repeat((conv=>whnf);first|refine sT ?_|rw[gj])
    try(conv=>whnf)
    refine⟨j+1,⟨by omega,fun q hq=>?_⟩,by omega,?_⟩
    ·rcases Nat.lt_succ_iff_lt_or_eq.1 hq with hq|rfl
     ·exact hinv2 q hq
     ·exact htz
    ·refine fN ?_<;>repeat' (first|exact fQ|refine And.intro ?_ ?_|exact Sees.int (succI hit2 (by omega)))
  ·have hin:i=s.cells.length:=by omega
   subst hin
   have hone:firstAt (twI s.cells) s.cells.length=(-1,0):=firstAt_zero hinv2
   rw[hone,if_neg (by simp)]at hE
   repeat((conv=>whnf);first|refine sT ?_|rw[gk])
   try(conv=>whnf)
   refine LoopK.run mixed [] (fun i:Nat=>i≤s.cells.length∧∀j,j < i→dsI n s.cells j=0) (fun i=>[(1,encFlows l),(3,.cptr n.av 0),(5,.cptr s.av 0),(15,.int .i64 i)]) (fun _=>⟨[.dead,.dead],[],0,0,fun _=>0⟩) (fun i=>s.cells.length-i) 0 ⟨by omega,fun j hj=>by omega⟩ ?_ ?_
   ·refine fN ?_<;>repeat' (first|exact fQ|refine And.intro ?_ ?_ )
   rintro i ⟨hi3,hinv3⟩
   by_cases hit3:i < s.cells.length
   ·obtain⟨c,hgc⟩:=getLt hit3
    have gi:decide ((i:Int) < ((s.cells.map Cell.av).length:Int))=true:=decide_eq_true (by rw[List.length_map];omega)
    have hhit:=firstAt_hit hinv3 (k:=i) (n:=s.cells.length)
    have hsf:=share_fault (n:=n) hgc (hgood i c hgc) (once_rest hinv2 hgc)
    have hsl:(shareL s.cells c).length≤32:=share_few hok hinv2 hgood c
    have hsa:shareAt s.cells c i < (shareL s.cells c).length:=by
     have:=(filter_erase (p:=shareB c) hgc (by simp[shareB])).2
     exact(List.getElem?_eq_some_iff.1 this).1
    repeat((conv=>whnf);first|refine sT ?_|rw[gi])
    try(conv=>whnf)
    refine cD (c_Share35 L s i c hgc (by omega)) ?_
    refine Wk ?_
    refine cD (c_Fault34 L n hn h0 (shareL s.cells c) hsl (shareAt s.cells c i) hsa) ?_
    rw[hsf]
    cases hdb:disturbB n s.cells i with
    | true=>
     have h1:dsI n s.cells i=16:=by unfold dsI;rw[hdb];rfl
     have h2:=hhit (by rw[h1];decide) hit3
     rw[hE,h2,h1]
     refine Wk ?_
     exact resP.mk rfl (Sees.of_eq rfl)
    | false=>
     have h1:dsI n s.cells i=0:=by unfold dsI;rw[hdb];rfl
     refine Wk ?_
     refine⟨i+1,⟨by omega,fun q hq=>?_⟩,by omega,?_⟩
     ·rcases Nat.lt_succ_iff_lt_or_eq.1 hq with hq|rfl
      ·exact hinv3 q hq
      ·exact h1
     ·refine fN ?_<;>repeat' (first|exact fQ|refine And.intro ?_ ?_|exact Sees.int (succI hit3 (by omega)))
   ·have hin3:i=s.cells.length:=by omega
    subst hin3
    rw[hE,firstAt_zero hinv3]
    repeat((conv=>whnf);first|refine sT ?_|rw[gk])
    try(conv=>whnf)
    exact resP.mk rfl (Sees.of_eq rfl)
theorem c_Valid35 (n:Net)(hn:n.small)(l:List Flow)(hl:l.length≤281474976710656)(s:Sched)(hs:s.cells.length≤281474976710656):PCall Tryz.prog L 121 [n.av,encFlows l,s.av] (.bool ((schedE n l s).2==0)):=by
 refine PCall.intro mixed [] (nt:=18) Tryz.func121 rfl rfl (by simp) ?_
 refine Wk ?_
 refine cD (c_Check35 L n hn l hl s hs) ?_
 refine Wk ?_
 exact resP.mk rfl (Sees.bool rfl)
end
end HM
