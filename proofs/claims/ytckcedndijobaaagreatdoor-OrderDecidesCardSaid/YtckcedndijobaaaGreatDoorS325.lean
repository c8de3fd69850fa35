/- OrderDecides: the law. -/
import Derived.Test.YtckcedndijobaaaGreatDoorS309
import Derived.Test.YtckcedndijobaaaGreatDoorS314
import Derived.Test.YtckcedndijobaaaGreatDoorDe
set_option maxHeartbeats 64000000
set_option maxRecDepth 100000
namespace HM
open Go Go.RowKit Go.Proofs
theorem c_OrderDecides (n:Net)(before after:List Req)(s t:Sched)(l:List Int)(hn:n.small)(hq1:before.length≤281474976710656)(hx1:∀x∈before,x.small)(hq2:after.length≤281474976710656)(hx2:∀x∈after,x.small)(hl:l.length≤281474976710656):PCall Tryz.prog LW 7 [n.av,encReqs before,encReqs after,s.av,t.av,encIs l] (.bool true):=by
 refine PCall.intro mixed [10010] (nt:=159) Tryz.func7 rfl rfl (by simp) ?_
 refine Wk ?_
 refine cD (c_awake43) ?_
 repeat((conv=>whnf);first|refine sT ?_ )
 try(conv=>whnf)
 refine cD (c_Few43 LW n hn before after hq1 hq2 hx1 hx2 s t) ?_
 cases g:few43 n before after s t with
 | false=>
  repeat((conv=>whnf);first|refine sT ?_ )
  try(conv=>whnf)
  exact resP.mk rfl (Sees.bool rfl)
 | true=>
 obtain⟨f1,f2,f3,f4⟩:=few43_len g
 by_cases hl2:l.length > 200
 ·have g2:decide ((l.length:Int) > 200)=true:=decide_eq_true (by omega)
  repeat((conv=>whnf);first|refine sT ?_|rw[List.length_map]|rw[g2])
  try(conv=>whnf)
  exact resP.mk rfl (Sees.bool rfl)
 have g2:decide ((l.length:Int) > 200)=false:=decide_eq_false (by omega)
 have h1:=c_FindO n hn before after (by omega) (by omega) hx1 hx2 s t (by omega) (by omega)
 have h3:=c_CountO n hn before after (by omega) (by omega) hx1 hx2 s t (by omega) (by omega)
 have h5:=c_ReachedO n hn before after (by omega) (by omega) hx1 hx2 s t (by omega) (by omega)
 have h7:=c_ClosedO n hn before after (by omega) (by omega) hx1 hx2 s t (by omega) (by omega) l hl
 repeat((conv=>whnf);first|refine sT ?_|rw[List.length_map]|rw[g2])
 try(conv=>whnf)
 by_cases ho:openO n before after s t=0
 rotate_left
 ·obtain⟨e1,e2,e3,e4⟩:=open_bad ho
  have e5:=open_vals (n:=n) (before:=before) (after:=after) (s:=s) (t:=t)
  rw[e1]at h1
  rw[e2]at h3
  rw[e3]at h5
  rw[e4 l]at h7
  obtain⟨E,hE⟩:∃E,E=openO n before after s t:=⟨_,rfl⟩
  rw[←hE]at h1 h3 h5 h7 ho e5
  have g0:(E==0)=false:=by simpa using ho
  have g19:(E==19)=false:=by simpa using e5
  have gE:(E==E)=true:=beq_self_eq_true E
  refine cD (h1) ?_
  refine Wk ?_
  refine cD (h3) ?_
  refine Wk ?_
  refine cD (h5) ?_
  repeat((conv=>whnf);first|refine sT ?_|rw[g0]|rw[g19]|rw[gE])
  try(conv=>whnf)
  refine cD (h7) ?_
  repeat((conv=>whnf);first|refine sT ?_|rw[gE])
  try(conv=>whnf)
  exact resP.mk rfl (Sees.bool rfl)
 have hm:=(opn_ok ho).few
 have htw:=two_le (i:=stO s t) (by have:(stepsL s t).length=stO s t:=rfl;omega)
 have hrl:=reach_len (n:=n) (before:=before) (after:=after) (s:=s) (t:=t)
 obtain⟨R,hR⟩:∃R:List Int,R=(reachO (stO s t) (cnO n before after s t)).map fun T:Nat=>(T:Int):=⟨_,rfl⟩
 have hRl:R.length≤1048576:=by rw[hR,List.length_map];omega
 have h6:=c_ClosedO n hn before after (by omega) (by omega) hx1 hx2 s t (by omega) (by omega) R (by omega)
 rw[reached_is ho,←hR]at h5
 rw[count_is ho]at h3
 by_cases hc:cntO (stO s t) (cnO n before after s t) 0=0
 ·have hcl:=order_no ho hc
  rw[←hR]at hcl
  rw[hcl]at h6
  rw[find_no ho hc]at h1
  rw[hc]at h3
  refine cD (h1) ?_
  refine Wk ?_
  refine cD (h3) ?_
  refine Wk ?_
  refine cD (h5) ?_
  repeat((conv=>whnf);first|refine sT ?_ )
  try(conv=>whnf)
  refine cD (h6) ?_
  repeat((conv=>whnf);first|refine sT ?_ )
  try(conv=>whnf)
  exact resP.mk rfl (Sees.bool rfl)
 have hcp:=Nat.pos_of_ne_zero hc
 obtain⟨o,ho1,_,ho2,_⟩:=order_safe ho (by omega) hcp
 obtain⟨hRm,hRt⟩:=reach_top hcp hR
 rw[order_yes ho hcp R]at h6
 rw[order_yes ho hcp l]at h7
 rw[ho1]at h1
 obtain⟨c,hcc⟩:∃c,c=cntO (stO s t) (cnO n before after s t) 0:=⟨_,rfl⟩
 rw[←hcc]at h3 hcp
 have hm2:stO s t≤12:=hm
 have ho3:o.length=stO s t:=ho2
 obtain⟨m,hmm⟩:∃m,m=stO s t:=⟨_,rfl⟩
 rw[←hmm]at htw hRm hRt hm2 ho3
 have gc:decide ((c:Int) > 0)=true:=decide_eq_true (by omega)
 have gl:decide ((R.length:Int) > (m:Int))=true:=decide_eq_true (by omega)
 have hw1:IntKind.i64.wrap ((R.length:Int)-1)=((R.length-1:Nat):Int):=by rw[w64 (by omega) (by omega)];omega
 have hin:InB ((R.length-1:Nat):Int) (R.map encI).length:=inbMap (f:=encI) (by omega)
 have hmt:=getMap (f:=encI) hRt
 have hsh:=shlN (i:=m) (by omega)
 have hsb:=sub_one m
 have hpw:=Nat.two_pow_pos m
 have hw2:IntKind.i64.wrap (((2 ^ m:Nat):Int)-1)=((2 ^ m-1:Nat):Int):=by rw[hsb,w64 (by omega) (by omega)]
 have gq:(((2 ^ m-1:Nat):Int)==((2 ^ m-1:Nat):Int))=true:=beq_self_eq_true _
 refine cD (h1) ?_
 refine Wk ?_
 refine cD (h3) ?_
 refine Wk ?_
 refine cD (h5) ?_
 repeat((conv=>whnf);first|refine sT ?_ )
 try(conv=>whnf)
 refine SemK.regionFin mixed (fun X=>X.bx[0]? = some (.cells n.cs 36)∧X.bx[1]? = some (.cells s.av.cells 24)∧X.bx[2]? = some (.cells t.av.cells 24)) [0,1,2,3,4,5,6,7,8,9,10,11,12,13,14,15,16,17,18,19,20,21,22,23,24,25,26,27,28,29,30,31,32,33,34,35,36,37,38,39,40,41,42,43,44,45,46,47,48,49,50] 0 rfl rfl (by decide) rfl ⟨rfl,rfl,rfl⟩ ?_
 iterate 37
  conv=>whnf
  apply exV
  ·rintro S' K' hI hh
   repeat((conv=>whnf);first|refine sJ ?_|refine aI (by first|exact trivial|exact(show(0:Int)≤_ by omega)|exact hin|kernel_rfl) ?_|erw [hI.1]|erw [hI.2.1]|erw [hI.2.2]|rw[List.length_map]|rw[ho3]|rw[gc]|rw[gl]|rw[hw1]|rw[hmt]|rw[hsh]|rw[hw2]|rw[gq])
   try(conv=>whnf)
   exact hh
 conv=>whnf
 apply exV
 ·rintro S' K' hI hh
  refine Wk ?_
  refine cD (h6) ?_
  exact hh
 iterate 9
  conv=>whnf
  apply exV
  ·rintro S' K' hI hh
   repeat((conv=>whnf);first|refine sT ?_|erw [hI.1]|erw [hI.2.1]|erw [hI.2.2])
   try(conv=>whnf)
   exact hh
 conv=>whnf
 apply exV
 ·rintro S' K' hI hh
  refine Wk ?_
  refine cD (h7) ?_
  exact hh
 iterate 3
  conv=>whnf
  apply exV
  ·rintro S' K' hI hh
   repeat((conv=>whnf);first|refine sT ?_ )
   try(conv=>whnf)
   exact hh
 conv=>whnf
 refine Wk ?_
 exact resP.mk rfl (Sees.bool rfl)
end HM
