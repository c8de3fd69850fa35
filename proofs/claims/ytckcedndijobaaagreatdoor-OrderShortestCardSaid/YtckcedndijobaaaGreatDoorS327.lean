/- OrderShortest: the law. -/
import Derived.Test.YtckcedndijobaaaGreatDoorS309
import Derived.Test.YtckcedndijobaaaGreatDoorS122
import Derived.Test.YtckcedndijobaaaGreatDoorS259
import Derived.Test.YtckcedndijobaaaGreatDoorDe
set_option maxHeartbeats 64000000
set_option maxRecDepth 100000
namespace HM
open Go Go.RowKit Go.Proofs
theorem upto_whole {t:Int}:∀{l:List Chg},(∀c∈l,c.slot≤t)→uptoW l t=l
 | [],_=>rfl
 | c :: l,h=>by
  unfold uptoW
  rw[List.takeWhile_cons_of_pos (by simpa using h c (List.mem_cons_self ..))]
  exact congrArg _ (upto_whole fun d hd=>h d (List.mem_cons_of_mem _ hd))
theorem c_OrderShortest (n:Net)(before after:List Req)(s:Sched)(l:List Chg)(hn:n.small)(hq1:before.length≤281474976710656)(hx1:∀x∈before,x.small)(hq2:after.length≤281474976710656)(hx2:∀x∈after,x.small)(hl:l.length≤281474976710656)(hsl:∀c∈l,c.slot≤9223372036854775807):PCall Tryz.prog LW 9 [n.av,encReqs before,encReqs after,s.av,encChgs l] (.bool true):=by
 refine PCall.intro mixed [] (nt:=92) Tryz.func9 rfl rfl (by simp) ?_
 refine Wk ?_
 refine cD (c_awake43) ?_
 repeat((conv=>whnf);first|refine sT ?_ )
 try(conv=>whnf)
 refine cD (c_Few42 LW n hn before after hq1 hq2 hx1 hx2 s l) ?_
 cases g:few42 n before after s l with
 | false=>
  repeat((conv=>whnf);first|refine sT ?_ )
  try(conv=>whnf)
  exact resP.mk rfl (Sees.bool rfl)
 | true=>
 obtain⟨f1,f2,f3,f4⟩:=few42_len g
 repeat((conv=>whnf);first|refine sT ?_ )
 try(conv=>whnf)
 refine cD (c_CheckC n hn before after (by omega) (by omega) hx1 hx2 s (by omega) l hl) ?_
 by_cases hck:(checkC n before after s l).2≠0
 ·have gc:((checkC n before after s l).2 != 0)=true:=by simpa using hck
  repeat((conv=>whnf);first|refine sT ?_|rw[gc])
  try(conv=>whnf)
  exact resP.mk rfl (Sees.bool rfl)
 have gc:((checkC n before after s l).2 != 0)=false:=by simpa using hck
 have hk:=ckOk (n:=n) (before:=before) (after:=after) (s:=s) (l:=l) (by simpa using hck)
 obtain⟨o1,o2,o3⟩:=order_short hk (by omega)
 have hap:=c_ApplyC s (by omega) l hl 9223372036854775807
 rw[hk.apply,upto_whole hsl]at hap
 have htl:(afterC s l).cells.length≤40:=by have:=afterC_len s l;omega
 obtain⟨t,ht⟩:∃t,t=afterC s l:=⟨_,rfl⟩
 rw[←ht]at o1 o2 o3 hap htl
 have hst:=c_StepsO LW s t (by omega) (by omega)
 rw[o1]at hst
 have gl:decide (((l.map Chg.av).length:Int) < (((stepsL s t).map Chg.av).length:Int))=false:=decide_eq_false (by rw[List.length_map,List.length_map];omega)
 repeat((conv=>whnf);first|refine sT ?_|rw[gc])
 try(conv=>whnf)
 refine cD (hap) ?_
 refine Wk ?_
 refine cD (hst) ?_
 by_cases h12:(stepsL s t).length < l.length
 ·have g2:decide (((l.map Chg.av).length:Int) > (((stepsL s t).map Chg.av).length:Int))=true:=decide_eq_true (by rw[List.length_map,List.length_map];omega)
  repeat((conv=>whnf);first|refine sT ?_|rw[gl]|rw[g2])
  try(conv=>whnf)
  exact resP.mk rfl (Sees.bool rfl)
 have g2:decide (((l.map Chg.av).length:Int) > (((stepsL s t).map Chg.av).length:Int))=false:=decide_eq_false (by rw[List.length_map,List.length_map];omega)
 by_cases h7:7 < (stepsL s t).length
 ·have g7:decide ((((stepsL s t).map Chg.av).length:Int) > 7)=true:=decide_eq_true (by rw[List.length_map];omega)
  repeat((conv=>whnf);first|refine sT ?_|rw[gl]|rw[g2]|rw[g7])
  try(conv=>whnf)
  exact resP.mk rfl (Sees.bool rfl)
 have g7:decide ((((stepsL s t).map Chg.av).length:Int) > 7)=false:=decide_eq_false (by rw[List.length_map];omega)
 obtain⟨p1,p2⟩:=o3 (by omega) (by omega)
 obtain⟨o,ho1,_,ho2,_⟩:=order_safe p1 (by omega) p2
 have hf:=c_FindO n hn before after (by omega) (by omega) hx1 hx2 s t (by omega) (by omega)
 rw[ho1]at hf
 have g3:(((o.map Chg.av).length:Int)==((l.map Chg.av).length:Int))=true:=by rw[List.length_map,List.length_map,show o.length=l.length by omega];exact beq_self_eq_true _
 repeat((conv=>whnf);first|refine sT ?_|rw[gl]|rw[g2]|rw[g7])
 try(conv=>whnf)
 refine cD (hf) ?_
 repeat((conv=>whnf);first|refine sT ?_|rw[g3])
 try(conv=>whnf)
 exact resP.mk rfl (Sees.bool rfl)
end HM
