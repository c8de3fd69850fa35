/- Sets of steps: the reference builds their schedules. -/
import Derived.Test.YtckcedndijobaaaGreatDoorS103
import Derived.Test.YtckcedndijobaaaGreatDoorDe
import Derived.Test.YtckcedndijobaaaGreatDoorS202
import Derived.Test.YtckcedndijobaaaGreatDoorS138
import Derived.Test.YtckcedndijobaaaGreatDoorS122
set_option maxHeartbeats 64000000
set_option maxRecDepth 100000
namespace HM
open Go Go.RowKit Go.Proofs
section
variable (L:World→Prop)
end
section
variable (L:World→Prop)
end
def few43 (n:Net)(before after:List Req)(s t:Sched):Bool:=few42 n before after s []&&(decide (t.cells.length≤30)&&(decide ((stepsM s t).2≠0)||(decide ((stepsM s t).1.length≤7)||decide (12 < (stepsM s t).1.length))))
theorem few43_len {n:Net}{before after:List Req}{s t:Sched}(h:few43 n before after s t=true):before.length≤3∧after.length≤3∧s.cells.length≤24∧t.cells.length≤30:=by
 unfold few43 at h
 rw[Bool.and_eq_true,Bool.and_eq_true,decide_eq_true_eq]at h
 have:=few42_len h.1
 omega
section
variable (L:World→Prop)
theorem c_Few43 (n:Net)(hn:n.small)(before after:List Req)(hq1:before.length≤281474976710656)(hq2:after.length≤281474976710656)(hx1:∀x∈before,x.small)(hx2:∀x∈after,x.small)(s t:Sched):PCall Tryz.prog L 14 [n.av,encReqs before,encReqs after,s.av,t.av] (.bool (few43 n before after s t)):=by
 refine PCall.intro mixed [] (nt:=43) Tryz.func14 rfl rfl (by simp) ?_
 refine Wk ?_
 refine cD (c_Few42 L n hn before after hq1 hq2 hx1 hx2 s []) ?_
 cases g:few42 n before after s [] with
 | false=>
  repeat((conv=>whnf);first|refine sT ?_ )
  try(conv=>whnf)
  exact resP.mk rfl (Sees.bool (by unfold few43;rw[g];rfl))
 | true=>
 obtain⟨_,_,hs,_⟩:=few42_len g
 by_cases h1:t.cells.length≤30
 rotate_left
 ·have g1:decide ((t.cells.length:Int) > 30)=true:=decide_eq_true (by omega)
  repeat((conv=>whnf);first|refine sT ?_|rw[List.length_map]|rw[g1])
  try(conv=>whnf)
  exact resP.mk rfl (Sees.bool (by unfold few43;rw[decide_eq_false h1];simp))
 have g1:decide ((t.cells.length:Int) > 30)=false:=decide_eq_false (by omega)
 have hf:few43 n before after s t=(decide ((stepsM s t).2≠0)||(decide ((stepsM s t).1.length≤7)||decide (12 < (stepsM s t).1.length))):=by unfold few43;rw[g,decide_eq_true h1];rfl
 rw[hf]
 repeat((conv=>whnf);first|refine sT ?_|rw[List.length_map]|rw[g1])
 try(conv=>whnf)
 refine cD (c_Steps43 L s t (by omega) (by omega)) ?_
 by_cases h2:(stepsM s t).2=0
 rotate_left
 ·have g2:((stepsM s t).2 != 0)=true:=by simpa using h2
  repeat((conv=>whnf);first|refine sT ?_|rw[g2])
  try(conv=>whnf)
  exact resP.mk rfl (Sees.bool (by rw[decide_eq_true h2];rfl))
 have g2:((stepsM s t).2 != 0)=false:=by simpa using h2
 by_cases h3:(stepsM s t).1.length≤7
 ·have g3:decide (((stepsM s t).1.length:Int)≤7)=true:=decide_eq_true (by omega)
  repeat((conv=>whnf);first|refine sT ?_|rw[List.length_map]|rw[g2]|rw[g3])
  try(conv=>whnf)
  exact resP.mk rfl (Sees.bool (by rw[decide_eq_true h3];simp))
 have g3:decide (((stepsM s t).1.length:Int)≤7)=false:=decide_eq_false (by omega)
 repeat((conv=>whnf);first|refine sT ?_|rw[List.length_map]|rw[g2]|rw[g3])
 try(conv=>whnf)
 exact resP.mk rfl (Sees.bool (by rw[decide_eq_false (show ¬(stepsM s t).2≠0 by omega),decide_eq_false h3];simp only[Bool.false_or];exact decide_eq_decide.2 (by omega)))
end
end HM
