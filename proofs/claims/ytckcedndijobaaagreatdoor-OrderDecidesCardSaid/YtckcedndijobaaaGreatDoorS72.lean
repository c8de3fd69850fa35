/- What a run is made of; deliveries. -/
import Derived.Test.YtckcedndijobaaaGreatDoorS6
import Derived.Test.YtckcedndijobaaaGreatDoorS68
import Derived.Test.YtckcedndijobaaaGreatDoorS53
set_option maxRecDepth 100000
namespace HM
open Go Go.RowKit Go.Proofs
theorem c_ready (l:List Flow)(s:Sched)(x:List Rule)(slots:Int)(hl:l.length≤281474976710656)(hx:∀r∈x,r.outs.length≤281474976710656)(hxl:x.length≤281474976710656) :
  PCall Tryz.prog LW 159 [encFlows l,s.av,encScript x,.int .i64 slots] (.int .i64 (readyM l s x slots)):=by
 refine PCall.intro mixed [] (nt:=42) Tryz.func159 rfl rfl (by simp) ?_
 refine Wk ?_
 refine cD (c_FCheck LW 32 l hl) ?_
 refine Wk ?_
 refine BrK.mk (fun h1=>?_) (fun h1=>?_)<;>(try rw[h1])
 ·refine Wk ?_
  exact resP.mk rfl (Sees.int (by rw[readyM,if_pos (.inl (by simpa using h1))]))
 have h1':(flowsE 32 l).2=0:=by simpa using h1
 refine Wk ?_
 refine cD (c_Print s) ?_
 refine Wk ?_
 cases hf:formB s with
 | false=>
  refine Wk ?_
  exact resP.mk rfl (Sees.int (by rw[readyM,if_pos (.inr (.inl hf))]))
 | true=>
  refine Wk ?_
  refine cD (c_XCheck LW x hx hxl) ?_
  refine Wk ?_
  refine BrK.mk (fun h2=>?_) (fun h2=>?_)<;>(try rw[h2])
  ·refine Wk ?_
   exact resP.mk rfl (Sees.int (by rw[readyM,if_pos (.inr (.inr (by simpa using h2)))]))
  have h2':(scriptM x).2=0:=by simpa using h2
  have hno:¬((flowsE 32 l).2≠0∨formB s=false∨(scriptM x).2≠0):=by simp[h1',hf,h2']
  refine Wk ?_
  refine BrK.mk (fun h3=>?_) (fun h3=>?_)<;>(try rw[h3])
  ·refine Wk ?_
   exact resP.mk rfl (Sees.int (by rw[readyM,if_neg hno,if_pos (.inl (by simpa using h3))]))
  refine Wk ?_
  refine BrK.mk (fun h4=>?_) (fun h4=>?_)<;>(try rw[h4])
  ·refine Wk ?_
   exact resP.mk rfl (Sees.int (by rw[readyM,if_neg hno,if_pos (.inr (by simpa using h4))]))
  ·refine Wk ?_
   exact resP.mk rfl (Sees.int (by rw[readyM,if_neg hno,if_neg (by simp at h3 h4;omega)]))
section
variable (L:World→Prop)
end
end HM
