/- The schedule behind changes, and the offsets that are used there. -/
import Derived.Test.YtckcedndijobaaaGreatDoorS251
import Derived.Test.YtckcedndijobaaaGreatDoorS250
import Derived.Test.YtckcedndijobaaaGreatDoorS34
import Derived.Test.YtckcedndijobaaaGreatDoorDd
set_option maxRecDepth 100000
namespace HM
open Go Go.RowKit Go.Proofs
theorem upto_at {l:List Chg}{t:Int}{k:Nat}(h:∀(j:Nat) c,j < k→l[j]? = some c→c.slot≤t)(he:∀c,l[k]? = some c→t < c.slot):uptoW l t=l.take k:=by
 unfold uptoW
 induction l generalizing k with
 | nil=>simp
 | cons c l ih=>
  cases k with
  | zero=>
   have:=he c rfl
   rw[List.takeWhile_cons,if_neg (by simp;omega)]
   rfl
  | succ k=>
   have h1:=h 0 c (by omega) rfl
   rw[List.takeWhile_cons,if_pos (by simpa using h1),List.take_succ_cons,ih (fun j d hj hd=>h (j+1) d (by omega) hd) fun d hd=>he d hd]
section
variable (L:World→Prop)
theorem c_CloneCl (l:List Cell)(hl:l.length≤1099511627776):PCall Tryz.prog L 59 [encCells l] (encCells l):=by
 by_cases hne:l=[]
 ·subst hne;exact c_Clone0Cell L
 refine PCall.intro mixed [] (nt:=8) Tryz.func59 rfl rfl (by simp) ?_
 refine Wk ?_
 refine BrK.mk (fun h=>?_) (fun h=>?_)<;>(try rw[h])
 ·exact absurd (by simpa using h) hne
 ·repeat((conv=>whnf);first|refine sJ ?_|refine aI (by first|exact Els.map (f:=Cell.av) (fun x=>⟨cellOk.len x,cellOk.cell x⟩)|exact(show _*40≤_ by simp only[List.length_map,List.length_nil];omega)|exact(by simp only[List.length_map,List.length_nil,maxLen];omega)|kernel_rfl) ?_ )
  try(conv=>whnf)
  exact resP.mk rfl (Sees.of_eq rfl)
end
def apO (s:Sched)(out:List AV):List Ob:=[.cells s.av.cells 24,.cells out 24]
theorem c_ApplyC (s:Sched)(hc:s.cells.length≤1099511627776)(l:List Chg)(hl:l.length≤281474976710656)(t:Int):PCall Tryz.prog LW 25 [s.av,encChgs l,.int .i64 t] (.tup [(applyP s l t).1.av,.int .i64 (applyP s l t).2]):=by
 refine PCall.intro mixed [] (nt:=40) Tryz.func25 rfl rfl (by simp) ?_
 refine Wk ?_
 refine cD (c_wrongC s l hl) ?_
 by_cases hw:wrongE s l≠0
 ·have g:(wrongE s l != 0)=true:=by simpa using hw
  repeat((conv=>whnf);first|refine sT ?_|rw[g])
  try(conv=>whnf)
  exact resP.mk rfl (Sees.of_eq (by unfold applyP;rw[if_pos hw];rfl))
 have g:(wrongE s l != 0)=false:=by simpa using hw
 repeat((conv=>whnf);first|refine sT ?_|rw[g])
 try(conv=>whnf)
 refine cD (c_CloneCl LW s.cells hc) ?_
 repeat((conv=>whnf);first|refine sT ?_ )
 try(conv=>whnf)
 refine LoopK.run mixed [] (fun k:Nat=>k≤l.length∧∀(j:Nat) c,j < k→l[j]? = some c→c.slot≤t) (fun k=>[(2,.int .i64 t),(3,.ptr 0 0),(6,.ptr 1 0),(22,encChgs l),(23,.int .i64 l.length),(24,.int .i64 k)]) (fun k=>⟨apO (afterC s (l.take k)) [.int .i64 0,.int .i64 0,.nils],[],0,0,fun _=>0⟩) (fun k=>l.length-k) 0 ⟨by simp,by simp⟩ ?_ ?_
 ·refine fN ?_<;>repeat' (first|exact fQ|refine And.intro ?_ ?_|exact SeesL.rfl' _|exact Sees.int (by simp))
 rintro k ⟨hk,hinv⟩
 have hend:(∀c,l[k]? = some c→t < c.slot)→applyP s l t=(afterC s (l.take k),0):=fun h=>by
  unfold applyP
  rw[if_neg hw,upto_at hinv h]
 by_cases hkl:k < l.length
 rotate_left
 ·have hke:k=l.length:=by omega
  subst hke
  have gk:decide ((l.length:Int) < (l.length:Int))=false:=decide_eq_false (by omega)
  have hpe:=hend fun c hc=>by rw[List.getElem?_eq_none (by omega)]at hc;cases hc
  repeat((conv=>whnf);first|refine sT ?_|rw[gk])
  try(conv=>whnf)
  exact resP.mk rfl (Sees.of_eq (by rw[hpe];rfl))
 obtain⟨c,hgc⟩:=getLt hkl
 have hmc:=getMap (f:=Chg.av) hgc
 have gk:decide ((k:Int) < (l.length:Int))=true:=decide_eq_true (by omega)
 by_cases hct:t < c.slot
 ·have g2:decide (t < c.slot)=true:=decide_eq_true hct
  have hpe:=hend fun d hd=>by rw[hgc]at hd;injection hd with hd;subst hd;exact hct
  repeat((conv=>whnf);first|refine sJ ?_|refine aI (by first|exact trivial|exact inbMap hkl|kernel_rfl) ?_|rw[gk]|rw[hmc]|rw[g2])
  try(conv=>whnf)
  exact resP.mk rfl (Sees.of_eq (by rw[hpe];rfl))
 ·have g2:decide (t < c.slot)=false:=decide_eq_false hct
  repeat((conv=>whnf);first|refine sJ ?_|refine aI (by first|exact trivial|exact inbMap hkl|kernel_rfl) ?_|rw[gk]|rw[hmc]|rw[g2])
  try(conv=>whnf)
  refine cD (c_appliedC LW (afterC s (l.take k)) c) ?_
  repeat((conv=>whnf);first|refine sT ?_ )
  try(conv=>whnf)
  refine⟨k+1,⟨hkl,fun j d hj hd=>?_⟩,by omega,?_⟩
  ·rcases Nat.lt_succ_iff_lt_or_eq.1 hj with h'|rfl
   ·exact hinv j d h' hd
   ·rw[hgc]at hd;injection hd with hd;subst hd;omega
  ·rw[afterC_snoc hgc]
   refine fN ?_<;>repeat' (first|exact fQ|refine And.intro ?_ ?_|exact SeesL.rfl' _|exact Sees.int (succI hkl (by omega)))
end HM
