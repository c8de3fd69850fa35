/- The guard of networks. -/
import Derived.Test.YtckcedndijobaaaGreatDoorS33
import Derived.Test.YtckcedndijobaaaGreatDoorS38
import Derived.Test.YtckcedndijobaaaGreatDoorS53
set_option maxHeartbeats 64000000
set_option maxRecDepth 100000
namespace HM
open Go Go.RowKit Go.Proofs
section
variable (L:World→Prop)
def few31 (n:Net):Bool:=!(n.power.any fun r=>decide ((40:Int) < r.length))&&decide ((n.power.length:Int)≤8)&&decide ((n.links.length:Int)≤60)&&decide ((n.margin.length:Int)≤60)
theorem c_Few31 (n:Net)(hn:n.small):PCall Tryz.prog L 104 [n.av] (.bool (few31 n)):=by
 have hn1:=hn.1
 refine PCall.intro mixed [] (nt:=34) Tryz.func104 rfl rfl (by simp) ?_
 refine Wk ?_
 refine LoopK.run mixed [] (fun (k:Nat)=>k≤n.power.length∧∀j x,j < k→n.power[j]? = some x→¬(40:Int) < x.length) (fun k=>[(1,.ptr 0 0),(3,.int .i64 k)]) (fun k=>⟨[.cells [.int .i64 n.nodes,encRows n.power,.int .i64 n.noise,.int .i64 n.thr,encLinks n.links,encIs n.margin] 36],[],0,0,fun _=>0⟩) (fun k=>n.power.length-k) 0 ⟨by simp,by simp⟩ ?_ ?_
 ·refine fN ?_<;>repeat' (first|exact fQ|refine And.intro ?_ ?_|exact SeesL.rfl' _)
 rintro k ⟨hk,hinv⟩
 refine Wk ?_
 refine BrK.mk (fun h1=>?_) (fun h1=>?_)<;>(try rw[h1])
 ·have hlt:k < n.power.length:=by simpa using h1
  obtain⟨r,hgr⟩:=getLt hlt
  have hmr:=getMap (f:=fun r:List Int=>encIs r) hgr
  repeat((conv=>whnf);first|refine sJ ?_|refine aI (by first|exact inbMap hlt|kernel_rfl) ?_|rw[hmr])
  try(conv=>whnf)
  refine BrK.mk (fun h2=>?_) (fun h2=>?_)<;>(try rw[h2])
  ·have h2':(40:Int) < r.length:=by simpa using h2
   refine Wk ?_
   exact resP.mk rfl (Sees.bool (by rw[few31,show(n.power.any fun r=>decide ((40:Int) < r.length))=true from List.any_eq_true.2 ⟨r,List.mem_of_getElem? hgr,by simpa using h2'⟩];rfl))
  ·have h2':¬(40:Int) < r.length:=by simpa using h2
   refine Wk ?_
   refine⟨k+1,⟨by omega,fun j x hj hx=>?_⟩,by omega,?_⟩
   ·rcases Nat.lt_succ_iff_lt_or_eq.1 hj with hj|rfl
    ·exact hinv j x hj hx
    ·rw[hgr]at hx;injection hx with hx;subst hx;exact h2'
   ·refine fN ?_<;>repeat' (first|exact fQ|refine And.intro ?_ ?_|exact SeesL.rfl' _|exact Sees.int (succI hlt (by omega)))
 ·have hkl:k=n.power.length:=by simp at h1;omega
  have hany:(n.power.any fun r=>decide ((40:Int) < r.length))=false:=by
   rw[List.any_eq_false]
   intro x hx
   obtain⟨j,hj⟩:=List.getElem?_of_mem hx
   simpa using hinv j x (by have:=(List.getElem?_eq_some_iff.1 hj).1;omega) hj
  refine Wk ?_
  repeat' ((conv=>whnf);first|refine sI ?_  | (refine BrK.mk (fun hb=>?_) (fun hb=>?_)<;>try rw[hb]))
  all_goals try(conv=>whnf)
  all_goals exact resP.mk rfl (Sees.bool (by rw[few31,hany];simp_all<;>omega))
def few37 (n:Net)(s:Sched)(l:List (List Int)):Bool:=!(l.any fun r=>decide ((12:Int) < r.length))&&(few31 n&&decide ((s.cells.length:Int)≤24)&&decide ((l.length:Int)≤3))
theorem c_Few37 (n:Net)(s:Sched)(l:List (List Int))(hn:n.small)(hl:l.length≤281474976710656):PCall Tryz.prog L 103 [n.av,s.av,encRows l] (.bool (few37 n s l)):=by
 refine PCall.intro mixed [] (nt:=33) Tryz.func103 rfl rfl (by simp) ?_
 refine Wk ?_
 refine LoopK.run mixed [] (fun (k:Nat)=>k≤l.length∧∀j x,j < k→l[j]? = some x→¬(12:Int) < x.length) (fun k=>[(2,encRows l),(3,.ptr 0 0),(4,.ptr 1 0),(7,.int .i64 k)]) (fun k=>⟨[.cells [.int .i64 n.nodes,encRows n.power,.int .i64 n.noise,.int .i64 n.thr,encLinks n.links,encIs n.margin] 36,.cells [.int .i64 s.len,.int .i64 s.offs,encCells s.cells] 24],[],0,0,fun _=>0⟩) (fun k=>l.length-k) 0 ⟨by simp,by simp⟩ ?_ ?_
 ·refine fN ?_<;>repeat' (first|exact fQ|refine And.intro ?_ ?_|exact SeesL.rfl' _)
 rintro k ⟨hk,hinv⟩
 refine Wk ?_
 refine BrK.mk (fun h1=>?_) (fun h1=>?_)<;>(try rw[h1])
 ·have hlt:k < l.length:=by simpa using h1
  obtain⟨r,hgr⟩:=getLt hlt
  have hmr:=getMap (f:=fun r:List Int=>encIs r) hgr
  repeat((conv=>whnf);first|refine sJ ?_|refine aI (by first|exact inbMap hlt|kernel_rfl) ?_|rw[hmr])
  try(conv=>whnf)
  refine BrK.mk (fun h2=>?_) (fun h2=>?_)<;>(try rw[h2])
  ·have h2':(12:Int) < r.length:=by simpa using h2
   refine Wk ?_
   exact resP.mk rfl (Sees.bool (by rw[few37,show(l.any fun r=>decide ((12:Int) < r.length))=true from List.any_eq_true.2 ⟨r,List.mem_of_getElem? hgr,by simpa using h2'⟩];rfl))
  ·have h2':¬(12:Int) < r.length:=by simpa using h2
   refine Wk ?_
   refine⟨k+1,⟨by omega,fun j x hj hx=>?_⟩,by omega,?_⟩
   ·rcases Nat.lt_succ_iff_lt_or_eq.1 hj with hj|rfl
    ·exact hinv j x hj hx
    ·rw[hgr]at hx;injection hx with hx;subst hx;exact h2'
   ·refine fN ?_<;>repeat' (first|exact fQ|refine And.intro ?_ ?_|exact SeesL.rfl' _|exact Sees.int (succI hlt (by omega)))
 ·have hkl:k=l.length:=by simp at h1;omega
  have hany:(l.any fun r=>decide ((12:Int) < r.length))=false:=by
   rw[List.any_eq_false]
   intro x hx
   obtain⟨j,hj⟩:=List.getElem?_of_mem hx
   simpa using hinv j x (by have:=(List.getElem?_eq_some_iff.1 hj).1;omega) hj
  refine Wk ?_
  refine cD (c_Few31 L n hn) ?_
  repeat' ((conv=>whnf);first|refine sI ?_  | (refine BrK.mk (fun hb=>?_) (fun hb=>?_)<;>try rw[hb]))
  all_goals try(conv=>whnf)
  all_goals exact resP.mk rfl (Sees.bool (by rw[few37,hany];simp_all<;>omega))
end
section
variable (L:World→Prop)
end
theorem c_BLeast (n:Net)(s:Sched)(f:Flow)(l:List (List Int))(hn:n.small)(hc:s.cells.length≤281474976710656)(hr:∀r∈l,r.length≤281474976710656)(hl0:l.length≤281474976710656) :
  PCall Tryz.prog LW 97 [n.av,s.av,f.av,encRows l] (.tup [.int .i64 (leastM n s f l).1,.int .i64 (leastM n s f l).2]):=by
 refine PCall.intro mixed [] (nt:=71) Tryz.func97 rfl rfl (by simp) ?_
 refine Wk ?_
 refine BrK.mk (fun h0=>?_) (fun h0=>?_)<;>(try rw[h0])
 ·have h0':l.length=0:=by simpa using h0
  refine Wk ?_
  exact resP.mk rfl (Sees.of_eq (by rw[leastM,if_pos h0']))
 have h0':¬l.length=0:=by simpa using h0
 refine Wk ?_
 refine LoopK.run mixed [] (fun (k:Nat)=>k≤l.length∧∀j x,j < k→l[j]? = some x→wayE n s f x=0) (fun k=>[(3,encRows l),(4,.ptr 0 0),(5,.ptr 1 0),(6,.ptr 2 0),(23,encRows l),(24,.int .i64 l.length),(25,.int .i64 k)]) (fun k=>⟨sl37 n s f,[],0,0,fun _=>0⟩) (fun k=>l.length-k) 0 ⟨by simp,by simp⟩ ?_ ?_
 ·refine fN ?_<;>repeat' (first|exact fQ|refine And.intro ?_ ?_|exact SeesL.rfl' _|exact Sees.int (by simp))
 rintro k ⟨hk,hinv⟩
 refine Wk ?_
 refine BrK.mk (fun h1=>?_) (fun h1=>?_)<;>(try rw[h1])
 ·have hlt:k < l.length:=by simpa using h1
  obtain⟨r,hgr⟩:=getLt hlt
  have hmr:=getMap (f:=fun r:List Int=>encIs r) hgr
  have hrm:=hr r (List.mem_of_getElem? hgr)
  repeat((conv=>whnf);first|refine sJ ?_|refine aI (by first|exact inbMap hlt|kernel_rfl) ?_|rw[hmr])
  try(conv=>whnf)
  refine cD (c_wcheck ⟨n,s,f,r,0⟩ hn hc hrm) ?_
  refine Wk ?_
  refine BrK.mk (fun h2=>?_) (fun h2=>?_)<;>(try rw[h2])
  ·have hw:wayE n s f r≠0:=by simpa using h2
   have hfw:=firstW_at hgr hinv hw
   refine Wk ?_
   exact resP.mk rfl (Sees.of_eq (by rw[leastM,if_neg h0',if_pos (by rw[hfw];exact hw),hfw]))
  ·have hw:wayE n s f r=0:=by simpa using h2
   refine Wk ?_
   refine⟨k+1,⟨by omega,fun j x hj hx=>?_⟩,by omega,?_⟩
   ·rcases Nat.lt_succ_iff_lt_or_eq.1 hj with hj|rfl
    ·exact hinv j x hj hx
    ·rw[hgr]at hx;injection hx with hx;subst hx;exact hw
   ·refine fN ?_<;>repeat' (first|exact fQ|refine And.intro ?_ ?_|exact SeesL.rfl' _|exact Sees.int (succI hlt (by omega)))
 ·have hkl:k=l.length:=by simp at h1;omega
  subst hkl
  have hall:∀j x,l[j]? = some x→wayE n s f x=0:=fun j x hx=>hinv j x (List.getElem?_eq_some_iff.1 hx).1 hx
  have hfw:firstW n s f l=0:=firstW_zero hall
  clear hinv
  refine Wk ?_
  refine LoopK.run mixed [] (fun (j:Nat)=>j≤l.length) (fun j=>[(4,.ptr 0 0),(5,.ptr 1 0),(6,.ptr 2 0),(13,.int .i64 (leastF n s f (l.take j))),(39,encRows l),(40,.int .i64 l.length),(41,.int .i64 j)]) (fun j=>⟨sl37 n s f,[],0,0,fun _=>0⟩) (fun j=>l.length-j) 0 (by simp) ?_ ?_
  ·refine fN ?_<;>repeat' (first|exact fQ|refine And.intro ?_ ?_|exact SeesL.rfl' _|exact Sees.int (by simp))
  rintro k hk
  refine Wk ?_
  refine BrK.mk (fun h1=>?_) (fun h1=>?_)<;>(try rw[h1])
  ·have hlt:k < l.length:=by simpa using h1
   obtain⟨r,hgr⟩:=getLt hlt
   have hmr:=getMap (f:=fun r:List Int=>encIs r) hgr
   have hw:=hall k r hgr
   have hF:=leastF_take (n:=n) (s:=s) (f:=f) hgr
   repeat((conv=>whnf);first|refine sJ ?_|refine aI (by first|exact inbMap hlt|kernel_rfl) ?_|rw[hmr])
   try(conv=>whnf)
   refine cD (c_bound ⟨n,s,f,r,0⟩ hn (wayE_ok hw) (wayE_net hw) (Int.le_refl _) (by show(0:Int)≤8;omega)) ?_
   cases hB:boundR n s f r 0 with
   | none=>
    have hS:leastS n s f (leastF n s f (l.take k)) r=leastF n s f (l.take k):=by rw[leastS,hB]
    refine Wk ?_
    refine⟨k+1,by omega,by omega,?_⟩
    refine fN ?_<;>repeat' (first|exact fQ|refine And.intro ?_ ?_|exact SeesL.rfl' _|exact Sees.int (succI hlt (by omega))|exact Sees.int (by rw[hF,hS]))
   | some x=>
    have hS:leastS n s f (leastF n s f (l.take k)) r=if leastF n s f (l.take k)=0∨x.b < leastF n s f (l.take k) then x.b else leastF n s f (l.take k):=by rw[leastS,hB]
    refine Wk ?_
    refine BrK.mk (fun h2=>?_) (fun h2=>?_)<;>(try rw[h2])
    ·rw[if_pos (.inl (by simpa using h2))]at hS
     refine Wk ?_
     refine⟨k+1,by omega,by omega,?_⟩
     refine fN ?_<;>repeat' (first|exact fQ|refine And.intro ?_ ?_|exact SeesL.rfl' _|exact Sees.int (succI hlt (by omega))|exact Sees.int (by rw[hF,hS]))
    ·refine Wk ?_
     refine BrK.mk (fun h3=>?_) (fun h3=>?_)<;>(try rw[h3])
     ·rw[if_pos (.inr (by simpa using h3))]at hS
      refine Wk ?_
      refine⟨k+1,by omega,by omega,?_⟩
      refine fN ?_<;>repeat' (first|exact fQ|refine And.intro ?_ ?_|exact SeesL.rfl' _|exact Sees.int (succI hlt (by omega))|exact Sees.int (by rw[hF,hS]))
     ·rw[if_neg (by simp at h2 h3;omega)]at hS
      refine Wk ?_
      refine⟨k+1,by omega,by omega,?_⟩
      refine fN ?_<;>repeat' (first|exact fQ|refine And.intro ?_ ?_|exact SeesL.rfl' _|exact Sees.int (succI hlt (by omega))|exact Sees.int (by rw[hF,hS]))
  ·have hkl:k=l.length:=by simp at h1;omega
   subst hkl
   rw[List.take_length]
   refine Wk ?_
   refine BrK.mk (fun h2=>?_) (fun h2=>?_)<;>(try rw[h2])
   ·have h2':leastF n s f l=0:=by simpa using h2
    refine Wk ?_
    exact resP.mk rfl (Sees.of_eq (by rw[leastM,if_neg h0',if_neg (by simpa using hfw),if_pos h2']))
   ·have h2':leastF n s f l≠0:=by simpa using h2
    refine Wk ?_
    exact resP.mk rfl (Sees.of_eq (by rw[leastM,if_neg h0',if_neg (by simpa using hfw),if_neg h2']))
end HM
