/- Sorting links. -/
import Derived.Test.YtckcedndijobaaaGreatDoorS53
import Derived.Test.YtckcedndijobaaaGreatDoorSh
import Derived.Test.YtckcedndijobaaaGreatDoorFh
import Derived.Shelf.Small.Wraps
import Derived.Handy
import Derived.Deep.RegionHeld3
import Derived.Test.YtckcedndijobaaaGreatDoorS30
import Derived.Test.YtckcedndijobaaaGreatDoorS103
import Derived.Test.YtckcedndijobaaaGreatDoorS33
import Derived.Test.YtckcedndijobaaaGreatDoorS114
import Derived.Test.YtckcedndijobaaaGreatDoorDb
set_option maxHeartbeats 64000000
set_option maxRecDepth 100000
namespace HM
open Go Go.RowKit Go.Proofs
instance:Inhabited Link:=⟨⟨0,0,0⟩⟩
section
variable (L:World→Prop)
end
section
variable (L:World→Prop)
end
section
variable (L:World→Prop)
end
section
variable (L:World→Prop)
end
section
variable (L:World→Prop)
def few38 (n:Net)(q:List Req)(s:Sched):Bool:=(q.all fun x=>few37 n sched0 x.routes)&&(few31 n&&decide ((q.length:Int)≤4)&&decide ((s.cells.length:Int)≤30))
theorem c_Few38 (n:Net)(hn:n.small)(q:List Req)(hq:q.length≤281474976710656)(hx:∀x∈q,x.small)(s:Sched):PCall Tryz.prog L 63 [n.av,encReqs q,s.av] (.bool (few38 n q s)):=by
 refine PCall.intro mixed [] (nt:=36) Tryz.func63 rfl rfl (by simp) ?_
 refine Wk ?_
 refine LoopK.run mixed [] (fun (k:Nat)=>k≤q.length∧∀j x,j < k→q[j]? = some x→few37 n sched0 x.routes=true) (fun k=>[(1,encReqs q),(3,.ptr 0 0),(5,.ptr 1 0),(7,.int .i64 k)]) (fun k=>⟨[.cells n.cs 36,.cells [.int .i64 s.len,.int .i64 s.offs,encCells s.cells] 24],[],0,0,fun _=>0⟩) (fun k=>q.length-k) 0 ⟨by simp,by simp⟩ ?_ ?_
 ·refine fN ?_<;>repeat' (first|exact fQ|refine And.intro ?_ ?_|exact SeesL.rfl' _)
 rintro k ⟨hk,hinv⟩
 refine Wk ?_
 refine BrK.mk (fun hb=>?_) (fun hb=>?_)<;>try rw[hb]
 ·have hlt:k < q.length:=by simpa using hb
  obtain⟨x,hgx⟩:=getLt hlt
  have hmx:=getMap (f:=Req.av) hgx
  have hxm:=List.mem_of_getElem? hgx
  repeat((conv=>whnf);first|refine sJ ?_|refine aI (by first|exact inbMap hlt|kernel_rfl) ?_|rw[hmx])
  try(conv=>whnf)
  refine cD (c_Few37 L n sched0 x.routes hn (hx x hxm).1) ?_
  refine Wk ?_
  refine BrK.mk (fun h1=>?_) (fun h1=>?_)<;>(try rw[h1])
  ·have h1':few37 n sched0 x.routes=false:=by simpa using h1
   refine Wk ?_
   exact resP.mk rfl (Sees.bool (by rw[few38,show(q.all fun x=>few37 n sched0 x.routes)=false from List.all_eq_false.2 ⟨x,hxm,by simp[h1']⟩];rfl))
  ·have h1':few37 n sched0 x.routes=true:=by simpa using h1
   refine Wk ?_
   refine⟨k+1,⟨by omega,fun j y hj hy=>?_⟩,by omega,?_⟩
   ·rcases Nat.lt_succ_iff_lt_or_eq.1 hj with h|rfl
    ·exact hinv j y h hy
    ·rw[hgx]at hy;injection hy with hy;subst hy;exact h1'
   ·refine fN ?_<;>repeat' (first|exact fQ|refine And.intro ?_ ?_|exact Sees.int (succI hlt (by omega))|exact SeesL.rfl' _)
 ·have hk':k=q.length:=by simp at hb;omega
  subst hk'
  have hall:(q.all fun x=>few37 n sched0 x.routes)=true:=by
   rw[List.all_eq_true]
   intro x hx
   obtain⟨j,hj⟩:=List.getElem?_of_mem hx
   exact hinv j x (List.getElem?_eq_some_iff.1 hj).1 hj
  refine Wk ?_
  refine cD (c_Few31 L n hn) ?_
  repeat' ((conv=>whnf);first|refine sI ?_  | (refine BrK.mk (fun hb=>?_) (fun hb=>?_)<;>try rw[hb]))
  all_goals try(conv=>whnf)
  all_goals exact resP.mk rfl (Sees.bool (by rw[few38,hall];simp_all<;>omega))
end
def few42 (n:Net)(before after:List Req)(s:Sched)(l:List Chg):Bool:=decide ((before.length:Int)≤3)&&(decide ((after.length:Int)≤3)&&(few38 n before s&&(few38 n after s&&(decide ((s.cells.length:Int)≤24)&&decide ((l.length:Int)≤16)))))
theorem few42_len {n:Net}{before after:List Req}{s:Sched}{l:List Chg}(h:few42 n before after s l=true):before.length≤3∧after.length≤3∧s.cells.length≤24∧l.length≤16:=by
 unfold few42 at h
 simp only[Bool.and_eq_true,decide_eq_true_eq]at h
 omega
section
variable (L:World→Prop)
theorem c_Few42 (n:Net)(hn:n.small)(before after:List Req)(hq1:before.length≤281474976710656)(hq2:after.length≤281474976710656)(hx1:∀x∈before,x.small)(hx2:∀x∈after,x.small)(s:Sched)(l:List Chg):PCall Tryz.prog L 30 [n.av,encReqs before,encReqs after,s.av,encChgs l] (.bool (few42 n before after s l)):=by
 refine PCall.intro mixed [] (nt:=42) Tryz.func30 rfl rfl (by simp) ?_
 have hr:∀b,few42 n before after s l=b→few42 n before after s l=b:=fun _ h=>h
 cases g1:decide ((before.length:Int)≤3) with
 | false=>
  repeat((conv=>whnf);first|refine sT ?_|rw[List.length_map]|rw[g1])
  try(conv=>whnf)
  exact resP.mk rfl (Sees.bool (by unfold few42;rw[g1];rfl))
 | true=>
 cases g2:decide ((after.length:Int)≤3) with
 | false=>
  repeat((conv=>whnf);first|refine sT ?_|rw[List.length_map]|rw[g1]|rw[g2])
  try(conv=>whnf)
  exact resP.mk rfl (Sees.bool (by unfold few42;rw[g1,g2];rfl))
 | true=>
 repeat((conv=>whnf);first|refine sT ?_|rw[List.length_map]|rw[g1]|rw[g2])
 try(conv=>whnf)
 refine cD (c_Few38 L n hn before hq1 hx1 s) ?_
 cases g3:few38 n before s with
 | false=>
  repeat((conv=>whnf);first|refine sT ?_ )
  try(conv=>whnf)
  exact resP.mk rfl (Sees.bool (by unfold few42;rw[g1,g2,g3];rfl))
 | true=>
 repeat((conv=>whnf);first|refine sT ?_ )
 try(conv=>whnf)
 refine cD (c_Few38 L n hn after hq2 hx2 s) ?_
 cases g4:few38 n after s with
 | false=>
  repeat((conv=>whnf);first|refine sT ?_ )
  try(conv=>whnf)
  exact resP.mk rfl (Sees.bool (by unfold few42;rw[g1,g2,g3,g4];rfl))
 | true=>
 cases g5:decide ((s.cells.length:Int)≤24) with
 | false=>
  repeat((conv=>whnf);first|refine sT ?_|rw[List.length_map]|rw[g5])
  try(conv=>whnf)
  exact resP.mk rfl (Sees.bool (by unfold few42;rw[g1,g2,g3,g4,g5];rfl))
 | true=>
 cases g6:decide ((l.length:Int)≤16) with
 | false=>
  repeat((conv=>whnf);first|refine sT ?_|rw[List.length_map]|rw[g5]|rw[g6])
  try(conv=>whnf)
  exact resP.mk rfl (Sees.bool (by unfold few42;rw[g1,g2,g3,g4,g5,g6];rfl))
 | true=>
  repeat((conv=>whnf);first|refine sT ?_|rw[List.length_map]|rw[g5]|rw[g6])
  try(conv=>whnf)
  exact resP.mk rfl (Sees.bool (by unfold few42;rw[g1,g2,g3,g4,g5,g6];rfl))
end
end HM
