/- Sorting links. -/
import Derived.Test.YtggiajmlnieidaaGreatDoorS170
import Derived.Test.YtggiajmlnieidaaGreatDoorSh
import Derived.Test.YtggiajmlnieidaaGreatDoorFh
import Derived.Shelf.Small.Wraps
import Derived.Handy
import Derived.Deep.RegionHeld3
import Derived.Test.YtggiajmlnieidaaGreatDoorS31
import Derived.Test.YtggiajmlnieidaaGreatDoorS53
import Derived.Test.YtggiajmlnieidaaGreatDoorDb
set_option maxHeartbeats 64000000
set_option maxRecDepth 100000
namespace HM
open Go Go.RowKit Go.Proofs
instance:Inhabited yX:=⟨⟨0,0,0⟩⟩
section
variable (L:World→Prop)
end
section
variable (L:World→Prop)
end
section
variable (L:World→Prop)
end
section
variable (L:World→Prop)
def QR (n:zF)(q:List ye)(s:zc):Bool:=(q.all fun x=>XI n YI x.routes)&&(zcg n&&decide ((q.length:Int)≤4)&&decide ((s.cells.length:Int)≤30))
theorem zeB (n:zF)(hn:n.small)(q:List ye)(hq:q.length≤281474976710656)(hx:∀x∈q,x.small)(s:zc):zb Tryz.prog L 47 [n.av,zH q,s.av] (.bool (QR n q s)):=by
 refine zb.intro mixed [] (nt:=36) Tryz.func47 rfl rfl (by simp) ?_
 refine Wk ?_
 refine zt.run mixed [] (fun (k:Nat)=>k≤q.length∧∀j x,j < k→q[j]? = some x→XI n YI x.routes=true) (fun k=>[(1,zH q),(3,.ptr 0 0),(5,.ptr 1 0),(7,.int .i64 k)]) (fun k=>⟨[.cells n.cs 26,.cells [.int .i64 s.len,.int .i64 s.offs,zy s.cells] 30],[],0,0,fun _=>0⟩) (fun k=>q.length-k) 0 ⟨by simp,by simp⟩ ?_ ?_
 ·refine fN ?_<;>repeat' (first|exact fQ|refine And.intro ?_ ?_|exact zn.zj _)
 rintro k ⟨hk,hinv⟩
 refine Wk ?_
 refine zx.mk (fun hb=>?_) (fun hb=>?_)<;>try rw[hb]
 ·have hlt:k < q.length:=by simpa using hb
  obtain⟨x,hgx⟩:=zr hlt
  have hmx:=zk (f:=ye.av) hgx
  have hxm:=List.mem_of_getElem? hgx
  repeat((conv=>whnf);first|refine sJ ?_|refine aI (by first|exact zh hlt|kernel_rfl) ?_|rw[hmx])
  try(conv=>whnf)
  refine cD (zi8 L n YI x.routes hn (hx x hxm).1) ?_
  refine Wk ?_
  refine zx.mk (fun h1=>?_) (fun h1=>?_)<;>(try rw[h1])
  ·have h1':XI n YI x.routes=false:=by simpa using h1
   refine Wk ?_
   exact ze.mk rfl (za.bool (by rw[QR,show(q.all fun x=>XI n YI x.routes)=false from List.all_eq_false.2 ⟨x,hxm,by simp[h1']⟩];rfl))
  ·have h1':XI n YI x.routes=true:=by simpa using h1
   refine Wk ?_
   refine⟨k+1,⟨by omega,fun j y hj hy=>?_⟩,by omega,?_⟩
   ·rcases Nat.lt_succ_iff_lt_or_eq.1 hj with h|rfl
    ·exact hinv j y h hy
    ·rw[hgx]at hy;injection hy with hy;subst hy;exact h1'
   ·refine fN ?_<;>repeat' (first|exact fQ|refine And.intro ?_ ?_|exact za.int (zu hlt (by omega))|exact zn.zj _)
 ·have hk':k=q.length:=by simp at hb;omega
  subst hk'
  have hall:(q.all fun x=>XI n YI x.routes)=true:=by
   rw[List.all_eq_true]
   intro x hx
   obtain⟨j,hj⟩:=List.getElem?_of_mem hx
   exact hinv j x (List.getElem?_eq_some_iff.1 hj).1 hj
  refine Wk ?_
  refine cD (zeC L n hn) ?_
  repeat' ((conv=>whnf);first|refine sI ?_  | (refine zx.mk (fun hb=>?_) (fun hb=>?_)<;>try rw[hb]))
  all_goals try(conv=>whnf)
  all_goals exact ze.mk rfl (za.bool (by rw[QR,hall];simp_all<;>omega))
end
def jU (n:zF)(before after:List ye)(s:zc)(l:List zJ):Bool:=decide ((before.length:Int)≤3)&&(decide ((after.length:Int)≤3)&&(QR n before s&&(QR n after s&&(decide ((s.cells.length:Int)≤24)&&decide ((l.length:Int)≤16)))))
theorem zfz {n:zF}{before after:List ye}{s:zc}{l:List zJ}(h:jU n before after s l=true):before.length≤3∧after.length≤3∧s.cells.length≤24∧l.length≤16:=by
 unfold jU at h
 simp only[Bool.and_eq_true,decide_eq_true_eq]at h
 omega
section
variable (L:World→Prop)
theorem zi7 (n:zF)(hn:n.small)(before after:List ye)(hq1:before.length≤281474976710656)(hq2:after.length≤281474976710656)(hx1:∀x∈before,x.small)(hx2:∀x∈after,x.small)(s:zc)(l:List zJ):zb Tryz.prog L 10 [n.av,zH before,zH after,s.av,zT l] (.bool (jU n before after s l)):=by
 refine zb.intro mixed [] (nt:=42) Tryz.func10 rfl rfl (by simp) ?_
 have hr:∀b,jU n before after s l=b→jU n before after s l=b:=fun _ h=>h
 cases g1:decide ((before.length:Int)≤3) with
 | false=>
  repeat((conv=>whnf);first|refine sT ?_|rw[List.length_map]|rw[g1])
  try(conv=>whnf)
  exact ze.mk rfl (za.bool (by unfold jU;rw[g1];rfl))
 | true=>
 cases g2:decide ((after.length:Int)≤3) with
 | false=>
  repeat((conv=>whnf);first|refine sT ?_|rw[List.length_map]|rw[g1]|rw[g2])
  try(conv=>whnf)
  exact ze.mk rfl (za.bool (by unfold jU;rw[g1,g2];rfl))
 | true=>
 repeat((conv=>whnf);first|refine sT ?_|rw[List.length_map]|rw[g1]|rw[g2])
 try(conv=>whnf)
 refine cD (zeB L n hn before hq1 hx1 s) ?_
 cases g3:QR n before s with
 | false=>
  repeat((conv=>whnf);first|refine sT ?_ )
  try(conv=>whnf)
  exact ze.mk rfl (za.bool (by unfold jU;rw[g1,g2,g3];rfl))
 | true=>
 repeat((conv=>whnf);first|refine sT ?_ )
 try(conv=>whnf)
 refine cD (zeB L n hn after hq2 hx2 s) ?_
 cases g4:QR n after s with
 | false=>
  repeat((conv=>whnf);first|refine sT ?_ )
  try(conv=>whnf)
  exact ze.mk rfl (za.bool (by unfold jU;rw[g1,g2,g3,g4];rfl))
 | true=>
 cases g5:decide ((s.cells.length:Int)≤24) with
 | false=>
  repeat((conv=>whnf);first|refine sT ?_|rw[List.length_map]|rw[g5])
  try(conv=>whnf)
  exact ze.mk rfl (za.bool (by unfold jU;rw[g1,g2,g3,g4,g5];rfl))
 | true=>
 cases g6:decide ((l.length:Int)≤16) with
 | false=>
  repeat((conv=>whnf);first|refine sT ?_|rw[List.length_map]|rw[g5]|rw[g6])
  try(conv=>whnf)
  exact ze.mk rfl (za.bool (by unfold jU;rw[g1,g2,g3,g4,g5,g6];rfl))
 | true=>
  repeat((conv=>whnf);first|refine sT ?_|rw[List.length_map]|rw[g5]|rw[g6])
  try(conv=>whnf)
  exact ze.mk rfl (za.bool (by unfold jU;rw[g1,g2,g3,g4,g5,g6];rfl))
end
end HM
