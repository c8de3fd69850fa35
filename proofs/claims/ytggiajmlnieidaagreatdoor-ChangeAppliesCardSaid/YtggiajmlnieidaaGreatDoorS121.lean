/- Equal lists of numbers: the reference. -/
import Derived.Test.YtggiajmlnieidaaGreatDoorS1
import Derived.Test.YtggiajmlnieidaaGreatDoorDa
import Derived.Test.YtggiajmlnieidaaGreatDoorDb
set_option maxHeartbeats 64000000
set_option maxRecDepth 100000
namespace HM
open Go Go.RowKit Go.Proofs
section
variable (L:World→Prop)
theorem c_SameInts31 (a b:List Int)(ha:a.length≤281474976710656):PCall Tryz.prog L 167 [encIs a,encIs b] (.bool (decide (a=b))):=by
 refine PCall.intro mixed [] (nt:=26) Tryz.func167 rfl rfl (by simp) ?_
 refine Wk ?_
 refine BrK.mk (fun h1=>?_) (fun h1=>?_)<;>(try rw[h1])
 ·have hne:a.length≠b.length:=by simp at h1;omega
  refine Wk ?_
  exact resP.mk rfl (Sees.bool (by rw[decide_eq_false (fun h=>hne (by rw[h]))]))
 have hl:a.length=b.length:=by simp at h1;omega
 refine Wk ?_
 refine LoopK.run mixed [] (fun (k:Nat)=>k≤a.length∧∀(j:Nat) x y,j < k→a[j]? = some x→b[j]? = some y→x=y) (fun k=>[(0,encIs a),(1,encIs b),(5,.int .i64 k)]) (fun k=>St.none) (fun k=>a.length-k) 0 ⟨by simp,by simp⟩ ?_ ?_
 ·refine fN ?_<;>repeat' (first|exact fQ|refine And.intro ?_ ?_|exact Sees.int (by simp))
 rintro k ⟨hk,hinv⟩
 refine Wk ?_
 refine BrK.mk (fun hb=>?_) (fun hb=>?_)<;>try rw[hb]
 ·have hkt:k < a.length:=by simpa using hb
  obtain⟨x,hgx⟩:=getLt hkt
  obtain⟨y,hgy⟩:=getLt (l:=b) (k:=k) (by omega)
  have hmx:=getMap (f:=encI) hgx
  have hmy:=getMap (f:=encI) hgy
  repeat((conv=>whnf);first|refine sJ ?_|refine aI (by first|exact inbMap hkt|exact inbMap (by omega:k < b.length)|kernel_rfl) ?_|rw[hmx]|rw[hmy])
  try(conv=>whnf)
  refine BrK.mk (fun h2=>?_) (fun h2=>?_)<;>(try rw[h2])
  ·have hne:¬a=b:=fun h=>by
    subst h
    rw[hgx]at hgy
    injection hgy with hgy
    subst hgy
    simp at h2
   refine Wk ?_
   exact resP.mk rfl (Sees.bool (by rw[decide_eq_false hne]))
  ·have hxy:x=y:=by simpa using h2
   refine Wk ?_
   refine⟨k+1,⟨by omega,fun j x' y' hj hx' hy'=>?_⟩,by omega,?_⟩
   ·rcases Nat.lt_succ_iff_lt_or_eq.1 hj with h|rfl
    ·exact hinv j x' y' h hx' hy'
    ·rw[hgx]at hx';rw[hgy]at hy';injection hx' with hx';injection hy' with hy';rw[←hx',←hy',hxy]
   ·refine fN ?_<;>repeat' (first|exact fQ|refine And.intro ?_ ?_|exact Sees.int (succI hkt ha))
 ·have hkn:k=a.length:=by simp at hb;omega
  subst hkn
  refine Wk ?_
  exact resP.mk rfl (Sees.bool (by rw[decide_eq_true (eq_of_at hl hinv)]))
end
section
variable (L:World→Prop)
theorem c_SameCells35 (a:List Cell)(ha:a.length≤281474976710656):PCall Tryz.prog L 70 [encCells a,encCells a] (.bool true):=by
 refine PCall.intro mixed [] (nt:=26) Tryz.func70 rfl rfl (by simp) ?_
 refine Wk ?_
 rw[bne_self_eq_false]
 refine Wk ?_
 refine LoopK.run mixed [] (fun (k:Nat)=>k≤a.length) (fun k=>[(0,encCells a),(1,encCells a),(5,.int .i64 k)]) (fun k=>St.none) (fun k=>a.length-k) 0 (by simp) ?_ ?_
 ·refine fN ?_<;>repeat' (first|exact fQ|refine And.intro ?_ ?_|exact Sees.int (by simp))
 rintro k hk
 refine Wk ?_
 refine BrK.mk (fun hb=>?_) (fun hb=>?_)<;>try rw[hb]
 ·have hkt:k < a.length:=by simpa using hb
  obtain⟨x,hgx⟩:=getLt hkt
  have hmx:=getMap (f:=Cell.av) hgx
  repeat((conv=>whnf);first|refine sJ ?_|refine aI (by first|exact inbMap hkt|kernel_rfl) ?_|rw[hmx])
  try(conv=>whnf)
  refine BrK.mk (fun h2=>?_) (fun h2=>?_)<;>(try rw[h2])
  ·exfalso;simp at h2
  ·refine Wk ?_
   refine⟨k+1,by omega,by omega,?_⟩
   refine fN ?_<;>repeat' (first|exact fQ|refine And.intro ?_ ?_|exact Sees.int (succI hkt ha))
 ·refine Wk ?_
  exact resP.mk rfl (Sees.bool rfl)
end
theorem c_Same35 (L:World→Prop)(a:Sched)(ha:a.cells.length≤281474976710656):PCall Tryz.prog L 26 [a.av,a.av] (.bool true):=by
 refine PCall.intro mixed [] (nt:=24) Tryz.func26 rfl rfl (by simp) ?_
 repeat((conv=>whnf);first|refine sT ?_|rw[beq_self_eq_true])
 try(conv=>whnf)
 refine cD (c_SameCells35 L a.cells ha) ?_
 refine Wk ?_
 exact resP.mk rfl (Sees.bool rfl)
end HM
