/- Changes: how many there are up to a slot. -/
import Derived.Test.YtckcedndijobaaaGreatDoorS34
import Derived.Test.YtckcedndijobaaaGreatDoorFh
import Derived.Test.YtckcedndijobaaaGreatDoorS103
import Derived.Test.YtckcedndijobaaaGreatDoorDa
import Derived.Test.YtckcedndijobaaaGreatDoorDd
set_option maxHeartbeats 64000000
set_option maxRecDepth 100000
namespace HM
open Go Go.RowKit Go.Proofs
section
variable (L:World→Prop)
theorem chgOk:EncOk Chg.av 7:=⟨fun _=>rfl,fun _=>rfl,fun _=>rfl,fun _=>rfl,by decide⟩
theorem c_Clone0Chg:PCall Tryz.prog L 29 [.sl false (([]:List Chg).map Chg.av)] (.sl false (([]:List Chg).map Chg.av)):=by
 refine PCall.intro mixed [] (nt:=8) Tryz.func29 rfl rfl (by simp) ?_
 refine Wk ?_
 intro b
 cases b
 ·repeat((conv=>whnf);first|refine sJ ?_|refine aI (by first|exact Els.map (f:=Chg.av) (fun x=>⟨(chgOk).len x,(chgOk).cell x⟩)|kernel_rfl) ?_ )
  try(conv=>whnf)
  exact resP.mk rfl (Sees.of_eq rfl)
 ·refine Wk ?_
  exact resP.mk rfl (Sees.of_eq rfl)
theorem c_CloneChg (l:List Chg)(hne:l≠[])(hl:l.length≤1099511627776):FCall Tryz.prog L 29 [.sl false (l.map Chg.av)] (l.map Chg.av) 7 54:=by
 refine FCall.of_ICall (ICall.intro mixed [] (nt:=8) Tryz.func29 rfl rfl (by simp) ?_)
 refine Wk ?_
 refine BrK.mk (fun h=>?_) (fun h=>?_)<;>(try rw[h])
 ·exact absurd (by simpa using h) hne
 ·repeat((conv=>whnf);first|refine sJ ?_|refine aI (by first|exact Els.map (f:=Chg.av) (fun x=>⟨(chgOk).len x,(chgOk).cell x⟩)|exact(show _*56≤_ by simp only[List.length_map,List.length_nil];omega)|exact(by simp only[List.length_map,List.length_nil,maxLen];omega)|kernel_rfl) ?_ )
  try(conv=>whnf)
  exact⟨_,rfl,rfl,rfl⟩
end
section
variable (L:World→Prop)
theorem c_SameCells35 (a:List Cell)(ha:a.length≤281474976710656):PCall Tryz.prog L 61 [encCells a,encCells a] (.bool true):=by
 refine PCall.intro mixed [] (nt:=26) Tryz.func61 rfl rfl (by simp) ?_
 refine Wk ?_
 rw[bne_self_eq_false]
 refine Wk ?_
 refine LoopK.run mixed [] (fun (k:Nat)=>k≤a.length) (fun k=>[(0,encCells a),(1,encCells a),(5,.int .i64 k)]) (fun k=>St.none) (fun k=>a.length-k) 0 (by simp) ?_ ?_
 ·refine fN ?_<;>repeat' (first|exact fQ|refine And.intro ?_ ?_|exact Sees.int (by simp))
 rintro k hk
 refine Wk ?_
 refine BrK.mk (fun hb=>?_) (fun hb=>?_)<;>try rw[hb]
 ·have hkt:k < a.length:=by simpa using hb
  obtain⟨x,hgx⟩:=getLt hkt
  have hmx:=getMap (f:=Cell.av) hgx
  repeat((conv=>whnf);first|refine sJ ?_|refine aI (by first|exact inbMap hkt|kernel_rfl) ?_|rw[hmx])
  try(conv=>whnf)
  refine BrK.mk (fun h2=>?_) (fun h2=>?_)<;>(try rw[h2])
  ·exfalso;simp at h2
  ·refine Wk ?_
   refine⟨k+1,by omega,by omega,?_⟩
   refine fN ?_<;>repeat' (first|exact fQ|refine And.intro ?_ ?_|exact Sees.int (succI hkt ha))
 ·refine Wk ?_
  exact resP.mk rfl (Sees.bool rfl)
end
theorem c_Same35 (L:World→Prop)(a:Sched)(ha:a.cells.length≤281474976710656):PCall Tryz.prog L 26 [a.av,a.av] (.bool true):=by
 refine PCall.intro mixed [] (nt:=24) Tryz.func26 rfl rfl (by simp) ?_
 repeat((conv=>whnf);first|refine sT ?_|rw[beq_self_eq_true])
 try(conv=>whnf)
 refine cD (c_SameCells35 L a.cells ha) ?_
 refine Wk ?_
 exact resP.mk rfl (Sees.bool rfl)
end HM
