/- The example of the laws on Admit holds. -/
import Derived.Test.YtpdlbjnjdbgpaaaGreatDoorS220
import Derived.Test.YtpdlbjnjdbgpaaaGreatDoorS208
import Derived.Test.YtpdlbjnjdbgpaaaGreatDoorS191
import Derived.Test.YtpdlbjnjdbgpaaaGreatDoorDc
import Derived.Test.YtpdlbjnjdbgpaaaGreatDoorS122
import Derived.Test.YtpdlbjnjdbgpaaaGreatDoorDa
set_option maxHeartbeats 64000000
set_option maxRecDepth 100000
namespace HM
open Go Go.RowKit Go.Proofs
theorem n41_small:n41.small:=⟨by decide,by decide,by decide,by decide⟩
theorem q41_small:∀x∈q41,x.small:=fun x hx=>by
 simp only[q41,List.mem_singleton]at hx
 subst hx
 exact⟨by decide,by decide⟩
theorem x41_small:x41.small:=⟨by decide,by decide⟩
def nz41:List AV:=[.int .i64 0,.nils,.int .i64 0,.int .i64 0,.nils,.nils]
def sz41:List AV:=[.int .i64 0,.int .i64 0,.nils]
theorem c_example41 (L:World→Prop):PCall Tryz.prog L 16 [] (.tup [n41.av,encReqs q41,s41.av]):=by
 refine PCall.intro mixed [2,3,4] (nt:=27) Tryz.func16 rfl rfl (by simp) ?_
 refine Wk ?_
 refine SeqK.cutS mixed [3,4] [(0,.ptr 0 0),(1,.nils),(2,.ptr 1 0),(3,.ptr 2 0)] ⟨[.cells nz41 26,.cells sz41 30,.cells [.int .i64 3,encRows n41.power,.int .i64 1,.int .i64 1000,.nils,encIs n41.margin] 26],[],0,0,fun _=>0⟩ (twC_sound (ct:=[]) mixed _ _ _ _ ?_) ?_
 ·refine Wk ?_
  refine fN ?_<;>repeat' (first|exact fQ|refine And.intro ?_ ?_|exact Sees.elems rfl)
 refine SeqK.cutS mixed [4] [(0,.ptr 0 0),(1,.nils),(2,.ptr 1 0),(3,.ptr 2 0)] ⟨[.cells nz41 26,.cells sz41 30,.cells n41.cs 26],[],0,0,fun _=>0⟩ (twC_sound (ct:=[]) mixed _ _ _ _ ?_) ?_
 ·refine Wk ?_
  refine fN ?_<;>repeat' (first|exact fQ|refine And.intro ?_ ?_|exact Sees.elems rfl)
 refine SeqK.cutS mixed [] [(0,.ptr 0 0),(1,.nils),(2,.ptr 1 0),(3,.ptr 2 0),(4,encReqs q41)] ⟨[.cells nz41 26,.cells sz41 30,.cells n41.cs 26],[],0,0,fun _=>0⟩ (twC_sound (ct:=[]) mixed _ _ _ _ ?_) ?_
 ·refine Wk ?_
  refine fN ?_<;>repeat' (first|exact fQ|refine And.intro ?_ ?_|exact Sees.elems rfl)
 refine Wk ?_
 exact resP.mk rfl (Sees.of_eq rfl)
def aw41:List Ob:=[.cells n41.cs 26,.cells [.int .i64 3,.int .i64 1,encCells s41.cells] 30]
theorem c_awake41:PCall Tryz.prog LW 5 [] (.bool true):=by
 refine PCall.intro mixed [2,3,4,5] (nt:=80) Tryz.func5 rfl rfl (by simp) ?_
 refine Wk ?_
 refine SeqK.cutS mixed [3,4,5] [(1,.ptr 0 0),(2,encReqs q41),(3,.ptr 1 0)] ⟨aw41,[],0,0,fun _=>0⟩ (twC_sound (ct:=[]) mixed _ _ _ _ ?_) ?_
 ·refine Wk ?_
  refine cD (c_example41 LW) ?_
  refine Wk ?_
  refine fN ?_<;>repeat' (first|exact fQ|refine And.intro ?_ ?_|exact SeesL.rfl' _)
 refine Wk ?_
 refine SeqK.cutS mixed [4,5] [(1,.ptr 0 0),(2,encReqs q41),(3,.ptr 1 0),(4,encCells [⟨1,0,1,2,0⟩,⟨2,0,1,2,0⟩]),(5,.int .i64 0)] ⟨aw41,[],0,0,fun _=>0⟩ (twC_sound (ct:=[]) mixed _ _ _ _ ?_) ?_
 ·refine Wk ?_
  refine cD (c_Room n41 s41 ⟨1,2,0⟩ n41_small (by decide)) ?_
  rw[e_room41]
  refine Wk ?_
  refine fN ?_<;>repeat' (first|exact fQ|refine And.intro ?_ ?_|exact SeesL.rfl' _)
 refine Wk ?_
 refine SeqK.cutS mixed [5] [(4,encCells [⟨1,0,1,2,0⟩,⟨2,0,1,2,0⟩]),(5,.int .i64 0),(6,.ptr 2 0),(7,.int .i64 0)] ⟨aw41++[.cells [.int .i64 3,.int .i64 1,encCells t41.cells] 30],[],0,0,fun _=>0⟩ (twC_sound (ct:=[]) mixed _ _ _ _ ?_) ?_
 ·refine Wk ?_
  refine CallK.look (args':=[n41.av,encReqs q41,s41.av,x41.av]) ⟨Sees.of_eq rfl,Sees.of_eq rfl,Sees.of_eq rfl,Sees.agg ⟨Sees.of_eq rfl,Sees.of_eq rfl,Sees.of_eq rfl,Sees.of_eq rfl,Sees.of_eq rfl,Sees.of_eq rfl,Sees.elems rfl,trivial⟩,trivial⟩ ?_
  refine cD (c_Admit n41 n41_small q41 (by decide) q41_small s41 (by decide) x41 x41_small) ?_
  rw[e_admit41]
  refine Wk ?_
  refine fN ?_<;>repeat' (first|exact fQ|refine And.intro ?_ ?_|exact SeesL.rfl' _)
 refine Wk ?_
 refine SeqK.cutS mixed [] [(4,encCells [⟨1,0,1,2,0⟩,⟨2,0,1,2,0⟩]),(5,.int .i64 0),(6,.ptr 2 0),(7,.int .i64 0),(8,.ptr 3 0),(9,.int .i64 0)] ⟨aw41++[.cells [.int .i64 3,.int .i64 1,encCells t41.cells] 30,.cells [.int .i64 3,.int .i64 1,encCells [⟨1,0,1,2,6⟩]] 30],[],0,0,fun _=>0⟩ (twC_sound (ct:=[]) mixed _ _ _ _ ?_) ?_
 ·refine Wk ?_
  refine cD (c_Drop t41 5 (by decide)) ?_
  rw[e_drop41]
  refine Wk ?_
  refine fN ?_<;>repeat' (first|exact fQ|refine And.intro ?_ ?_|exact SeesL.rfl' _)
 repeat((conv=>whnf);first|refine sJ ?_|refine aI (by first|exact⟨by decide,by decide⟩|kernel_rfl) ?_ )
 try(conv=>whnf)
 exact resP.mk rfl (Sees.of_eq rfl)
section
variable (L:World→Prop)
theorem c_SameCells35 (a:List Cell)(ha:a.length≤281474976710656):PCall Tryz.prog L 34 [encCells a,encCells a] (.bool true):=by
 refine PCall.intro mixed [] (nt:=26) Tryz.func34 rfl rfl (by simp) ?_
 refine Wk ?_
 rw[bne_self_eq_false]
 refine Wk ?_
 refine LoopK.run mixed [] (fun (k:Nat)=>k≤a.length) (fun k=>[(0,encCells a),(1,encCells a),(5,.int .i64 k)]) (fun k=>St.none) (fun k=>a.length-k) 0 (by simp) ?_ ?_
 ·refine fN ?_<;>repeat' (first|exact fQ|refine And.intro ?_ ?_|exact Sees.int (by simp))
 rintro k hk
 refine Wk ?_
 refine BrK.mk (fun hb=>?_) (fun hb=>?_)<;>try rw[hb]
 ·have hkt:k < a.length:=by simpa using hb
  obtain⟨x,hgx⟩:=getLt hkt
  have hmx:=getMap (f:=Cell.av) hgx
  repeat((conv=>whnf);first|refine sJ ?_|refine aI (by first|exact inbMap hkt|kernel_rfl) ?_|rw[hmx])
  try(conv=>whnf)
  refine BrK.mk (fun h2=>?_) (fun h2=>?_)<;>(try rw[h2])
  ·exfalso;simp at h2
  ·refine Wk ?_
   refine⟨k+1,by omega,by omega,?_⟩
   refine fN ?_<;>repeat' (first|exact fQ|refine And.intro ?_ ?_|exact Sees.int (succI hkt ha))
 ·refine Wk ?_
  exact resP.mk rfl (Sees.bool rfl)
end
theorem c_Same35 (L:World→Prop)(a:Sched)(ha:a.cells.length≤281474976710656):PCall Tryz.prog L 11 [a.av,a.av] (.bool true):=by
 refine PCall.intro mixed [] (nt:=24) Tryz.func11 rfl rfl (by simp) ?_
 repeat((conv=>whnf);first|refine sT ?_|rw[beq_self_eq_true])
 try(conv=>whnf)
 refine cD (c_SameCells35 L a.cells ha) ?_
 refine Wk ?_
 exact resP.mk rfl (Sees.bool rfl)
end HM
