/- Frames of flows: the program. -/
import Derived.Test.YtggiajmlnieidaaGreatDoorS30
import Derived.Test.YtggiajmlnieidaaGreatDoorDa
import Derived.Test.YtggiajmlnieidaaGreatDoorS1
import Derived.Test.YtggiajmlnieidaaGreatDoorFh
set_option maxHeartbeats 64000000
set_option maxRecDepth 100000
namespace HM
open Go Go.RowKit Go.Proofs
section
variable (L:World→Prop)
theorem c_IndexFuncFlow (l:List Flow)(p:Flow→Bool)(g:Nat)(caps:List AV)(hl:l.length≤281474976710656)(hcb:callable Tryz.prog g=true)(hc:fzs caps=some caps)(hp:∀x∈l,PCall Tryz.prog L g (Flow.av x :: caps) (.bool (p x))) :
  PCall Tryz.prog L 125 [.sl false (l.map Flow.av),.fn g caps] (.int .i64 (idxF p l)):=by
 refine PCall.intro mixed [] (nt:=19) Tryz.func125 rfl rfl (by simp) ?_
 refine Wk ?_
 refine LoopK.run mixed [] (fun (k:Nat)=>k≤l.length∧∀j x,j < k→l[j]? = some x→p x=false) (fun k=>[(0,.sl false (l.map Flow.av)),(1,.fn g caps),(7,.int .i64 l.length),(8,.int .i64 k)]) (fun k=>St.none) (fun k=>l.length-k) 0 ⟨by simp,by simp⟩ ?_ ?_
 ·refine fN ?_<;>repeat' (first|exact fQ|refine And.intro ?_ ?_|exact Sees.int (by simp)|exact fzs_okk hc)
 rintro k ⟨hk,hinv⟩
 refine Wk ?_
 refine BrK.mk (fun hb=>?_) (fun hb=>?_)<;>try rw[hb]
 ·have hlt:k < l.length:=by simpa using hb
  obtain⟨x,hgx⟩:=getLt hlt
  have hmx:=getMap (f:=Flow.av) hgx
  repeat((conv=>whnf);first|refine sJ ?_|refine aI (by first|exact inbMap hlt|kernel_rfl) ?_|rw[hmx])
  try(conv=>whnf)
  refine CallK.data hcb (hp x (List.mem_of_getElem? hgx)) (by show(match fz _,fzs caps with|some a,some b=>some (a :: b)|_,_=>none)=_;rw[hc];rfl) ?_
  refine Wk ?_
  refine BrK.mk (fun h2=>?_) (fun h2=>?_)<;>(try rw[h2])
  ·refine Wk ?_
   exact resP.mk rfl (Sees.int (idxF_some hlt hinv hgx h2).symm)
  ·refine Wk ?_
   refine⟨k+1,⟨by omega,fun j y hj hy=>?_⟩,by omega,?_⟩
   ·rcases Nat.lt_succ_iff_lt_or_eq.1 hj with h|rfl
    ·exact hinv j y h hy
    ·rw[hgx]at hy;injection hy with hy;subst hy;exact h2
   ·refine fN ?_<;>repeat' (first|exact fQ|refine And.intro ?_ ?_|exact Sees.int (succI hlt hl)|exact fzs_okk hc)
 ·have hk':k=l.length:=by simp at hb;omega
  subst hk'
  refine Wk ?_
  exact resP.mk rfl (Sees.int (idxF_none hinv).symm)
theorem c_find1 (f:Flow)(id:Int):PCall Tryz.prog L 126 [f.av,.cptr (.agg [.int .i64 id]) 0] (.bool (f.id==id)):=by
 refine PCall.intro mixed [] (nt:=8) Tryz.func126 rfl rfl (by simp) ?_
 refine Wk ?_
 exact resP.mk rfl (Sees.bool rfl)
theorem c_Find (l:List Flow)(id:Int)(hl:l.length≤281474976710656):PCall Tryz.prog L 61 [encFlows l,.int .i64 id] (.int .i64 (findF l id)):=by
 refine PCall.intro mixed [] (nt:=8) Tryz.func61 rfl rfl (by simp) ?_
 refine Wk ?_
 refine cB (c_IndexFuncFlow L l (fun f=>f.id==id) 126 [.cptr (.agg [.int .i64 id]) 0] hl rfl rfl (fun f _=>c_find1 L f id)) ?_
 refine Wk ?_
 exact resP.mk rfl (Sees.int rfl)
end
section
variable (L:World→Prop)
theorem c_sin (s:Sched)(slot:Int):PCall Tryz.prog L 79 [s.av,.int .i64 slot] (.fn 143 [.cptr s.av 0,.cptr (.agg [.int .i64 slot]) 0]):=by
 refine PCall.intro mixed [] (nt:=6) Tryz.func79 rfl rfl (by simp) ?_
 refine Wk ?_
 exact resP.mk rfl (Sees.of_eq rfl)
theorem c_At (s:Sched)(slot:Int)(hc:s.cells.length≤281474976710656)(h63:slot≤9223372036854775807):PCall Tryz.prog L 29 [s.av,.int .i64 slot] (encCells (atM s slot)):=by
 refine PCall.intro mixed [] (nt:=30) Tryz.func29 rfl rfl (by simp) ?_
 refine Wk ?_
 refine cD (c_form L s) ?_
 refine Wk ?_
 refine BrK.mk (fun h1=>?_) (fun h1=>?_)<;>(try rw[h1])
 ·have h1':formB s=false:=by simpa using h1
  refine Wk ?_
  exact resP.mk rfl (Sees.of_eq (by rw[atM,if_pos (.inl h1')];rfl))
 have h1':formB s=true:=by simpa using h1
 obtain⟨hsz,hcl,hfm⟩:=form_all h1'
 have hsb:=sized_bd hsz
 refine Wk ?_
 refine BrK.mk (fun h2=>?_) (fun h2=>?_)<;>(try rw[h2])
 ·have h2':slot < 0:=by simpa using h2
  refine Wk ?_
  exact resP.mk rfl (Sees.of_eq (by rw[atM,if_pos (.inr h2')];rfl))
 have h2':¬slot < 0:=by simpa using h2
 rw[show atM s slot=s.cells.filter fun c=>c.slot==slot % s.len from by rw[atM,if_neg (by simp[h1',h2'])]]
 obtain⟨m,hm⟩:∃m,m=slot % s.len:=⟨_,rfl⟩
 have hmod:slot.tmod s.len=m:=by rw[hm];exact Int.tmod_eq_emod_of_nonneg (by omega)
 have hmb:0≤m∧m < s.len:=⟨hm▸Int.emod_nonneg _ (by omega),hm▸Int.emod_lt_of_pos _ (by omega)⟩
 rw[←hm]
 have hwm:IntKind.i64.wrap m=m:=w64 (by omega) (by omega)
 repeat((conv=>whnf);first|refine sJ ?_|refine aI (by first|exact(show s.len≠0 by omega)|kernel_rfl) ?_|rw[hmod]|rw[hwm])
 try(conv=>whnf)
 refine cD (c_sin L s m) ?_
 refine Wk ?_
 refine RangeK.bornB 1 5 40 _ rfl ?_
 refine RangeK.weak (l:=[(2,.ptr 0 0),(5,.ptr 1 0),(19,.fn 143 [.cptr s.av 0,.cptr (.agg [.int .i64 m]) 0])]) (S1:=⟨[.cells [.int .i64 s.len,.int .i64 s.offs,encCells s.cells] 30,.cells [.own [] 0] 28],[(0,5)],0,0,fun _=>40⟩) ?_ ?_
 ·refine fN ?_<;>repeat' (first|exact fQ|refine And.intro ?_ ?_|exact SeesL.rfl' _)
 refine RangeK.named rfl rfl fun Lp hLp=>?_
 have hok:∀k m',2≤k→Ob.okk k m' (.loop Lp):=fun k m' hk=>loop_okk (l:=[(2,.ptr 0 0),(5,.ptr 1 0),(19,.fn 143 [.cptr s.av 0,.cptr (.agg [.int .i64 m]) 0])]) (by rw[hLp]) (by simp[okL,AV.okk,okks];omega)
 refine ICall.intro mixed [] (nt:=25) Tryz.func143 rfl rfl (by simp) ?_
 refine Wk ?_
 refine LoopK.run mixed [] (fun (k:Nat)=>k≤s.cells.length) (fun k=>[(0,.yld 2),(1,.cptr s.av 0),(2,.cptr (.agg [.int .i64 m]) 0),(7,encCells s.cells),(8,.int .i64 s.cells.length),(9,.int .i64 k)]) (fun k=>⟨[.cells [.int .i64 s.len,.int .i64 s.offs,encCells s.cells] 30,.cells [.own (((s.cells.take k).filter fun c=>c.slot==m).map Cell.av) 0] 28,.loop Lp],[(((s.cells.take k).filter fun c=>c.slot==m).length,5)],3,1,fun _=>40⟩) (fun k=>s.cells.length-k) 0 (by omega) ?_ ?_
 ·refine fN ?_<;>repeat' (first|exact fQ|refine And.intro ?_ ?_|exact hok _ _ (le_b rfl)|exact SeesL.rfl' _|exact SeesO.rfl' _|exact Sees.int (by simp))
 rintro k hk
 have hfl:((s.cells.take k).filter fun c=>c.slot==m).length≤512:=Nat.le_trans (List.length_filter_le _ _) (by rw[List.length_take];omega)
 refine Wk ?_
 refine BrK.mk (fun hb=>?_) (fun hb=>?_)<;>try rw[hb]
 ·have hlt:k < s.cells.length:=by simpa using hb
  obtain⟨c,hgc⟩:=getLt hlt
  have hmc:=getMap (f:=Cell.av) hgc
  have htk:=take_succ hgc
  repeat((conv=>whnf);first|refine sJ ?_|refine aI (by first|exact inbMap hlt|kernel_rfl) ?_|rw[hmc])
  try(conv=>whnf)
  refine BrK.mk (fun h3=>?_) (fun h3=>?_)<;>(try rw[h3])
  ·refine Wk ?_
   refine CallK.round mixed [] hLp rfl rfl rfl ?_
   clear hLp
   repeat((conv=>whnf);first|refine sJ ?_|refine aI (by first|exact inbMap hlt|exact Els.map (f:=Cell.av) (fun _=>⟨rfl,rfl⟩)|exact(show _*40≤_ by simp only[List.length_map,List.length_cons,List.length_nil];omega)|exact(by simp only[List.length_map,List.length_cons,List.length_nil,maxLen];omega)|exact(show some (_,_)=some (_,_) by simp only[List.length_map])|kernel_rfl) ?_|rw[hmc])
   try(conv=>whnf)
   have hsl:(c.slot==m)=true:=h3
   have hfs:((s.cells.take (k+1)).filter fun c=>c.slot==m)=((s.cells.take k).filter fun c=>c.slot==m)++[c]:=by rw[htk,List.filter_append];simp[hsl]
   refine⟨k+1,by omega,by omega,?_⟩
   rw[hfs]
   refine fN ?_<;>repeat' (first|exact fQ|refine And.intro ?_ ?_|exact hok _ _ (le_b rfl)|exact SeesO.rfl' _|exact Sees.int (succI hlt (by omega))|exact Sees.own (by simp;rfl)|(show(_,_)=(_,_);simp only[List.length_append,List.length_map,List.length_cons,List.length_nil]))
  ·have hsl:(c.slot==m)=false:=h3
   have hfs:((s.cells.take (k+1)).filter fun c=>c.slot==m)=((s.cells.take k).filter fun c=>c.slot==m):=by rw[htk,List.filter_append];simp[hsl]
   refine Wk ?_
   refine⟨k+1,by omega,by omega,?_⟩
   rw[hfs]
   refine fN ?_<;>repeat' (first|exact fQ|refine And.intro ?_ ?_|exact hok _ _ (le_b rfl)|exact SeesO.rfl' _|exact SeesL.rfl' _|exact Sees.int (succI hlt (by omega)))
 ·have hk':k=s.cells.length:=by simp at hb;omega
  subst hk'
  refine Wk ?_
  rw[show Lp.st=.ready from by rw[hLp],show Lp.pend=none from by rw[hLp]]
  rw[List.take_length]
  refine Wk ?_
  exact resP.mk rfl (Sees.of_eq rfl)
end
end HM
