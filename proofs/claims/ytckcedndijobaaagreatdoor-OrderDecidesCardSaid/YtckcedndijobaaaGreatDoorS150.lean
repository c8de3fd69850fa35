/- Whether a schedule is valid: the program's parts. -/
import Derived.Test.YtckcedndijobaaaGreatDoorS137
import Derived.Test.YtckcedndijobaaaGreatDoorS53
import Derived.Test.YtckcedndijobaaaGreatDoorDc
import Derived.Test.YtckcedndijobaaaGreatDoorDd
set_option maxHeartbeats 64000000
set_option maxRecDepth 100000
namespace HM
open Go Go.RowKit Go.Proofs
theorem find_ids (l:List Flow)(id:Int):decide (findF l id < 0)=!idsB l id:=by
 have:=idxF_any (fun f:Flow=>f.id==id) l
 unfold idsB
 rw[←this]
 show decide (idxF _ l < 0)=_
 by_cases h:(0:Int)≤idxF (fun f:Flow=>f.id==id) l
 ·rw[decide_eq_true h,decide_eq_false (by omega)];rfl
 ·rw[decide_eq_false h,decide_eq_true (by omega)];rfl
section
variable (L:World→Prop)
theorem c_checkCells (n:Net)(hn:n.small)(h0:netE n=0)(l:List Flow)(hl:l.length≤281474976710656)(s:Sched)(hc:s.cells.length≤512):PCall Tryz.prog L 153 [n.av,encFlows l,s.av] (.tup [.int .i64 (firstAt (cellF n l s) s.cells.length).1,.int .i64 (firstAt (cellF n l s) s.cells.length).2]):=by
 refine PCall.intro mixed [] (nt:=58) Tryz.func153 rfl rfl (by simp) ?_
 refine Wk ?_
 refine LoopK.run mixed [] (fun (k:Nat)=>k≤s.cells.length∧∀j,j < k→cellF n l s j=0) (fun k=>[(1,encFlows l),(3,.ptr 0 0),(5,.ptr 1 0),(11,encCells s.cells),(12,.int .i64 s.cells.length),(13,.int .i64 k)]) (fun k=>⟨[.cells n.cs 36,.cells [.int .i64 s.len,.int .i64 s.offs,encCells s.cells] 24],[],0,0,fun _=>0⟩) (fun k=>s.cells.length-k) 0 ⟨by simp,by simp⟩ ?_ ?_
 ·refine fN ?_<;>repeat' (first|exact fQ|refine And.intro ?_ ?_|exact SeesL.rfl' _|exact Sees.int (by simp))
 rintro k ⟨hk,hinv⟩
 refine Wk ?_
 refine BrK.mk (fun hb=>?_) (fun hb=>?_)<;>try rw[hb]
 ·have hlt:k < s.cells.length:=by simpa using hb
  obtain⟨c,hgc⟩:=getLt hlt
  have hmc:=getMap (f:=Cell.av) hgc
  have hF:cellF n l s k=if placedB s c=false then 2 else if goodL n c.src c.dst=false∨idsB l c.flow=false then 7 else if ordC s.cells k c=false then 5 else 0:=by unfold cellF;rw[hgc]
  have hit:=firstAt_hit hinv (k:=k) (n:=s.cells.length)
  repeat((conv=>whnf);first|refine sJ ?_|refine aI (by first|exact inbMap hlt|kernel_rfl) ?_|rw[hmc])
  try(conv=>whnf)
  refine cD (c_placed L s c) ?_
  cases h1:placedB s c with
  | false=>
   rw[if_pos h1]at hF
   refine Wk ?_
   exact resP.mk rfl (Sees.of_eq (by rw[hit (by rw[hF];decide) hlt,hF]))
  | true=>
   rw[if_neg (by simp[h1])]at hF
   refine Wk ?_
   refine cD (c_index L n hn c.src c.dst) ?_
   refine Wk ?_
   refine cD (c_Usable L n hn (indexN n c.src c.dst)) ?_
   rw[usable_index h0]
   cases h2:goodL n c.src c.dst with
   | false=>
    rw[if_pos (.inl h2)]at hF
    refine Wk ?_
    exact resP.mk rfl (Sees.of_eq (by rw[hit (by rw[hF];decide) hlt,hF]))
   | true=>
    refine Wk ?_
    refine cD (c_Find L l c.flow hl) ?_
    refine Wk ?_
    rw[find_ids]
    cases h3:idsB l c.flow with
    | false=>
     rw[if_pos (.inr h3)]at hF
     refine Wk ?_
     exact resP.mk rfl (Sees.of_eq (by rw[hit (by rw[hF];decide) hlt,hF]))
    | true=>
     rw[if_neg (by simp[h2,h3])]at hF
     by_cases hk0:k=0
     ·subst hk0
      rw[if_neg (by simp[ordC])]at hF
      refine Wk ?_
      refine⟨0+1,⟨by omega,fun j hj=>?_⟩,by omega,?_⟩
      ·obtain rfl:j=0:=by omega
       exact hF
      ·refine fN ?_<;>repeat' (first|exact fQ|refine And.intro ?_ ?_|exact SeesL.rfl' _|exact Sees.int (by rw[w64]<;>omega))
     ·obtain⟨i,rfl⟩:∃i,k=i+1:=⟨k-1,by omega⟩
      obtain⟨p,hgp⟩:=getLt (l:=s.cells) (k:=i) (by omega)
      have hmp:=getMap (f:=Cell.av) hgp
      have hw:IntKind.i64.wrap (((i+1:Nat):Int)-1)=(i:Int):=by rw[w64]<;>omega
      have hg:decide ((0:Int) < ((i+1:Nat):Int))=true:=decide_eq_true (by omega)
      have hO:ordC s.cells (i+1) c=decide (p.cmp c < 0):=by simp only[ordC,hgp]
      rw[hO]at hF
      repeat((conv=>whnf);first|refine sJ ?_|refine aI (by first|exact trivial|(rw[hw];exact inbMap (by omega))|kernel_rfl) ?_|rw[hg]|rw[hw]|rw[hmp])
      try(conv=>whnf)
      refine cD (c_compare L p c) ?_
      refine Wk ?_
      refine BrK.mk (fun h4=>?_) (fun h4=>?_)<;>(try rw[h4])
      ·rw[if_pos (by simp at h4;simp;omega)]at hF
       refine Wk ?_
       exact resP.mk rfl (Sees.of_eq (by rw[hit (by rw[hF];decide) hlt,hF]))
      ·rw[if_neg (by simp at h4;simp;omega)]at hF
       refine Wk ?_
       refine⟨i+2,⟨by omega,fun j hj=>?_⟩,by omega,?_⟩
       ·rcases Nat.lt_succ_iff_lt_or_eq.1 hj with h|rfl
        ·exact hinv j h
        ·exact hF
       ·refine fN ?_<;>repeat' (first|exact fQ|refine And.intro ?_ ?_|exact SeesL.rfl' _|exact Sees.int (by rw[w64]<;>omega))
 ·have hkn:k=s.cells.length:=by simp at hb;omega
  subst hkn
  refine Wk ?_
  exact resP.mk rfl (Sees.of_eq (by rw[firstAt_zero hinv]))
theorem c_sCheck1 (f:Flow)(s:Sched)(h1:0≤s.len)(_h3:s.len≤512)(h2:1≤f.period)(h4:f.period≤512):PCall Tryz.prog L 152 [f.av,.cptr s.av 0] (.bool (mism s f)):=by
 refine PCall.intro mixed [] (nt:=10) Tryz.func152 rfl rfl (by simp) ?_
 have hm:s.len.tmod f.period=s.len % f.period:=Int.tmod_eq_emod_of_nonneg h1
 have hm1:=Int.emod_nonneg s.len (show f.period≠0 by omega)
 have hm2:=Int.emod_lt_of_pos s.len (show 0 < f.period by omega)
 have hw:IntKind.i64.wrap (s.len % f.period)=s.len % f.period:=by rw[w64]<;>omega
 repeat((conv=>whnf);first|refine sJ ?_|refine aI (by first|exact(show f.period≠0 by omega)|kernel_rfl) ?_|rw[hm]|rw[hw])
 try(conv=>whnf)
 exact resP.mk rfl (Sees.bool rfl)
theorem c_ContainsFuncFlow (l:List Flow)(p:Flow→Bool)(g:Nat)(caps:List AV)(hl:l.length≤281474976710656)(hcb:callable Tryz.prog g=true)(hc:fzs caps=some caps)(hp:∀x∈l,PCall Tryz.prog L g (Flow.av x :: caps) (.bool (p x))) :
  PCall Tryz.prog L 151 [.sl false (l.map Flow.av),.fn g caps] (.bool (l.any p)):=by
 refine PCall.intro mixed [] (nt:=9) Tryz.func151 rfl rfl (by simp) ?_
 refine Wk ?_
 refine CallK.data rfl (c_IndexFuncFlow L l p g caps hl hcb hc hp) (by show(match fz _,fzs [AV.fn g caps] with|some a,some b=>some (a :: b)|_,_=>none)=_;rw[show fzs [AV.fn g caps] = some [AV.fn g caps] from by simp[fz,fzs,hc]];rfl) ?_
 refine Wk ?_
 exact resP.mk rfl (Sees.bool (idxF_any p l))
theorem c_IndexFuncSCell (l:List Cell)(p:Cell→Bool)(g:Nat)(caps:List AV)(hl:l.length≤281474976710656)(hcb:callable Tryz.prog g=true)(hc:fzs caps=some caps)(hp:∀x∈l,PCall Tryz.prog L g (Cell.av x :: caps) (.bool (p x))) :
  PCall Tryz.prog L 158 [.sl false (l.map Cell.av),.fn g caps] (.int .i64 (idxF p l)):=by
 refine PCall.intro mixed [] (nt:=19) Tryz.func158 rfl rfl (by simp) ?_
 refine Wk ?_
 refine LoopK.run mixed [] (fun (k:Nat)=>k≤l.length∧∀j x,j < k→l[j]? = some x→p x=false) (fun k=>[(0,.sl false (l.map Cell.av)),(1,.fn g caps),(7,.int .i64 l.length),(8,.int .i64 k)]) (fun k=>St.none) (fun k=>l.length-k) 0 ⟨by simp,by simp⟩ ?_ ?_
 ·refine fN ?_<;>repeat' (first|exact fQ|refine And.intro ?_ ?_|exact Sees.int (by simp)|exact fzs_okk hc)
 rintro k ⟨hk,hinv⟩
 refine Wk ?_
 refine BrK.mk (fun hb=>?_) (fun hb=>?_)<;>try rw[hb]
 ·have hlt:k < l.length:=by simpa using hb
  obtain⟨x,hgx⟩:=getLt hlt
  have hmx:=getMap (f:=Cell.av) hgx
  repeat((conv=>whnf);first|refine sJ ?_|refine aI (by first|exact inbMap hlt|kernel_rfl) ?_|rw[hmx])
  try(conv=>whnf)
  refine CallK.data hcb (hp x (List.mem_of_getElem? hgx)) (by show(match fz _,fzs caps with|some a,some b=>some (a :: b)|_,_=>none)=_;rw[hc];rfl) ?_
  refine Wk ?_
  refine BrK.mk (fun h2=>?_) (fun h2=>?_)<;>(try rw[h2])
  ·refine Wk ?_
   exact resP.mk rfl (Sees.int (idxF_some hlt hinv hgx h2).symm)
  ·refine Wk ?_
   refine⟨k+1,⟨by omega,fun j y hj hy=>?_⟩,by omega,?_⟩
   ·rcases Nat.lt_succ_iff_lt_or_eq.1 hj with h|rfl
    ·exact hinv j y h hy
    ·rw[hgx]at hy;injection hy with hy;subst hy;exact h2
   ·refine fN ?_<;>repeat' (first|exact fQ|refine And.intro ?_ ?_|exact Sees.int (succI hlt hl)|exact fzs_okk hc)
 ·have hk':k=l.length:=by simp at hb;omega
  subst hk'
  refine Wk ?_
  exact resP.mk rfl (Sees.int (idxF_none hinv).symm)
theorem c_ContainsFuncSCell (l:List Cell)(p:Cell→Bool)(g:Nat)(caps:List AV)(hl:l.length≤281474976710656)(hcb:callable Tryz.prog g=true)(hc:fzs caps=some caps)(hp:∀x∈l,PCall Tryz.prog L g (Cell.av x :: caps) (.bool (p x))) :
  PCall Tryz.prog L 248 [.sl false (l.map Cell.av),.fn g caps] (.bool (l.any p)):=by
 refine PCall.intro mixed [] (nt:=9) Tryz.func248 rfl rfl (by simp) ?_
 refine Wk ?_
 refine CallK.data rfl (c_IndexFuncSCell L l p g caps hl hcb hc hp) (by show(match fz _,fzs [AV.fn g caps] with|some a,some b=>some (a :: b)|_,_=>none)=_;rw[show fzs [AV.fn g caps] = some [AV.fn g caps] from by simp[fz,fzs,hc]];rfl) ?_
 refine Wk ?_
 exact resP.mk rfl (Sees.bool (idxF_any p l))
def noNode (n:Net)(c:Cell):Bool:=!insB c.src n.nodes||!insB c.dst n.nodes
theorem c_Dist1 (n:Net)(c:Cell):PCall Tryz.prog L 246 [c.av,.cptr n.av 0] (.bool (noNode n c)):=by
 refine PCall.intro mixed [] (nt:=16) Tryz.func246 rfl rfl (by simp) ?_
 refine Wk ?_
 refine cD (c_isNode L n c.src) ?_
 cases h1:insB c.src n.nodes with
 | false=>
  refine Wk ?_
  exact resP.mk rfl (Sees.bool (by simp[noNode,h1]))
 | true=>
  refine Wk ?_
  refine cD (c_isNode L n c.dst) ?_
  refine Wk ?_
  exact resP.mk rfl (Sees.bool (by simp[noNode,h1]))
theorem c_Dist (n:Net)(hn:n.small)(h0:netE n=0)(cs:List Cell)(hc:cs.length≤4096)(i:Nat)(hi:i < cs.length)(node:Int)(hnd:insB node n.nodes=true)(hin:∀c∈cs,insB c.src n.nodes=true∧insB c.dst n.nodes=true):PCall Tryz.prog L 207 [n.av,encCells cs,.int .i64 i,.int .i64 node] (.int .i64 (distM n cs i node)):=by
 have hany:cs.any (noNode n)=false:=by
  rw[List.any_eq_false]
  intro c hc
  have:=hin c hc
  simp[noNode,this]
 have hlt:decide ((((cs.map Cell.av).length:Nat):Int)≤(i:Int))=false:=by simp;omega
 have h1:decide ((i:Int) < 0)=false:=by simp
 refine PCall.intro mixed [] (nt:=40) Tryz.func207 rfl rfl (by simp) ?_
 refine Wk ?_
 refine cD (c_netCheck L n hn) ?_
 rw[h0]
 repeat((conv=>whnf);first|refine sT ?_|rw[h1]|rw[hlt])
 try(conv=>whnf)
 refine cD (c_isNode L n node) ?_
 rw[hnd]
 refine Wk ?_
 refine cB (c_ContainsFuncSCell L cs (noNode n) 246 [.cptr n.av 0] (by omega) rfl rfl (fun c _=>c_Dist1 L n c)) ?_
 rw[hany]
 refine Wk ?_
 refine cD (c_cdist L n (netE_ok h0) cs hc i node hnd) ?_
 refine Wk ?_
 exact resP.mk rfl (Sees.int rfl)
end
def twSl (s:Sched)(c:Cell):List (Nat×AV):=[(2,.ptr 0 0),(3,.ptr 1 0),(4,.ptr 2 0),(5,.ptr 3 0),(16,.fn 244 [.cptr s.av 0,.cptr (.agg [.int .i64 c.slot]) 0])]
def twBx (s:Sched)(i:Nat)(c:Cell):List Ob:=[.cells [.int .i64 s.len,.int .i64 s.offs,encCells s.cells] 24,.cells [.int .i64 i] 3,.cells [.bool false] 4,.cells [.int .i64 c.slot,.int .i64 c.off,.int .i64 c.src,.int .i64 c.dst,.int .i64 c.flow] 52]
section
variable (L:World→Prop)
theorem c_twice (s:Sched)(hc:s.cells.length≤512)(i:Nat)(hi:i < s.cells.length):PCall Tryz.prog L 154 [s.av,.int .i64 i] (.bool (twiceM s.cells i)):=by
 obtain⟨c,hgc⟩:=getLt hi
 have hmc:=getMap (f:=Cell.av) hgc
 have hF:twiceM s.cells i=(List.range i).any (twAt s.cells c):=by unfold twiceM;rw[hgc]
 refine PCall.intro mixed [] (nt:=54) Tryz.func154 rfl rfl (by simp) ?_
 repeat((conv=>whnf);first|refine sJ ?_|refine aI (by first|exact inbMap hi|kernel_rfl) ?_|rw[hmc])
 try(conv=>whnf)
 refine cD (c_sin L s c.slot) ?_
 refine Wk ?_
 refine RangeK.weak (l:=twSl s c) (S1:=⟨twBx s i c,[],0,0,fun _=>0⟩) ?_ ?_
 ·refine fN ?_<;>repeat' (first|exact fQ|refine And.intro ?_ ?_|exact SeesL.rfl' _)
 refine RangeK.named rfl rfl fun Lp hLp=>?_
 have hok:∀k m,4≤k→Ob.okk k m (.loop Lp):=fun k m hk=>loop_okk (l:=twSl s c) (by rw[hLp]) (by simp[twSl,okL,AV.okk,okks];omega)
 refine ICall.intro mixed [] (nt:=25) Tryz.func244 rfl rfl (by simp) ?_
 refine Wk ?_
 refine LoopK.run mixed [] (fun (k:Nat)=>k≤s.cells.length∧∀j,j < k→j < i→twAt s.cells c j=false) (fun k=>[(0,.yld 4),(1,.cptr s.av 0),(2,.cptr (.agg [.int .i64 c.slot]) 0),(7,encCells s.cells),(8,.int .i64 s.cells.length),(9,.int .i64 k)]) (fun k=>⟨twBx s i c++[.loop Lp],[],5,0,fun _=>0⟩) (fun k=>s.cells.length-k) 0 ⟨by omega,fun j hj=>by omega⟩ ?_ ?_
 ·refine fN ?_<;>repeat' (first|exact fQ|refine And.intro ?_ ?_|exact hok _ _ (le_b rfl)|exact SeesL.rfl' _|exact SeesO.rfl' _|exact Sees.int (by simp))
 rintro k ⟨hk,hinv⟩
 refine Wk ?_
 refine BrK.mk (fun hb=>?_) (fun hb=>?_)<;>try rw[hb]
 ·have hlt:k < s.cells.length:=by simpa using hb
  obtain⟨d,hgd⟩:=getLt hlt
  have hmd:=getMap (f:=Cell.av) hgd
  have hT:twAt s.cells c k=(d.slot==c.slot&&touchB c d):=by unfold twAt;rw[hgd]
  have nxt:(k < i→twAt s.cells c k=false)→∀j,j < k+1→j < i→twAt s.cells c j=false:=fun h j hj hji=>by
   rcases Nat.lt_succ_iff_lt_or_eq.1 hj with h'|rfl
   ·exact hinv j h' hji
   ·exact h hji
  repeat((conv=>whnf);first|refine sJ ?_|refine aI (by first|exact inbMap hlt|kernel_rfl) ?_|rw[hmd])
  try(conv=>whnf)
  cases h3:d.slot==c.slot with
  | false=>
   refine Wk ?_
   refine⟨k+1,⟨by omega,nxt (fun _=>by rw[hT,h3];rfl)⟩,by omega,?_⟩
   refine fN ?_<;>repeat' (first|exact fQ|refine And.intro ?_ ?_|exact hok _ _ (le_b rfl)|exact Sees.int (succI hlt (by omega))|exact SeesL.rfl' _)
  | true=>
   rw[h3,Bool.true_and]at hT
   refine Wk ?_
   refine CallK.round mixed [] hLp rfl rfl rfl ?_
   clear hLp
   by_cases hki:k < i
   rotate_left
   ·have g:decide ((k:Int) < (i:Int))=false:=decide_eq_false (by omega)
    repeat((conv=>whnf);first|refine sJ ?_|refine aI (by first|exact inbMap hlt|kernel_rfl) ?_|rw[hmd]|rw[g])
    try(conv=>whnf)
    refine Wk ?_
    refine⟨k+1,⟨by omega,nxt (fun h=>absurd h hki)⟩,by omega,?_⟩
    refine fN ?_<;>repeat' (first|exact fQ|refine And.intro ?_ ?_|exact hok _ _ (le_b rfl)|exact Sees.int (succI hlt (by omega))|exact SeesL.rfl' _)
   have g:decide ((k:Int) < (i:Int))=true:=decide_eq_true (by omega)
   repeat((conv=>whnf);first|refine sJ ?_|refine aI (by first|exact inbMap hlt|kernel_rfl) ?_|rw[hmd]|rw[g])
   try(conv=>whnf)
   cases e1:c.src==d.src with
   | true=>
    refine Wk ?_
    exact resP.mk rfl (Sees.bool (by rw[hF,any_hit hki (by rw[hT];simp[touchB,e1])]))
   | false=>
    refine Wk ?_
    cases e2:c.src==d.dst with
    | true=>
     refine Wk ?_
     exact resP.mk rfl (Sees.bool (by rw[hF,any_hit hki (by rw[hT];simp[touchB,e2])]))
    | false=>
     refine Wk ?_
     cases e3:c.dst==d.src with
     | true=>
      refine Wk ?_
      exact resP.mk rfl (Sees.bool (by rw[hF,any_hit hki (by rw[hT];simp[touchB,e3])]))
     | false=>
      refine Wk ?_
      cases e4:c.dst==d.dst with
      | true=>
       refine Wk ?_
       exact resP.mk rfl (Sees.bool (by rw[hF,any_hit hki (by rw[hT];simp[touchB,e4])]))
      | false=>
       refine Wk ?_
       refine⟨k+1,⟨by omega,nxt (fun _=>by rw[hT];simp[touchB,e1,e2,e3,e4])⟩,by omega,?_⟩
       refine fN ?_<;>repeat' (first|exact fQ|refine And.intro ?_ ?_|exact hok _ _ (le_b rfl)|exact Sees.int (succI hlt (by omega))|exact SeesL.rfl' _)
 ·have hkn:k=s.cells.length:=by simp at hb;omega
  subst hkn
  refine Wk ?_
  rw[show Lp.st=.ready from by rw[hLp],show Lp.pend=none from by rw[hLp]]
  refine Wk ?_
  exact resP.mk rfl (Sees.bool (by rw[hF,any_nk fun j hj=>hinv j (by omega) hj]))
def dsSl (s:Sched)(c:Cell):List (Nat×AV):=[(3,.ptr 0 0),(4,.ptr 1 0),(5,.ptr 2 0),(7,.ptr 3 0),(8,.ptr 4 0),(20,.fn 244 [.cptr s.av 0,.cptr (.agg [.int .i64 c.slot]) 0])]
def dsBx (n:Net)(s:Sched)(i:Nat)(v:AV)(a:Nat):List Ob:=[.cells n.cs 36,.cells [.int .i64 s.len,.int .i64 s.offs,encCells s.cells] 24,.cells [.int .i64 i] 3,.cells [v] 22,.cells [.int .i64 a] 3]
theorem hears_all {n:Net}(h0:netE n=0){m d:Int}(h1:0≤m)(h2:m≤68719476736)(h3:0≤d):hearsN n m d=heardB n m d:=by
 rcases Int.lt_or_le 8796093022208 d with h|h
 ·have hok:=netE_ok h0
  have h4:n.thr*8796093022208≤n.thr*(n.noise+d):=Int.mul_le_mul_of_nonneg_left (by have:=hok.noise;omega) (by have:=hok.thr;omega)
  have h5:=hok.thr
  have e1:heardB n m d=false:=by unfold heardB;rw[decide_eq_false_iff_not];omega
  rw[e1]
  unfold hearsN
  rw[decide_eq_false (by omega:¬d≤8796093022208)];simp
 ·exact hearsN_ok h0 h1 (by omega) h3 h
def dsAt (cs:List Cell)(c:Cell)(i k:Nat):Nat:=if i < k then shareAt cs c i else 0
theorem share_take {cs:List Cell}{c d:Cell}{k:Nat}(h:cs[k]? = some d):shareL (cs.take (k+1)) c=if shareB c d then shareL (cs.take k) c++[d] else shareL (cs.take k) c:=filter_succ (shareB c) h
theorem c_disturbed (n:Net)(hn:n.small)(h0:netE n=0)(s:Sched)(hc:s.cells.length≤512)(hg:∀c∈s.cells,goodL n c.src c.dst=true)(i:Nat)(hi:i < s.cells.length):PCall Tryz.prog L 155 [n.av,s.av,.int .i64 i] (.bool (disturbB n s.cells i)):=by
 have hok:=netE_ok h0
 obtain⟨c,hgc⟩:=getLt hi
 have hmc:=getMap (f:=Cell.av) hgc
 have hcm:=List.mem_of_getElem? hgc
 have hF:disturbB n s.cells i=(!heardB n (marginAt n c.src c.dst) (distM n (shareL s.cells c) (shareAt s.cells c i) c.dst)||!heardB n (marginAt n c.dst c.src) (distM n (shareL s.cells c) (shareAt s.cells c i) c.src)):=by unfold disturbB;rw[hgc]
 obtain⟨p,m,e1,e2,e3,e4,e5,e6,e7,e8⟩:=good_at hok (hg c hcm)
 obtain⟨p',m',f1,f2,f3,f4,f5,f6,f7,f8⟩:=good_at hok e8
 have hi1:indexN n c.src c.dst=(p:Int):=by rw[indexN,if_pos h0,e1]
 have hi2:indexN n c.dst c.src=(p':Int):=by rw[indexN,if_pos h0,f1]
 have hpl:=(List.getElem?_eq_some_iff.1 e2).1
 have hpl':=(List.getElem?_eq_some_iff.1 f2).1
 have hmm:=getMap (f:=encI) e2
 have hmm':=getMap (f:=encI) f2
 rw[e3,f3]at hF
 obtain⟨S,hS⟩:∃S,S=shareL s.cells c:=⟨_,rfl⟩
 have hsub:∀x∈S,x∈s.cells:=fun x hx=>by rw[hS]at hx;exact(List.mem_filter.1 hx).1
 have hSl:S.length≤512:=by rw[hS];exact Nat.le_trans (List.length_filter_le _ _) hc
 obtain⟨a,ha⟩:∃a,a=shareAt s.cells c i:=⟨_,rfl⟩
 have hSa:S[a]? = some c:=by rw[hS,ha];exact(filter_erase hgc (show shareB c c=true by unfold shareB;simp)).2
 have hal:=(List.getElem?_eq_some_iff.1 hSa).1
 have hmS:=getMap (f:=Cell.av) hSa
 have hin:∀c∈S,insB c.src n.nodes=true∧insB c.dst n.nodes=true:=fun x hx=>by
  obtain⟨_,_,_,_,_,_,_,q1,q2,_⟩:=good_at hok (hg x (hsub x hx))
  exact⟨q1,q2⟩
 have hd1:0≤distM n S a c.dst:=(distU_bd hok S a c.dst S.length).1
 have hd2:0≤distM n S a c.src:=(distU_bd hok S a c.src S.length).1
 rw[←hS,←ha]at hF
 refine PCall.intro mixed [] (nt:=94) Tryz.func155 rfl rfl (by simp) ?_
 repeat((conv=>whnf);first|refine sJ ?_|refine aI (by first|exact inbMap hi|kernel_rfl) ?_|rw[hmc])
 try(conv=>whnf)
 refine cD (c_sin L s c.slot) ?_
 refine Wk ?_
 refine RangeK.bornB 3 5 52 _ rfl ?_
 refine RangeK.weak (l:=dsSl s c) (S1:=⟨dsBx n s i (.own [] 0) 0,[(0,5)],0,0,fun _=>52⟩) ?_ ?_
 ·refine fN ?_<;>repeat' (first|exact fQ|refine And.intro ?_ ?_|exact SeesL.rfl' _)
 refine RangeK.named rfl rfl fun Lp hLp=>?_
 have hok2:∀k m,5≤k→Ob.okk k m (.loop Lp):=fun k m hk=>loop_okk (l:=dsSl s c) (by rw[hLp]) (by simp[dsSl,okL,AV.okk,okks];omega)
 refine ICall.intro mixed [] (nt:=25) Tryz.func244 rfl rfl (by simp) ?_
 refine Wk ?_
 refine LoopK.run mixed [] (fun (k:Nat)=>k≤s.cells.length) (fun k=>[(0,.yld 5),(1,.cptr s.av 0),(2,.cptr (.agg [.int .i64 c.slot]) 0),(7,encCells s.cells),(8,.int .i64 s.cells.length),(9,.int .i64 k)]) (fun k=>⟨dsBx n s i (.own ((shareL (s.cells.take k) c).map Cell.av) 0) (dsAt s.cells c i k)++[.loop Lp],[((shareL (s.cells.take k) c).length,5)],6,1,fun _=>52⟩) (fun k=>s.cells.length-k) 0 (by omega) ?_ ?_
 ·refine fN ?_<;>repeat' (first|exact fQ|refine And.intro ?_ ?_|exact hok2 _ _ (le_b rfl)|exact SeesL.rfl' _|exact SeesO.rfl' _|exact Sees.int (by simp))
 rintro k hk
 have hfl:(shareL (s.cells.take k) c).length≤512:=Nat.le_trans (List.length_filter_le _ _) (by rw[List.length_take];omega)
 refine Wk ?_
 refine BrK.mk (fun hb=>?_) (fun hb=>?_)<;>try rw[hb]
 ·have hlt:k < s.cells.length:=by simpa using hb
  obtain⟨d,hgd⟩:=getLt hlt
  have hmd:=getMap (f:=Cell.av) hgd
  have hst:=share_take (c:=c) hgd
  have hki:k=i→d=c:=fun h=>by subst h;rw[hgd]at hgc;injection hgc
  have hdn:k≠i→dsAt s.cells c i (k+1)=dsAt s.cells c i k:=fun h=>by unfold dsAt;split<;>split<;>first|rfl|omega
  have hdi:k=i→dsAt s.cells c i (k+1)=(shareL (s.cells.take k) c).length:=by rintro rfl;unfold dsAt;rw[if_pos (by omega)];rfl
  repeat((conv=>whnf);first|refine sJ ?_|refine aI (by first|exact inbMap hlt|kernel_rfl) ?_|rw[hmd])
  try(conv=>whnf)
  cases h3:d.slot==c.slot with
  | false=>
   have hne:shareB c d=false:=by unfold shareB;rw[h3];rfl
   have hst2:shareL (s.cells.take (k+1)) c=shareL (s.cells.take k) c:=by rw[hst,if_neg (by simp[hne])]
   have hdn:=hdn fun h=>by rw[hki h]at h3;simp at h3
   refine Wk ?_
   rw[←hst2,←hdn]
   refine⟨k+1,by omega,by omega,?_⟩
   refine fN ?_<;>repeat' (first|exact fQ|refine And.intro ?_ ?_|exact hok2 _ _ (le_b rfl)|exact SeesL.rfl' _|exact SeesO.rfl' _|exact Sees.int (succI hlt (by omega)))
  | true=>
   refine Wk ?_
   refine CallK.round mixed [] hLp rfl rfl rfl ?_
   clear hLp
   repeat((conv=>whnf);first|refine sJ ?_|refine aI (by first|exact inbMap hlt|exact inbMap hi|kernel_rfl) ?_|rw[hmd]|rw[hmc])
   try(conv=>whnf)
   cases h4:d.off != c.off with
   | true=>
    have hne:shareB c d=false:=by unfold shareB;rw[h3];simpa using h4
    have hst2:shareL (s.cells.take (k+1)) c=shareL (s.cells.take k) c:=by rw[hst,if_neg (by simp[hne])]
    have hdn:=hdn fun h=>by rw[hki h]at h4;simp at h4
    refine Wk ?_
    rw[←hst2,←hdn]
    refine⟨k+1,by omega,by omega,?_⟩
    refine fN ?_<;>repeat' (first|exact fQ|refine And.intro ?_ ?_|exact hok2 _ _ (le_b rfl)|exact SeesL.rfl' _|exact SeesO.rfl' _|exact Sees.int (succI hlt (by omega)))
   | false=>
    have hsh:shareB c d=true:=by unfold shareB;rw[h3];simpa using h4
    have hst2:shareL (s.cells.take (k+1)) c=shareL (s.cells.take k) c++[d]:=by rw[hst,if_pos hsh]
    refine Wk ?_
    refine BrK.mk (fun h5=>?_) (fun h5=>?_)<;>(try rw[h5])
    ·have hk5:k=i:=by simp at h5;omega
     have hdi:=hdi hk5
     repeat((conv=>whnf);first|refine sJ ?_|refine aI (by first|exact inbMap hlt|exact Els.map (f:=Cell.av) (fun x=>⟨rfl,rfl⟩)|exact(show _*40≤_ by simp only[List.length_map,List.length_cons,List.length_nil];omega)|exact(by simp only[List.length_map,List.length_cons,List.length_nil,maxLen];omega)|exact(by rw[List.length_map];rfl)|kernel_rfl) ?_|rw[hmd])
     try(conv=>whnf)
     refine⟨k+1,by omega,by omega,?_⟩
     refine fN ?_<;>repeat' (first|exact fQ|refine And.intro ?_ ?_|exact hok2 _ _ (le_b rfl)|exact SeesL.rfl' _|exact SeesO.rfl' _|exact Sees.int (succI hlt (by omega))|exact Sees.own (by rw[hst2,List.map_append];rfl)|exact Sees.int (by rw[hdi];simp)|(show(_,_)=(_,_);rw[hst2];simp only[List.length_append,List.length_map];rfl))
    ·have hk5:k≠i:=by simp at h5;omega
     have hdn:=hdn hk5
     repeat((conv=>whnf);first|refine sJ ?_|refine aI (by first|exact inbMap hlt|exact Els.map (f:=Cell.av) (fun x=>⟨rfl,rfl⟩)|exact(show _*40≤_ by simp only[List.length_map,List.length_cons,List.length_nil];omega)|exact(by simp only[List.length_map,List.length_cons,List.length_nil,maxLen];omega)|exact(by rw[List.length_map];rfl)|kernel_rfl) ?_|rw[hmd])
     try(conv=>whnf)
     refine⟨k+1,by omega,by omega,?_⟩
     refine fN ?_<;>repeat' (first|exact fQ|refine And.intro ?_ ?_|exact hok2 _ _ (le_b rfl)|exact SeesL.rfl' _|exact SeesO.rfl' _|exact Sees.int (succI hlt (by omega))|exact Sees.own (by rw[hst2,List.map_append];rfl)|exact Sees.int (by rw[hdn])|(show(_,_)=(_,_);rw[hst2];simp only[List.length_append,List.length_map];rfl))
 ·have hkn:k=s.cells.length:=by simp at hb;omega
  subst hkn
  have hda:dsAt s.cells c i s.cells.length=a:=by unfold dsAt;rw[if_pos hi,ha]
  rw[List.take_length,←hS,hda]
  refine Wk ?_
  rw[show Lp.st=.ready from by rw[hLp],show Lp.pend=none from by rw[hLp]]
  repeat((conv=>whnf);first|refine sJ ?_|refine aI (by first|exact inbMap hal|kernel_rfl) ?_|rw[hmS])
  try(conv=>whnf)
  refine cD (c_index L n hn c.src c.dst) ?_
  rw[hi1]
  refine Wk ?_
  refine cD (c_index L n hn c.dst c.src) ?_
  rw[hi2]
  repeat((conv=>whnf);first|refine sJ ?_|refine aI (by first|exact inbMap hpl|kernel_rfl) ?_|rw[hmm])
  try(conv=>whnf)
  refine cD (c_Dist L n hn h0 S (by omega) a hal c.dst e7 hin) ?_
  refine Wk ?_
  refine cD (c_Hears L n hn m (distM n S a c.dst)) ?_
  rw[hears_all h0 e4 e5 hd1]
  cases hh1:heardB n m (distM n S a c.dst) with
  | false=>
   refine Wk ?_
   exact resP.mk rfl (Sees.bool (by rw[hF,hh1];rfl))
  | true=>
   repeat((conv=>whnf);first|refine sJ ?_|refine aI (by first|exact inbMap hpl'|kernel_rfl) ?_|rw[hmm'])
   try(conv=>whnf)
   refine cD (c_Dist L n hn h0 S (by omega) a hal c.src f7 hin) ?_
   refine Wk ?_
   refine cD (c_Hears L n hn m' (distM n S a c.src)) ?_
   rw[hears_all h0 f4 f5 hd2]
   refine Wk ?_
   exact resP.mk rfl (Sees.bool (by rw[hF,hh1];rfl))
end
end HM
