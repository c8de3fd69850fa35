/- Scripts: what Check returns, and its definition. -/
import Derived.Test.YtpdlbjnjdbgpaaaGreatDoorS30
import Derived.Test.YtpdlbjnjdbgpaaaGreatDoorDa
import Derived.Test.YtpdlbjnjdbgpaaaGreatDoorDc
import Derived.Test.YtpdlbjnjdbgpaaaGreatDoorS6
import Derived.Test.YtpdlbjnjdbgpaaaGreatDoorS1
import Derived.Test.YtpdlbjnjdbgpaaaGreatDoorDd
set_option maxHeartbeats 64000000
set_option maxRecDepth 100000
namespace HM
open Go Go.RowKit Go.Proofs
section
variable (L:World→Prop)
end
section
variable (L:World→Prop)
end
section
variable (L:World→Prop)
theorem c_Find32 (l:List Flow)(id:Int)(hl:l.length≤281474976710656):PCall Tryz.prog L 84 [encFlows l,.int .i64 id] (.int .i64 (findF l id)):=by
 refine PCall.intro mixed [] (nt:=20) Tryz.func84 rfl rfl (by simp) ?_
 refine Wk ?_
 refine LoopK.run mixed [] (fun (k:Nat)=>k≤l.length∧∀(j:Nat) y,j < k→l[j]? = some y→(y.id==id)=false) (fun k=>[(0,encFlows l),(1,.int .i64 id),(5,.int .i64 k)]) (fun k=>St.none) (fun k=>l.length-k) 0 ⟨by simp,by simp⟩ ?_ ?_
 ·refine fN ?_<;>repeat' (first|exact fQ|refine And.intro ?_ ?_ )
 rintro k ⟨hk,hinv⟩
 refine Wk ?_
 refine BrK.mk (fun hb=>?_) (fun hb=>?_)<;>try rw[hb]
 ·have hkt:k < l.length:=by simpa using hb
  obtain⟨f,hgf⟩:=getLt hkt
  have hmf:=getMap (f:=Flow.av) hgf
  repeat((conv=>whnf);first|refine sJ ?_|refine aI (by first|exact inbMap hkt|kernel_rfl) ?_|rw[hmf])
  try(conv=>whnf)
  refine BrK.mk (fun h2=>?_) (fun h2=>?_)<;>(try rw[h2])
  ·refine Wk ?_
   exact resP.mk rfl (Sees.int (idxF_some (p:=fun f:Flow=>f.id==id) hkt hinv hgf h2).symm)
  ·refine Wk ?_
   refine⟨k+1,⟨by omega,inv_snoc (p:=fun y:Flow=>y.id==id) hinv hgf h2⟩,by omega,?_⟩
   refine fN ?_<;>repeat' (first|exact fQ|refine And.intro ?_ ?_|exact Sees.int (succI hkt hl))
 ·have hkn:k=l.length:=by simp at hb;omega
  subst hkn
  refine Wk ?_
  exact resP.mk rfl (Sees.int (idxF_none (p:=fun f:Flow=>f.id==id) hinv).symm)
end
section
variable (L:World→Prop)
theorem c_node34 (n:Net)(a:Int):PCall Tryz.prog L 230 [n.av,.int .i64 a] (.bool (insB a n.nodes)):=by
 refine PCall.intro mixed [] (nt:=13) Tryz.func230 rfl rfl (by simp) ?_
 repeat' ((conv=>whnf);first|refine sI ?_  | (refine BrK.mk (fun hb=>?_) (fun hb=>?_)<;>try rw[hb]))
 all_goals try(conv=>whnf)
 all_goals exact resP.mk rfl (Sees.of_eq (by first|(simp_all[insB];done)|(simp_all[insB];omega)))
theorem c_power34 (n:Net)(h:NetOk n)(a b:Int)(hb:insB b n.nodes=true):PCall Tryz.prog L 223 [n.av,.int .i64 a,.int .i64 b] (.int .i64 (powN n a b)):=by
 refine PCall.intro mixed [] (nt:=25) Tryz.func223 rfl rfl (by simp) ?_
 refine Wk ?_
 refine cD (c_node34 L n a) ?_
 cases hi:insB a n.nodes with
 | false=>
  refine Wk ?_
  exact resP.mk rfl (Sees.int (by unfold powN;rw[if_neg (by simp[hi])]))
 | true=>
  obtain⟨i,j,r,x,rfl,rfl,hgr,hgx,hpx⟩:=pow_at h hi hb
  have hmr:=getMap (f:=encIs) hgr
  have hmx:=getMap (f:=encI) hgx
  have hal:=(List.getElem?_eq_some_iff.1 hgr).1
  have hbl:=(List.getElem?_eq_some_iff.1 hgx).1
  refine Wk ?_
  refine cD (c_node34 L n j) ?_
  rw[hb]
  repeat((conv=>whnf);first|refine sJ ?_|refine aI (by first|exact inbMap hal|exact inbMap hbl|kernel_rfl) ?_|rw[hmr]|rw[hmx])
  try(conv=>whnf)
  exact resP.mk rfl (Sees.int (by unfold powN;rw[if_pos hi,hpx]))
theorem c_Fault34 (n:Net)(hn:n.small)(h0:netE n=0)(cs:List Cell)(hc:cs.length≤32)(i:Nat)(hi:i < cs.length):PCall Tryz.prog L 210 [n.av,encCells cs,.int .i64 i] (.bool (faultyM n cs i)):=by
 have hok:=netE_ok h0
 obtain⟨c,hgc⟩:=getLt hi
 have hmc:=getMap (f:=Cell.av) hgc
 have hF:faultyM n cs i=if goodL n c.src c.dst=false then true else if (List.range cs.length).any (touchAt cs c i) then true
  else if heardB n (marginAt n c.src c.dst) (distM n cs i c.dst)=false then true else !heardB n (marginAt n c.dst c.src) (distM n cs i c.src):=by unfold faultyM;rw[hgc]
 refine PCall.intro mixed [] (nt:=141) Tryz.func210 rfl rfl (by simp) ?_
 repeat((conv=>whnf);first|refine sJ ?_|refine aI (by first|exact inbMap hi|kernel_rfl) ?_|rw[hmc])
 try(conv=>whnf)
 refine cD (c_Good31 L n hok c.src c.dst) ?_
 refine Wk ?_
 refine BrK.mk (fun h1=>?_) (fun h1=>?_)<;>(try rw[h1])
 ·refine Wk ?_
  exact resP.mk rfl (Sees.bool (by rw[hF,if_pos (by simpa using h1)]))
 have hg:goodL n c.src c.dst=true:=by simpa using h1
 rw[if_neg (by simp[hg])]at hF
 obtain⟨p,m,e1,e2,e3,e4,e5,e6,e7,e8⟩:=good_at hok hg
 obtain⟨p',m',f1,f2,f3,f4,f5,f6,f7,f8⟩:=good_at hok e8
 rw[e3,f3]at hF
 refine Wk ?_
 refine LoopK.run mixed [] (fun (k:Nat)=>k≤cs.length∧∀j,j < k→touchAt cs c i j=false) (fun k=>[(1,encCells cs),(2,.int .i64 i),(3,.ptr 0 0),(7,.ptr 1 0),(8,.int .i64 (distU n cs i c.dst k)),(9,.int .i64 (distU n cs i c.src k)),(10,.int .i64 k)]) (fun _=>⟨[.cells n.cs 26,.cells c.av.cells 63],[],0,0,fun _=>0⟩) (fun k=>cs.length-k) 0 ⟨by simp,by simp⟩ ?_ ?_
 ·refine fN ?_<;>repeat' (first|exact fQ|refine And.intro ?_ ?_|exact SeesL.rfl' _)
 rintro k ⟨hk,hinv⟩
 have hd1:=distU_succ n cs i c.dst k
 have hd2:=distU_succ n cs i c.src k
 have hb1:=distU_bd hok cs i c.dst k
 have hb2:=distU_bd hok cs i c.src k
 refine Wk ?_
 refine BrK.mk (fun hb=>?_) (fun hb=>?_)<;>try rw[hb]
 ·have hlt:k < cs.length:=by simpa using hb
  obtain⟨d,hgd⟩:=getLt hlt
  have hmd:=getMap (f:=Cell.av) hgd
  have htc:touchAt cs c i k=(k != i&&touchB c d):=by unfold touchAt;rw[hgd]
  have hda:∀nd,distAt n cs i nd k=if k=i then 0 else powN n d.src nd+powN n d.dst nd:=fun nd=>by unfold distAt;rw[hgd]
  have nxt:touchAt cs c i k=false→∀j,j < k+1→touchAt cs c i j=false:=fun h j hj=>by
   rcases Nat.lt_succ_iff_lt_or_eq.1 hj with h'|rfl
   ·exact hinv j h'
   ·exact h
  by_cases hki:k=i
  ·have g:((k:Int) != (i:Int))=false:=by simp;omega
   have ht:touchAt cs c i k=false:=by rw[htc,show(k != i)=false from by simpa using hki];rfl
   rw[hda,if_pos hki,Int.add_zero]at hd1 hd2
   repeat((conv=>whnf);first|refine sT ?_|rw[g])
   try(conv=>whnf)
   refine⟨k+1,⟨by omega,nxt ht⟩,by omega,?_⟩
   rw[hd1,hd2]
   refine fN ?_<;>repeat' (first|exact fQ|refine And.intro ?_ ?_|exact SeesL.rfl' _|exact Sees.int (by rw[w64]<;>omega))
  ·have g:((k:Int) != (i:Int))=true:=by simp;omega
   have ht:touchAt cs c i k=touchB c d:=by rw[htc,show(k != i)=true from by simpa using hki];rfl
   rw[hda,if_neg hki]at hd1 hd2
   have hp1:=powN_bd hok d.src c.dst
   have hp2:=powN_bd hok d.dst c.dst
   have hp3:=powN_bd hok d.src c.src
   have hp4:=powN_bd hok d.dst c.src
   have hT:touchB c d=(d.src==c.src||d.src==c.dst||d.dst==c.src||d.dst==c.dst):=by
    unfold touchB
    rw[Bool.eq_iff_iff]
    simp only[Bool.or_eq_true,beq_iff_eq]
    constructor
    ·rintro (((h|h)|h)|h)
     ·exact .inl (.inl (.inl h.symm))
     ·exact .inl (.inr h.symm)
     ·exact .inl (.inl (.inr h.symm))
     ·exact .inr h.symm
    ·rintro (((h|h)|h)|h)
     ·exact .inl (.inl (.inl h.symm))
     ·exact .inl (.inr h.symm)
     ·exact .inl (.inl (.inr h.symm))
     ·exact .inr h.symm
   rw[hT]at ht
   have hend:touchAt cs c i k=true→faultyM n cs i=true:=fun h=>by rw[hF,if_pos (any_hit hlt h)]
   repeat((conv=>whnf);first|refine sJ ?_|refine aI (by first|exact inbMap hlt|kernel_rfl) ?_|rw[g]|rw[hmd])
   try(conv=>whnf)
   cases g1:d.src==c.src
   rotate_left
   ·refine Wk ?_
    exact resP.mk rfl (Sees.bool (hend (by rw[ht,g1];rfl)).symm)
   repeat((conv=>whnf);first|refine sJ ?_|refine aI (by first|exact inbMap hlt|kernel_rfl) ?_|rw[hmd])
   try(conv=>whnf)
   cases g2:d.src==c.dst
   rotate_left
   ·refine Wk ?_
    exact resP.mk rfl (Sees.bool (hend (by rw[ht,g1,g2];rfl)).symm)
   repeat((conv=>whnf);first|refine sJ ?_|refine aI (by first|exact inbMap hlt|kernel_rfl) ?_|rw[hmd])
   try(conv=>whnf)
   cases g3:d.dst==c.src
   rotate_left
   ·refine Wk ?_
    exact resP.mk rfl (Sees.bool (hend (by rw[ht,g1,g2,g3];rfl)).symm)
   repeat((conv=>whnf);first|refine sJ ?_|refine aI (by first|exact inbMap hlt|kernel_rfl) ?_|rw[hmd])
   try(conv=>whnf)
   cases g4:d.dst==c.dst
   rotate_left
   ·refine Wk ?_
    exact resP.mk rfl (Sees.bool (hend (by rw[ht,g1,g2,g3,g4];rfl)).symm)
   have htf:touchAt cs c i k=false:=by rw[ht,g1,g2,g3,g4];rfl
   repeat((conv=>whnf);first|refine sJ ?_|refine aI (by first|exact inbMap hlt|kernel_rfl) ?_|rw[hmd])
   try(conv=>whnf)
   refine cD (c_power34 L n hok d.src c.dst e7) ?_
   repeat((conv=>whnf);first|refine sJ ?_|refine aI (by first|exact inbMap hlt|kernel_rfl) ?_|rw[hmd])
   try(conv=>whnf)
   refine cD (c_power34 L n hok d.dst c.dst e7) ?_
   repeat((conv=>whnf);first|refine sJ ?_|refine aI (by first|exact inbMap hlt|kernel_rfl) ?_|rw[hmd])
   try(conv=>whnf)
   refine cD (c_power34 L n hok d.src c.src e6) ?_
   repeat((conv=>whnf);first|refine sJ ?_|refine aI (by first|exact inbMap hlt|kernel_rfl) ?_|rw[hmd])
   try(conv=>whnf)
   refine cD (c_power34 L n hok d.dst c.src e6) ?_
   have hw1:IntKind.i64.wrap (distU n cs i c.dst k+powN n d.src c.dst)=distU n cs i c.dst k+powN n d.src c.dst:=by rw[w64]<;>omega
   have hw2:IntKind.i64.wrap (distU n cs i c.src k+powN n d.src c.src)=distU n cs i c.src k+powN n d.src c.src:=by rw[w64]<;>omega
   refine Wk ?_
   refine⟨k+1,⟨by omega,nxt htf⟩,by omega,?_⟩
   rw[hd1,hd2]
   refine fN ?_<;>repeat' (first|exact fQ|refine And.intro ?_ ?_|exact SeesL.rfl' _|exact Sees.int (by rw[w64]<;>omega)|exact Sees.int (by rw[hw1,w64]<;>omega)|exact Sees.int (by rw[hw2,w64]<;>omega))
 ·have hkn:k=cs.length:=by simp at hb;omega
  subst hkn
  rw[if_neg (by simp[any_nk hinv])]at hF
  have hm1:=getMap (f:=encI) e2
  have hm2:=getMap (f:=encI) f2
  have hp1:=(List.getElem?_eq_some_iff.1 e2).1
  have hp2:=(List.getElem?_eq_some_iff.1 f2).1
  obtain⟨x,hx⟩:∃x,x=distM n cs i c.dst:=⟨_,rfl⟩
  obtain⟨y,hy⟩:∃y,y=distM n cs i c.src:=⟨_,rfl⟩
  rw[←hx,←hy]at hF
  rw[show distU n cs i c.dst cs.length=x from hx.symm]at hb1 ⊢
  rw[show distU n cs i c.src cs.length=y from hy.symm]at hb2 ⊢
  refine Wk ?_
  refine cD (c_Find31 L n hn.2.2.1 c.src c.dst) ?_
  rw[e1]
  repeat((conv=>whnf);first|refine sJ ?_|refine aI (by first|exact inbMap hp1|kernel_rfl) ?_|rw[hm1])
  try(conv=>whnf)
  refine cD (c_Heard31 L n hok m x ⟨e4,by omega⟩ ⟨hb1.1,by omega⟩) ?_
  cases hh1:heardB n m x with
  | false=>
   rw[if_pos hh1]at hF
   refine Wk ?_
   exact resP.mk rfl (Sees.bool hF.symm)
  | true=>
   rw[if_neg (by simp[hh1])]at hF
   refine Wk ?_
   refine cD (c_Find31 L n hn.2.2.1 c.dst c.src) ?_
   rw[f1]
   repeat((conv=>whnf);first|refine sJ ?_|refine aI (by first|exact inbMap hp2|kernel_rfl) ?_|rw[hm2])
   try(conv=>whnf)
   refine cD (c_Heard31 L n hok m' y ⟨f4,by omega⟩ ⟨hb2.1,by omega⟩) ?_
   refine Wk ?_
   exact resP.mk rfl (Sees.bool hF.symm)
theorem c_First34 (n:Net)(hn:n.small)(cs:List Cell)(hc:cs.length≤32):PCall Tryz.prog L 229 [n.av,encCells cs] (.tup [.int .i64 (firstF n cs).1,.bool (decide ((firstF n cs).2≠0))]):=by
 refine PCall.intro mixed [] (nt:=21) Tryz.func229 rfl rfl (by simp) ?_
 refine Wk ?_
 refine cD (c_Check31 L n hn) ?_
 refine Wk ?_
 refine BrK.mk (fun h1=>?_) (fun h1=>?_)<;>(try rw[h1])
 ·have h1':netE n≠0:=by simpa using h1
  refine Wk ?_
  exact resP.mk rfl (Sees.of_eq (by rw[firstF,if_pos h1'];rfl))
 have h0:netE n=0:=by simpa using h1
 have hF:firstF n cs=firstAt (faultI n cs) cs.length:=by rw[firstF,if_neg (by simp[h0])]
 rw[hF]
 refine Wk ?_
 refine LoopK.run mixed [] (fun (k:Nat)=>k≤cs.length∧∀j,j < k→faultI n cs j=0) (fun k=>[(1,encCells cs),(2,.ptr 0 0),(6,.int .i64 k)]) (fun k=>⟨[.cells n.cs 26],[],0,0,fun _=>0⟩) (fun k=>cs.length-k) 0 ⟨by simp,by simp⟩ ?_ ?_
 ·refine fN ?_<;>repeat' (first|exact fQ|refine And.intro ?_ ?_|exact SeesL.rfl' _)
 rintro k ⟨hk,hinv⟩
 refine Wk ?_
 refine BrK.mk (fun hb=>?_) (fun hb=>?_)<;>try rw[hb]
 ·have hlt:k < cs.length:=by simpa using hb
  refine Wk ?_
  refine cD (c_Fault34 L n hn h0 cs hc k hlt) ?_
  cases hf:faultyM n cs k with
  | true=>
   have hi:faultI n cs k=1:=by rw[faultI,if_pos hf]
   refine Wk ?_
   exact resP.mk rfl (Sees.of_eq (by rw[firstAt_hit hinv (by rw[hi];decide) hlt,hi];rfl))
  | false=>
   have hi:faultI n cs k=0:=by rw[faultI,if_neg (by simp[hf])]
   refine Wk ?_
   refine⟨k+1,⟨by omega,fun j hj=>?_⟩,by omega,?_⟩
   ·rcases Nat.lt_succ_iff_lt_or_eq.1 hj with h|rfl
    ·exact hinv j h
    ·exact hi
   ·refine fN ?_<;>repeat' (first|exact fQ|refine And.intro ?_ ?_|exact SeesL.rfl' _|exact Sees.int (by rw[w64]<;>omega))
 ·have hkn:k=cs.length:=by simp at hb;omega
  subst hkn
  refine Wk ?_
  exact resP.mk rfl (Sees.of_eq (by rw[firstAt_zero hinv];rfl))
theorem c_Good34 (n:Net)(hn:n.small)(cs:List Cell)(hc:cs.length≤32):PCall Tryz.prog L 221 [n.av,encCells cs] (.bool (goodM n cs)):=by
 rw[goodM_first]
 refine PCall.intro mixed [] (nt:=20) Tryz.func221 rfl rfl (by simp) ?_
 refine Wk ?_
 refine cD (c_First34 L n hn cs hc) ?_
 refine Wk ?_
 refine cD (c_Check31 L n hn) ?_
 by_cases h0:netE n=0
 ·have g:(netE n==0)=true:=by simpa using h0
  repeat((conv=>whnf);first|refine sT ?_|rw[g])
  try(conv=>whnf)
  exact resP.mk rfl (Sees.bool (by rw[decide_eq_true h0];simp))
 ·have g:(netE n==0)=false:=by simpa using h0
  repeat((conv=>whnf);first|refine sT ?_|rw[g])
  try(conv=>whnf)
  exact resP.mk rfl (Sees.bool (by rw[decide_eq_false h0];rfl))
end
section
variable (L:World→Prop)
theorem sized_in (s:Sched):sizedB s=(inB s.len 1 512&&inB s.offs 1 16):=by unfold sizedB inB;simp[Bool.and_assoc]
theorem c_whole35 (n:Net)(hn:n.small)(l:List Flow)(hl:l.length≤281474976710656)(s:Sched):PCall Tryz.prog L 206 [n.av,encFlows l,s.av] (.int .i64 (wholeM n l s)):=by
 refine PCall.intro mixed [] (nt:=53) Tryz.func206 rfl rfl (by simp) ?_
 refine Wk ?_
 refine cD (c_FCheck32 L n.nodes l hl) ?_
 refine Wk ?_
 refine cD (c_Check31 L n hn) ?_
 cases g1:(netE n != 0) with
 | true=>
  repeat((conv=>whnf);first|refine sT ?_|rw[g1])
  try(conv=>whnf)
  exact resP.mk rfl (Sees.int (by rw[wholeM,if_pos (.inl (by simpa using g1))]))
 | false=>
 have g1':netE n=0:=by simpa using g1
 cases g2:((flowsE n.nodes l).2 != 0) with
 | true=>
  repeat((conv=>whnf);first|refine sT ?_|rw[g1]|rw[g2])
  try(conv=>whnf)
  exact resP.mk rfl (Sees.int (by rw[wholeM,if_pos (.inr (by simpa using g2))]))
 | false=>
 have g2':(flowsE n.nodes l).2=0:=by simpa using g2
 have e1:¬(netE n≠0∨(flowsE n.nodes l).2≠0):=by simp[g1',g2']
 have hnodes:=(netE_ok g1').nodes
 repeat((conv=>whnf);first|refine sT ?_|rw[g1]|rw[g2])
 try(conv=>whnf)
 refine cD (c_in35 L s.len 1 512) ?_
 cases g3:inB s.len 1 512 with
 | false=>
  refine Wk ?_
  exact resP.mk rfl (Sees.int (by rw[wholeM,if_neg e1,if_pos (by rw[sized_in,g3];rfl)]))
 | true=>
 refine Wk ?_
 refine cD (c_in35 L s.offs 1 16) ?_
 cases g4:inB s.offs 1 16 with
 | false=>
  refine Wk ?_
  exact resP.mk rfl (Sees.int (by rw[wholeM,if_neg e1,if_pos (by rw[sized_in,g3,g4];rfl)]))
 | true=>
 have hz:sizedB s=true:=by rw[sized_in,g3,g4];rfl
 have e2:¬sizedB s=false:=by simp[hz]
 have hsb:=sized_bd hz
 have hper:∀(k:Nat) (f:Flow),l[k]? = some f→1≤f.period:=fun k f hf=>by
  have h1:firstAt (flowAt n.nodes l) l.length=flowsE n.nodes l∨True:=.inr trivial
  have h2:=g2'
  unfold flowsE at h2
  split at h2
  ·cases h2
  split at h2
  ·cases h2
  have h3:=firstAt_ok.1 h2 k (List.getElem?_eq_some_iff.1 hf).1
  unfold flowAt at h3
  rw[hf]at h3
  simp only at h3
  by_cases e:flowE n.nodes f=0
  ·exact(flowE_ok e).2.2.2.2.2.2.1
  ·rw[if_pos e]at h3;exact absurd h3 e
 refine Wk ?_
 refine LoopK.run mixed [] (fun (k:Nat)=>k≤l.length∧∀(j:Nat) f,j < k→l[j]? = some f→mism s f=false) (fun k=>[(1,encFlows l),(3,.ptr 0 0),(5,.ptr 1 0),(9,.int .i64 k)]) (fun k=>⟨[.cells n.cs 26,.cells [.int .i64 s.len,.int .i64 s.offs,encCells s.cells] 30],[],0,0,fun _=>0⟩) (fun k=>l.length-k) 0 ⟨by omega,fun j f hj=>by omega⟩ ?_ ?_
 ·refine fN ?_<;>repeat' (first|exact fQ|refine And.intro ?_ ?_|exact SeesL.rfl' _)
 rintro k ⟨hk,hinv⟩
 by_cases hkt:k < l.length
 ·obtain⟨f,hgf⟩:=getLt hkt
  have hmf:=getMap (f:=Flow.av) hgf
  have gk:decide ((k:Int) < ((l.map Flow.av).length:Int))=true:=decide_eq_true (by rw[List.length_map];omega)
  have hp:=hper k f hgf
  have hmi:(s.len.tmod f.period != 0)=mism s f:=by unfold mism;rw[tmod_eq (by omega)]
  repeat((conv=>whnf);first|refine sJ ?_|refine aI (by first|exact trivial|exact inbMap hkt|exact(show f.period≠0 by omega)|kernel_rfl) ?_|rw[gk]|rw[hmf])
  try(conv=>whnf)
  rw[hmi]
  cases g5:mism s f with
  | true=>
   refine Wk ?_
   exact resP.mk rfl (Sees.int (by rw[wholeM,if_neg e1,if_neg e2,if_pos (List.any_eq_true.2 ⟨f,List.mem_of_getElem? hgf,g5⟩)]))
  | false=>
   refine Wk ?_
   refine⟨k+1,⟨by omega,fun j x hj hx=>?_⟩,by omega,?_⟩
   ·rcases Nat.lt_succ_iff_lt_or_eq.1 hj with hj|rfl
    ·exact hinv j x hj hx
    ·rw[hgf]at hx;injection hx with hx;rw[←hx];exact g5
   ·refine fN ?_<;>repeat' (first|exact fQ|refine And.intro ?_ ?_|exact SeesL.rfl' _|exact Sees.int (succI hkt (by omega)))
 ·have hkn:k=l.length:=by omega
  subst hkn
  have gk:decide ((l.length:Int) < ((l.map Flow.av).length:Int))=false:=decide_eq_false (by rw[List.length_map];omega)
  have e3:¬l.any (mism s)=true:=by
   rw[Bool.not_eq_true,List.any_eq_false]
   intro f hf
   obtain⟨j,hj⟩:=List.getElem?_of_mem hf
   rw[hinv j f (List.getElem?_eq_some_iff.1 hj).1 hj];simp
  by_cases hbig:512 < s.cells.length
  ·have g5:decide ((512:Int) < ((s.cells.map Cell.av).length:Int))=true:=decide_eq_true (by rw[List.length_map];omega)
   repeat((conv=>whnf);first|refine sT ?_|rw[gk]|rw[g5])
   try(conv=>whnf)
   exact resP.mk rfl (Sees.int (by rw[wholeM,if_neg e1,if_neg e2,if_neg e3,if_pos hbig]))
  ·have g5:decide ((512:Int) < ((s.cells.map Cell.av).length:Int))=false:=decide_eq_false (by rw[List.length_map];omega)
   repeat((conv=>whnf);first|refine sT ?_|rw[gk]|rw[g5])
   try(conv=>whnf)
   exact resP.mk rfl (Sees.int (by rw[wholeM,if_neg e1,if_neg e2,if_neg e3,if_neg hbig]))
theorem c_Share35 (s:Sched)(i:Nat)(c:Cell)(hi:s.cells[i]? = some c)(hc:s.cells.length≤512):PCall Tryz.prog L 209 [s.av,.int .i64 i] (.tup [encCells (shareL s.cells c),.int .i64 (shareAt s.cells c i)]):=by
 have hil:=(List.getElem?_eq_some_iff.1 hi).1
 have hmi:=getMap (f:=Cell.av) hi
 have hat:shareAt s.cells c i=(shareT s.cells c i).length:=rfl
 refine PCall.intro mixed [] (nt:=60) Tryz.func209 rfl rfl (by simp) ?_
 refine Wk ?_
 refine LoopK.run mixed [] (fun (k:Nat)=>k≤s.cells.length) (fun k=>[(1,.int .i64 i),(2,.ptr 0 0),(6,.own ((shareT s.cells c k).map Cell.av) 0),(7,.int .i64 (if i < k then((shareAt s.cells c i:Nat):Int) else 0)),(8,.int .i64 k)]) (fun k=>⟨[.cells [.int .i64 s.len,.int .i64 s.offs,encCells s.cells] 30],[((shareT s.cells c k).length,5)],0,0,fun _=>63⟩) (fun k=>s.cells.length-k) 0 (by omega) ?_ ?_
 ·refine fN ?_<;>repeat' (first|exact fQ|refine And.intro ?_ ?_|exact SeesL.rfl' _)
 rintro k hk
 have hsl:=shareT_len s.cells c k
 by_cases hkt:k < s.cells.length
 ·obtain⟨d,hgd⟩:=getLt hkt
  have hmd:=getMap (f:=Cell.av) hgd
  have gk:decide ((k:Int) < ((s.cells.map Cell.av).length:Int))=true:=decide_eq_true (by rw[List.length_map];omega)
  have hst:=shareT_succ (c:=c) hgd
  have hsh:shareB c d=(d.slot==c.slot&&d.off==c.off):=rfl
  by_cases hki:k=i
  ·subst hki
   have g1:((k:Int)==(k:Int))=true:=beq_self_eq_true _
   have hdc:d=c:=by rw[hgd]at hi;injection hi
   subst hdc
   have b1:(d.slot==d.slot)=true:=beq_self_eq_true _
   have b2:(d.off==d.off)=true:=beq_self_eq_true _
   rw[hsh,b1,b2,Bool.and_self,if_pos rfl]at hst
   repeat((conv=>whnf);first|refine sJ ?_|refine aI (by first|exact trivial|exact inbMap hkt|exact Els.map (f:=Cell.av) (fun x=>⟨cellOk.len x,cellOk.cell x⟩)|exact(show _*40≤_ by simp only[List.length_map,List.length_cons,List.length_nil];omega)|exact(by simp only[List.length_map,List.length_cons,List.length_nil,maxLen];omega)|exact(show some (_,_)=some (_,_) by simp only[List.length_map])|kernel_rfl) ?_|rw[gk]|rw[g1]|rw[hmd]|rw[b1]|rw[b2])
   try(conv=>whnf)
   refine⟨k+1,by omega,by omega,?_⟩
   rw[hst]
   refine fN ?_<;>repeat' (first|exact fQ|refine And.intro ?_ ?_|exact SeesL.rfl' _|exact Sees.int (succI hkt (by omega))|exact Sees.own (by rw[List.map_append];rfl)|(show(_,_)=(_,_);simp only[List.length_append,List.length_map,List.length_cons,List.length_nil])|exact Sees.int (by rw[if_pos (by omega),hat,List.length_map]))
  ·have g1:((k:Int)==(i:Int))=false:=by rw[beq_eq_false_iff_ne];omega
   have hif:(if i < k+1 then((shareAt s.cells c i:Nat):Int) else 0)=if i < k then((shareAt s.cells c i:Nat):Int) else 0:=by
    by_cases h:i < k
    ·rw[if_pos h,if_pos (by omega)]
    ·rw[if_neg h,if_neg (by omega)]
   cases b1:(d.slot==c.slot) with
   | false=>
    rw[hsh,b1,Bool.false_and,if_neg (by simp),List.append_nil]at hst
    repeat((conv=>whnf);first|refine sJ ?_|refine aI (by first|exact trivial|exact inbMap hkt|exact inbMap hil|kernel_rfl) ?_|rw[gk]|rw[g1]|rw[hmd]|rw[hmi]|rw[b1])
    try(conv=>whnf)
    refine⟨k+1,by omega,by omega,?_⟩
    rw[hst]
    refine fN ?_<;>repeat' (first|exact fQ|refine And.intro ?_ ?_|exact SeesL.rfl' _|exact Sees.int (succI hkt (by omega))|exact Sees.int hif.symm)
   | true=>
    cases b2:(d.off==c.off) with
    | false=>
     rw[hsh,b1,b2,Bool.and_false,if_neg (by simp),List.append_nil]at hst
     repeat((conv=>whnf);first|refine sJ ?_|refine aI (by first|exact trivial|exact inbMap hkt|exact inbMap hil|kernel_rfl) ?_|rw[gk]|rw[g1]|rw[hmd]|rw[hmi]|rw[b1]|rw[b2])
     try(conv=>whnf)
     refine⟨k+1,by omega,by omega,?_⟩
     rw[hst]
     refine fN ?_<;>repeat' (first|exact fQ|refine And.intro ?_ ?_|exact SeesL.rfl' _|exact Sees.int (succI hkt (by omega))|exact Sees.int hif.symm)
    | true=>
     rw[hsh,b1,b2,Bool.and_self,if_pos rfl]at hst
     repeat((conv=>whnf);first|refine sJ ?_|refine aI (by first|exact trivial|exact inbMap hkt|exact inbMap hil|exact Els.map (f:=Cell.av) (fun x=>⟨cellOk.len x,cellOk.cell x⟩)|exact(show _*40≤_ by simp only[List.length_map,List.length_cons,List.length_nil];omega)|exact(by simp only[List.length_map,List.length_cons,List.length_nil,maxLen];omega)|exact(show some (_,_)=some (_,_) by simp only[List.length_map])|kernel_rfl) ?_|rw[gk]|rw[g1]|rw[hmd]|rw[hmi]|rw[b1]|rw[b2])
     try(conv=>whnf)
     refine⟨k+1,by omega,by omega,?_⟩
     rw[hst]
     refine fN ?_<;>repeat' (first|exact fQ|refine And.intro ?_ ?_|exact SeesL.rfl' _|exact Sees.int (succI hkt (by omega))|exact Sees.int hif.symm|exact Sees.own (by rw[List.map_append];rfl)|(show(_,_)=(_,_);simp only[List.length_append,List.length_map,List.length_cons,List.length_nil]))
 ·have hkn:k=s.cells.length:=by omega
  subst hkn
  have gk:decide ((s.cells.length:Int) < ((s.cells.map Cell.av).length:Int))=false:=decide_eq_false (by rw[List.length_map];omega)
  rw[if_pos hil,show shareT s.cells c s.cells.length=shareL s.cells c from by unfold shareT shareL;rw[List.take_length]]
  repeat((conv=>whnf);first|refine sT ?_|rw[gk])
  try(conv=>whnf)
  exact resP.mk rfl (Sees.of_eq rfl)
end
end HM
