/- Which links can be together: the reference. -/
import Derived.Test.YtggiajmlnieidaaGreatDoorS53
import Derived.Test.YtggiajmlnieidaaGreatDoorS33
set_option maxHeartbeats 64000000
set_option maxRecDepth 100000
namespace HM
open Go Go.RowKit Go.Proofs
section
variable (L:World→Prop)
theorem c_node34 (n:Net)(a:Int):PCall Tryz.prog L 290 [n.av,.int .i64 a] (.bool (insB a n.nodes)):=by
 refine PCall.intro mixed [] (nt:=13) Tryz.func290 rfl rfl (by simp) ?_
 repeat' ((conv=>whnf);first|refine sI ?_  | (refine BrK.mk (fun hb=>?_) (fun hb=>?_)<;>try rw[hb]))
 all_goals try(conv=>whnf)
 all_goals exact resP.mk rfl (Sees.of_eq (by first|(simp_all[insB];done)|(simp_all[insB];omega)))
theorem c_power34 (n:Net)(h:NetOk n)(a b:Int)(hb:insB b n.nodes=true):PCall Tryz.prog L 273 [n.av,.int .i64 a,.int .i64 b] (.int .i64 (powN n a b)):=by
 refine PCall.intro mixed [] (nt:=25) Tryz.func273 rfl rfl (by simp) ?_
 refine Wk ?_
 refine cD (c_node34 L n a) ?_
 cases hi:insB a n.nodes with
 | false=>
  refine Wk ?_
  exact resP.mk rfl (Sees.int (by unfold powN;rw[if_neg (by simp[hi])]))
 | true=>
  obtain⟨i,j,r,x,rfl,rfl,hgr,hgx,hpx⟩:=pow_at h hi hb
  have hmr:=getMap (f:=encIs) hgr
  have hmx:=getMap (f:=encI) hgx
  have hal:=(List.getElem?_eq_some_iff.1 hgr).1
  have hbl:=(List.getElem?_eq_some_iff.1 hgx).1
  refine Wk ?_
  refine cD (c_node34 L n j) ?_
  rw[hb]
  repeat((conv=>whnf);first|refine sJ ?_|refine aI (by first|exact inbMap hal|exact inbMap hbl|kernel_rfl) ?_|rw[hmr]|rw[hmx])
  try(conv=>whnf)
  exact resP.mk rfl (Sees.int (by unfold powN;rw[if_pos hi,hpx]))
theorem c_Fault34 (n:Net)(hn:n.small)(h0:netE n=0)(cs:List Cell)(hc:cs.length≤32)(i:Nat)(hi:i < cs.length):PCall Tryz.prog L 236 [n.av,encCells cs,.int .i64 i] (.bool (faultyM n cs i)):=by
 have hok:=netE_ok h0
 obtain⟨c,hgc⟩:=getLt hi
 have hmc:=getMap (f:=Cell.av) hgc
 have hF:faultyM n cs i=if goodL n c.src c.dst=false then true else if (List.range cs.length).any (touchAt cs c i) then true
  else if heardB n (marginAt n c.src c.dst) (distM n cs i c.dst)=false then true else !heardB n (marginAt n c.dst c.src) (distM n cs i c.src):=by unfold faultyM;rw[hgc]
 refine PCall.intro mixed [] (nt:=141) Tryz.func236 rfl rfl (by simp) ?_
 repeat((conv=>whnf);first|refine sJ ?_|refine aI (by first|exact inbMap hi|kernel_rfl) ?_|rw[hmc])
 try(conv=>whnf)
 refine cD (c_Good31 L n hok c.src c.dst) ?_
 refine Wk ?_
 refine BrK.mk (fun h1=>?_) (fun h1=>?_)<;>(try rw[h1])
 ·refine Wk ?_
  exact resP.mk rfl (Sees.bool (by rw[hF,if_pos (by simpa using h1)]))
 have hg:goodL n c.src c.dst=true:=by simpa using h1
 rw[if_neg (by simp[hg])]at hF
 obtain⟨p,m,e1,e2,e3,e4,e5,e6,e7,e8⟩:=good_at hok hg
 obtain⟨p',m',f1,f2,f3,f4,f5,f6,f7,f8⟩:=good_at hok e8
 rw[e3,f3]at hF
 refine Wk ?_
 refine LoopK.run mixed [] (fun (k:Nat)=>k≤cs.length∧∀j,j < k→touchAt cs c i j=false) (fun k=>[(1,encCells cs),(2,.int .i64 i),(3,.ptr 0 0),(7,.ptr 1 0),(8,.int .i64 (distU n cs i c.dst k)),(9,.int .i64 (distU n cs i c.src k)),(10,.int .i64 k)]) (fun _=>⟨[.cells n.cs 26,.cells c.av.cells 40],[],0,0,fun _=>0⟩) (fun k=>cs.length-k) 0 ⟨by simp,by simp⟩ ?_ ?_
 ·refine fN ?_<;>repeat' (first|exact fQ|refine And.intro ?_ ?_|exact SeesL.rfl' _)
 rintro k ⟨hk,hinv⟩
 have hd1:=distU_succ n cs i c.dst k
 have hd2:=distU_succ n cs i c.src k
 have hb1:=distU_bd hok cs i c.dst k
 have hb2:=distU_bd hok cs i c.src k
 refine Wk ?_
 refine BrK.mk (fun hb=>?_) (fun hb=>?_)<;>try rw[hb]
 ·have hlt:k < cs.length:=by simpa using hb
  obtain⟨d,hgd⟩:=getLt hlt
  have hmd:=getMap (f:=Cell.av) hgd
  have htc:touchAt cs c i k=(k != i&&touchB c d):=by unfold touchAt;rw[hgd]
  have hda:∀nd,distAt n cs i nd k=if k=i then 0 else powN n d.src nd+powN n d.dst nd:=fun nd=>by unfold distAt;rw[hgd]
  have nxt:touchAt cs c i k=false→∀j,j < k+1→touchAt cs c i j=false:=fun h j hj=>by
   rcases Nat.lt_succ_iff_lt_or_eq.1 hj with h'|rfl
   ·exact hinv j h'
   ·exact h
  by_cases hki:k=i
  ·have g:((k:Int) != (i:Int))=false:=by simp;omega
   have ht:touchAt cs c i k=false:=by rw[htc,show(k != i)=false from by simpa using hki];rfl
   rw[hda,if_pos hki,Int.add_zero]at hd1 hd2
   repeat((conv=>whnf);first|refine sT ?_|rw[g])
   try(conv=>whnf)
   refine⟨k+1,⟨by omega,nxt ht⟩,by omega,?_⟩
   rw[hd1,hd2]
   refine fN ?_<;>repeat' (first|exact fQ|refine And.intro ?_ ?_|exact SeesL.rfl' _|exact Sees.int (by rw[w64]<;>omega))
  ·have g:((k:Int) != (i:Int))=true:=by simp;omega
   have ht:touchAt cs c i k=touchB c d:=by rw[htc,show(k != i)=true from by simpa using hki];rfl
   rw[hda,if_neg hki]at hd1 hd2
   have hp1:=powN_bd hok d.src c.dst
   have hp2:=powN_bd hok d.dst c.dst
   have hp3:=powN_bd hok d.src c.src
   have hp4:=powN_bd hok d.dst c.src
   have hT:touchB c d=(d.src==c.src||d.src==c.dst||d.dst==c.src||d.dst==c.dst):=by
    unfold touchB
    rw[Bool.eq_iff_iff]
    simp only[Bool.or_eq_true,beq_iff_eq]
    constructor
    ·rintro (((h|h)|h)|h)
     ·exact .inl (.inl (.inl h.symm))
     ·exact .inl (.inr h.symm)
     ·exact .inl (.inl (.inr h.symm))
     ·exact .inr h.symm
    ·rintro (((h|h)|h)|h)
     ·exact .inl (.inl (.inl h.symm))
     ·exact .inl (.inr h.symm)
     ·exact .inl (.inl (.inr h.symm))
     ·exact .inr h.symm
   rw[hT]at ht
   have hend:touchAt cs c i k=true→faultyM n cs i=true:=fun h=>by rw[hF,if_pos (any_hit hlt h)]
   repeat((conv=>whnf);first|refine sJ ?_|refine aI (by first|exact inbMap hlt|kernel_rfl) ?_|rw[g]|rw[hmd])
   try(conv=>whnf)
   cases g1:d.src==c.src
   rotate_left
   ·refine Wk ?_
    exact resP.mk rfl (Sees.bool (hend (by rw[ht,g1];rfl)).symm)
   repeat((conv=>whnf);first|refine sJ ?_|refine aI (by first|exact inbMap hlt|kernel_rfl) ?_|rw[hmd])
   try(conv=>whnf)
   cases g2:d.src==c.dst
   rotate_left
   ·refine Wk ?_
    exact resP.mk rfl (Sees.bool (hend (by rw[ht,g1,g2];rfl)).symm)
   repeat((conv=>whnf);first|refine sJ ?_|refine aI (by first|exact inbMap hlt|kernel_rfl) ?_|rw[hmd])
   try(conv=>whnf)
   cases g3:d.dst==c.src
   rotate_left
   ·refine Wk ?_
    exact resP.mk rfl (Sees.bool (hend (by rw[ht,g1,g2,g3];rfl)).symm)
   repeat((conv=>whnf);first|refine sJ ?_|refine aI (by first|exact inbMap hlt|kernel_rfl) ?_|rw[hmd])
   try(conv=>whnf)
   cases g4:d.dst==c.dst
   rotate_left
   ·refine Wk ?_
    exact resP.mk rfl (Sees.bool (hend (by rw[ht,g1,g2,g3,g4];rfl)).symm)
   have htf:touchAt cs c i k=false:=by rw[ht,g1,g2,g3,g4];rfl
   repeat((conv=>whnf);first|refine sJ ?_|refine aI (by first|exact inbMap hlt|kernel_rfl) ?_|rw[hmd])
   try(conv=>whnf)
   refine cD (c_power34 L n hok d.src c.dst e7) ?_
   repeat((conv=>whnf);first|refine sJ ?_|refine aI (by first|exact inbMap hlt|kernel_rfl) ?_|rw[hmd])
   try(conv=>whnf)
   refine cD (c_power34 L n hok d.dst c.dst e7) ?_
   repeat((conv=>whnf);first|refine sJ ?_|refine aI (by first|exact inbMap hlt|kernel_rfl) ?_|rw[hmd])
   try(conv=>whnf)
   refine cD (c_power34 L n hok d.src c.src e6) ?_
   repeat((conv=>whnf);first|refine sJ ?_|refine aI (by first|exact inbMap hlt|kernel_rfl) ?_|rw[hmd])
   try(conv=>whnf)
   refine cD (c_power34 L n hok d.dst c.src e6) ?_
   have hw1:IntKind.i64.wrap (distU n cs i c.dst k+powN n d.src c.dst)=distU n cs i c.dst k+powN n d.src c.dst:=by rw[w64]<;>omega
   have hw2:IntKind.i64.wrap (distU n cs i c.src k+powN n d.src c.src)=distU n cs i c.src k+powN n d.src c.src:=by rw[w64]<;>omega
   refine Wk ?_
   refine⟨k+1,⟨by omega,nxt htf⟩,by omega,?_⟩
   rw[hd1,hd2]
   refine fN ?_<;>repeat' (first|exact fQ|refine And.intro ?_ ?_|exact SeesL.rfl' _|exact Sees.int (by rw[w64]<;>omega)|exact Sees.int (by rw[hw1,w64]<;>omega)|exact Sees.int (by rw[hw2,w64]<;>omega))
 ·have hkn:k=cs.length:=by simp at hb;omega
  subst hkn
  rw[if_neg (by simp[any_nk hinv])]at hF
  have hm1:=getMap (f:=encI) e2
  have hm2:=getMap (f:=encI) f2
  have hp1:=(List.getElem?_eq_some_iff.1 e2).1
  have hp2:=(List.getElem?_eq_some_iff.1 f2).1
  obtain⟨x,hx⟩:∃x,x=distM n cs i c.dst:=⟨_,rfl⟩
  obtain⟨y,hy⟩:∃y,y=distM n cs i c.src:=⟨_,rfl⟩
  rw[←hx,←hy]at hF
  rw[show distU n cs i c.dst cs.length=x from hx.symm]at hb1 ⊢
  rw[show distU n cs i c.src cs.length=y from hy.symm]at hb2 ⊢
  refine Wk ?_
  refine cD (c_Find31 L n hn.2.2.1 c.src c.dst) ?_
  rw[e1]
  repeat((conv=>whnf);first|refine sJ ?_|refine aI (by first|exact inbMap hp1|kernel_rfl) ?_|rw[hm1])
  try(conv=>whnf)
  refine cD (c_Heard31 L n hok m x ⟨e4,by omega⟩ ⟨hb1.1,by omega⟩) ?_
  cases hh1:heardB n m x with
  | false=>
   rw[if_pos hh1]at hF
   refine Wk ?_
   exact resP.mk rfl (Sees.bool hF.symm)
  | true=>
   rw[if_neg (by simp[hh1])]at hF
   refine Wk ?_
   refine cD (c_Find31 L n hn.2.2.1 c.dst c.src) ?_
   rw[f1]
   repeat((conv=>whnf);first|refine sJ ?_|refine aI (by first|exact inbMap hp2|kernel_rfl) ?_|rw[hm2])
   try(conv=>whnf)
   refine cD (c_Heard31 L n hok m' y ⟨f4,by omega⟩ ⟨hb2.1,by omega⟩) ?_
   refine Wk ?_
   exact resP.mk rfl (Sees.bool hF.symm)
end
end HM
