/- Closed lists of sets: order.Closed. -/
import Derived.Test.YtckcedndijobaaaGreatDoorS308
import Derived.Test.YtckcedndijobaaaGreatDoorDe
import Derived.Test.YtckcedndijobaaaGreatDoorFh
import Derived.Test.YtckcedndijobaaaGreatDoorS103
import Derived.Test.YtckcedndijobaaaGreatDoorS251
set_option maxHeartbeats 64000000
set_option maxRecDepth 100000
namespace HM
open Go Go.RowKit Go.Proofs
section
variable (L:World→Prop)
theorem c_IndexFuncIntO (l:List Int)(p:Int→Bool)(g:Nat)(caps:List AV)(hl:l.length≤281474976710656)(hcb:callable Tryz.prog g=true)(hc:fzs caps=some caps)(hp:∀x∈l,PCall Tryz.prog L g (encI x :: caps) (.bool (p x))) :
  PCall Tryz.prog L 38 [.sl false (l.map encI),.fn g caps] (.int .i64 (idxF p l)):=by
 refine PCall.intro mixed [] (nt:=19) Tryz.func38 rfl rfl (by simp) ?_
 refine Wk ?_
 refine LoopK.run mixed [] (fun (k:Nat)=>k≤l.length∧∀j x,j < k→l[j]? = some x→p x=false) (fun k=>[(0,.sl false (l.map encI)),(1,.fn g caps),(7,.int .i64 l.length),(8,.int .i64 k)]) (fun k=>St.none) (fun k=>l.length-k) 0 ⟨by simp,by simp⟩ ?_ ?_
 ·refine fN ?_<;>repeat' (first|exact fQ|refine And.intro ?_ ?_|exact Sees.int (by simp)|exact fzs_okk hc)
 rintro k ⟨hk,hinv⟩
 refine Wk ?_
 refine BrK.mk (fun hb=>?_) (fun hb=>?_)<;>try rw[hb]
 ·have hlt:k < l.length:=by simpa using hb
  obtain⟨x,hgx⟩:=getLt hlt
  have hmx:=getMap (f:=encI) hgx
  repeat((conv=>whnf);first|refine sJ ?_|refine aI (by first|exact inbMap hlt|kernel_rfl) ?_|rw[hmx])
  try(conv=>whnf)
  refine CallK.data hcb (hp x (List.mem_of_getElem? hgx)) (by show(match fz _,fzs caps with|some a,some b=>some (a :: b)|_,_=>none)=_;rw[hc];rfl) ?_
  refine Wk ?_
  refine BrK.mk (fun h2=>?_) (fun h2=>?_)<;>(try rw[h2])
  ·refine Wk ?_
   exact resP.mk rfl (Sees.int (idxF_some hlt hinv hgx h2).symm)
  ·refine Wk ?_
   refine⟨k+1,⟨by omega,fun j y hj hy=>?_⟩,by omega,?_⟩
   ·rcases Nat.lt_succ_iff_lt_or_eq.1 hj with h|rfl
    ·exact hinv j y h hy
    ·rw[hgx]at hy;injection hy with hy;subst hy;exact h2
   ·refine fN ?_<;>repeat' (first|exact fQ|refine And.intro ?_ ?_|exact Sees.int (succI hlt hl)|exact fzs_okk hc)
 ·have hk':k=l.length:=by simp at hb;omega
  subst hk'
  refine Wk ?_
  exact resP.mk rfl (Sees.int (idxF_none hinv).symm)
theorem c_ContainsFuncIntO (l:List Int)(p:Int→Bool)(g:Nat)(caps:List AV)(hl:l.length≤281474976710656)(hcb:callable Tryz.prog g=true)(hc:fzs caps=some caps)(hp:∀x∈l,PCall Tryz.prog L g (encI x :: caps) (.bool (p x))) :
  PCall Tryz.prog L 48 [.sl false (l.map encI),.fn g caps] (.bool (l.any p)):=by
 refine PCall.intro mixed [] (nt:=9) Tryz.func48 rfl rfl (by simp) ?_
 refine Wk ?_
 refine CallK.data rfl (c_IndexFuncIntO L l p g caps hl hcb hc hp) (by show(match fz _,fzs [AV.fn g caps] with|some a,some b=>some (a :: b)|_,_=>none)=_;rw[show fzs [AV.fn g caps] = some [AV.fn g caps] from by simp[fz,fzs,hc]];rfl) ?_
 refine Wk ?_
 exact resP.mk rfl (Sees.bool (idxF_any p l))
theorem c_clos1 (X y:Nat)(hX:X≤1048576)(hy:y≤20)(ks:List (List Int))(vs:List Bool)(l:List Int)(h:SeenO ks vs l):PCall Tryz.prog L 49 [.int .i64 y,.cptr (.agg [.cmp none ks (vs.map AV.bool)]) 0,.cptr (.agg [.int .i64 X]) 0] (.bool (!decide (((X ||| 2 ^ y:Nat):Int)∈l))):=by
 have hsh:=shlN (i:=y) hy
 have htk:=two_le (i:=y) hy
 have hor:=or64 (a:=X) (b:=2 ^ y) (by omega) (by omega)
 have hget:=h.get ((X ||| 2 ^ y:Nat):Int)
 cases hg:getK ks vs [((X ||| 2 ^ y:Nat):Int)] with
 | some b=>
  have has:assoc ks (vs.map AV.bool) [((X ||| 2 ^ y:Nat):Int)] = some (.bool b):=by rw[assocB,hg];rfl
  rw[hg]at hget
  have hb:b=decide (((X ||| 2 ^ y:Nat):Int)∈l):=hget
  refine PCall.intro mixed [] (nt:=12) Tryz.func49 rfl rfl (by simp) ?_
  repeat((conv=>whnf);first|refine sJ ?_|refine aI (by first|exact trivial|exact(show(0:Int)≤_ by omega)|kernel_rfl) ?_|rw[hsh]|rw[hor]|(rw[assoc_at has];rotate_left;rfl))
  try(conv=>whnf)
  exact resP.mk rfl (Sees.bool (by rw[hb]))
 | none=>
  have has:assoc ks (vs.map AV.bool) [((X ||| 2 ^ y:Nat):Int)] = none:=by rw[assocB,hg];rfl
  rw[hg]at hget
  have hb:false=decide (((X ||| 2 ^ y:Nat):Int)∈l):=hget
  refine PCall.intro mixed [] (nt:=12) Tryz.func49 rfl rfl (by simp) ?_
  repeat((conv=>whnf);first|refine sJ ?_|refine aI (by first|exact trivial|exact(show(0:Int)≤_ by omega)|kernel_rfl) ?_|rw[hsh]|rw[hor]|(rw[assoc_at has];rotate_left;rfl))
  try(conv=>whnf)
  exact resP.mk rfl (Sees.bool (by rw[←hb]))
end
def clsI (n:Net)(before after:List Req)(s t:Sched)(S:St)(l:List Int)(q B:Nat):Prop:=OJ n before after s t S∧S.bx[B]? = some (.cells [.mp q] 73)∧q≠8∧q≠6∧q≠7∧∃ks vs,S.bx[q]? = some (.map none ks (vs.map AV.bool))∧SeenO ks vs l
theorem clsI.put {n:Net}{before after:List Req}{s t:Sched}{S:St}{l:List Int}{q B:Nat}(h:clsI n before after s t S l q B){ks:List (List Int)}{vs:List Bool}(hq:S.bx[q]? = some (.map none ks (vs.map AV.bool)))(hs:SeenO ks vs l)(x:Int) :
  clsI n before after s t (S.setB q (.map none (setKs ks [x]) (setVs ks (vs.map AV.bool) [x] (.bool true)))) (l++[x]) q B:=by
 obtain⟨h1,h2,n8,n6,n7,_⟩:=h
 obtain⟨k1,v1,e1,g1⟩:=h1.m1
 obtain⟨k2,v2,e2,g2⟩:=h1.m2
 exact⟨⟨(St.setB_ne n8).trans h1.p,⟨k1,v1,(St.setB_ne n6).trans e1,g1⟩,⟨k2,v2,(St.setB_ne n7).trans e2,g2⟩,by decide⟩,(St.setB_ne (Ne.symm (ne_cm h2 hq))).trans h2,n8,n6,n7,_,_,by rw[setVs_map AV.bool];exact St.setB_get hq,hs.put x⟩
theorem c_ClosedO (n:Net)(hn:n.small)(before after:List Req)(hq1:before.length≤1000)(hq2:after.length≤1000)(hx1:∀x∈before,x.small)(hx2:∀x∈after,x.small)(s t:Sched)(hs:s.cells.length≤400)(ht:t.cells.length≤400)(l:List Int)(hl:l.length≤281474976710656) :
  PCall Tryz.prog LW 22 [n.av,encReqs before,encReqs after,s.av,t.av,encIs l] (.int .i64 (closO n before after s t l)):=by
 refine PCall.intro mixed [5] (nt:=79) Tryz.func22 rfl rfl (by simp) ?_
 refine Wk ?_
 refine CallK.inl rfl (i_open n hn before after hq1 hq2 hx1 hx2 s t (by omega) (by omega) _ _ _ _ _ _ (fun S' hne=>?_) (fun S' h0 h8 h6 h7=>?_))
 ·have g:(openO n before after s t != 0)=true:=by simpa using hne
  repeat((conv=>whnf);first|refine sT ?_|rw[g])
  try(conv=>whnf)
  exact resP.mk rfl (Sees.int (by unfold closO;rw[if_pos hne]))
 have hI1:OJ n before after s t S':=OJ.start h8 h6 h7
 have hop:=opn_ok h0
 have hm13:stO s t≤12:=hop.few
 have htw:=two_le (i:=stO s t) (by omega)
 have hpw:=Nat.two_pow_pos (stO s t)
 have hA:∀(S:St) o,(S.addB o).bx[S.bx.length]? = some o:=fun S o=>St.addB_get S o
 have hA2:∀(S:St) o o',((S.addB o).setB S.bx.length o').bx[S.bx.length]? = some o':=fun S o o'=>St.setB_get (St.addB_get S o)
 have hco:closO n before after s t l=if clsB (stO s t) (cnO n before after s t) l=true then 0 else 20:=by unfold closO;rw[if_neg (by omega)]
 have hM:((2:Int) ^ stO s t-1)=((2 ^ stO s t-1:Nat):Int):=by rw[←sub_one];simp
 have hl8:8 < S'.bx.length:=(List.getElem?_eq_some_iff.1 h8).1
 repeat((conv=>whnf);first|refine sT ?_ )
 try(conv=>whnf)
 refine SeqK.cutN mixed [] [12] (fun (q:Nat×Nat) (S3:St)=>clsI n before after s t S3 [] q.1 q.2) (fun q=>[(5,encIs l),(13,.ptr 8 0),(15,.ptr q.2 0)]) ?_ ?_
 ·repeat((conv=>whnf);first|refine sT ?_|rw[hA])
  try(conv=>whnf)
  exact⟨(S'.bx.length,(S'.addB (.map none [] [])).bx.length),⟨hI1.more fun id x hx=>old_box _ _ _ _ _ (St.addB_old hx),hA2 _ _ _,by show S'.bx.length≠8;omega,by show S'.bx.length≠6;omega,by show S'.bx.length≠7;omega,[],[],old_box _ _ _ _ _ (St.addB_get _ _),SeenO.nil⟩,Sees.of_eq rfl,Sees.of_eq rfl,Sees.of_eq rfl,trivial⟩
 rintro⟨q,B⟩ S3 hC3
 dsimp only at hC3 ⊢
 have hret:clsB (stO s t) (cnO n before after s t) l=false→closO n before after s t l=20:=fun h=>by rw[hco,h];rfl
 repeat((conv=>whnf);first|refine sT ?_ )
 try(conv=>whnf)
 refine SeqK.cutN mixed [] [14] (fun (_:Unit) (S4:St)=>clsI n before after s t S4 l q B∧∀j,j < l.length→ordB l (2 ^ stO s t-1) j=true) (fun _=>[(5,encIs l),(13,.ptr 8 0),(15,.ptr B 0)]) ?_ ?_
 ·repeat((conv=>whnf);first|refine sT ?_|rw[List.length_map])
  try(conv=>whnf)
  refine LoopK.runS mixed [] (fun (k:Nat) (S4:St)=>k≤l.length∧clsI n before after s t S4 (l.take k) q B∧∀j,j < k→ordB l (2 ^ stO s t-1) j=true) (fun k=>[(5,encIs l),(13,.ptr 8 0),(15,.ptr B 0),(33,encIs l),(34,.int .i64 l.length),(35,.int .i64 k)]) (fun k=>l.length-k) 0 ⟨by omega,hC3,by omega⟩ ?_ ?_
  ·exact⟨Sees.of_eq rfl,Sees.of_eq rfl,Sees.of_eq rfl,Sees.of_eq rfl,Sees.of_eq rfl,Sees.of_eq rfl,trivial⟩
  rintro k S4 ⟨hk,hC4,hinv⟩
  by_cases hkl:k < l.length
  rotate_left
  ·have hkn:k=l.length:=by omega
   subst hkn
   have gk:decide ((l.length:Int) < (l.length:Int))=false:=decide_eq_false (by omega)
   rw[List.take_length]at hC4
   repeat((conv=>whnf);first|refine sT ?_|rw[gk])
   try(conv=>whnf)
   exact⟨(),⟨hC4,hinv⟩,Sees.of_eq rfl,Sees.of_eq rfl,Sees.of_eq rfl,trivial⟩
  have gk:decide ((k:Int) < (l.length:Int))=true:=decide_eq_true (by omega)
  obtain⟨x,hgx⟩:=getLt hkl
  have hmx:=getMap (f:=encI) hgx
  by_cases h1:x < 0
  ·have g1:decide (x < 0)=true:=decide_eq_true h1
   have hr:=hret (cls_f1 hkl (ord_neg hgx (.inl h1)))
   repeat((conv=>whnf);first|refine sJ ?_|refine aI (by first|exact trivial|exact inbMap hkl|kernel_rfl) ?_|rw[gk]|rw[hmx]|rw[g1])
   try(conv=>whnf)
   exact resP.mk rfl (Sees.int hr.symm)
  have g1:decide (x < 0)=false:=decide_eq_false h1
  obtain⟨u1,u2,hz⟩:=hC4.1.fzp
  have hfu:=c_fullO LW n s (bothM before after) (stayO before after) (stepsL s t) hm13 u1 u2
  by_cases h2:x≥((2 ^ stO s t-1:Nat):Int)
  ·have g2:decide (x≥((2 ^ (stepsL s t).length-1:Nat):Int))=true:=decide_eq_true h2
   have hr:=hret (cls_f1 hkl (ord_neg hgx (.inr (.inl (by rw[hM];exact h2)))))
   repeat((conv=>whnf);first|refine sJ ?_|refine aI (by first|exact trivial|exact inbMap hkl|kernel_rfl) ?_|rw[gk]|rw[hmx]|rw[g1])
   try(conv=>whnf)
   refine CallK.boxN 1 rfl hfu (mapQ2 hz rfl) rfl ?_
   repeat((conv=>whnf);first|refine sJ ?_|refine aI (by first|exact trivial|exact inbMap hkl|kernel_rfl) ?_|rw[g2])
   try(conv=>whnf)
   exact resP.mk rfl (Sees.int hr.symm)
  have g2:decide (x≥((2 ^ (stepsL s t).length-1:Nat):Int))=false:=decide_eq_false h2
  have hB4:=hC4.2.1
  obtain⟨ks,vs,hq4,hs4⟩:=hC4.2.2.2.2.2
  have hmo:=mapOf_at (sh:=none) hq4
  have nxt:ordB l (2 ^ stO s t-1) k=true→∀j,j < k+1→ordB l (2 ^ stO s t-1) j=true:=fun h j hj=>by
   rcases Nat.lt_succ_iff_lt_or_eq.1 hj with h'|rfl
   ·exact hinv j h'
   ·exact h
  by_cases hk0:k=0
  ·have g3:decide ((k:Int) > 0)=false:=decide_eq_false (by omega)
   have hinv2:=nxt (ord_at hgx (by omega) (by rw[hM];omega) (.inl hk0))
   repeat((conv=>whnf);first|refine sJ ?_|refine aI (by first|exact trivial|exact inbMap hkl|kernel_rfl) ?_|rw[gk]|rw[hmx]|rw[g1])
   try(conv=>whnf)
   refine CallK.boxN 1 rfl hfu (mapQ2 hz rfl) rfl ?_
   repeat((conv=>whnf);first|refine sJ ?_|refine aI (by first|exact trivial|exact inbMap hkl|kernel_rfl) ?_|rw[g2]|rw[g3]|rw[hB4]|rw[hmo])
   try(conv=>whnf)
   exact⟨k+1,⟨by omega,by rw[take_succ hgx];exact hC4.put hq4 hs4 x,hinv2⟩,by omega,Sees.of_eq rfl,Sees.of_eq rfl,Sees.of_eq rfl,Sees.of_eq rfl,Sees.of_eq rfl,Sees.int (succI hkl (by omega)),trivial⟩
  have g3:decide ((k:Int) > 0)=true:=decide_eq_true (by omega)
  obtain⟨y,hgy⟩:=getLt (l:=l) (k:=k-1) (by omega)
  have hmy:=getMap (f:=encI) hgy
  have hw1:IntKind.i64.wrap ((k:Int)-1)=((k-1:Nat):Int):=by rw[w64 (by omega) (by omega)];omega
  by_cases h4:y≥x
  ·have g4:decide (y≥x)=true:=decide_eq_true h4
   have hr:=hret (cls_f1 hkl (ord_neg hgx (.inr (.inr ⟨hk0,y,hgy,h4⟩))))
   repeat((conv=>whnf);first|refine sJ ?_|refine aI (by first|exact trivial|exact inbMap hkl|kernel_rfl) ?_|rw[gk]|rw[hmx]|rw[g1])
   try(conv=>whnf)
   refine CallK.boxN 1 rfl hfu (mapQ2 hz rfl) rfl ?_
   repeat((conv=>whnf);first|refine sJ ?_|refine aI (by first|exact trivial|exact inbMap hkl|(rw[hw1];exact inbMap (by omega))|kernel_rfl) ?_|rw[g2]|rw[g3]|rw[hw1]|rw[hmy]|rw[g4])
   try(conv=>whnf)
   exact resP.mk rfl (Sees.int hr.symm)
  have g4:decide (y≥x)=false:=decide_eq_false h4
  have hinv2:=nxt (ord_at hgx (by omega) (by rw[hM];omega) (.inr ⟨y,hgy,by omega⟩))
  repeat((conv=>whnf);first|refine sJ ?_|refine aI (by first|exact trivial|exact inbMap hkl|kernel_rfl) ?_|rw[gk]|rw[hmx]|rw[g1])
  try(conv=>whnf)
  refine CallK.boxN 1 rfl hfu (mapQ2 hz rfl) rfl ?_
  repeat((conv=>whnf);first|refine sJ ?_|refine aI (by first|exact trivial|exact inbMap hkl|(rw[hw1];exact inbMap (by omega))|kernel_rfl) ?_|rw[g2]|rw[g3]|rw[hw1]|rw[hmy]|rw[g4]|rw[hB4]|rw[hmo])
  try(conv=>whnf)
  exact⟨k+1,⟨by omega,by rw[take_succ hgx];exact hC4.put hq4 hs4 x,hinv2⟩,by omega,Sees.of_eq rfl,Sees.of_eq rfl,Sees.of_eq rfl,Sees.of_eq rfl,Sees.of_eq rfl,Sees.int (succI hkl (by omega)),trivial⟩
 rintro⟨⟩ S4 ⟨hC4,hord⟩
 conv=>whnf
 have hB4:=hC4.2.1
 obtain⟨ks,vs,hq4,hs4⟩:=hC4.2.2.2.2.2
 have hget:=hs4.get 0
 have hoL:∀v,v=.mp q→mapOfL S4 none v=some (ks,vs.map AV.bool):=fun v hv=>mapOfL_at hq4 hv
 refine SeqK.cutN mixed [] [] (fun (_:Unit) (S5:St)=>clsI n before after s t S5 l q B∧(0:Int)∈l) (fun _=>[(5,encIs l),(13,.ptr 8 0),(15,.ptr B 0)]) ?_ ?_
 ·by_cases hz0:(0:Int)∈l
  ·rw[decide_eq_true hz0]at hget
   cases hg:getK ks vs [(0:Int)] with
   | none=>rw[hg]at hget;cases hget
   | some b=>
    rw[hg]at hget
    have hb:b=true:=hget
    have has:assoc ks (vs.map AV.bool) [(0:Int)] = some (.bool true):=by rw[assocB,hg,hb];rfl
    repeat((conv=>whnf);first|refine sT ?_|rw[hB4]|(rw[hoL];rotate_left;rfl)|(rw[assoc_at has];rotate_left;rfl))
    try(conv=>whnf)
    exact⟨(),⟨hC4,hz0⟩,Sees.of_eq rfl,Sees.of_eq rfl,Sees.of_eq rfl,trivial⟩
  ·have hr:=hret (cls_f2 hz0)
   rw[decide_eq_false hz0]at hget
   cases hg:getK ks vs [(0:Int)] with
   | none=>
    have has:assoc ks (vs.map AV.bool) [(0:Int)] = none:=by rw[assocB,hg];rfl
    repeat((conv=>whnf);first|refine sT ?_|rw[hB4]|(rw[hoL];rotate_left;rfl)|(rw[assoc_at has];rotate_left;rfl))
    try(conv=>whnf)
    exact resP.mk rfl (Sees.int hr.symm)
   | some b=>
    rw[hg]at hget
    have hb:b=false:=hget
    have has:assoc ks (vs.map AV.bool) [(0:Int)] = some (.bool false):=by rw[assocB,hg,hb];rfl
    repeat((conv=>whnf);first|refine sT ?_|rw[hB4]|(rw[hoL];rotate_left;rfl)|(rw[assoc_at has];rotate_left;rfl))
    try(conv=>whnf)
    exact resP.mk rfl (Sees.int hr.symm)
 clear hoL hget hq4 hs4 hB4 hC4
 rintro⟨⟩ S5 ⟨hC5,hz0⟩
 repeat((conv=>whnf);first|refine sT ?_|rw[List.length_map])
 try(conv=>whnf)
 refine LoopK.runS mixed [] (fun (k:Nat) (S6:St)=>k≤l.length∧clsI n before after s t S6 l q B∧∀j x,j < k→l[j]? = some x→nxO (stO s t) (cnO n before after s t) l x=true) (fun k=>[(13,.ptr 8 0),(15,.ptr B 0),(67,encIs l),(68,.int .i64 l.length),(69,.int .i64 k)]) (fun k=>l.length-k) 0 ⟨by omega,hC5,by omega⟩ ?_ ?_
 ·exact⟨Sees.of_eq rfl,Sees.of_eq rfl,Sees.of_eq rfl,Sees.of_eq rfl,Sees.of_eq rfl,trivial⟩
 rintro k S6 ⟨hk,hC6,hinv⟩
 by_cases hkl:k < l.length
 rotate_left
 ·have hkn:k=l.length:=by omega
  subst hkn
  have gk:decide ((l.length:Int) < (l.length:Int))=false:=decide_eq_false (by omega)
  have hcl:clsB (stO s t) (cnO n before after s t) l=true:=cls_true hord hz0 fun x hx=>by
   obtain⟨j,hj⟩:=List.getElem?_of_mem hx
   exact hinv j x (List.getElem?_eq_some_iff.1 hj).1 hj
  repeat((conv=>whnf);first|refine sT ?_|rw[gk])
  try(conv=>whnf)
  exact resP.mk rfl (Sees.int (by rw[hco,if_pos hcl]))
 have gk:decide ((k:Int) < (l.length:Int))=true:=decide_eq_true (by omega)
 obtain⟨x,hgx⟩:=getLt hkl
 have hmx:=getMap (f:=encI) hgx
 obtain⟨hx0,hx1'⟩:=ord_bds hgx (hord k hkl)
 rw[hM]at hx1'
 obtain⟨X,hX⟩:∃X:Nat,x=X:=⟨x.toNat,by omega⟩
 subst hX
 have hXT:X < 2 ^ stO s t:=by omega
 have hI7:∀o o',OJ n before after s t ((S6.addB o).setB S6.bx.length o'):=fun o o'=>hC6.1.more fun id x hx=>old_box _ _ _ _ _ hx
 obtain⟨D,hD⟩:∃D,D=S6.bx.length:=⟨_,rfl⟩
 repeat((conv=>whnf);first|refine sJ ?_|refine aI (by first|exact trivial|exact inbMap hkl|kernel_rfl) ?_|rw[gk]|rw[hmx]|rw[hA]|rw[hA2])
 try(conv=>whnf)
 refine CallK.inl rfl (i_next n hn before after hx1 hx2 s t hs h0 X hXT _ (hI7 _ _) fun S8 hI8 hK8=>?_)
 obtain⟨hc1,hc2,n8,n6,n7,ks,vs,hq6,hs6⟩:=hC6
 have hB8:=(hI7 _ _).cells hK8 (old_box S6 _ _ _ _ hc2)
 have hD8:=(hI7 _ _).cells hK8 (hA2 S6 _ _)
 have hq8:=hK8.bx q _ n6 n7 (old_box S6 _ _ _ _ hq6)
 have hC8:clsI n before after s t S8 l q B:=⟨hI8,hB8,n8,n6,n7,ks,vs,hq8,hs6⟩
 have hD8':S8.bx[D]? = some (.cells [.int .i64 X] 3):=by rw[hD];exact hD8
 have hnl:((nextM (stO s t) (cnO n before after s t) X).map fun i:Nat=>(i:Int)).length≤281474976710656:=by
  rw[List.length_map]
  have:=next_un (m:=stO s t) (can:=cnO n before after s t) X
  have:=un_le (stO s t) X
  omega
 have hcf:=c_ContainsFuncIntO LW ((nextM (stO s t) (cnO n before after s t) X).map fun i:Nat=>(i:Int)) (fun i=>!decide (((X ||| 2 ^ i.toNat:Nat):Int)∈l)) 49 [.cptr (.agg [.cmp none ks (vs.map AV.bool)]) 0,.cptr (.agg [.int .i64 X]) 0] hnl rfl rfl fun y hy=>by
  obtain⟨i,hi,rfl⟩:=List.mem_map.1 hy
  have him:=(nextM_mem.1 hi).1
  exact c_clos1 LW X i (by omega) (by omega) ks vs l hs6
 have hany:=nx_any (m:=stO s t) (can:=cnO n before after s t) (l:=l) (X:Int)
 rw[Int.toNat_natCast]at hany
 rw[←hany]at hcf
 have hfz:mapQ (fzN S8 3) [encIs ((nextM (stO s t) (cnO n before after s t) X).map fun i:Nat=>(i:Int)),.fn 49 [.ptr B 0,.ptr D 0]] = some [encIs ((nextM (stO s t) (cnO n before after s t) X).map fun i:Nat=>(i:Int)),.fn 49 [.cptr (.agg [.cmp none ks (vs.map AV.bool)]) 0,.cptr (.agg [.int .i64 X]) 0]]:=by
  have hb:fzN S8 2 (.ptr B 0)=some (.cptr (.agg [.cmp none ks (vs.map AV.bool)]) 0):=by
   show(match S8.bx[B]? with
    | some (.cells cs _)=>(mapQ (fzN S8 1) cs).map fun cs=>AV.cptr (.agg cs) 0
    | _=>none)=_
   rw[hB8]
   show Option.map (fun cs=>AV.cptr (.agg cs) 0) (mapQ (fzN S8 1) [.mp q])=_
   rw[mapQ2 (show fzN S8 1 (.mp q)=some (.cmp none ks (vs.map AV.bool)) from fzb_mp hq8 (fzs_bool vs)) rfl]
   rfl
  have hd:fzN S8 2 (.ptr D 0)=some (.cptr (.agg [.int .i64 X]) 0):=by
   show(match S8.bx[D]? with
    | some (.cells cs _)=>(mapQ (fzN S8 1) cs).map fun cs=>AV.cptr (.agg cs) 0
    | _=>none)=_
   rw[hD8']
   rfl
  refine mapQ2 rfl (mapQ2 ?_ rfl)
  show(mapQ (fzN S8 2) [.ptr B 0,.ptr D 0]).map (AV.fn _)=_
  rw[mapQ2 hb (mapQ2 hd rfl)]
  rfl
 rw[hD]at hfz
 refine Wk ?_
 refine CallK.boxN 3 rfl hcf hfz rfl ?_
 cases hnx:nxO (stO s t) (cnO n before after s t) l (X:Int) with
 | false=>
  have hr:=hret (cls_f3 (List.mem_of_getElem? hgx) hnx)
  refine Wk ?_
  exact resP.mk rfl (Sees.int hr.symm)
 | true=>
  refine Wk ?_
  refine⟨k+1,⟨by omega,hC8,fun j y hj hy=>?_⟩,by omega,Sees.of_eq rfl,Sees.of_eq rfl,Sees.of_eq rfl,Sees.of_eq rfl,Sees.int (succI hkl (by omega)),trivial⟩
  rcases Nat.lt_succ_iff_lt_or_eq.1 hj with h'|rfl
  ·exact hinv j y h' hy
  ·rw[hgx]at hy;injection hy with hy;subst hy;exact hnx
theorem i_sortI {L:World→Prop}{S:St}{id:Nat}{ex:List AV}{ds:List Int}{ty:TypeId}(hb:S.bx[id]? = some (.cells (ds.map encI++ex) ty))(hl:ds.length < 4611686018427387904){n:Nat}(hn:n=ds.length)(h0:n≠0){K:AV→St→Prop}
  (hK:K (.tup []) (S.setB id (.cells ((ds.mergeSort fun x y=>decide (x≤y)).map encI++ex) ty))):ICall Tryz.prog L 47 [.vsl id 0 n 1] S K:=
 ICall.sortI (fun blk off cap zs w h1 h2 h3=>Tryz.slices_Sort_int blk off cap zs w h1 h2 h3) hb hl hn h0 hK
theorem int_len (l:List Int)(d:Nat):(l.map encI++List.replicate (d*1) AV.undef).length=l.length+d:=by rw[List.length_append,List.length_map,List.length_replicate,Nat.mul_one]
theorem int_push (l:List Int)(x:Int)(d:Nat)(hr:l.length+1≤l.length+d):splice (l.map encI++List.replicate (d*1) AV.undef) (l.length*1) [encI x] = (l++[x]).map encI++List.replicate ((d-1)*1) AV.undef:=by
 have hl:(l.map encI).length=l.length:=List.length_map ..
 simp only[Nat.mul_one]
 rw[splice_eq _ _ _ (by rw[List.length_append,hl,List.length_replicate];simp;omega)]
 rw[←hl,List.take_left,List.drop_append,List.drop_eq_nil_of_le (by simp),List.nil_append,List.map_append,List.drop_replicate]
 simp
theorem int_cut (l:List Int)(ex:List AV):(l.map encI++ex).take (l.length*1)=l.map encI:=by
 rw[Nat.mul_one,show l.length=(l.map encI).length from(List.length_map ..).symm,List.take_left]
theorem fzb_int {S:St}{id n:Nat}{l:List Int}{ex:List AV}{ty:TypeId}(h:S.bx[id]? = some (.cells (l.map encI++ex) ty))(hn:n=l.length):fzb S (.vsl id 0 n 1)=some (.sl false (l.map encI)):=by
 have hc:=int_cut l ex
 have hall:(l.map encI).all AV.isCell=true:=List.all_eq_true.2 fun e he=>by
  obtain⟨x,_,rfl⟩:=List.mem_map.1 he
  rfl
 simp only[fzb,h]
 rw[if_pos ⟨by rw[hn,List.length_append,List.length_map];omega,Nat.le_refl _⟩,List.drop_zero,hn,hc,fzs_encI,Option.bind_some,hall]
 simp
theorem rch_ld {out:List Nat}{k x d:Nat}(h:out[k]? = some x)(n:Nat)(hn:n=1):((out.map fun i:Nat=>(i:Int)).map encI++List.replicate (d*1) AV.undef)[0+(k:Int).toNat*n]? = some (.int .i64 x):=by
 have hk:=(List.getElem?_eq_some_iff.1 h).1
 simp only[hn,Int.toNat_natCast,Nat.zero_add,Nat.mul_one]
 rw[List.getElem?_append_left (by rw[List.length_map,List.length_map];exact hk),List.getElem?_map,List.getElem?_map,h]
 rfl
structure RchI (n:Net)(before after:List Req)(s t:Sched)(S:St)(out:List Int)(id d q:Nat):Prop where
 oj:OJ n before after s t S
 bx:S.bx[id]? = some (.cells (out.map encI++List.replicate (d*1) .undef) 3)
 n8:q≠8
 n6:q≠6
 n7:q≠7
 mp:∃ks vs,S.bx[q]? = some (.map none ks (vs.map AV.bool))∧SeenO ks vs out
theorem c_ReachedO (n:Net)(hn:n.small)(before after:List Req)(hq1:before.length≤1000)(hq2:after.length≤1000)(hx1:∀x∈before,x.small)(hx2:∀x∈after,x.small)(s t:Sched)(hs:s.cells.length≤400)(ht:t.cells.length≤400) :
  PCall Tryz.prog LW 19 [n.av,encReqs before,encReqs after,s.av,t.av] (.tup [encIs (reachedO n before after s t).1,.int .i64 (reachedO n before after s t).2]):=by
 refine PCall.intro mixed [5] (nt:=73) Tryz.func19 rfl rfl (by simp) ?_
 refine Wk ?_
 refine CallK.inl rfl (i_open n hn before after hq1 hq2 hx1 hx2 s t (by omega) (by omega) _ _ _ _ _ _ (fun S' hne=>?_) (fun S' h0 h8 h6 h7=>?_))
 ·have g:(openO n before after s t != 0)=true:=by simpa using hne
  repeat((conv=>whnf);first|refine sT ?_|rw[g])
  try(conv=>whnf)
  exact resP.mk rfl (Sees.of_eq (by unfold reachedO;rw[if_pos hne];rfl))
 have hI1:OJ n before after s t S':=OJ.start h8 h6 h7
 have hop:=opn_ok h0
 have hm13:stO s t≤12:=hop.few
 have htw:=two_le (i:=stO s t) (by omega)
 have hpw:=Nat.two_pow_pos (stO s t)
 have hA:∀(S:St) o,(S.addB o).bx[S.bx.length]? = some o:=fun S o=>St.addB_get S o
 have hA2:∀(S:St) o o',((S.addB o).setB S.bx.length o').bx[S.bx.length]? = some o':=fun S o o'=>St.setB_get (St.addB_get S o)
 have hl8:8 < S'.bx.length:=(List.getElem?_eq_some_iff.1 h8).1
 have hmo:∀X:St,mapOf (X.addB (.map none [] [])) none (.mp X.bx.length)=some ([],[]):=fun X=>mapOf_at (hA X _)
 repeat((conv=>whnf);first|refine sT ?_ )
 try(conv=>whnf)
 refine SeqK.cutN mixed [] [16] (fun (z:Nat×Nat×Nat) (S3:St)=>RchI n before after s t S3 [0] z.1 z.2.1 z.2.2) (fun z=>[(12,.ptr 8 0),(14,.vsl z.1 0 1 1),(15,.mp z.2.2)]) ?_ ?_
 ·repeat((conv=>whnf);first|refine sT ?_|rw[hmo])
  try(conv=>whnf)
  have hx:∀(id:Nat) (x o:Ob),S'.bx[id]? = some x→(((S'.addB (.cells [.int .i64 0] 3)).addB (.map none [] [])).setB (S'.addB (.cells [.int .i64 0] 3)).bx.length o).bx[id]? = some x:=fun id x o h=>by
   have hlt:=(List.getElem?_eq_some_iff.1 h).1
   rw[St.setB_ne (by rw[St.addB_len];omega)]
   exact St.addB_old (St.addB_old h)
  refine⟨(S'.bx.length,0,(S'.addB (.cells [.int .i64 0] 3)).bx.length),⟨hI1.more fun id x h=>hx id x _ h,?_,by simp only[St.addB_len];omega,by simp only[St.addB_len];omega,by simp only[St.addB_len];omega,[[0]],[true],?_,SeenO.nil.put 0⟩,Sees.of_eq rfl,Sees.of_eq rfl,Sees.of_eq rfl,trivial⟩
  ·show(St.setB _ _ _).bx[S'.bx.length]? = _
   rw[St.setB_ne (by rw[St.addB_len];omega)]
   exact St.addB_old (hA _ _)
  ·exact St.setB_get (hA _ _)
 rintro⟨id,d,q⟩ S3 hR
 dsimp only at hR ⊢
 repeat((conv=>whnf);first|refine sT ?_ )
 try(conv=>whnf)
 refine SeqK.cutN mixed [] [] (fun (z:List Nat×Nat×Nat×Nat) (S3:St)=>RchI n before after s t S3 (z.1.map fun i:Nat=>(i:Int)) z.2.1 z.2.2.1 z.2.2.2∧WkO (stO s t) (cnO n before after s t) z.1 z.1.length) (fun z=>[(14,.vsl z.2.1 0 z.1.length 1)]) ?_ ?_
 ·repeat((conv=>whnf);first|refine sT ?_ )
  try(conv=>whnf)
  refine LoopK.runS mixed [7] (fun (z:List Nat×Nat×Nat×Nat) (S4:St)=>RchI n before after s t S4 (z.1.map fun i:Nat=>(i:Int)) z.2.1 z.2.2.1 q∧WkO (stO s t) (cnO n before after s t) z.1 z.2.2.2∧z.2.2.2≤z.1.length) (fun z=>[(12,.ptr 8 0),(14,.vsl z.2.1 0 z.1.length 1),(15,.mp q),(16,.int .i64 z.2.2.2)]) (fun z=>2 ^ stO s t-z.2.2.2) ([0],id,d,0) ⟨hR,WkO.start,by simp⟩ ?_ ?_
  ·exact⟨Sees.of_eq rfl,Sees.of_eq rfl,Sees.of_eq rfl,Sees.of_eq rfl,trivial⟩
  rintro⟨out,id,d,k⟩ S4 ⟨hR4,hW4,hk⟩
  dsimp only at hR4 hW4 hk ⊢
  have hol:=hW4.len
  by_cases hkl:k < out.length
  rotate_left
  ·have hkn:k=out.length:=by omega
   subst hkn
   have gk:decide ((out.length:Int) < (out.length:Int))=false:=decide_eq_false (by omega)
   repeat((conv=>whnf);first|refine sT ?_|rw[gk])
   try(conv=>whnf)
   exact⟨(out,id,d,q),⟨hR4,hW4⟩,Sees.of_eq rfl,trivial⟩
  have gk:decide ((k:Int) < (out.length:Int))=true:=decide_eq_true (by omega)
  obtain⟨T,hgT⟩:=getLt hkl
  have hTl:=hW4.lt (List.mem_of_getElem? hgT)
  repeat((conv=>whnf);first|refine sT ?_|rw[gk])
  try(conv=>whnf)
  refine SeqK.cutN mixed [10011] [] (fun (z:List Nat×Nat×Nat) (S5:St)=>RchI n before after s t S5 (z.1.map fun i:Nat=>(i:Int)) z.2.1 z.2.2 q∧WkO (stO s t) (cnO n before after s t) z.1 (k+1)∧k+1≤z.1.length) (fun z=>[(12,.ptr 8 0),(14,.vsl z.2.1 0 z.1.length 1),(15,.mp q),(16,.int .i64 k)]) ?_ ?_
  rotate_left
  ·rintro⟨out2,id2,d2⟩ S5 ⟨hR5,hW5,hk5⟩
   dsimp only at hR5 hW5 hk5 ⊢
   refine Wk ?_
   have hol5:=hW5.len
   exact⟨(out2,id2,d2,k+1),⟨hR5,hW5,hk5⟩,by simp only;omega,Sees.of_eq rfl,Sees.of_eq rfl,Sees.of_eq rfl,Sees.int (by rw[w64 (by omega) (by omega)];rfl),trivial⟩
  have hbx4:=hR4.bx
  have hin:InB (k:Int) out.length:=⟨by omega,by omega⟩
  have hld:=rch_ld (d:=d) hgT
  repeat((conv=>whnf);first|refine sJ ?_|refine aI (by first|exact trivial|exact hin|kernel_rfl) ?_|rw[hbx4]|(rw[hld];rotate_left;rfl))
  try(conv=>whnf)
  refine CallK.inl rfl (i_next n hn before after hx1 hx2 s t hs h0 T hTl S4 hR4.oj fun S5 hI5 hK5=>?_)
  obtain⟨can,hcan⟩:∃can,can=cnO n before after s t:=⟨_,rfl⟩
  rw[←hcan]at hW4 ⊢
  obtain⟨l,hl⟩:∃l,l=nextM (stO s t) can T:=⟨_,rfl⟩
  have hll:l.length≤12:=by rw[hl];have:=next_un (m:=stO s t) (can:=can) T;have:=un_le (stO s t) T;omega
  rw[←hl]
  have hR5:RchI n before after s t S5 (out.map fun i:Nat=>(i:Int)) id d q:=by
   obtain⟨r1,r2,r3,r4,r5,ks,vs,r6,r7⟩:=hR4
   exact⟨hI5,r1.cells hK5 r2,r3,r4,r5,ks,vs,hK5.bx q _ r4 r5 r6,r7⟩
  repeat((conv=>whnf);first|refine sT ?_|rw[List.length_map])
  try(conv=>whnf)
  refine LoopK.runS mixed [10011] (fun (z:List Nat×Nat×Nat×Nat) (S6:St)=>RchI n before after s t S6 (z.1.map fun i:Nat=>(i:Int)) z.2.1 z.2.2.1 q∧WkI (stO s t) can z.1 k T z.2.2.2∧z.2.2.2≤l.length) (fun z=>[(12,.ptr 8 0),(14,.vsl z.2.1 0 z.1.length 1),(15,.mp q),(16,.int .i64 k),(46,encIs (l.map fun i:Nat=>(i:Int))),(47,.int .i64 l.length),(48,.int .i64 z.2.2.2)]) (fun z=>l.length-z.2.2.2) (out,id,d,0) ⟨hR5,hW4.inner hgT,by simp⟩ ?_ ?_
  ·exact⟨Sees.of_eq rfl,Sees.of_eq rfl,Sees.of_eq rfl,Sees.of_eq rfl,Sees.of_eq rfl,Sees.int (by simp),Sees.of_eq rfl,trivial⟩
  rintro⟨out,id,d,j⟩ S6 ⟨hR6,hW6,hj⟩
  dsimp only at hR6 hW6 hj ⊢
  by_cases hjl:j < l.length
  rotate_left
  ·have hjn:j=l.length:=by omega
   subst hjn
   have gj:decide ((l.length:Int) < (l.length:Int))=false:=decide_eq_false (by omega)
   repeat((conv=>whnf);first|refine sT ?_|rw[gj])
   try(conv=>whnf)
   have hkl6:=(List.getElem?_eq_some_iff.1 hW6.here).1
   exact⟨(out,id,d),⟨hR6,hW6.done (by rw[←hl];exact Nat.le_refl _),hkl6⟩,Sees.of_eq rfl,Sees.of_eq rfl,Sees.of_eq rfl,Sees.of_eq rfl,trivial⟩
  have gj:decide ((j:Int) < (l.length:Int))=true:=decide_eq_true (by omega)
  obtain⟨i,hgi⟩:=getLt hjl
  have hmi:=getMap (f:=encI) (show(l.map fun i:Nat=>(i:Int))[j]? = some (i:Int) by rw[List.getElem?_map,hgi];rfl)
  have hgi2:(nextM (stO s t) can T)[j]? = some i:=by rw[←hl];exact hgi
  have him:=nextM_mem.1 (List.mem_of_getElem? hgi2)
  have hkl6:=(List.getElem?_eq_some_iff.1 hW6.here).1
  have hin6:InB (k:Int) out.length:=⟨by omega,by omega⟩
  have hld6:=rch_ld (d:=d) hW6.here
  have hbx6:=hR6.bx
  have hol6:=hW6.wk.len
  have hsh:=shlN (i:=i) (by omega)
  have htk:=two_le (i:=i) (by omega)
  have hor:=or64 (a:=T) (b:=2 ^ i) (by omega) (by omega)
  repeat((conv=>whnf);first|refine sJ ?_|refine aI (by first|exact trivial|exact inbMap (f:=encI) (show j < (l.map fun i:Nat=>(i:Int)).length by rw[List.length_map];exact hjl)|kernel_rfl) ?_|rw[gj]|rw[hmi])
  try(conv=>whnf)
  refine SemK.regionFin mixed (fun X=>X.bx[id]? = some (.cells ((out.map fun i:Nat=>(i:Int)).map encI++List.replicate (d*1) .undef) 3)) [0,1,2,3,4,5,6,7] 0 rfl rfl (by decide) rfl hbx6 ?_
  iterate 8
   conv=>whnf
   apply exV
   ·rintro S' K' hI hh
    repeat((conv=>whnf);first|refine sJ ?_|refine aI (by first|exact trivial|exact hin6|exact(show(0:Int)≤_ by omega)|kernel_rfl) ?_|erw [hI]|(rw[hld6];rotate_left;rfl)|rw[hsh]|rw[hor])
    try(conv=>whnf)
    exact hh
  conv=>whnf
  obtain⟨r1,r2,r3,r4,r5,ks,vs,r6,r7⟩:=hR6
  have hget:=r7.get ((T ||| 2 ^ i:Nat):Int)
  have hmem:((T ||| 2 ^ i:Nat):Int)∈(out.map fun i:Nat=>(i:Int))↔(T ||| 2 ^ i)∈out:=by
   rw[List.mem_map]
   constructor
   ·rintro⟨a,h1,h2⟩
    rw[←Int.ofNat_inj.1 h2];exact h1
   ·intro h;exact⟨_,h,rfl⟩
  have hoL:∀v,v=.mp q→mapOfL S6 none v=some (ks,vs.map AV.bool):=fun v hv=>mapOfL_at r6 hv
  by_cases hin:(T ||| 2 ^ i)∈out
  ·have hb:(getK ks vs [((T ||| 2 ^ i:Nat):Int)])=some true:=by
    rw[decide_eq_true (hmem.2 hin)]at hget
    cases hg:getK ks vs [((T ||| 2 ^ i:Nat):Int)] with
    | none=>rw[hg]at hget;cases hget
    | some b=>rw[hg]at hget;rw[show b=true from hget]
   have has:assoc ks (vs.map AV.bool) [((T ||| 2 ^ i:Nat):Int)] = some (.bool true):=by rw[assocB,hb];rfl
   repeat((conv=>whnf);first|refine sT ?_|(rw[hoL];rotate_left;rfl)|(rw[assoc_at has];rotate_left;rfl))
   try(conv=>whnf)
   exact⟨(out,id,d,j+1),⟨⟨r1,r2,r3,r4,r5,ks,vs,r6,r7⟩,hW6.hit hgi2 hin,by simp only;omega⟩,by simp only;omega,Sees.of_eq rfl,Sees.of_eq rfl,Sees.of_eq rfl,Sees.of_eq rfl,Sees.of_eq rfl,Sees.of_eq rfl,Sees.int (succI hjl (by omega)),trivial⟩
  rw[decide_eq_false fun h=>hin (hmem.1 h)]at hget
  cases hg:getK ks vs [((T ||| 2 ^ i:Nat):Int)] with
  | none=>
   have has:assoc ks (vs.map AV.bool) [((T ||| 2 ^ i:Nat):Int)] = none:=by rw[assocB,hg];rfl
   have hmo6:=mapOf_at (sh:=none) r6
   have hidq:id≠q:=ne_cm r2 r6
   have hbx7:∀o,(S6.setB q o).bx[id]? = some (.cells ((out.map fun i:Nat=>(i:Int)).map encI++List.replicate (d*1) .undef) 3):=fun o=>(St.setB_ne hidq.symm).trans r2
   have hbx8:∀o x e,((S6.setB q o).addF x e).bx[id]? = some (.cells ((out.map fun i:Nat=>(i:Int)).map encI++List.replicate (d*1) .undef) 3):=fun o x e=>hbx7 o
   have hq7:∀o,(S6.setB q o).bx[q]? = some o:=fun o=>St.setB_get r6
   have hoj7:∀o,OJ n before after s t (S6.setB q o):=fun o=>by
    obtain⟨k1,v1,e1,g1⟩:=r1.m1
    obtain⟨k2,v2,e2,g2⟩:=r1.m2
    exact⟨(St.setB_ne r3).trans r1.p,⟨k1,v1,(St.setB_ne r4).trans e1,g1⟩,⟨k2,v2,(St.setB_ne r5).trans e2,g2⟩,by decide⟩
   have hput:∃ks' vs',(Ob.map none (setKs ks [((T ||| 2 ^ i:Nat):Int)]) (setVs ks (vs.map AV.bool) [((T ||| 2 ^ i:Nat):Int)] (.bool true)))=.map none ks' (vs'.map AV.bool)∧SeenO ks' vs' ((out++[T ||| 2 ^ i]).map fun i:Nat=>(i:Int)):=⟨_,_,by rw[setVs_map AV.bool],by rw[List.map_append];exact r7.put _⟩
   have hws:=hW6.miss hgi2 hin
   have hwl:=hws.wk.len
   have hlen:=int_len (out.map fun i:Nat=>(i:Int)) d
   rw[List.length_map]at hlen
   repeat((conv=>whnf);first|refine sJ ?_|refine aI (by first|exact trivial|exact(show(out.length+1)*8≤_ by omega)|exact(show out.length+1≤maxLen by unfold maxLen;omega)|(rw[hlen];omega)|kernel_rfl) ?_|(rw[hoL];rotate_left;rfl)|(rw[assoc_at has];rotate_left;rfl)|rw[hmo6]|rw[hbx8])
   try(conv=>whnf)
   have hpush:=int_push (out.map fun i:Nat=>(i:Int)) ((T ||| 2 ^ i:Nat):Int) d
   have hcut:=int_cut (out.map fun i:Nat=>(i:Int)) (List.replicate (d*1) .undef)
   rw[List.length_map]at hpush hcut
   obtain⟨ks',vs',hm',hsn'⟩:=hput
   rw[hm']
   refine And.intro ⟨rfl,rfl,Els.of_b rfl,Nat.zero_lt_one,(show(out.length+1)*8≤140737488355328 by omega),(show out.length+1≤maxLen by unfold maxLen;omega),(show out.length*1≤_ by rw[hlen];omega)⟩ ?_
   refine AppK.mk (fun hroom=>?_) (fun _=>?_)
   ·have hroom:(out.length+1)*1≤_:=hroom
    rw[hlen]at hroom
    refine Wk ?_
    refine⟨(out++[T ||| 2 ^ i],id,d-1,j+1),⟨⟨OJ.setD (S:=(S6.setB q _).addF _ _) ((hoj7 _).same rfl) (hbx8 _ _ _) _,?_,r3,r4,r5,ks',vs',(St.setB_ne hidq).trans (hq7 _),hsn'⟩,hws,by simp only;omega⟩,by simp only;omega,Sees.of_eq rfl,Sees.of_eq (by rw[List.length_append];rfl),Sees.of_eq rfl,Sees.of_eq rfl,Sees.of_eq rfl,Sees.of_eq rfl,Sees.int (succI hjl (by omega)),trivial⟩
    refine(St.setB_get (hbx8 _ _ _)).trans ?_
    rw[List.map_append]
    show some (Ob.cells (splice _ (out.length*1) [encI _]) _)=_
    rw[hpush (by omega)]
    rfl
   ·intro d2
    refine Wk ?_
    refine⟨(out++[T ||| 2 ^ i],_,d2,j+1),⟨⟨(hoj7 _).more fun id x h=>St.addB_old (S:=(S6.setB q _).addF _ _) h,?_,r3,r4,r5,ks',vs',St.addB_old (S:=(S6.setB q _).addF _ _) (hq7 _),hsn'⟩,hws,by simp only;omega⟩,by simp only;omega,Sees.of_eq rfl,Sees.of_eq (by rw[List.length_append];rfl),Sees.of_eq rfl,Sees.of_eq rfl,Sees.of_eq rfl,Sees.of_eq rfl,Sees.int (succI hjl (by omega)),trivial⟩
    refine(St.addB_get _ _).trans ?_
    rw[List.map_append]
    show some (Ob.cells (List.take (out.length*1) _++[encI _]++List.replicate (d2*1) _) _)=_
    rw[hcut,List.map_append]
    rfl
  | some b=>
   rw[hg]at hget
   have hb:b=false:=hget
   have has:assoc ks (vs.map AV.bool) [((T ||| 2 ^ i:Nat):Int)] = some (.bool false):=by rw[assocB,hg,hb];rfl
   have hmo6:=mapOf_at (sh:=none) r6
   have hidq:id≠q:=ne_cm r2 r6
   have hbx7:∀o,(S6.setB q o).bx[id]? = some (.cells ((out.map fun i:Nat=>(i:Int)).map encI++List.replicate (d*1) .undef) 3):=fun o=>(St.setB_ne hidq.symm).trans r2
   have hbx8:∀o x e,((S6.setB q o).addF x e).bx[id]? = some (.cells ((out.map fun i:Nat=>(i:Int)).map encI++List.replicate (d*1) .undef) 3):=fun o x e=>hbx7 o
   have hq7:∀o,(S6.setB q o).bx[q]? = some o:=fun o=>St.setB_get r6
   have hoj7:∀o,OJ n before after s t (S6.setB q o):=fun o=>by
    obtain⟨k1,v1,e1,g1⟩:=r1.m1
    obtain⟨k2,v2,e2,g2⟩:=r1.m2
    exact⟨(St.setB_ne r3).trans r1.p,⟨k1,v1,(St.setB_ne r4).trans e1,g1⟩,⟨k2,v2,(St.setB_ne r5).trans e2,g2⟩,by decide⟩
   have hput:∃ks' vs',(Ob.map none (setKs ks [((T ||| 2 ^ i:Nat):Int)]) (setVs ks (vs.map AV.bool) [((T ||| 2 ^ i:Nat):Int)] (.bool true)))=.map none ks' (vs'.map AV.bool)∧SeenO ks' vs' ((out++[T ||| 2 ^ i]).map fun i:Nat=>(i:Int)):=⟨_,_,by rw[setVs_map AV.bool],by rw[List.map_append];exact r7.put _⟩
   have hws:=hW6.miss hgi2 hin
   have hwl:=hws.wk.len
   have hlen:=int_len (out.map fun i:Nat=>(i:Int)) d
   rw[List.length_map]at hlen
   repeat((conv=>whnf);first|refine sJ ?_|refine aI (by first|exact trivial|exact(show(out.length+1)*8≤_ by omega)|exact(show out.length+1≤maxLen by unfold maxLen;omega)|(rw[hlen];omega)|kernel_rfl) ?_|(rw[hoL];rotate_left;rfl)|(rw[assoc_at has];rotate_left;rfl)|rw[hmo6]|rw[hbx8])
   try(conv=>whnf)
   have hpush:=int_push (out.map fun i:Nat=>(i:Int)) ((T ||| 2 ^ i:Nat):Int) d
   have hcut:=int_cut (out.map fun i:Nat=>(i:Int)) (List.replicate (d*1) .undef)
   rw[List.length_map]at hpush hcut
   obtain⟨ks',vs',hm',hsn'⟩:=hput
   rw[hm']
   refine And.intro ⟨rfl,rfl,Els.of_b rfl,Nat.zero_lt_one,(show(out.length+1)*8≤140737488355328 by omega),(show out.length+1≤maxLen by unfold maxLen;omega),(show out.length*1≤_ by rw[hlen];omega)⟩ ?_
   refine AppK.mk (fun hroom=>?_) (fun _=>?_)
   ·have hroom:(out.length+1)*1≤_:=hroom
    rw[hlen]at hroom
    refine Wk ?_
    refine⟨(out++[T ||| 2 ^ i],id,d-1,j+1),⟨⟨OJ.setD (S:=(S6.setB q _).addF _ _) ((hoj7 _).same rfl) (hbx8 _ _ _) _,?_,r3,r4,r5,ks',vs',(St.setB_ne hidq).trans (hq7 _),hsn'⟩,hws,by simp only;omega⟩,by simp only;omega,Sees.of_eq rfl,Sees.of_eq (by rw[List.length_append];rfl),Sees.of_eq rfl,Sees.of_eq rfl,Sees.of_eq rfl,Sees.of_eq rfl,Sees.int (succI hjl (by omega)),trivial⟩
    refine(St.setB_get (hbx8 _ _ _)).trans ?_
    rw[List.map_append]
    show some (Ob.cells (splice _ (out.length*1) [encI _]) _)=_
    rw[hpush (by omega)]
    rfl
   ·intro d2
    refine Wk ?_
    refine⟨(out++[T ||| 2 ^ i],_,d2,j+1),⟨⟨(hoj7 _).more fun id x h=>St.addB_old (S:=(S6.setB q _).addF _ _) h,?_,r3,r4,r5,ks',vs',St.addB_old (S:=(S6.setB q _).addF _ _) (hq7 _),hsn'⟩,hws,by simp only;omega⟩,by simp only;omega,Sees.of_eq rfl,Sees.of_eq (by rw[List.length_append];rfl),Sees.of_eq rfl,Sees.of_eq rfl,Sees.of_eq rfl,Sees.of_eq rfl,Sees.int (succI hjl (by omega)),trivial⟩
    refine(St.addB_get _ _).trans ?_
    rw[List.map_append]
    show some (Ob.cells (List.take (out.length*1) _++[encI _]++List.replicate (d2*1) _) _)=_
    rw[hcut,List.map_append]
    rfl
 rintro⟨out,id,d,q⟩ S4 ⟨hR4,hW4⟩
 dsimp only at hR4 hW4 ⊢
 have hbx:=hR4.bx
 have hol:=hW4.len
 have h0m:=hW4.zero
 have hne:out.length≠0:=fun h=>by rw[List.length_eq_zero_iff.1 h]at h0m;cases h0m
 have hsrt:=hW4.sorted (Nat.le_refl _) (l:=(out.map fun i:Nat=>(i:Int)).mergeSort fun x y=>decide (x≤y)) (List.mergeSort_perm _ _) ((List.pairwise_mergeSort (le:=fun x y:Int=>decide (x≤y)) (fun a b c h1 h2=>decide_eq_true (Int.le_trans (of_decide_eq_true h1) (of_decide_eq_true h2))) (fun a b=>by simp only[Bool.or_eq_true,decide_eq_true_eq];omega) _).imp fun h=>of_decide_eq_true h)
 have hlen:out.length=(reachO (stO s t) (cnO n before after s t)).length:=by
  have:=congrArg List.length hsrt
  rw[List.length_mergeSort,List.length_map,List.length_map]at this
  exact this
 repeat((conv=>whnf);first|refine sT ?_ )
 try(conv=>whnf)
 refine CallK.inl rfl (i_sortI (ds:=out.map fun i:Nat=>(i:Int)) hbx (by rw[List.length_map];omega) (by rw[List.length_map]) hne ?_)
 rw[hsrt]
 have hb5:∀o,(S4.setB id o).bx[id]? = some o:=fun o=>St.setB_get hbx
 refine Wk ?_
 have hre:reachedO n before after s t=((reachO (stO s t) (cnO n before after s t)).map fun i:Nat=>(i:Int),0):=by unfold reachedO;rw[if_neg (by omega)]
 rw[hre]
 refine⟨.tup [encIs ((reachO (stO s t) (cnO n before after s t)).map fun i:Nat=>(i:Int)),.int .i64 0],?_,Sees.of_eq rfl⟩
 have hz:∀X:St,X.bx[id]? = some (.cells (((reachO (stO s t) (cnO n before after s t)).map fun i:Nat=>(i:Int)).map encI++List.replicate (d*1) .undef) 3)→fzb X (.tup [.vsl id 0 out.length 1,.int .i64 0])=some (.tup [encIs ((reachO (stO s t) (cnO n before after s t)).map fun i:Nat=>(i:Int)),.int .i64 0]):=fun X hX=>by
  show Option.map AV.tup (fzbs X [.vsl id 0 out.length 1,.int .i64 0])=_
  rw[show fzbs X [.vsl id 0 out.length 1,.int .i64 0] = some [encIs ((reachO (stO s t) (cnO n before after s t)).map fun i:Nat=>(i:Int)),.int .i64 0] from fz2 (fzb_int hX (by rw[List.length_map];exact hlen)) rfl]
  rfl
 exact hz _ (hb5 _)
theorem n43_small:n43.small:=⟨by decide,by decide,by decide,by decide⟩
theorem qb43_small:∀x∈qb43,x.small:=fun x hx=>by
 simp only[qb43,List.mem_singleton]at hx
 subst hx
 exact⟨by decide,by decide⟩
theorem qa43_small:∀x∈qa43,x.small:=fun x hx=>by
 simp only[qa43,List.mem_singleton]at hx
 subst hx
 exact⟨by decide,by decide⟩
theorem c_EqIO (L:World→Prop)(a b:List Int)(ha:a.length≤281474976710656):PCall Tryz.prog L 21 [encIs a,encIs b] (.bool (decide (a=b))):=by
 refine PCall.intro mixed [] (nt:=26) Tryz.func21 rfl rfl (by simp) ?_
 refine Wk ?_
 refine BrK.mk (fun h1=>?_) (fun h1=>?_)<;>(try rw[h1])
 ·have hne:a.length≠b.length:=by simp at h1;omega
  refine Wk ?_
  exact resP.mk rfl (Sees.bool (by rw[decide_eq_false (fun h=>hne (by rw[h]))]))
 have hl:a.length=b.length:=by simp at h1;omega
 refine Wk ?_
 refine LoopK.run mixed [] (fun (k:Nat)=>k≤a.length∧∀(j:Nat) x y,j < k→a[j]? = some x→b[j]? = some y→x=y) (fun k=>[(0,encIs a),(1,encIs b),(12,.int .i64 a.length),(13,.int .i64 k)]) (fun k=>St.none) (fun k=>a.length-k) 0 ⟨by simp,by simp⟩ ?_ ?_
 ·refine fN ?_<;>repeat' (first|exact fQ|refine And.intro ?_ ?_|exact Sees.int (by simp))
 rintro k ⟨hk,hinv⟩
 refine Wk ?_
 refine BrK.mk (fun hb=>?_) (fun hb=>?_)<;>try rw[hb]
 ·have hkt:k < a.length:=by simpa using hb
  obtain⟨x,hgx⟩:=getLt hkt
  obtain⟨y,hgy⟩:=getLt (l:=b) (k:=k) (by omega)
  have hmx:=getMap (f:=encI) hgx
  have hmy:=getMap (f:=encI) hgy
  repeat((conv=>whnf);first|refine sJ ?_|refine aI (by first|exact inbMap hkt|exact inbMap (by omega:k < b.length)|kernel_rfl) ?_|rw[hmx]|rw[hmy])
  try(conv=>whnf)
  refine BrK.mk (fun h2=>?_) (fun h2=>?_)<;>(try rw[h2])
  ·have hne:¬a=b:=fun h=>by
    subst h
    rw[hgx]at hgy
    injection hgy with hgy
    subst hgy
    simp at h2
   refine Wk ?_
   exact resP.mk rfl (Sees.bool (by rw[decide_eq_false hne]))
  ·have hxy:x=y:=by simpa using h2
   refine Wk ?_
   refine⟨k+1,⟨by omega,fun j x' y' hj hx' hy'=>?_⟩,by omega,?_⟩
   ·rcases Nat.lt_succ_iff_lt_or_eq.1 hj with h|rfl
    ·exact hinv j x' y' h hx' hy'
    ·rw[hgx]at hx';rw[hgy]at hy';injection hx' with hx';injection hy' with hy';rw[←hx',←hy',hxy]
   ·refine fN ?_<;>repeat' (first|exact fQ|refine And.intro ?_ ?_|exact Sees.int (succI hkt ha))
 ·have hkn:k=a.length:=by simp at hb;omega
  subst hkn
  refine Wk ?_
  exact resP.mk rfl (Sees.bool (by rw[decide_eq_true (eq_of_at hl hinv)]))
def nz43:List AV:=[.int .i64 0,.nils,.int .i64 0,.int .i64 0,.nils,.nils]
def sz43:List AV:=[.int .i64 0,.int .i64 0,.nils]
def pw43 (k:Nat):List AV:=(n43.power.take k).map encIs
def lk43 (k:Nat):List AV:=(n43.links.take (2*k)).map Link.av
def mg43 (k:Nat):List AV:=(n43.margin.take (2*k)).map encI
def bx43 (k:Nat):List Ob:=[.cells nz43 36,.cells sz43 24,.cells sz43 24,.cells [.int .i64 4,.own (pw43 k) 0,.int .i64 1,.int .i64 1000,.own (lk43 k) 1,.own (mg43 k) 2] 36]
def ex43:List Ob:=[.cells nz43 36,.cells sz43 24,.cells sz43 24,.cells n43.cs 36]
theorem c_example43 (L:World→Prop):PCall Tryz.prog L 31 [] (.tup [n43.av,encReqs qb43,encReqs qa43,s43.av,t43.av]):=by
 refine PCall.intro mixed [2,14,15,16,17] (nt:=66) Tryz.func31 rfl rfl (by simp) ?_
 refine Wk ?_
 refine SeqK.sem mixed [] ?_
 refine Wk ?_
 refine SemK.bornM 3 1 34 36 [.int .i64 4] [.int .i64 1,.int .i64 1000,.nils,.nils] rfl ?_
 refine SemK.bornM 3 3 103 36 [.int .i64 4,.own [] 0,.int .i64 1,.int .i64 1000] [.nils] rfl ?_
 refine SemK.bornM 3 1 3 36 [.int .i64 4,.own [] 0,.int .i64 1,.int .i64 1000,.own [] 1] [] rfl ?_
 refine twC_sound (ct:=[14]) mixed _ _ _ _ ?_
 refine Wk ?_
 refine SeqK.cutS mixed [15] [(0,.ptr 0 0),(1,.nils),(2,.nils),(3,.ptr 1 0),(4,.ptr 2 0),(5,.ptr 3 0)] ⟨ex43,[],0,0,fun _=>0⟩ (twC_sound (ct:=[]) mixed _ _ _ _ ?_) ?_
 ·refine Wk ?_
  refine LoopK.run mixed [] (fun k:Nat=>k≤4) (fun k=>[(0,.ptr 0 0),(1,.nils),(2,.nils),(3,.ptr 1 0),(4,.ptr 2 0),(5,.ptr 3 0),(12,.int .i64 k)]) (fun k=>⟨bx43 k,[(k,1),(2*k,3),(2*k,1)],0,0,fun c=>if c=0 then 34 else if c=1 then 103 else if c=2 then 3 else 0⟩) (fun k=>4-k) 0 (by omega) ?_ ?_
  ·refine fN ?_<;>repeat' (first|exact fQ|refine And.intro ?_ ?_|exact SeesL.rfl' _)
  rintro k hk
  have h5:k=0∨k=1∨k=2∨k=3∨k=4:=by omega
  rcases h5 with rfl|rfl|rfl|rfl|rfl
  ·repeat((conv=>whnf);first|refine sJ ?_|refine aI (by first|exact trivial|exact⟨by decide,by decide⟩|exact(show(2:Int)≠0 by decide)|exact Els.of_b rfl|decide|kernel_rfl) ?_ )
   try(conv=>whnf)
   refine LoopK.rounds mixed [] 5 ?_
   repeat((conv=>whnf);first|refine sJ ?_|refine aI (by first|exact trivial|exact⟨by decide,by decide⟩|exact(show(2:Int)≠0 by decide)|exact Els.of_b rfl|decide|kernel_rfl) ?_ )
   try(conv=>whnf)
   refine⟨1,by decide,by decide,?_⟩
   refine fN ?_<;>repeat' (first|exact fQ|refine And.intro ?_ ?_|exact SeesL.rfl' _|exact Sees.int (by decide))
  ·repeat((conv=>whnf);first|refine sJ ?_|refine aI (by first|exact trivial|exact⟨by decide,by decide⟩|exact(show(2:Int)≠0 by decide)|exact Els.of_b rfl|decide|kernel_rfl) ?_ )
   try(conv=>whnf)
   refine LoopK.rounds mixed [] 5 ?_
   repeat((conv=>whnf);first|refine sJ ?_|refine aI (by first|exact trivial|exact⟨by decide,by decide⟩|exact(show(2:Int)≠0 by decide)|exact Els.of_b rfl|decide|kernel_rfl) ?_ )
   try(conv=>whnf)
   refine⟨2,by decide,by decide,?_⟩
   refine fN ?_<;>repeat' (first|exact fQ|refine And.intro ?_ ?_|exact SeesL.rfl' _|exact Sees.int (by decide))
  ·repeat((conv=>whnf);first|refine sJ ?_|refine aI (by first|exact trivial|exact⟨by decide,by decide⟩|exact(show(2:Int)≠0 by decide)|exact Els.of_b rfl|decide|kernel_rfl) ?_ )
   try(conv=>whnf)
   refine LoopK.rounds mixed [] 5 ?_
   repeat((conv=>whnf);first|refine sJ ?_|refine aI (by first|exact trivial|exact⟨by decide,by decide⟩|exact(show(2:Int)≠0 by decide)|exact Els.of_b rfl|decide|kernel_rfl) ?_ )
   try(conv=>whnf)
   refine⟨3,by decide,by decide,?_⟩
   refine fN ?_<;>repeat' (first|exact fQ|refine And.intro ?_ ?_|exact SeesL.rfl' _|exact Sees.int (by decide))
  ·repeat((conv=>whnf);first|refine sJ ?_|refine aI (by first|exact trivial|exact⟨by decide,by decide⟩|exact(show(2:Int)≠0 by decide)|exact Els.of_b rfl|decide|kernel_rfl) ?_ )
   try(conv=>whnf)
   refine LoopK.rounds mixed [] 5 ?_
   repeat((conv=>whnf);first|refine sJ ?_|refine aI (by first|exact trivial|exact⟨by decide,by decide⟩|exact(show(2:Int)≠0 by decide)|exact Els.of_b rfl|decide|kernel_rfl) ?_ )
   try(conv=>whnf)
   refine⟨4,by decide,by decide,?_⟩
   refine fN ?_<;>repeat' (first|exact fQ|refine And.intro ?_ ?_|exact SeesL.rfl' _|exact Sees.int (by decide))
  ·refine Wk ?_
   refine fN ?_<;>repeat' (first|exact fQ|refine And.intro ?_ ?_|exact SeesL.rfl' _|exact Sees.elems rfl)
 refine SeqK.cutS mixed [16] [(0,.ptr 0 0),(1,.nils),(2,.nils),(3,.ptr 1 0),(4,.ptr 2 0),(5,.ptr 3 0),(8,.ptr 4 0)] ⟨ex43++[.cells f43.av.cells 78],[],0,0,fun _=>0⟩ (twC_sound (ct:=[]) mixed _ _ _ _ ?_) ?_
 ·refine Wk ?_
  refine fN ?_<;>repeat' (first|exact fQ|refine And.intro ?_ ?_|exact SeesL.rfl' _|exact Sees.elems rfl)
 refine SeqK.cutS mixed [17] [(0,.ptr 0 0),(1,.nils),(2,.nils),(3,.ptr 1 0),(4,.ptr 2 0),(5,.ptr 3 0),(8,.ptr 4 0),(9,.ptr 5 0)] ⟨ex43++[.cells f43.av.cells 78,.cells s43.av.cells 24],[],0,0,fun _=>0⟩ (twC_sound (ct:=[]) mixed _ _ _ _ ?_) ?_
 ·refine Wk ?_
  refine fN ?_<;>repeat' (first|exact fQ|refine And.intro ?_ ?_|exact SeesL.rfl' _|exact Sees.elems rfl)
 refine SeqK.cutS mixed [10017] [(0,.ptr 0 0),(1,.nils),(2,.nils),(3,.ptr 1 0),(4,.ptr 2 0),(5,.ptr 3 0),(8,.ptr 4 0),(9,.ptr 5 0),(10,.ptr 6 0)] ⟨ex43++[.cells f43.av.cells 78,.cells s43.av.cells 24,.cells t43.av.cells 24],[],0,0,fun _=>0⟩ (twC_sound (ct:=[]) mixed _ _ _ _ ?_) ?_
 ·refine Wk ?_
  refine fN ?_<;>repeat' (first|exact fQ|refine And.intro ?_ ?_|exact SeesL.rfl' _|exact Sees.elems rfl)
 refine Wk ?_
 refine SemK.regionFin mixed (fun X=>X.bx[3]? = some (.cells n43.cs 36)∧X.bx[4]? = some (.cells f43.av.cells 78)∧X.bx[5]? = some (.cells s43.av.cells 24)∧X.bx[6]? = some (.cells t43.av.cells 24)) [0,1,2,3,4,5,6,7,8,9,10,11,12] 5 rfl rfl (by decide) rfl ⟨rfl,rfl,rfl,rfl⟩ ?_
 iterate 13
  conv=>whnf
  apply exV
  ·rintro S' K' hI hh
   repeat((conv=>whnf);first|refine sJ ?_|refine aI (by first|exact trivial|exact⟨by decide,by decide⟩|kernel_rfl) ?_|erw [hI.1]|erw [hI.2.1]|erw [hI.2.2.1]|erw [hI.2.2.2])
   try(conv=>whnf)
   exact hh
 conv=>whnf
 repeat' ((conv=>whnf);first|exact trivial|refine sJ ?_|refine aI (by first|exact trivial|exact Or.inr ⟨rfl,rfl,rfl,rfl⟩|exact Or.inl rfl|kernel_rfl) ?_|refine And.intro ?_ ?_ )
 all_goals(conv=>whnf)
 exact resP.mk rfl (Sees.of_eq rfl)
def aw43:List Ob:=[.cells n43.cs 36,.cells s43.av.cells 24,.cells t43.av.cells 24]
theorem c_awake43:PCall Tryz.prog LW 10 [] (.bool true):=by
 refine PCall.intro mixed [2,3,4,5] (nt:=113) Tryz.func10 rfl rfl (by simp) ?_
 refine Wk ?_
 refine SeqK.cutS mixed [3,4,5] [(1,.ptr 0 0),(2,encReqs qb43),(3,encReqs qa43),(4,.ptr 1 0),(5,.ptr 2 0)] ⟨aw43,[],0,0,fun _=>0⟩ (twC_sound (ct:=[]) mixed _ _ _ _ ?_) ?_
 ·refine Wk ?_
  refine cD (c_example43 LW) ?_
  refine Wk ?_
  refine fN ?_<;>repeat' (first|exact fQ|refine And.intro ?_ ?_|exact SeesL.rfl' _)
 refine Wk ?_
 refine SeqK.cutS mixed [4,5] [(1,.ptr 0 0),(2,encReqs qb43),(3,encReqs qa43),(4,.ptr 1 0),(5,.ptr 2 0),(6,encChgs (findO n43 qb43 qa43 s43 t43).1),(7,.int .i64 0)] ⟨aw43,[],0,0,fun _=>0⟩ (twC_sound (ct:=[]) mixed _ _ _ _ ?_) ?_
 ·refine Wk ?_
  refine cD (c_FindO n43 n43_small qb43 qa43 (by decide) (by decide) qb43_small qa43_small s43 t43 (by decide) (by decide)) ?_
  refine Wk ?_
  refine fN ?_<;>repeat' (first|exact fQ|refine And.intro ?_ ?_|exact SeesL.rfl' _|exact Sees.int (by rw[e_find43]))
 rw[e_find43]
 refine Wk ?_
 refine SeqK.cutS mixed [5] [(1,.ptr 0 0),(2,encReqs qb43),(3,encReqs qa43),(4,.ptr 1 0),(5,.ptr 2 0),(6,encChgs [⟨0,true,⟨1,0,0,3,1⟩⟩,⟨0,true,⟨3,0,3,2,1⟩⟩,⟨6,false,⟨0,0,0,1,1⟩⟩,⟨6,false,⟨2,0,1,2,1⟩⟩]),(7,.int .i64 0),(8,.int .i64 4),(9,.int .i64 0)] ⟨aw43,[],0,0,fun _=>0⟩ (twC_sound (ct:=[]) mixed _ _ _ _ ?_) ?_
 ·refine Wk ?_
  refine cD (c_CountO n43 n43_small qb43 qa43 (by decide) (by decide) qb43_small qa43_small s43 t43 (by decide) (by decide)) ?_
  rw[e_count43]
  refine Wk ?_
  refine fN ?_<;>repeat' (first|exact fQ|refine And.intro ?_ ?_|exact SeesL.rfl' _)
 refine Wk ?_
 refine SeqK.cutS mixed [] [(1,.ptr 0 0),(2,encReqs qb43),(3,encReqs qa43),(4,.ptr 1 0),(5,.ptr 2 0),(6,encChgs [⟨0,true,⟨1,0,0,3,1⟩⟩,⟨0,true,⟨3,0,3,2,1⟩⟩,⟨6,false,⟨0,0,0,1,1⟩⟩,⟨6,false,⟨2,0,1,2,1⟩⟩]),(7,.int .i64 0),(8,.int .i64 4),(9,.int .i64 0),(10,encIs [0,1,2,3,7,11,15]),(11,.int .i64 0)] ⟨aw43,[],0,0,fun _=>0⟩ (twC_sound (ct:=[]) mixed _ _ _ _ ?_) ?_
 ·refine Wk ?_
  refine cD (c_ReachedO n43 n43_small qb43 qa43 (by decide) (by decide) qb43_small qa43_small s43 t43 (by decide) (by decide)) ?_
  rw[e_reach43]
  refine Wk ?_
  refine fN ?_<;>repeat' (first|exact fQ|refine And.intro ?_ ?_|exact SeesL.rfl' _)
 repeat((conv=>whnf);first|refine sJ ?_|refine aI (by first|exact trivial|exact⟨by decide,by decide⟩|exact Els.of_b rfl|kernel_rfl) ?_ )
 try(conv=>whnf)
 refine cD (c_EqIO LW [0,1,2,3,7,11,15] [0,1,2,3,7,11,15] (by decide)) ?_
 rw[decide_eq_true rfl]
 refine Wk ?_
 refine cD (c_ClosedO n43 n43_small qb43 qa43 (by decide) (by decide) qb43_small qa43_small s43 t43 (by decide) (by decide) [0,1,2,3,7,11,15] (by decide)) ?_
 rw[e_clos43]
 refine Wk ?_
 exact resP.mk rfl (Sees.of_eq rfl)
theorem c_OrderSteps (s t:Sched):PCall Tryz.prog LW 3 [s.av,t.av] (.bool true):=by
 refine PCall.intro mixed [] (nt:=41) Tryz.func3 rfl rfl (by simp) ?_
 refine Wk ?_
 refine cD (c_awake43) ?_
 by_cases h1:40 < s.cells.length
 ·have g1:decide ((s.cells.length:Int) > 40)=true:=decide_eq_true (by omega)
  repeat((conv=>whnf);first|refine sT ?_|rw[List.length_map]|rw[g1])
  try(conv=>whnf)
  exact resP.mk rfl (Sees.bool rfl)
 have g1:decide ((s.cells.length:Int) > 40)=false:=decide_eq_false (by omega)
 by_cases h2:40 < t.cells.length
 ·have g2:decide ((t.cells.length:Int) > 40)=true:=decide_eq_true (by omega)
  repeat((conv=>whnf);first|refine sT ?_|rw[List.length_map]|rw[g1]|rw[g2])
  try(conv=>whnf)
  exact resP.mk rfl (Sees.bool rfl)
 have g2:decide ((t.cells.length:Int) > 40)=false:=decide_eq_false (by omega)
 have hl:(stepsM s t).1.length≤281474976710656:=by
  have:=stepsL_len s t
  unfold stepsM
  split
  ·simp
  split
  ·simp
  ·simp only;omega
 repeat((conv=>whnf);first|refine sT ?_|rw[List.length_map]|rw[g1]|rw[g2])
 try(conv=>whnf)
 refine cD (c_StepsO LW s t (by omega) (by omega)) ?_
 refine Wk ?_
 refine cD (c_Steps43 LW s t (by omega) (by omega)) ?_
 refine Wk ?_
 refine cD (c_SameChg42 (stepsM s t).1 (stepsM s t).1 hl) ?_
 rw[decide_eq_true rfl]
 have g3:((stepsM s t).2==(stepsM s t).2)=true:=by simp
 repeat((conv=>whnf);first|refine sT ?_|rw[g3])
 try(conv=>whnf)
 exact resP.mk rfl (Sees.bool rfl)
end HM
