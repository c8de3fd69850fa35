/- Whether a schedule is valid: nodes twice in a slot, disturbed cells, the whole check. -/
import Derived.Test.YtpdlbjnjdbgpaaaGreatDoorS53
import Derived.Test.YtpdlbjnjdbgpaaaGreatDoorDc
import Derived.Test.YtpdlbjnjdbgpaaaGreatDoorDb
import Derived.Test.YtpdlbjnjdbgpaaaGreatDoorS114
set_option maxHeartbeats 64000000
set_option maxRecDepth 100000
namespace HM
open Go Go.RowKit Go.Proofs
def twSl (s:Sched)(c:Cell):List (Nat×AV):=[(2,.ptr 0 0),(3,.ptr 1 0),(4,.ptr 2 0),(5,.ptr 3 0),(16,.fn 175 [.cptr s.av 0,.cptr (.agg [.int .i64 c.slot]) 0])]
def twBx (s:Sched)(i:Nat)(c:Cell):List Ob:=[.cells [.int .i64 s.len,.int .i64 s.offs,encCells s.cells] 30,.cells [.int .i64 i] 3,.cells [.bool false] 4,.cells [.int .i64 c.slot,.int .i64 c.off,.int .i64 c.src,.int .i64 c.dst,.int .i64 c.flow] 63]
section
variable (L:World→Prop)
theorem c_twice (s:Sched)(hc:s.cells.length≤512)(i:Nat)(hi:i < s.cells.length):PCall Tryz.prog L 68 [s.av,.int .i64 i] (.bool (twiceM s.cells i)):=by
 obtain⟨c,hgc⟩:=getLt hi
 have hmc:=getMap (f:=Cell.av) hgc
 have hF:twiceM s.cells i=(List.range i).any (twAt s.cells c):=by unfold twiceM;rw[hgc]
 refine PCall.intro mixed [] (nt:=54) Tryz.func68 rfl rfl (by simp) ?_
 repeat((conv=>whnf);first|refine sJ ?_|refine aI (by first|exact inbMap hi|kernel_rfl) ?_|rw[hmc])
 try(conv=>whnf)
 refine cD (c_sin L s c.slot) ?_
 refine Wk ?_
 refine RangeK.weak (l:=twSl s c) (S1:=⟨twBx s i c,[],0,0,fun _=>0⟩) ?_ ?_
 ·refine fN ?_<;>repeat' (first|exact fQ|refine And.intro ?_ ?_|exact SeesL.rfl' _)
 refine RangeK.named rfl rfl fun Lp hLp=>?_
 have hok:∀k m,4≤k→Ob.okk k m (.loop Lp):=fun k m hk=>loop_okk (l:=twSl s c) (by rw[hLp]) (by simp[twSl,okL,AV.okk,okks];omega)
 refine ICall.intro mixed [] (nt:=25) Tryz.func175 rfl rfl (by simp) ?_
 refine Wk ?_
 refine LoopK.run mixed [] (fun (k:Nat)=>k≤s.cells.length∧∀j,j < k→j < i→twAt s.cells c j=false) (fun k=>[(0,.yld 4),(1,.cptr s.av 0),(2,.cptr (.agg [.int .i64 c.slot]) 0),(7,encCells s.cells),(8,.int .i64 s.cells.length),(9,.int .i64 k)]) (fun k=>⟨twBx s i c++[.loop Lp],[],5,0,fun _=>0⟩) (fun k=>s.cells.length-k) 0 ⟨by omega,fun j hj=>by omega⟩ ?_ ?_
 ·refine fN ?_<;>repeat' (first|exact fQ|refine And.intro ?_ ?_|exact hok _ _ (le_b rfl)|exact SeesL.rfl' _|exact SeesO.rfl' _|exact Sees.int (by simp))
 rintro k ⟨hk,hinv⟩
 refine Wk ?_
 refine BrK.mk (fun hb=>?_) (fun hb=>?_)<;>try rw[hb]
 ·have hlt:k < s.cells.length:=by simpa using hb
  obtain⟨d,hgd⟩:=getLt hlt
  have hmd:=getMap (f:=Cell.av) hgd
  have hT:twAt s.cells c k=(d.slot==c.slot&&touchB c d):=by unfold twAt;rw[hgd]
  have nxt:(k < i→twAt s.cells c k=false)→∀j,j < k+1→j < i→twAt s.cells c j=false:=fun h j hj hji=>by
   rcases Nat.lt_succ_iff_lt_or_eq.1 hj with h'|rfl
   ·exact hinv j h' hji
   ·exact h hji
  repeat((conv=>whnf);first|refine sJ ?_|refine aI (by first|exact inbMap hlt|kernel_rfl) ?_|rw[hmd])
  try(conv=>whnf)
  cases h3:d.slot==c.slot with
  | false=>
   refine Wk ?_
   refine⟨k+1,⟨by omega,nxt (fun _=>by rw[hT,h3];rfl)⟩,by omega,?_⟩
   refine fN ?_<;>repeat' (first|exact fQ|refine And.intro ?_ ?_|exact hok _ _ (le_b rfl)|exact Sees.int (succI hlt (by omega))|exact SeesL.rfl' _)
  | true=>
   rw[h3,Bool.true_and]at hT
   refine Wk ?_
   refine CallK.round mixed [] hLp rfl rfl rfl ?_
   clear hLp
   by_cases hki:k < i
   rotate_left
   ·have g:decide ((k:Int) < (i:Int))=false:=decide_eq_false (by omega)
    repeat((conv=>whnf);first|refine sJ ?_|refine aI (by first|exact inbMap hlt|kernel_rfl) ?_|rw[hmd]|rw[g])
    try(conv=>whnf)
    refine Wk ?_
    refine⟨k+1,⟨by omega,nxt (fun h=>absurd h hki)⟩,by omega,?_⟩
    refine fN ?_<;>repeat' (first|exact fQ|refine And.intro ?_ ?_|exact hok _ _ (le_b rfl)|exact Sees.int (succI hlt (by omega))|exact SeesL.rfl' _)
   have g:decide ((k:Int) < (i:Int))=true:=decide_eq_true (by omega)
   repeat((conv=>whnf);first|refine sJ ?_|refine aI (by first|exact inbMap hlt|kernel_rfl) ?_|rw[hmd]|rw[g])
   try(conv=>whnf)
   cases e1:c.src==d.src with
   | true=>
    refine Wk ?_
    exact resP.mk rfl (Sees.bool (by rw[hF,any_hit hki (by rw[hT];simp[touchB,e1])]))
   | false=>
    refine Wk ?_
    cases e2:c.src==d.dst with
    | true=>
     refine Wk ?_
     exact resP.mk rfl (Sees.bool (by rw[hF,any_hit hki (by rw[hT];simp[touchB,e2])]))
    | false=>
     refine Wk ?_
     cases e3:c.dst==d.src with
     | true=>
      refine Wk ?_
      exact resP.mk rfl (Sees.bool (by rw[hF,any_hit hki (by rw[hT];simp[touchB,e3])]))
     | false=>
      refine Wk ?_
      cases e4:c.dst==d.dst with
      | true=>
       refine Wk ?_
       exact resP.mk rfl (Sees.bool (by rw[hF,any_hit hki (by rw[hT];simp[touchB,e4])]))
      | false=>
       refine Wk ?_
       refine⟨k+1,⟨by omega,nxt (fun _=>by rw[hT];simp[touchB,e1,e2,e3,e4])⟩,by omega,?_⟩
       refine fN ?_<;>repeat' (first|exact fQ|refine And.intro ?_ ?_|exact hok _ _ (le_b rfl)|exact Sees.int (succI hlt (by omega))|exact SeesL.rfl' _)
 ·have hkn:k=s.cells.length:=by simp at hb;omega
  subst hkn
  refine Wk ?_
  rw[show Lp.st=.ready from by rw[hLp],show Lp.pend=none from by rw[hLp]]
  refine Wk ?_
  exact resP.mk rfl (Sees.bool (by rw[hF,any_nk fun j hj=>hinv j (by omega) hj]))
def dsSl (s:Sched)(c:Cell):List (Nat×AV):=[(3,.ptr 0 0),(4,.ptr 1 0),(5,.ptr 2 0),(7,.ptr 3 0),(8,.ptr 4 0),(20,.fn 175 [.cptr s.av 0,.cptr (.agg [.int .i64 c.slot]) 0])]
def dsBx (n:Net)(s:Sched)(i:Nat)(v:AV)(a:Nat):List Ob:=[.cells n.cs 26,.cells [.int .i64 s.len,.int .i64 s.offs,encCells s.cells] 30,.cells [.int .i64 i] 3,.cells [v] 28,.cells [.int .i64 a] 3]
theorem hears_all {n:Net}(h0:netE n=0){m d:Int}(h1:0≤m)(h2:m≤68719476736)(h3:0≤d):hearsN n m d=heardB n m d:=by
 rcases Int.lt_or_le 8796093022208 d with h|h
 ·have hok:=netE_ok h0
  have h4:n.thr*8796093022208≤n.thr*(n.noise+d):=Int.mul_le_mul_of_nonneg_left (by have:=hok.noise;omega) (by have:=hok.thr;omega)
  have h5:=hok.thr
  have e1:heardB n m d=false:=by unfold heardB;rw[decide_eq_false_iff_not];omega
  rw[e1]
  unfold hearsN
  rw[decide_eq_false (by omega:¬d≤8796093022208)];simp
 ·exact hearsN_ok h0 h1 (by omega) h3 h
def dsAt (cs:List Cell)(c:Cell)(i k:Nat):Nat:=if i < k then shareAt cs c i else 0
theorem share_take {cs:List Cell}{c d:Cell}{k:Nat}(h:cs[k]? = some d):shareL (cs.take (k+1)) c=if shareB c d then shareL (cs.take k) c++[d] else shareL (cs.take k) c:=filter_succ (shareB c) h
theorem c_disturbed (n:Net)(hn:n.small)(h0:netE n=0)(s:Sched)(hc:s.cells.length≤512)(hg:∀c∈s.cells,goodL n c.src c.dst=true)(i:Nat)(hi:i < s.cells.length):PCall Tryz.prog L 69 [n.av,s.av,.int .i64 i] (.bool (disturbB n s.cells i)):=by
 have hok:=netE_ok h0
 obtain⟨c,hgc⟩:=getLt hi
 have hmc:=getMap (f:=Cell.av) hgc
 have hcm:=List.mem_of_getElem? hgc
 have hF:disturbB n s.cells i=(!heardB n (marginAt n c.src c.dst) (distM n (shareL s.cells c) (shareAt s.cells c i) c.dst)||!heardB n (marginAt n c.dst c.src) (distM n (shareL s.cells c) (shareAt s.cells c i) c.src)):=by unfold disturbB;rw[hgc]
 obtain⟨p,m,e1,e2,e3,e4,e5,e6,e7,e8⟩:=good_at hok (hg c hcm)
 obtain⟨p',m',f1,f2,f3,f4,f5,f6,f7,f8⟩:=good_at hok e8
 have hi1:indexN n c.src c.dst=(p:Int):=by rw[indexN,if_pos h0,e1]
 have hi2:indexN n c.dst c.src=(p':Int):=by rw[indexN,if_pos h0,f1]
 have hpl:=(List.getElem?_eq_some_iff.1 e2).1
 have hpl':=(List.getElem?_eq_some_iff.1 f2).1
 have hmm:=getMap (f:=encI) e2
 have hmm':=getMap (f:=encI) f2
 rw[e3,f3]at hF
 obtain⟨S,hS⟩:∃S,S=shareL s.cells c:=⟨_,rfl⟩
 have hsub:∀x∈S,x∈s.cells:=fun x hx=>by rw[hS]at hx;exact(List.mem_filter.1 hx).1
 have hSl:S.length≤512:=by rw[hS];exact Nat.le_trans (List.length_filter_le _ _) hc
 obtain⟨a,ha⟩:∃a,a=shareAt s.cells c i:=⟨_,rfl⟩
 have hSa:S[a]? = some c:=by rw[hS,ha];exact(filter_erase hgc (show shareB c c=true by unfold shareB;simp)).2
 have hal:=(List.getElem?_eq_some_iff.1 hSa).1
 have hmS:=getMap (f:=Cell.av) hSa
 have hin:∀c∈S,insB c.src n.nodes=true∧insB c.dst n.nodes=true:=fun x hx=>by
  obtain⟨_,_,_,_,_,_,_,q1,q2,_⟩:=good_at hok (hg x (hsub x hx))
  exact⟨q1,q2⟩
 have hd1:0≤distM n S a c.dst:=(distU_bd hok S a c.dst S.length).1
 have hd2:0≤distM n S a c.src:=(distU_bd hok S a c.src S.length).1
 rw[←hS,←ha]at hF
 refine PCall.intro mixed [] (nt:=94) Tryz.func69 rfl rfl (by simp) ?_
 repeat((conv=>whnf);first|refine sJ ?_|refine aI (by first|exact inbMap hi|kernel_rfl) ?_|rw[hmc])
 try(conv=>whnf)
 refine cD (c_sin L s c.slot) ?_
 refine Wk ?_
 refine RangeK.bornB 3 5 63 _ rfl ?_
 refine RangeK.weak (l:=dsSl s c) (S1:=⟨dsBx n s i (.own [] 0) 0,[(0,5)],0,0,fun _=>63⟩) ?_ ?_
 ·refine fN ?_<;>repeat' (first|exact fQ|refine And.intro ?_ ?_|exact SeesL.rfl' _)
 refine RangeK.named rfl rfl fun Lp hLp=>?_
 have hok2:∀k m,5≤k→Ob.okk k m (.loop Lp):=fun k m hk=>loop_okk (l:=dsSl s c) (by rw[hLp]) (by simp[dsSl,okL,AV.okk,okks];omega)
 refine ICall.intro mixed [] (nt:=25) Tryz.func175 rfl rfl (by simp) ?_
 refine Wk ?_
 refine LoopK.run mixed [] (fun (k:Nat)=>k≤s.cells.length) (fun k=>[(0,.yld 5),(1,.cptr s.av 0),(2,.cptr (.agg [.int .i64 c.slot]) 0),(7,encCells s.cells),(8,.int .i64 s.cells.length),(9,.int .i64 k)]) (fun k=>⟨dsBx n s i (.own ((shareL (s.cells.take k) c).map Cell.av) 0) (dsAt s.cells c i k)++[.loop Lp],[((shareL (s.cells.take k) c).length,5)],6,1,fun _=>63⟩) (fun k=>s.cells.length-k) 0 (by omega) ?_ ?_
 ·refine fN ?_<;>repeat' (first|exact fQ|refine And.intro ?_ ?_|exact hok2 _ _ (le_b rfl)|exact SeesL.rfl' _|exact SeesO.rfl' _|exact Sees.int (by simp))
 rintro k hk
 have hfl:(shareL (s.cells.take k) c).length≤512:=Nat.le_trans (List.length_filter_le _ _) (by rw[List.length_take];omega)
 refine Wk ?_
 refine BrK.mk (fun hb=>?_) (fun hb=>?_)<;>try rw[hb]
 ·have hlt:k < s.cells.length:=by simpa using hb
  obtain⟨d,hgd⟩:=getLt hlt
  have hmd:=getMap (f:=Cell.av) hgd
  have hst:=share_take (c:=c) hgd
  have hki:k=i→d=c:=fun h=>by subst h;rw[hgd]at hgc;injection hgc
  have hdn:k≠i→dsAt s.cells c i (k+1)=dsAt s.cells c i k:=fun h=>by unfold dsAt;split<;>split<;>first|rfl|omega
  have hdi:k=i→dsAt s.cells c i (k+1)=(shareL (s.cells.take k) c).length:=by rintro rfl;unfold dsAt;rw[if_pos (by omega)];rfl
  repeat((conv=>whnf);first|refine sJ ?_|refine aI (by first|exact inbMap hlt|kernel_rfl) ?_|rw[hmd])
  try(conv=>whnf)
  cases h3:d.slot==c.slot with
  | false=>
   have hne:shareB c d=false:=by unfold shareB;rw[h3];rfl
   have hst2:shareL (s.cells.take (k+1)) c=shareL (s.cells.take k) c:=by rw[hst,if_neg (by simp[hne])]
   have hdn:=hdn fun h=>by rw[hki h]at h3;simp at h3
   refine Wk ?_
   rw[←hst2,←hdn]
   refine⟨k+1,by omega,by omega,?_⟩
   refine fN ?_<;>repeat' (first|exact fQ|refine And.intro ?_ ?_|exact hok2 _ _ (le_b rfl)|exact SeesL.rfl' _|exact SeesO.rfl' _|exact Sees.int (succI hlt (by omega)))
  | true=>
   refine Wk ?_
   refine CallK.round mixed [] hLp rfl rfl rfl ?_
   clear hLp
   repeat((conv=>whnf);first|refine sJ ?_|refine aI (by first|exact inbMap hlt|exact inbMap hi|kernel_rfl) ?_|rw[hmd]|rw[hmc])
   try(conv=>whnf)
   cases h4:d.off != c.off with
   | true=>
    have hne:shareB c d=false:=by unfold shareB;rw[h3];simpa using h4
    have hst2:shareL (s.cells.take (k+1)) c=shareL (s.cells.take k) c:=by rw[hst,if_neg (by simp[hne])]
    have hdn:=hdn fun h=>by rw[hki h]at h4;simp at h4
    refine Wk ?_
    rw[←hst2,←hdn]
    refine⟨k+1,by omega,by omega,?_⟩
    refine fN ?_<;>repeat' (first|exact fQ|refine And.intro ?_ ?_|exact hok2 _ _ (le_b rfl)|exact SeesL.rfl' _|exact SeesO.rfl' _|exact Sees.int (succI hlt (by omega)))
   | false=>
    have hsh:shareB c d=true:=by unfold shareB;rw[h3];simpa using h4
    have hst2:shareL (s.cells.take (k+1)) c=shareL (s.cells.take k) c++[d]:=by rw[hst,if_pos hsh]
    refine Wk ?_
    refine BrK.mk (fun h5=>?_) (fun h5=>?_)<;>(try rw[h5])
    ·have hk5:k=i:=by simp at h5;omega
     have hdi:=hdi hk5
     repeat((conv=>whnf);first|refine sJ ?_|refine aI (by first|exact inbMap hlt|exact Els.map (f:=Cell.av) (fun x=>⟨rfl,rfl⟩)|exact(show _*40≤_ by simp only[List.length_map,List.length_cons,List.length_nil];omega)|exact(by simp only[List.length_map,List.length_cons,List.length_nil,maxLen];omega)|exact(by rw[List.length_map];rfl)|kernel_rfl) ?_|rw[hmd])
     try(conv=>whnf)
     refine⟨k+1,by omega,by omega,?_⟩
     refine fN ?_<;>repeat' (first|exact fQ|refine And.intro ?_ ?_|exact hok2 _ _ (le_b rfl)|exact SeesL.rfl' _|exact SeesO.rfl' _|exact Sees.int (succI hlt (by omega))|exact Sees.own (by rw[hst2,List.map_append];rfl)|exact Sees.int (by rw[hdi];simp)|(show(_,_)=(_,_);rw[hst2];simp only[List.length_append,List.length_map];rfl))
    ·have hk5:k≠i:=by simp at h5;omega
     have hdn:=hdn hk5
     repeat((conv=>whnf);first|refine sJ ?_|refine aI (by first|exact inbMap hlt|exact Els.map (f:=Cell.av) (fun x=>⟨rfl,rfl⟩)|exact(show _*40≤_ by simp only[List.length_map,List.length_cons,List.length_nil];omega)|exact(by simp only[List.length_map,List.length_cons,List.length_nil,maxLen];omega)|exact(by rw[List.length_map];rfl)|kernel_rfl) ?_|rw[hmd])
     try(conv=>whnf)
     refine⟨k+1,by omega,by omega,?_⟩
     refine fN ?_<;>repeat' (first|exact fQ|refine And.intro ?_ ?_|exact hok2 _ _ (le_b rfl)|exact SeesL.rfl' _|exact SeesO.rfl' _|exact Sees.int (succI hlt (by omega))|exact Sees.own (by rw[hst2,List.map_append];rfl)|exact Sees.int (by rw[hdn])|(show(_,_)=(_,_);rw[hst2];simp only[List.length_append,List.length_map];rfl))
 ·have hkn:k=s.cells.length:=by simp at hb;omega
  subst hkn
  have hda:dsAt s.cells c i s.cells.length=a:=by unfold dsAt;rw[if_pos hi,ha]
  rw[List.take_length,←hS,hda]
  refine Wk ?_
  rw[show Lp.st=.ready from by rw[hLp],show Lp.pend=none from by rw[hLp]]
  repeat((conv=>whnf);first|refine sJ ?_|refine aI (by first|exact inbMap hal|kernel_rfl) ?_|rw[hmS])
  try(conv=>whnf)
  refine cD (c_index L n hn c.src c.dst) ?_
  rw[hi1]
  refine Wk ?_
  refine cD (c_index L n hn c.dst c.src) ?_
  rw[hi2]
  repeat((conv=>whnf);first|refine sJ ?_|refine aI (by first|exact inbMap hpl|kernel_rfl) ?_|rw[hmm])
  try(conv=>whnf)
  refine cD (c_Dist L n hn h0 S (by omega) a hal c.dst e7 hin) ?_
  refine Wk ?_
  refine cD (c_Hears L n hn m (distM n S a c.dst)) ?_
  rw[hears_all h0 e4 e5 hd1]
  cases hh1:heardB n m (distM n S a c.dst) with
  | false=>
   refine Wk ?_
   exact resP.mk rfl (Sees.bool (by rw[hF,hh1];rfl))
  | true=>
   repeat((conv=>whnf);first|refine sJ ?_|refine aI (by first|exact inbMap hpl'|kernel_rfl) ?_|rw[hmm'])
   try(conv=>whnf)
   refine cD (c_Dist L n hn h0 S (by omega) a hal c.src f7 hin) ?_
   refine Wk ?_
   refine cD (c_Hears L n hn m' (distM n S a c.src)) ?_
   rw[hears_all h0 f4 f5 hd2]
   refine Wk ?_
   exact resP.mk rfl (Sees.bool (by rw[hF,hh1];rfl))
end
section
variable (L:World→Prop)
theorem c_SCheck (n:Net)(hn:n.small)(l:List Flow)(hl:l.length≤281474976710656)(s:Sched)(hc:s.cells.length≤281474976710656):PCall Tryz.prog L 28 [n.av,encFlows l,s.av] (.tup [.int .i64 (schedE n l s).1,.int .i64 (schedE n l s).2]):=by
 refine PCall.intro mixed [] (nt:=73) Tryz.func28 rfl rfl (by simp) ?_
 refine Wk ?_
 refine cD (c_netCheck L n hn) ?_
 refine Wk ?_
 refine BrK.mk (fun h1=>?_) (fun h1=>?_)<;>(try rw[h1])
 ·refine Wk ?_
  exact resP.mk rfl (Sees.of_eq (by unfold schedE;rw[if_pos (.inl (by simpa using h1))]))
 have h0:netE n=0:=by simpa using h1
 refine Wk ?_
 refine cD (c_FCheck L n.nodes l hl) ?_
 refine Wk ?_
 refine BrK.mk (fun h2=>?_) (fun h2=>?_)<;>(try rw[h2])
 ·refine Wk ?_
  exact resP.mk rfl (Sees.of_eq (by unfold schedE;rw[if_pos (.inr (by simpa using h2))]))
 have h2':(flowsE n.nodes l).2=0:=by simpa using h2
 have hper:=flowsE_per h2'
 have e1:¬(netE n≠0∨(flowsE n.nodes l).2≠0):=by simp[h0,h2']
 refine Wk ?_
 refine cD (c_sized L s) ?_
 refine Wk ?_
 refine BrK.mk (fun h3=>?_) (fun h3=>?_)<;>(try rw[h3])
 ·refine Wk ?_
  exact resP.mk rfl (Sees.of_eq (by unfold schedE;rw[if_neg e1,if_pos (by simpa using h3)]))
 have h3':sizedB s=true:=by simpa using h3
 have hsb:=sized_bd h3'
 refine Wk ?_
 refine cB (c_ContainsFuncFlow L l (mism s) 66 [.cptr s.av 0] hl rfl rfl (fun f hf=>c_sCheck1 L f s (by omega) (by omega) (hper f hf).1 (hper f hf).2)) ?_
 refine Wk ?_
 refine BrK.mk (fun h4=>?_) (fun h4=>?_)<;>(try rw[h4])
 ·refine Wk ?_
  exact resP.mk rfl (Sees.of_eq (by unfold schedE;rw[if_neg e1,if_neg (by simp[h3']),if_pos h4]))
 refine Wk ?_
 refine BrK.mk (fun h5=>?_) (fun h5=>?_)<;>(try rw[h5])
 ·refine Wk ?_
  exact resP.mk rfl (Sees.of_eq (by unfold schedE;rw[if_neg e1,if_neg (by simp[h3']),if_neg (by simp[h4]),if_pos (by simp at h5;omega)]))
 have hc5:¬512 < s.cells.length:=by simp at h5;omega
 have hE:schedE n l s=if (firstAt (cellF n l s) s.cells.length).2≠0 then firstAt (cellF n l s) s.cells.length
  else if (firstAt (twI s.cells) s.cells.length).2≠0 then firstAt (twI s.cells) s.cells.length
  else firstAt (dsI n s.cells) s.cells.length:=by unfold schedE;rw[if_neg e1,if_neg (by simp[h3']),if_neg (by simp[h4]),if_neg hc5]
 rw[hE]
 refine Wk ?_
 refine cD (c_checkCells L n hn h0 l hl s (by omega)) ?_
 refine Wk ?_
 refine BrK.mk (fun h6=>?_) (fun h6=>?_)<;>(try rw[h6])
 ·rw[if_pos (by simpa using h6)]
  refine Wk ?_
  exact resP.mk rfl (Sees.of_eq rfl)
 have h6':(firstAt (cellF n l s) s.cells.length).2=0:=by simpa using h6
 have hcell:∀c∈s.cells,goodL n c.src c.dst=true:=fun c hcm=>by
  obtain⟨k,hk⟩:=List.getElem?_of_mem hcm
  have:=firstAt_ok.1 h6' k (List.getElem?_eq_some_iff.1 hk).1
  unfold cellF at this
  rw[hk]at this
  simp only at this
  split at this
  ·cases this
  split at this
  ·cases this
  rename_i g
  simp only[not_or,Bool.not_eq_false]at g
  exact g.1
 rw[if_neg (by simp[h6'])]
 refine Wk ?_
 refine LoopK.run mixed [] (fun (k:Nat)=>k≤s.cells.length∧∀j,j < k→twI s.cells j=0) (fun k=>[(3,.ptr 0 0),(5,.ptr 1 0),(52,.int .i64 s.cells.length),(53,.int .i64 k)]) (fun k=>⟨[.cells n.cs 26,.cells [.int .i64 s.len,.int .i64 s.offs,encCells s.cells] 30],[],0,0,fun _=>0⟩) (fun k=>s.cells.length-k) 0 ⟨by simp,by simp⟩ ?_ ?_
 ·refine fN ?_<;>repeat' (first|exact fQ|refine And.intro ?_ ?_|exact SeesL.rfl' _|exact Sees.int (by simp))
 rintro k ⟨hk,hinv⟩
 refine Wk ?_
 refine BrK.mk (fun hb=>?_) (fun hb=>?_)<;>try rw[hb]
 ·have hlt:k < s.cells.length:=by simpa using hb
  have hit:=firstAt_hit hinv (k:=k) (n:=s.cells.length)
  refine Wk ?_
  refine cD (c_twice L s (by omega) k hlt) ?_
  cases ht:twiceM s.cells k with
  | true=>
   have hv:twI s.cells k=6:=by rw[twI,if_pos ht]
   have hf:=hit (by rw[hv];decide) hlt
   rw[hv]at hf
   rw[hf,if_pos (show(6:Int)≠0 by decide)]
   refine Wk ?_
   exact resP.mk rfl (Sees.of_eq rfl)
  | false=>
   have hv:twI s.cells k=0:=by rw[twI,if_neg (by simp[ht])]
   refine Wk ?_
   refine⟨k+1,⟨by omega,fun j hj=>?_⟩,by omega,?_⟩
   ·rcases Nat.lt_succ_iff_lt_or_eq.1 hj with h|rfl
    ·exact hinv j h
    ·exact hv
   ·refine fN ?_<;>repeat' (first|exact fQ|refine And.intro ?_ ?_|exact SeesL.rfl' _|exact Sees.int (by rw[w64]<;>omega))
 have hkn:k=s.cells.length:=by simp at hb;omega
 have hf0:=firstAt_zero (hkn▸hinv)
 rw[hf0,if_neg (by decide)]
 clear hkn hinv hb hk hf0
 refine Wk ?_
 refine LoopK.run mixed [] (fun (k:Nat)=>k≤s.cells.length∧∀j,j < k→dsI n s.cells j=0) (fun k=>[(3,.ptr 0 0),(5,.ptr 1 0),(63,.int .i64 s.cells.length),(64,.int .i64 k)]) (fun k=>⟨[.cells n.cs 26,.cells [.int .i64 s.len,.int .i64 s.offs,encCells s.cells] 30],[],0,0,fun _=>0⟩) (fun k=>s.cells.length-k) 0 ⟨by simp,by simp⟩ ?_ ?_
 ·refine fN ?_<;>repeat' (first|exact fQ|refine And.intro ?_ ?_|exact SeesL.rfl' _|exact Sees.int (by simp))
 rintro k ⟨hk,hinv⟩
 refine Wk ?_
 refine BrK.mk (fun hb=>?_) (fun hb=>?_)<;>try rw[hb]
 ·have hlt:k < s.cells.length:=by simpa using hb
  have hit:=firstAt_hit hinv (k:=k) (n:=s.cells.length)
  refine Wk ?_
  refine cD (c_disturbed L n hn h0 s (by omega) hcell k hlt) ?_
  cases ht:disturbB n s.cells k with
  | true=>
   have hv:dsI n s.cells k=16:=by rw[dsI,if_pos ht]
   have hf:=hit (by rw[hv];decide) hlt
   rw[hv]at hf
   rw[hf]
   refine Wk ?_
   exact resP.mk rfl (Sees.of_eq rfl)
  | false=>
   have hv:dsI n s.cells k=0:=by rw[dsI,if_neg (by simp[ht])]
   refine Wk ?_
   refine⟨k+1,⟨by omega,fun j hj=>?_⟩,by omega,?_⟩
   ·rcases Nat.lt_succ_iff_lt_or_eq.1 hj with h|rfl
    ·exact hinv j h
    ·exact hv
   ·refine fN ?_<;>repeat' (first|exact fQ|refine And.intro ?_ ?_|exact SeesL.rfl' _|exact Sees.int (by rw[w64]<;>omega))
 ·have hkn:k=s.cells.length:=by simp at hb;omega
  have hf0:=firstAt_zero (hkn▸hinv)
  rw[hf0]
  refine Wk ?_
  exact resP.mk rfl (Sees.of_eq rfl)
end
end HM
