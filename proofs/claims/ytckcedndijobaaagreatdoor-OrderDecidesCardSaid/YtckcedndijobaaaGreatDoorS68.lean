/- Scripts: what Check returns, and its definition. -/
import Derived.Test.YtckcedndijobaaaGreatDoorS30
import Derived.Test.YtckcedndijobaaaGreatDoorDa
import Derived.Test.YtckcedndijobaaaGreatDoorS33
import Derived.Test.YtckcedndijobaaaGreatDoorDb
set_option maxHeartbeats 64000000
set_option maxRecDepth 100000
namespace HM
open Go Go.RowKit Go.Proofs
section
variable (L:World→Prop)
theorem c_rcmp (a b:Rule):PCall Tryz.prog L 258 [a.av,b.av] (.int .i64 (a.cmp b)):=by
 refine PCall.intro mixed [] (nt:=27) Tryz.func258 rfl rfl (by simp) ?_
 refine Wk ?_
 refine cD (c_cmp L _ _) ?_
 refine Wk ?_
 refine cD (c_cmp L _ _) ?_
 refine Wk ?_
 refine cD (c_cmp L _ _) ?_
 refine Wk ?_
 refine cD (c_cmp L _ _) ?_
 refine Wk ?_
 refine cD (c_or L [cmpI a.flow b.flow,cmpI a.frame b.frame,cmpI a.src b.src,cmpI a.dst b.dst] (by simp)) ?_
 refine Wk ?_
 exact resP.mk rfl (Sees.int (by simp only[Rule.cmp,Rule.key,cmpL,orL]))
theorem c_ranged1 (x m:Int):PCall Tryz.prog L 280 [.int .i64 x,.int .i64 m] (.bool (rangeB x m)):=by
 refine PCall.intro mixed [] (nt:=12) Tryz.func280 rfl rfl (by simp) ?_
 refine Wk ?_
 refine BrK.mk (fun h=>?_) (fun h=>?_)<;>(try rw[h])
 ·refine Wk ?_
  exact resP.mk rfl (Sees.bool (by simp[rangeB,of_decide_eq_true h]))
 ·refine Wk ?_
  exact resP.mk rfl (Sees.bool (by simp[rangeB,of_decide_eq_false h]))
theorem c_ranged2 (x:Int):PCall Tryz.prog L 281 [.int .i64 x] (.bool (badO x)):=by
 refine PCall.intro mixed [] (nt:=9) Tryz.func281 rfl rfl (by simp) ?_
 refine Wk ?_
 refine BrK.mk (fun h=>?_) (fun h=>?_)<;>(try rw[h])
 ·refine Wk ?_
  exact resP.mk rfl (Sees.bool (by simp[badO,of_decide_eq_true h]))
 ·refine Wk ?_
  exact resP.mk rfl (Sees.bool (by simp[badO,of_decide_eq_false h]))
theorem c_ranged (r:Rule)(hr:r.outs.length≤281474976710656):PCall Tryz.prog L 257 [r.av] (.bool (ruleB r)):=by
 refine PCall.intro mixed [] (nt:=46) Tryz.func257 rfl rfl (by simp) ?_
 refine Wk ?_
 refine cD (c_ranged1 L r.flow 255) ?_
 refine Wk ?_
 refine BrK.mk (fun h1=>?_) (fun h1=>?_)<;>(try rw[h1])
 ·refine Wk ?_
  exact resP.mk rfl (Sees.bool (by simp only[ruleB,(by simpa using h1:rangeB r.flow 255=false),Bool.false_and]))
 have h1':rangeB r.flow 255=true:=by simpa using h1
 refine Wk ?_
 refine cD (c_ranged1 L r.frame 1048576) ?_
 refine Wk ?_
 refine BrK.mk (fun h2=>?_) (fun h2=>?_)<;>(try rw[h2])
 ·refine Wk ?_
  exact resP.mk rfl (Sees.bool (by simp only[ruleB,(by simpa using h2:rangeB r.frame 1048576=false),Bool.false_and,Bool.and_false]))
 have h2':rangeB r.frame 1048576=true:=by simpa using h2
 refine Wk ?_
 refine cD (c_ranged1 L r.src 31) ?_
 refine Wk ?_
 refine BrK.mk (fun h3=>?_) (fun h3=>?_)<;>(try rw[h3])
 ·refine Wk ?_
  exact resP.mk rfl (Sees.bool (by simp only[ruleB,(by simpa using h3:rangeB r.src 31=false),Bool.false_and,Bool.and_false]))
 have h3':rangeB r.src 31=true:=by simpa using h3
 refine Wk ?_
 refine cD (c_ranged1 L r.dst 31) ?_
 refine Wk ?_
 refine BrK.mk (fun h4=>?_) (fun h4=>?_)<;>(try rw[h4])
 ·refine Wk ?_
  exact resP.mk rfl (Sees.bool (by simp only[ruleB,(by simpa using h4:rangeB r.dst 31=false),Bool.false_and,Bool.and_false]))
 have h4':rangeB r.dst 31=true:=by simpa using h4
 refine Wk ?_
 refine BrK.mk (fun h5=>?_) (fun h5=>?_)<;>(try rw[h5])
 ·refine Wk ?_
  have h5':decide ((1:Int)≤r.outs.length)=false:=by simp at h5 ⊢;omega
  exact resP.mk rfl (Sees.bool (by simp only[ruleB,h5',Bool.false_and,Bool.and_false]))
 have h5':decide ((1:Int)≤r.outs.length)=true:=by simp at h5 ⊢;omega
 refine Wk ?_
 refine BrK.mk (fun h6=>?_) (fun h6=>?_)<;>(try rw[h6])
 ·refine Wk ?_
  have h6':decide ((r.outs.length:Int)≤16)=false:=by simp at h6 ⊢;omega
  exact resP.mk rfl (Sees.bool (by simp only[ruleB,h6',Bool.false_and,Bool.and_false]))
 have h6':decide ((r.outs.length:Int)≤16)=true:=by simp at h6 ⊢;omega
 refine Wk ?_
 refine CallK.data rfl (c_ContainsFuncInts L r.outs badO 281 [] hr rfl rfl (fun x _=>c_ranged2 L x)) rfl ?_
 refine Wk ?_
 exact resP.mk rfl (Sees.bool (by rw[ruleB,h1',h2',h3',h4',h5',h6'];rfl))
theorem c_XCheck (x:List Rule)(hx:∀r∈x,r.outs.length≤281474976710656)(hl:x.length≤281474976710656):PCall Tryz.prog L 211 [encScript x] (.tup [.int .i64 (scriptM x).1,.int .i64 (scriptM x).2]):=by
 refine PCall.intro mixed [] (nt:=34) Tryz.func211 rfl rfl (by simp) ?_
 refine Wk ?_
 refine BrK.mk (fun h0=>?_) (fun h0=>?_)<;>(try rw[h0])
 ·refine Wk ?_
  exact resP.mk rfl (Sees.of_eq (by rw[scriptM,if_pos (by simp at h0;omega)]))
 have h0':¬1024 < x.length:=by simp at h0;omega
 refine Wk ?_
 refine LoopK.run mixed [] (fun (k:Nat)=>k≤x.length∧∀j y,j < k→x[j]? = some y→ruleF x j y=0) (fun k=>[(0,encScript x),(9,encScript x),(10,.int .i64 x.length),(11,.int .i64 k)]) (fun k=>St.none) (fun k=>x.length-k) 0 ⟨by simp,by simp⟩ ?_ ?_
 ·refine fN ?_<;>repeat' (first|exact fQ|refine And.intro ?_ ?_|exact Sees.int (by simp))
 rintro k ⟨hk,hinv⟩
 refine Wk ?_
 refine BrK.mk (fun hb=>?_) (fun hb=>?_)<;>try rw[hb]
 ·have hlt:k < x.length:=by simpa using hb
  obtain⟨r,hgx⟩:=getLt hlt
  have hmx:=getMap (f:=Rule.av) hgx
  have hstep:ruleF x k r=0→∀j y,j < k+1→x[j]? = some y→ruleF x j y=0:=fun h0 j y hj hy=>by
   rcases Nat.lt_succ_iff_lt_or_eq.1 hj with h|rfl
   ·exact hinv j y h hy
   ·rw[hgx]at hy;injection hy with hy;subst hy;exact h0
  repeat((conv=>whnf);first|refine sJ ?_|refine aI (by first|exact inbMap hlt|kernel_rfl) ?_|rw[hmx])
  try(conv=>whnf)
  refine cD (c_ranged L r (hx r (List.mem_of_getElem? hgx))) ?_
  refine Wk ?_
  refine BrK.mk (fun h1=>?_) (fun h1=>?_)<;>(try rw[h1])
  ·have h1':ruleB r=false:=by simpa using h1
   have hf:ruleF x k r=2:=by rw[ruleF,if_pos h1']
   refine Wk ?_
   exact resP.mk rfl (Sees.of_eq (by rw[scriptM_hit h0' hgx hinv (by rw[hf];decide),hf]))
  have h1':ruleB r=true:=by simpa using h1
  refine Wk ?_
  refine BrK.mk (fun h2=>?_) (fun h2=>?_)<;>(try rw[h2])
  ·have hk0:0 < k:=by simpa using h2
   obtain⟨j,rfl⟩:∃j,k=j+1:=⟨k-1,by omega⟩
   obtain⟨p,hgp⟩:=getLt (l:=x) (k:=j) (by omega)
   have hmp:=getMap (f:=Rule.av) hgp
   have hw:IntKind.i64.wrap (((j+1:Nat):Int)-1)=(j:Int):=by rw[w64]<;>omega
   repeat((conv=>whnf);first|refine sJ ?_|refine aI (by first|(rw[hw];exact inbMap (by omega))|kernel_rfl) ?_|rw[hw]|rw[hmp])
   try(conv=>whnf)
   refine cD (c_rcmp L p r) ?_
   refine Wk ?_
   refine BrK.mk (fun h3=>?_) (fun h3=>?_)<;>(try rw[h3])
   ·have hf:ruleF x (j+1) r=5:=by
     rw[ruleF,if_neg (by simp[h1']),if_pos]
     simp only[ruleO,hgp]
     simp at h3 ⊢;omega
    refine Wk ?_
    exact resP.mk rfl (Sees.of_eq (by rw[scriptM_hit h0' hgx hinv (by rw[hf];decide),hf]))
   ·have hf:ruleF x (j+1) r=0:=by
     rw[ruleF,if_neg (by simp[h1']),if_neg]
     simp only[ruleO,hgp]
     simp at h3 ⊢;omega
    refine Wk ?_
    refine⟨j+1+1,⟨by omega,hstep hf⟩,by omega,?_⟩
    refine fN ?_<;>repeat' (first|exact fQ|refine And.intro ?_ ?_|exact Sees.int (succI hlt hl))
  ·have hk0:k=0:=by simp at h2;omega
   subst hk0
   have hf:ruleF x 0 r=0:=by
    rw[ruleF,if_neg (by simp[h1']),if_neg]
    simp[ruleO]
   refine Wk ?_
   refine⟨0+1,⟨by omega,hstep hf⟩,by omega,?_⟩
   refine fN ?_<;>repeat' (first|exact fQ|refine And.intro ?_ ?_|exact Sees.int (succI hlt hl))
 ·have hk':k=x.length:=by simp at hb;omega
  subst hk'
  refine Wk ?_
  exact resP.mk rfl (Sees.of_eq (by rw[scriptM_ok h0' fun j y hy=>hinv j y (List.getElem?_eq_some_iff.1 hy).1 hy]))
end
section
variable (L:World→Prop)
end
section
variable (L:World→Prop)
end
end HM
