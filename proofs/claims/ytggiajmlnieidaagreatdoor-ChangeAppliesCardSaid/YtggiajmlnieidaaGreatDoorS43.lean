/- Guards and the example of the law on bounds. -/
import Derived.Test.YtggiajmlnieidaaGreatDoorS38
import Derived.Test.YtggiajmlnieidaaGreatDoorS114
import Derived.Test.YtggiajmlnieidaaGreatDoorS53
import Derived.Test.YtggiajmlnieidaaGreatDoorS251
import Derived.Test.YtggiajmlnieidaaGreatDoorFh
import Derived.Test.YtggiajmlnieidaaGreatDoorS33
import Derived.Test.YtggiajmlnieidaaGreatDoorS6
set_option maxHeartbeats 64000000
set_option maxRecDepth 100000
namespace HM
open Go Go.RowKit Go.Proofs
section
variable (L:World→Prop)
end
theorem c_BLeast (n:Net)(s:Sched)(f:Flow)(l:List (List Int))(hn:n.small)(hc:s.cells.length≤281474976710656)(hr:∀r∈l,r.length≤281474976710656)(hl0:l.length≤281474976710656) :
  PCall Tryz.prog LW 114 [n.av,s.av,f.av,encRows l] (.tup [.int .i64 (leastM n s f l).1,.int .i64 (leastM n s f l).2]):=by
 refine PCall.intro mixed [] (nt:=71) Tryz.func114 rfl rfl (by simp) ?_
 refine Wk ?_
 refine BrK.mk (fun h0=>?_) (fun h0=>?_)<;>(try rw[h0])
 ·have h0':l.length=0:=by simpa using h0
  refine Wk ?_
  exact resP.mk rfl (Sees.of_eq (by rw[leastM,if_pos h0']))
 have h0':¬l.length=0:=by simpa using h0
 refine Wk ?_
 refine LoopK.run mixed [] (fun (k:Nat)=>k≤l.length∧∀j x,j < k→l[j]? = some x→wayE n s f x=0) (fun k=>[(3,encRows l),(4,.ptr 0 0),(5,.ptr 1 0),(6,.ptr 2 0),(23,encRows l),(24,.int .i64 l.length),(25,.int .i64 k)]) (fun k=>⟨sl37 n s f,[],0,0,fun _=>0⟩) (fun k=>l.length-k) 0 ⟨by simp,by simp⟩ ?_ ?_
 ·refine fN ?_<;>repeat' (first|exact fQ|refine And.intro ?_ ?_|exact SeesL.rfl' _|exact Sees.int (by simp))
 rintro k ⟨hk,hinv⟩
 refine Wk ?_
 refine BrK.mk (fun h1=>?_) (fun h1=>?_)<;>(try rw[h1])
 ·have hlt:k < l.length:=by simpa using h1
  obtain⟨r,hgr⟩:=getLt hlt
  have hmr:=getMap (f:=fun r:List Int=>encIs r) hgr
  have hrm:=hr r (List.mem_of_getElem? hgr)
  repeat((conv=>whnf);first|refine sJ ?_|refine aI (by first|exact inbMap hlt|kernel_rfl) ?_|rw[hmr])
  try(conv=>whnf)
  refine cD (c_wcheck ⟨n,s,f,r,0⟩ hn hc hrm) ?_
  refine Wk ?_
  refine BrK.mk (fun h2=>?_) (fun h2=>?_)<;>(try rw[h2])
  ·have hw:wayE n s f r≠0:=by simpa using h2
   have hfw:=firstW_at hgr hinv hw
   refine Wk ?_
   exact resP.mk rfl (Sees.of_eq (by rw[leastM,if_neg h0',if_pos (by rw[hfw];exact hw),hfw]))
  ·have hw:wayE n s f r=0:=by simpa using h2
   refine Wk ?_
   refine⟨k+1,⟨by omega,fun j x hj hx=>?_⟩,by omega,?_⟩
   ·rcases Nat.lt_succ_iff_lt_or_eq.1 hj with hj|rfl
    ·exact hinv j x hj hx
    ·rw[hgr]at hx;injection hx with hx;subst hx;exact hw
   ·refine fN ?_<;>repeat' (first|exact fQ|refine And.intro ?_ ?_|exact SeesL.rfl' _|exact Sees.int (succI hlt (by omega)))
 ·have hkl:k=l.length:=by simp at h1;omega
  subst hkl
  have hall:∀j x,l[j]? = some x→wayE n s f x=0:=fun j x hx=>hinv j x (List.getElem?_eq_some_iff.1 hx).1 hx
  have hfw:firstW n s f l=0:=firstW_zero hall
  clear hinv
  refine Wk ?_
  refine LoopK.run mixed [] (fun (j:Nat)=>j≤l.length) (fun j=>[(4,.ptr 0 0),(5,.ptr 1 0),(6,.ptr 2 0),(13,.int .i64 (leastF n s f (l.take j))),(39,encRows l),(40,.int .i64 l.length),(41,.int .i64 j)]) (fun j=>⟨sl37 n s f,[],0,0,fun _=>0⟩) (fun j=>l.length-j) 0 (by simp) ?_ ?_
  ·refine fN ?_<;>repeat' (first|exact fQ|refine And.intro ?_ ?_|exact SeesL.rfl' _|exact Sees.int (by simp))
  rintro k hk
  refine Wk ?_
  refine BrK.mk (fun h1=>?_) (fun h1=>?_)<;>(try rw[h1])
  ·have hlt:k < l.length:=by simpa using h1
   obtain⟨r,hgr⟩:=getLt hlt
   have hmr:=getMap (f:=fun r:List Int=>encIs r) hgr
   have hw:=hall k r hgr
   have hF:=leastF_take (n:=n) (s:=s) (f:=f) hgr
   repeat((conv=>whnf);first|refine sJ ?_|refine aI (by first|exact inbMap hlt|kernel_rfl) ?_|rw[hmr])
   try(conv=>whnf)
   refine cD (c_bound ⟨n,s,f,r,0⟩ hn (wayE_ok hw) (wayE_net hw) (Int.le_refl _) (by show(0:Int)≤8;omega)) ?_
   cases hB:boundR n s f r 0 with
   | none=>
    have hS:leastS n s f (leastF n s f (l.take k)) r=leastF n s f (l.take k):=by rw[leastS,hB]
    refine Wk ?_
    refine⟨k+1,by omega,by omega,?_⟩
    refine fN ?_<;>repeat' (first|exact fQ|refine And.intro ?_ ?_|exact SeesL.rfl' _|exact Sees.int (succI hlt (by omega))|exact Sees.int (by rw[hF,hS]))
   | some x=>
    have hS:leastS n s f (leastF n s f (l.take k)) r=if leastF n s f (l.take k)=0∨x.b < leastF n s f (l.take k) then x.b else leastF n s f (l.take k):=by rw[leastS,hB]
    refine Wk ?_
    refine BrK.mk (fun h2=>?_) (fun h2=>?_)<;>(try rw[h2])
    ·rw[if_pos (.inl (by simpa using h2))]at hS
     refine Wk ?_
     refine⟨k+1,by omega,by omega,?_⟩
     refine fN ?_<;>repeat' (first|exact fQ|refine And.intro ?_ ?_|exact SeesL.rfl' _|exact Sees.int (succI hlt (by omega))|exact Sees.int (by rw[hF,hS]))
    ·refine Wk ?_
     refine BrK.mk (fun h3=>?_) (fun h3=>?_)<;>(try rw[h3])
     ·rw[if_pos (.inr (by simpa using h3))]at hS
      refine Wk ?_
      refine⟨k+1,by omega,by omega,?_⟩
      refine fN ?_<;>repeat' (first|exact fQ|refine And.intro ?_ ?_|exact SeesL.rfl' _|exact Sees.int (succI hlt (by omega))|exact Sees.int (by rw[hF,hS]))
     ·rw[if_neg (by simp at h2 h3;omega)]at hS
      refine Wk ?_
      refine⟨k+1,by omega,by omega,?_⟩
      refine fN ?_<;>repeat' (first|exact fQ|refine And.intro ?_ ?_|exact SeesL.rfl' _|exact Sees.int (succI hlt (by omega))|exact Sees.int (by rw[hF,hS]))
  ·have hkl:k=l.length:=by simp at h1;omega
   subst hkl
   rw[List.take_length]
   refine Wk ?_
   refine BrK.mk (fun h2=>?_) (fun h2=>?_)<;>(try rw[h2])
   ·have h2':leastF n s f l=0:=by simpa using h2
    refine Wk ?_
    exact resP.mk rfl (Sees.of_eq (by rw[leastM,if_neg h0',if_neg (by simpa using hfw),if_pos h2']))
   ·have h2':leastF n s f l≠0:=by simpa using h2
    refine Wk ?_
    exact resP.mk rfl (Sees.of_eq (by rw[leastM,if_neg h0',if_neg (by simpa using hfw),if_neg h2']))
theorem flat_le {α:Type}(l:List (List α))(k:Nat):(l.take k).flatten.length≤l.flatten.length:=by
 have h:=congrArg (fun x=>x.flatten.length) (List.take_append_drop k l)
 simp only[List.flatten_append,List.length_append]at h
 omega
section
variable (L:World→Prop)
theorem c_IndexFuncChgC (l:List Chg)(p:Chg→Bool)(g:Nat)(caps:List AV)(hl:l.length≤281474976710656)(hcb:callable Tryz.prog g=true)(hc:fzs caps=some caps)(hp:∀x∈l,PCall Tryz.prog L g (Chg.av x :: caps) (.bool (p x))) :
  PCall Tryz.prog L 58 [.sl false (l.map Chg.av),.fn g caps] (.int .i64 (idxF p l)):=by
 refine PCall.intro mixed [] (nt:=19) Tryz.func58 rfl rfl (by simp) ?_
 refine Wk ?_
 refine LoopK.run mixed [] (fun (k:Nat)=>k≤l.length∧∀j x,j < k→l[j]? = some x→p x=false) (fun k=>[(0,.sl false (l.map Chg.av)),(1,.fn g caps),(7,.int .i64 l.length),(8,.int .i64 k)]) (fun k=>St.none) (fun k=>l.length-k) 0 ⟨by simp,by simp⟩ ?_ ?_
 ·refine fN ?_<;>repeat' (first|exact fQ|refine And.intro ?_ ?_|exact Sees.int (by simp)|exact fzs_okk hc)
 rintro k ⟨hk,hinv⟩
 refine Wk ?_
 refine BrK.mk (fun hb=>?_) (fun hb=>?_)<;>try rw[hb]
 ·have hlt:k < l.length:=by simpa using hb
  obtain⟨x,hgx⟩:=getLt hlt
  have hmx:=getMap (f:=Chg.av) hgx
  repeat((conv=>whnf);first|refine sJ ?_|refine aI (by first|exact inbMap hlt|kernel_rfl) ?_|rw[hmx])
  try(conv=>whnf)
  refine CallK.data hcb (hp x (List.mem_of_getElem? hgx)) (by show(match fz _,fzs caps with|some a,some b=>some (a :: b)|_,_=>none)=_;rw[hc];rfl) ?_
  refine Wk ?_
  refine BrK.mk (fun h2=>?_) (fun h2=>?_)<;>(try rw[h2])
  ·refine Wk ?_
   exact resP.mk rfl (Sees.int (idxF_some hlt hinv hgx h2).symm)
  ·refine Wk ?_
   refine⟨k+1,⟨by omega,fun j y hj hy=>?_⟩,by omega,?_⟩
   ·rcases Nat.lt_succ_iff_lt_or_eq.1 hj with h|rfl
    ·exact hinv j y h hy
    ·rw[hgx]at hy;injection hy with hy;subst hy;exact h2
   ·refine fN ?_<;>repeat' (first|exact fQ|refine And.intro ?_ ?_|exact Sees.int (succI hlt hl)|exact fzs_okk hc)
 ·have hk':k=l.length:=by simp at hb;omega
  subst hk'
  refine Wk ?_
  exact resP.mk rfl (Sees.int (idxF_none hinv).symm)
theorem c_ContainsFuncChgC (l:List Chg)(p:Chg→Bool)(g:Nat)(caps:List AV)(hl:l.length≤281474976710656)(hcb:callable Tryz.prog g=true)(hc:fzs caps=some caps)(hp:∀x∈l,PCall Tryz.prog L g (Chg.av x :: caps) (.bool (p x))) :
  PCall Tryz.prog L 13 [.sl false (l.map Chg.av),.fn g caps] (.bool (l.any p)):=by
 refine PCall.intro mixed [] (nt:=9) Tryz.func13 rfl rfl (by simp) ?_
 refine Wk ?_
 refine CallK.data rfl (c_IndexFuncChgC L l p g caps hl hcb hc hp) (by show(match fz _,fzs [AV.fn g caps] with|some a,some b=>some (a :: b)|_,_=>none)=_;rw[show fzs [AV.fn g caps] = some [AV.fn g caps] from by simp[fz,fzs,hc]];rfl) ?_
 refine Wk ?_
 exact resP.mk rfl (Sees.bool (idxF_any p l))
theorem c_ConcatRtC (l:List (List (List Int)))(h1:l.length≤1000000)(hl:l.flatten.length≤1099511627776):PCall Tryz.prog L 161 [.sl false (l.map fun x=>.sl false (x.map encIs))] (.sl false (l.flatten.map encIs)):=by
 refine PCall.intro mixed [] (nt:=36) Tryz.func161 rfl rfl (by simp) ?_
 refine Wk ?_
 refine LoopK.run mixed [] (fun (k:Nat)=>k≤l.length) (fun k=>[(0,.sl false (l.map fun x=>.sl false (x.map encIs))),(3,.int .i64 (l.take k).flatten.length),(9,.sl false (l.map fun x=>.sl false (x.map encIs))),(10,.int .i64 l.length),(11,.int .i64 k)]) (fun k=>St.none) (fun k=>l.length-k) 0 (by simp) ?_ ?_
 ·refine fN ?_<;>repeat' (first|exact fQ|refine And.intro ?_ ?_|exact Sees.int (by simp))
 rintro k hk
 refine Wk ?_
 refine BrK.mk (fun hb=>?_) (fun hb=>?_)<;>try rw[hb]
 ·have hlt:k < l.length:=by simpa using hb
  obtain⟨x,hgx⟩:=getLt hlt
  have hmx:=getMap (f:=fun x:List (List Int)=>AV.sl false (x.map encIs)) hgx
  have hfl:(l.take (k+1)).flatten.length=(l.take k).flatten.length+x.length:=by rw[take_succ hgx];simp
  have hle:=flat_le l (k+1)
  repeat((conv=>whnf);first|refine sJ ?_|refine aI (by first|exact inbMap hlt|kernel_rfl) ?_|rw[hmx])
  try(conv=>whnf)
  have hfk:=flat_le l k
  rw[hfl]at hle
  rw[show((List.map encIs x).length:Int)=x.length from by simp]
  rw[w64 (by omega) (by omega)]
  rw[decide_eq_false (by omega)]
  refine Wk ?_
  refine⟨k+1,by omega,by omega,?_⟩
  refine fN ?_<;>repeat' (first|exact fQ|refine And.intro ?_ ?_|exact Sees.int (succI hlt (by omega))|exact Sees.int (by rw[hfl];simp))
 ·have hk':k=l.length:=by simp at hb;omega
  subst hk'
  rw[List.take_length]
  refine Wk ?_
  refine CallK.inl rfl (ICall.intro mixed [] (nt:=27) Tryz.func225 rfl rfl (by simp) ?_)
  refine Wk ?_
  rw[show(List.length ([]:List AV):Int)=0 from rfl,show(0:Int)-0=0 from rfl]
  rw[w64 (x:=0) (by omega) (by omega),Int.sub_zero,w64 (by omega) (by omega)]
  refine BrK.mk (fun h0=>?_) (fun h0=>?_)<;>(try rw[h0])
  ·repeat((conv=>whnf);first|refine sJ ?_|refine aI (by first|exact(show(l.flatten.length:Int)*24≤_ by omega)|exact(by simpa using h0)|exact(by omega)|kernel_rfl) ?_ )
   try(conv=>whnf)
   refine LoopK.run mixed [] (fun (k:Nat)=>k≤l.length) (fun k=>[(6,.own ((l.take k).flatten.map encIs) 0),(25,.sl false (l.map fun x=>.sl false (x.map encIs))),(26,.int .i64 l.length),(27,.int .i64 k)]) (fun k=>⟨[],[((l.take k).flatten.length,1)],0,0,fun k=>if k=0 then 88 else 0⟩) (fun k=>l.length-k) 0 (by simp) ?_ ?_
   ·refine fN ?_<;>repeat' (first|exact fQ|refine And.intro ?_ ?_|exact Sees.int (by simp))
   rintro k hk
   refine Wk ?_
   refine BrK.mk (fun hb=>?_) (fun hb=>?_)<;>try rw[hb]
   ·have hlt:k < l.length:=by simpa using hb
    obtain⟨x,hgx⟩:=getLt hlt
    have hmx:=getMap (f:=fun x:List (List Int)=>AV.sl false (x.map encIs)) hgx
    have hfl:(l.take (k+1)).flatten.length=(l.take k).flatten.length+x.length:=by rw[take_succ hgx];simp
    have hle:=flat_le l (k+1)
    repeat((conv=>whnf);first|refine sJ ?_|refine aI (by first|exact inbMap hlt|exact Els.map (f:=encIs) (fun x=>⟨rfl,rfl⟩)|exact(show _*24≤_ by simp only[List.length_map];omega)|exact(by simp only[List.length_map,maxLen];omega)|exact(by rw[List.length_map];rfl)|kernel_rfl) ?_|rw[hmx])
    try(conv=>whnf)
    refine⟨k+1,by omega,by omega,?_⟩
    refine fN ?_<;>repeat' (first|exact fQ|refine And.intro ?_ ?_|exact Sees.int (succI hlt (by omega))|exact Sees.own (by rw[take_succ hgx];simp)|(show(_,_)=(_,_);rw[hfl];simp only[List.length_append,List.length_map]))
   ·have hk':k=l.length:=by simp at hb;omega
    subst hk'
    refine Wk ?_
    exact resP.mk rfl (Sees.sl (by rw[List.take_length]))
  ·refine Wk ?_
   refine LoopK.born 6 1 88 rfl ?_
   refine LoopK.run mixed [] (fun (k:Nat)=>k≤l.length) (fun k=>[(6,.own ((l.take k).flatten.map encIs) 0),(25,.sl false (l.map fun x=>.sl false (x.map encIs))),(26,.int .i64 l.length),(27,.int .i64 k)]) (fun k=>⟨[],[((l.take k).flatten.length,1)],0,0,fun k=>if k=0 then 88 else 0⟩) (fun k=>l.length-k) 0 (by simp) ?_ ?_
   ·refine fN ?_<;>repeat' (first|exact fQ|refine And.intro ?_ ?_|exact Sees.int (by simp))
   rintro k hk
   refine Wk ?_
   refine BrK.mk (fun hb=>?_) (fun hb=>?_)<;>try rw[hb]
   ·have hlt:k < l.length:=by simpa using hb
    obtain⟨x,hgx⟩:=getLt hlt
    have hmx:=getMap (f:=fun x:List (List Int)=>AV.sl false (x.map encIs)) hgx
    have hfl:(l.take (k+1)).flatten.length=(l.take k).flatten.length+x.length:=by rw[take_succ hgx];simp
    have hle:=flat_le l (k+1)
    repeat((conv=>whnf);first|refine sJ ?_|refine aI (by first|exact inbMap hlt|exact Els.map (f:=encIs) (fun x=>⟨rfl,rfl⟩)|exact(show _*24≤_ by simp only[List.length_map];omega)|exact(by simp only[List.length_map,maxLen];omega)|exact(by rw[List.length_map];rfl)|kernel_rfl) ?_|rw[hmx])
    try(conv=>whnf)
    refine⟨k+1,by omega,by omega,?_⟩
    refine fN ?_<;>repeat' (first|exact fQ|refine And.intro ?_ ?_|exact Sees.int (succI hlt (by omega))|exact Sees.own (by rw[take_succ hgx];simp)|(show(_,_)=(_,_);rw[hfl];simp only[List.length_append,List.length_map]))
   ·have hk':k=l.length:=by simp at hb;omega
    subst hk'
    refine Wk ?_
    exact resP.mk rfl (Sees.sl (by rw[List.take_length]))
theorem lastSlot_get {done:List Chg}{d:Chg}(h:done[done.length-1]? = some d):lastSlot done=some d.slot:=by
 unfold lastSlot
 rw[List.getLast?_eq_getElem?,h];rfl
theorem c_placedC (n:Net)(before after:List Req)(flows:List Flow)(s:Sched)(done:List Chg)(c:Chg)(hd:done.length≤281474976710656):PCall Tryz.prog L 49 [.cptr (movAv n before after flows s done) 0,c.av] (.int .i64 (chgE (lastSlot done) c)):=by
 refine PCall.intro mixed [] (nt:=30) Tryz.func49 rfl rfl (by simp) ?_
 by_cases h1:c.slot < 0
 ·have g1:decide (c.slot < 0)=true:=decide_eq_true h1
  repeat((conv=>whnf);first|refine sT ?_|rw[g1])
  try(conv=>whnf)
  exact resP.mk rfl (Sees.int (by unfold chgE;rw[if_pos h1]))
 have g1:decide (c.slot < 0)=false:=decide_eq_false h1
 by_cases h2:done.length=0
 ·have hn:done=[]:=List.length_eq_zero_iff.1 h2
  subst hn
  repeat((conv=>whnf);first|refine sT ?_|rw[g1])
  try(conv=>whnf)
  exact resP.mk rfl (Sees.int (by unfold chgE;rw[if_neg h1];rfl))
 have g2:decide ((0:Int) < ((done.map Chg.av).length:Int))=true:=decide_eq_true (by rw[List.length_map];omega)
 have hw:IntKind.i64.wrap (((done.map Chg.av).length:Int)-1)=((done.length-1:Nat):Int):=by rw[List.length_map,w64]<;>omega
 obtain⟨d,hgd⟩:=getLt (l:=done) (k:=done.length-1) (by omega)
 have hmd:=getMap (f:=Chg.av) hgd
 have hls:=lastSlot_get hgd
 by_cases h3:c.slot < d.slot
 ·have g3:decide (c.slot < d.slot)=true:=decide_eq_true h3
  repeat((conv=>whnf);first|refine sJ ?_|refine aI (by first|exact trivial|(rw[hw];exact inbMap (show done.length-1 < done.length by omega))|kernel_rfl) ?_|rw[g1]|rw[g2]|rw[hw]|rw[hmd]|rw[g3])
  try(conv=>whnf)
  exact resP.mk rfl (Sees.int (by unfold chgE;rw[if_neg h1,hls];simp only[if_pos h3]))
 ·have g3:decide (c.slot < d.slot)=false:=decide_eq_false h3
  repeat((conv=>whnf);first|refine sJ ?_|refine aI (by first|exact trivial|(rw[hw];exact inbMap (show done.length-1 < done.length by omega))|kernel_rfl) ?_|rw[g1]|rw[g2]|rw[hw]|rw[hmd]|rw[g3])
  try(conv=>whnf)
  exact resP.mk rfl (Sees.int (by unfold chgE;rw[if_neg h1,hls];simp only[if_neg h3]))
theorem c_stays (n:Net)(before after:List Req)(flows:List Flow)(s:Sched)(done:List Chg)(id:Int)(hb:before.length≤16)(ha:after.length≤16)(hbx:∀x∈before,x.routes.length≤2)(hax:∀x∈after,x.routes.length≤2) :
  PCall Tryz.prog L 112 [.cptr (movAv n before after flows s done) 0,.int .i64 id] (.tup [(getD before id).flow.av,encRows ((getD before id).routes++(getD after id).routes),.bool ((getQ before id).isSome&&(getQ after id).isSome)]):=by
 have hx0:(getD before id).routes.length≤2:=by
  unfold getD
  cases hg:getQ before id with
  | none=>simp[req0]
  | some x=>exact hbx x (getQ_some hg).1
 have hy0:(getD after id).routes.length≤2:=by
  unfold getD
  cases hg:getQ after id with
  | none=>simp[req0]
  | some x=>exact hax x (getQ_some hg).1
 obtain⟨rx,hrx⟩:∃rx,rx=(getD before id).routes:=⟨_,rfl⟩
 obtain⟨ry,hry⟩:∃ry,ry=(getD after id).routes:=⟨_,rfl⟩
 have hcc:=c_ConcatRtC L [rx,ry] (by simp) (by rw[hrx,hry];simp;omega)
 have hfl:([rx,ry]:List (List (List Int))).flatten=rx++ry:=by simp
 rw[hfl,hrx,hry]at hcc
 cases hbs:(getQ before id).isSome<;>cases has:(getQ after id).isSome
 all_goals
  refine PCall.intro mixed [10003] (nt:=41) Tryz.func112 rfl rfl (by simp) ?_
  refine Wk ?_
  refine cD (c_findC L before id (by omega)) ?_
  rw[hbs]
  refine Wk ?_
  refine cD (c_findC L after id (by omega)) ?_
  rw[has]
  refine Wk ?_
  refine SemK.regionFin mixed (fun X=>X.bx[1]? = some (.cells (getD before id).av.cells 49)∧X.bx[2]? = some (.cells (getD after id).av.cells 49)) [0,1,2,3,4,5,6,7,8,9,10,11] 3 rfl rfl (by decide) rfl ⟨rfl,rfl⟩ ?_
  iterate 7
   conv=>whnf
   apply exV
   ·rintro S' K' hI hh
    repeat((conv=>whnf);first|refine sT ?_|erw [hI.1]|erw [hI.2])
    try(conv=>whnf)
    exact hh
  conv=>whnf
  apply exV
  ·rintro S' K' hI hh
   refine Wk ?_
   refine cD (hcc) ?_
   exact hh
  iterate 4
   conv=>whnf
   apply exV
   ·rintro S' K' hI hh
    refine Wk ?_
    exact hh
  conv=>whnf
  repeat' ((conv=>whnf);first|exact trivial|refine sJ ?_|refine aI (by first|exact trivial|exact Or.inr ⟨rfl,rfl⟩|exact Or.inl rfl|kernel_rfl) ?_|refine And.intro ?_ ?_ )
  all_goals(conv=>whnf)
 all_goals exact resP.mk rfl (Sees.of_eq rfl)
end
section
variable (L:World→Prop)
theorem c_waits1 (d:Chg)(f:Flow)(c:Chg):PCall Tryz.prog L 113 [d.av,.cptr f.av 0,.cptr c.av 0] (.bool (d.add&&(d.cell.flow==f.id&&decide (IntKind.i64.wrap (c.slot-d.slot) < f.period)))):=by
 refine PCall.intro mixed [] (nt:=25) Tryz.func113 rfl rfl (by simp) ?_
 cases h1:d.add<;>cases h2:(d.cell.flow==f.id)
 all_goals
  repeat((conv=>whnf);first|refine sT ?_|rw[h1]|rw[h2])
  try(conv=>whnf)
  exact resP.mk rfl (Sees.bool rfl)
theorem c_waits (n:Net)(before after:List Req)(flows:List Flow)(s:Sched)(done:List Chg)(c:Chg)(hd:done.length≤281474976710656)(hb:before.length≤16)(ha:after.length≤16)(hbx:∀x∈before,x.routes.length≤2)(hax:∀x∈after,x.routes.length≤2) :
  PCall Tryz.prog L 51 [.cptr (movAv n before after flows s done) 0,c.av] (.int .i64 (waitE before after done c)):=by
 have hE:=early_at (before:=before) (after:=after) (done:=done) (c:=c)
 obtain⟨f,hf⟩:∃f,f=(getD before c.cell.flow).flow:=⟨_,rfl⟩
 have hst:=c_stays L n before after flows s done c.cell.flow hb ha hbx hax
 rw[←hf]at hE hst
 obtain⟨p,hp⟩:∃p:Chg→Bool,p=fun d=>d.add&&(d.cell.flow==f.id&&decide (IntKind.i64.wrap (c.slot-d.slot) < f.period)):=⟨_,rfl⟩
 rw[←hp]at hE
 have hcf:=c_ContainsFuncChgC L done p 113 [.cptr f.av 0,.cptr c.av 0] hd rfl rfl (fun d _=>by rw[hp];exact c_waits1 L d f c)
 cases h1:((getQ before c.cell.flow).isSome&&(getQ after c.cell.flow).isSome)
 ·rw[h1]at hst hE
  refine PCall.intro mixed [] (nt:=33) Tryz.func51 rfl rfl (by simp) ?_
  refine Wk ?_
  refine cD (hst) ?_
  refine Wk ?_
  exact resP.mk rfl (Sees.int (by unfold waitE;rw[hE];rfl))
 rw[h1]at hst hE
 cases h2:c.add
 rotate_left
 ·rw[h2]at hE
  refine PCall.intro mixed [] (nt:=33) Tryz.func51 rfl rfl (by simp) ?_
  refine Wk ?_
  refine cD (hst) ?_
  have h2':(!c.add)=false:=by rw[h2];rfl
  repeat((conv=>whnf);first|refine sT ?_|rw[h2'])
  try(conv=>whnf)
  exact resP.mk rfl (Sees.int (by unfold waitE;rw[hE];rfl))
 rw[h2]at hE
 have h2':(!c.add)=true:=by rw[h2];rfl
 refine PCall.intro mixed [] (nt:=33) Tryz.func51 rfl rfl (by simp) ?_
 refine Wk ?_
 refine cD (hst) ?_
 repeat((conv=>whnf);first|refine sT ?_|rw[h2'])
 try(conv=>whnf)
 refine cB (hcf) ?_
 cases h3:done.any p
 ·rw[h3]at hE
  refine Wk ?_
  exact resP.mk rfl (Sees.int (by unfold waitE;rw[hE];rfl))
 ·rw[h3]at hE
  refine Wk ?_
  exact resP.mk rfl (Sees.int (by unfold waitE;rw[hE];rfl))
theorem c_valid (n:Net)(hn:n.small)(before after:List Req)(flows:List Flow)(hfl:flows.length≤281474976710656)(s:Sched)(hc:s.cells.length≤281474976710656)(done:List Chg)(c:Chg) :
  PCall Tryz.prog L 52 [.cptr (movAv n before after flows s done) 0,c.av] (.int .i64 (if (schedE n flows s).2≠0 then 16 else 0)):=by
 refine PCall.intro mixed [10001] (nt:=25) Tryz.func52 rfl rfl (by simp) ?_
 refine Wk ?_
 refine SemK.regionFin mixed (fun _=>True) [0,1,2,3,4,5,6,7,8,9,10,11,12,13,14,15] 2 rfl rfl (by decide) rfl trivial ?_
 iterate 12
  conv=>whnf
  apply exV
  ·rintro S' K' hI hh
   refine Wk ?_
   exact hh
 conv=>whnf
 apply exV
 ·rintro S' K' hI hh
  refine Wk ?_
  refine cD (c_SCheck L n hn flows hfl s hc) ?_
  exact hh
 iterate 3
  conv=>whnf
  apply exV
  ·rintro S' K' hI hh
   refine Wk ?_
   exact hh
 conv=>whnf
 repeat' ((conv=>whnf);first|exact trivial|refine sJ ?_|refine aI (by first|exact trivial|exact Or.inr trivial|exact Or.inl rfl|kernel_rfl) ?_|refine And.intro ?_ ?_ )
 all_goals(conv=>whnf)
 by_cases h:(schedE n flows s).2≠0
 ·have g:((schedE n flows s).2 != 0)=true:=by simpa using h
  repeat((conv=>whnf);first|refine sT ?_|rw[g])
  try(conv=>whnf)
  exact resP.mk rfl (Sees.int (by rw[if_pos h]))
 ·have g:((schedE n flows s).2 != 0)=false:=by simpa using h
  repeat((conv=>whnf);first|refine sT ?_|rw[g])
  try(conv=>whnf)
  exact resP.mk rfl (Sees.int (by rw[if_neg h]))
end
theorem c_keeps (n:Net)(hn:n.small)(before after:List Req)(flows:List Flow)(hfl:flows.length≤281474976710656)(s:Sched)(hc:s.cells.length≤281474976710656)(done:List Chg)(c:Chg)(hb:before.length≤16)(ha:after.length≤16)(hbx:∀x∈before,x.routes.length≤2∧∀r∈x.routes,r.length≤9)(hax:∀x∈after,x.routes.length≤2∧∀r∈x.routes,r.length≤9) :
  PCall Tryz.prog LW 53 [.cptr (movAv n before after flows s done) 0,c.av] (.int .i64 (if flows.all (keepF n before after s)=true then 0 else 15)):=by
 refine PCall.intro mixed [10006] (nt:=54) Tryz.func53 rfl rfl (by simp) ?_
 refine Wk ?_
 refine LoopK.run mixed [10006] (fun k:Nat=>k≤flows.length∧∀(j:Nat) f,j < k→flows[j]? = some f→keepF n before after s f=true) (fun k=>[(0,.cptr (movAv n before after flows s done) 0),(15,encFlows flows),(16,.int .i64 flows.length),(17,.int .i64 k)]) (fun _=>St.none) (fun k=>flows.length-k) 0 ⟨by simp,by simp⟩ ?_ ?_
 ·refine fN ?_<;>repeat' (first|exact fQ|refine And.intro ?_ ?_|exact Sees.int (by simp)|exact FitF.nil _)
 rintro k ⟨hk,hinv⟩
 by_cases hkt:k < flows.length
 rotate_left
 ·have hkn:k=flows.length:=by omega
  subst hkn
  have gk:decide ((flows.length:Int) < (flows.length:Int))=false:=decide_eq_false (by omega)
  have hall:flows.all (keepF n before after s)=true:=List.all_eq_true.2 fun f hf=>by
   obtain⟨j,hj⟩:=List.getElem?_of_mem hf
   exact hinv j f (List.getElem?_eq_some_iff.1 hj).1 hj
  repeat((conv=>whnf);first|refine sT ?_|rw[gk])
  try(conv=>whnf)
  exact resP.mk rfl (Sees.int (by rw[if_pos hall]))
 obtain⟨f,hgf⟩:=getLt hkt
 have hmf:=getMap (f:=Flow.av) hgf
 have gk:decide ((k:Int) < (flows.length:Int))=true:=decide_eq_true (by omega)
 have hst:=c_stays LW n before after flows s done f.id hb ha (fun x hx=>(hbx x hx).1) (fun x hx=>(hax x hx).1)
 have hkf:=keep_at (n:=n) (before:=before) (after:=after) (s:=s) (f:=f)
 have hno:keepF n before after s f=false→flows.all (keepF n before after s)=false:=fun h=>List.all_eq_false.2 ⟨f,List.mem_of_getElem? hgf,by simp[h]⟩
 have nxt:keepF n before after s f=true→∀(j:Nat) y,j < k+1→flows[j]? = some y→keepF n before after s y=true:=fun h j y hj hy=>by
  rcases Nat.lt_succ_iff_lt_or_eq.1 hj with h'|rfl
  ·exact hinv j y h' hy
  ·rw[hgf]at hy;injection hy with hy;subst hy;exact h
 obtain⟨rs,hrs⟩:∃rs,rs=(getD before f.id).routes++(getD after f.id).routes:=⟨_,rfl⟩
 have hrl:rs.length≤4∧∀r∈rs,r.length≤9:=by
  have one:∀(q:List Req),(∀x∈q,x.routes.length≤2∧∀r∈x.routes,r.length≤9)→(getD q f.id).routes.length≤2∧∀r∈(getD q f.id).routes,r.length≤9:=fun q hq=>by
   unfold getD
   cases hg:getQ q f.id with
   | none=>simp[req0]
   | some x=>exact hq x (getQ_some hg).1
  have h1:=one before hbx
  have h2:=one after hax
  rw[hrs]
  refine⟨by rw[List.length_append];omega,fun r hr=>?_⟩
  rcases List.mem_append.1 hr with h|h
  ·exact h1.2 r h
  ·exact h2.2 r h
 rw[←hrs]at hst hkf
 cases hb1:((getQ before f.id).isSome&&(getQ after f.id).isSome) with
 | false=>
  rw[hb1]at hst hkf
  have hkt2:keepF n before after s f=true:=by rw[hkf];rfl
  repeat((conv=>whnf);first|refine sJ ?_|refine aI (by first|exact trivial|exact inbMap hkt|kernel_rfl) ?_|rw[gk]|rw[hmf])
  try(conv=>whnf)
  refine cD (hst) ?_
  refine Wk ?_
  refine⟨k+1,⟨by omega,nxt hkt2⟩,by omega,?_⟩
  refine fN ?_<;>repeat' (first|exact fQ|refine And.intro ?_ ?_|exact Sees.int (succI hkt (by omega))|exact FitF.nil _)
 | true=>
  rw[hb1]at hst hkf
  repeat((conv=>whnf);first|refine sJ ?_|refine aI (by first|exact trivial|exact inbMap hkt|kernel_rfl) ?_|rw[gk]|rw[hmf])
  try(conv=>whnf)
  refine cD (hst) ?_
  refine Wk ?_
  refine SemK.regionFin mixed (fun X=>X.bx[0]? = some (.cells f.av.cells 46)) [0,1,2,3,4,5,6,7,8,9,10,11,12,13] 2 rfl rfl (by decide) rfl rfl ?_
  iterate 10
   conv=>whnf
   apply exV
   ·rintro S' K' hI hh
    repeat((conv=>whnf);first|refine sT ?_|erw [hI])
    try(conv=>whnf)
    exact hh
  conv=>whnf
  apply exV
  ·rintro S' K' hI hh
   refine Wk ?_
   refine cD (c_BLeast n s f rs hn hc (fun r hr=>by have:=hrl.2 r hr;omega) (by omega)) ?_
   exact hh
  iterate 3
   conv=>whnf
   apply exV
   ·rintro S' K' hI hh
    refine Wk ?_
    exact hh
  conv=>whnf
  repeat' ((conv=>whnf);first|exact trivial|refine sJ ?_|refine aI (by first|exact trivial|exact Or.inr rfl|exact Or.inl rfl|kernel_rfl) ?_|refine And.intro ?_ ?_ )
  all_goals(conv=>whnf)
  by_cases h1:(leastM n s f rs).2=0
  ·by_cases h2:(leastM n s f rs).1≤f.dead
   ·have g1:((leastM n s f rs).2 != 0)=false:=by simpa using h1
    have g2:decide (f.dead < (leastM n s f rs).1)=false:=decide_eq_false (by omega)
    have hkt2:keepF n before after s f=true:=by rw[hkf];simp[h1,h2]
    repeat((conv=>whnf);first|refine sT ?_|rw[g1]|rw[g2])
    try(conv=>whnf)
    refine⟨k+1,⟨by omega,nxt hkt2⟩,by omega,?_⟩
    refine fN ?_<;>repeat' (first|exact fQ|refine And.intro ?_ ?_|exact Sees.int (succI hkt (by omega))|exact FitF.nil _)
   ·have g1:((leastM n s f rs).2 != 0)=false:=by simpa using h1
    have g2:decide (f.dead < (leastM n s f rs).1)=true:=decide_eq_true (by omega)
    have hkt2:keepF n before after s f=false:=by rw[hkf];simp[h1,h2]
    repeat((conv=>whnf);first|refine sT ?_|rw[g1]|rw[g2])
    try(conv=>whnf)
    exact resP.mk rfl (Sees.int (by rw[if_neg (by rw[hno hkt2];decide)]))
  ·have g1:((leastM n s f rs).2 != 0)=true:=by simpa using h1
   have hkt2:keepF n before after s f=false:=by rw[hkf];simp[h1]
   repeat((conv=>whnf);first|refine sT ?_|rw[g1])
   try(conv=>whnf)
   exact resP.mk rfl (Sees.int (by rw[if_neg (by rw[hno hkt2];decide)]))
theorem c_ends1 (L:World→Prop)(n:Net)(before after:List Req)(flows:List Flow)(s:Sched)(done:List Chg)(x:Cell)(ha:after.length≤16):PCall Tryz.prog L 116 [x.av,.cptr (.agg [.cptr (movAv n before after flows s done) 0]) 0] (.bool (!(getQ after x.flow).isSome)):=by
 refine PCall.intro mixed [10001] (nt:=18) Tryz.func116 rfl rfl (by simp) ?_
 refine Wk ?_
 refine SemK.regionFin mixed (fun X=>X.bx[0]? = some (.cells x.av.cells 40)) [0,1,2,3,4,5,6,7,8,9] 3 rfl rfl (by decide) rfl rfl ?_
 iterate 6
  conv=>whnf
  apply exV
  ·rintro S' K' hI hh
   repeat((conv=>whnf);first|refine sT ?_|erw [hI])
   try(conv=>whnf)
   exact hh
 conv=>whnf
 apply exV
 ·rintro S' K' hI hh
  refine Wk ?_
  refine cD (c_findC L after x.flow (by omega)) ?_
  exact hh
 iterate 3
  conv=>whnf
  apply exV
  ·rintro S' K' hI hh
   refine Wk ?_
   exact hh
 conv=>whnf
 repeat' ((conv=>whnf);first|exact trivial|refine sJ ?_|refine aI (by first|exact trivial|exact Or.inr rfl|exact Or.inl rfl|kernel_rfl) ?_|refine And.intro ?_ ?_ )
 all_goals(conv=>whnf)
 exact resP.mk rfl (Sees.bool rfl)
def endE (n:Net)(after:List Req)(s:Sched):Int:=if endsB n after s=true then 0 else 18
theorem c_endsC (n:Net)(hn:n.small)(before after:List Req)(flows:List Flow)(s:Sched)(hc:s.cells.length≤1048576)(done:List Chg)(ha:after.length≤16)(hx:∀x∈after,x.small) :
  PCall Tryz.prog LW 54 [.cptr (movAv n before after flows s done) 0] (.int .i64 (endE n after s)):=by
 refine PCall.intro mixed [10003] (nt:=33) Tryz.func54 rfl rfl (by simp) ?_
 have hmk:=c_Make n hn after (by omega) hx (ownQ after s) (by have:=List.length_filter_le (fun c:Cell=>(getQ after c.flow).isSome) s.cells;show(s.cells.filter _).length≤_;omega)
 by_cases hne:s.cells=[]
 ·obtain⟨len,offs,cells⟩:=s
  simp only at hne
  subst hne
  refine Wk ?_
  refine cD (c_Clone0Cell LW) ?_
  refine Wk ?_
  refine CallK.inl rfl (ICall.intro mixed [] (nt:=42) Tryz.func115 rfl rfl (by simp) ?_)
  refine Wk ?_
  refine CallK.box rfl (c_IndexFuncCell LW [] (fun c=>!(getQ after c.flow).isSome) 116 [.cptr (.agg [.cptr (movAv n before after flows ⟨len,offs,[]⟩ done) 0]) 0] (by simp) rfl rfl (fun c _=>c_ends1 LW n before after flows _ done c ha)) (fz2 rfl (fzf1 rfl)) rfl ?_
  refine Wk ?_
  refine SemK.regionFin mixed (fun X=>X.bx[0]? = some (.cells [.cptr (movAv n before after flows ⟨len,offs,[]⟩ done) 0] 98)∧X.bx[1]? = some (.cells [.int .i64 len,.int .i64 offs,.sl false []] 30)) [0,1,2,3,4,5,6,7,8,9,10,11,12,13] 3 rfl rfl (by decide) rfl ⟨rfl,rfl⟩ ?_
  iterate 9
   conv=>whnf
   apply exV
   ·rintro S' K' hI hh
    repeat((conv=>whnf);first|refine sT ?_|erw [hI.1]|erw [hI.2])
    try(conv=>whnf)
    exact hh
  conv=>whnf
  apply exV
  ·rintro S' K' hI hh
   refine Wk ?_
   refine cD (hmk) ?_
   exact hh
  iterate 4
   conv=>whnf
   apply exV
   ·rintro S' K' hI hh
    refine Wk ?_
    exact hh
  conv=>whnf
  repeat' ((conv=>whnf);first|exact trivial|refine sJ ?_|refine aI (by first|exact trivial|exact Or.inr ⟨rfl,rfl⟩|exact Or.inr ⟨rfl,rfl,rfl⟩|exact Or.inl rfl|kernel_rfl) ?_|refine And.intro ?_ ?_ )
  all_goals(conv=>whnf)
  by_cases h:(makeM n after (ownQ after (⟨len,offs,[]⟩:Sched))).2.2=0
  ·have g:((makeM n after (ownQ after (⟨len,offs,[]⟩:Sched))).2.2 != 0)=false:=by simpa using h
   repeat((conv=>whnf);first|refine sT ?_|rw[g])
   try(conv=>whnf)
   exact resP.mk rfl (Sees.int (by unfold endE endsB;rw[if_pos (by simpa using h)]))
  ·have g:((makeM n after (ownQ after (⟨len,offs,[]⟩:Sched))).2.2 != 0)=true:=by simpa using h
   repeat((conv=>whnf);first|refine sT ?_|rw[g])
   try(conv=>whnf)
   exact resP.mk rfl (Sees.int (by unfold endE endsB;rw[if_neg (by simpa using h)]))
 ·refine Wk ?_
  refine CallK.fresh rfl (c_CloneCell LW s.cells hne (by omega)) (by rfl) (cellOk.els _) (cellOk.scal (fun _=>rfl) _) (fun h=>absurd (by simpa using h) hne) (fun d=>?_)
  refine Wk ?_
  rw[List.length_map]
  refine CallK.inl rfl (i_DeleteCell LW _ _ _ _ _ s.cells (fun c=>!(getQ after c.flow).isSome) _ [.ptr 0 0] [.cptr (.agg [.cptr (movAv n before after flows s done) 0]) 0] d (by omega) rfl rfl ⟨?_,?_,?_⟩ (fun _ _ _ _=>rfl) (fun c _=>c_ends1 LW n before after flows s done c ha) fun ex=>?_)
  ·exact⟨trivial,trivial⟩
  ·exact⟨trivial,trivial,fzs_okk (es:=[encCells s.cells]) rfl⟩
  ·exact⟨(by decide:0 < 3),trivial⟩
  have hfil:(s.cells.filter fun c=>!(!(getQ after c.flow).isSome))=(ownQ after s).cells:=by unfold ownQ;simp only[Bool.not_not]
  rw[hfil]
  refine Wk ?_
  refine SemK.regionFin mixed (fun X=>X.bx[0]? = some (.cells [.cptr (movAv n before after flows s done) 0] 98)∧X.bx[1]? = some (.cells [.int .i64 s.len,.int .i64 s.offs,.vsl 2 0 (ownQ after s).cells.length 5] 30)∧X.bx[2]? = some (.cells (flatE ((ownQ after s).cells.map Cell.av)++ex) 40)) [0,1,2,3,4,5,6,7,8,9,10,11,12,13] 3 rfl rfl (by decide) rfl ⟨rfl,rfl,rfl⟩ ?_
  iterate 9
   conv=>whnf
   apply exV
   ·rintro S' K' hI hh
    repeat((conv=>whnf);first|refine sT ?_|erw [hI.1]|erw [hI.2.1])
    try(conv=>whnf)
    exact hh
  conv=>whnf
  apply exV
  ·rintro S' K' hI hh
   have e0:=cellOk.fzb hI.2.2 rfl
   refine Wk ?_
   refine CallK.boxU rfl hmk (fz2 rfl (fz2 rfl (fz2 ?_ rfl))) ?_
   ·show Option.map AV.agg (fzbs S' [.int .i64 s.len,.int .i64 s.offs,.vsl 2 0 (ownQ after s).cells.length 5])=_
    rw[show fzbs S' [.int .i64 s.len,.int .i64 s.offs,.vsl 2 0 (ownQ after s).cells.length 5] = some [.int .i64 s.len,.int .i64 s.offs,.sl false ((ownQ after s).cells.map Cell.av)] from fz2 rfl (fz2 rfl (fz2 e0 rfl))]
    rfl
   exact hh
  iterate 4
   conv=>whnf
   apply exV
   ·rintro S' K' hI hh
    refine Wk ?_
    exact hh
  conv=>whnf
  repeat' ((conv=>whnf);first|exact trivial|refine sJ ?_|refine aI (by first|exact trivial|exact Or.inr ⟨rfl,rfl⟩|exact Or.inr ⟨rfl,rfl,rfl⟩|exact Or.inl rfl|kernel_rfl) ?_|refine And.intro ?_ ?_ )
  all_goals(conv=>whnf)
  by_cases h:(makeM n after (ownQ after s)).2.2=0
  ·have g:((makeM n after (ownQ after s)).2.2 != 0)=false:=by simpa using h
   repeat((conv=>whnf);first|refine sT ?_|rw[g])
   try(conv=>whnf)
   exact resP.mk rfl (Sees.int (by unfold endE endsB;rw[if_pos (by simpa using h)]))
  ·have g:((makeM n after (ownQ after s)).2.2 != 0)=true:=by simpa using h
   repeat((conv=>whnf);first|refine sT ?_|rw[g])
   try(conv=>whnf)
   exact resP.mk rfl (Sees.int (by unfold endE endsB;rw[if_neg (by simpa using h)]))
end HM
