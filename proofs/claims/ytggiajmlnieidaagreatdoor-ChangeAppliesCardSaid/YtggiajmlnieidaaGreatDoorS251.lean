/- Changes: finding requests, the schedule behind a change. -/
import Derived.Test.YtggiajmlnieidaaGreatDoorS162
import Derived.Test.YtggiajmlnieidaaGreatDoorS54
import Derived.Test.YtggiajmlnieidaaGreatDoorDd
import Derived.Test.YtggiajmlnieidaaGreatDoorS250
import Derived.Test.YtggiajmlnieidaaGreatDoorS33
import Derived.Test.YtggiajmlnieidaaGreatDoorS70
import Derived.Test.YtggiajmlnieidaaGreatDoorS103
import Derived.Test.YtggiajmlnieidaaGreatDoorS1
set_option maxRecDepth 100000
namespace HM
open Go Go.RowKit Go.Proofs
section
variable (L:World→Prop)
theorem c_IndexFuncReqC (l:List Req)(p:Req→Bool)(g:Nat)(caps:List AV)(hl:l.length≤281474976710656)(hcb:callable Tryz.prog g=true)(hc:fzs caps=some caps)(hp:∀x∈l,PCall Tryz.prog L g (Req.av x :: caps) (.bool (p x))) :
  PCall Tryz.prog L 80 [.sl false (l.map Req.av),.fn g caps] (.int .i64 (idxF p l)):=by
 refine PCall.intro mixed [] (nt:=19) Tryz.func80 rfl rfl (by simp) ?_
 refine Wk ?_
 refine LoopK.run mixed [] (fun (k:Nat)=>k≤l.length∧∀j x,j < k→l[j]? = some x→p x=false) (fun k=>[(0,.sl false (l.map Req.av)),(1,.fn g caps),(7,.int .i64 l.length),(8,.int .i64 k)]) (fun k=>St.none) (fun k=>l.length-k) 0 ⟨by simp,by simp⟩ ?_ ?_
 ·refine fN ?_<;>repeat' (first|exact fQ|refine And.intro ?_ ?_|exact Sees.int (by simp)|exact fzs_okk hc)
 rintro k ⟨hk,hinv⟩
 refine Wk ?_
 refine BrK.mk (fun hb=>?_) (fun hb=>?_)<;>try rw[hb]
 ·have hlt:k < l.length:=by simpa using hb
  obtain⟨x,hgx⟩:=getLt hlt
  have hmx:=getMap (f:=Req.av) hgx
  repeat((conv=>whnf);first|refine sJ ?_|refine aI (by first|exact inbMap hlt|kernel_rfl) ?_|rw[hmx])
  try(conv=>whnf)
  refine CallK.data hcb (hp x (List.mem_of_getElem? hgx)) (by show(match fz _,fzs caps with|some a,some b=>some (a :: b)|_,_=>none)=_;rw[hc];rfl) ?_
  refine Wk ?_
  refine BrK.mk (fun h2=>?_) (fun h2=>?_)<;>(try rw[h2])
  ·refine Wk ?_
   exact resP.mk rfl (Sees.int (idxF_some hlt hinv hgx h2).symm)
  ·refine Wk ?_
   refine⟨k+1,⟨by omega,fun j y hj hy=>?_⟩,by omega,?_⟩
   ·rcases Nat.lt_succ_iff_lt_or_eq.1 hj with h|rfl
    ·exact hinv j y h hy
    ·rw[hgx]at hy;injection hy with hy;subst hy;exact h2
   ·refine fN ?_<;>repeat' (first|exact fQ|refine And.intro ?_ ?_|exact Sees.int (succI hlt hl)|exact fzs_okk hc)
 ·have hk':k=l.length:=by simp at hb;omega
  subst hk'
  refine Wk ?_
  exact resP.mk rfl (Sees.int (idxF_none hinv).symm)
theorem c_findC1 (x:Req)(id:Int):PCall Tryz.prog L 155 [x.av,.cptr (.agg [.int .i64 id]) 0] (.bool (x.flow.id==id)):=by
 refine PCall.intro mixed [] (nt:=9) Tryz.func155 rfl rfl (by simp) ?_
 refine Wk ?_
 exact resP.mk rfl (Sees.bool rfl)
theorem c_findC (q:List Req)(id:Int)(hq:q.length≤281474976710656):PCall Tryz.prog L 96 [encReqs q,.int .i64 id] (.tup [(getD q id).av,.bool (getQ q id).isSome]):=by
 refine PCall.intro mixed [] (nt:=17) Tryz.func96 rfl rfl (by simp) ?_
 refine Wk ?_
 refine cB (c_IndexFuncReqC L q (fun x=>x.flow.id==id) 155 [.cptr (.agg [.int .i64 id]) 0] hq rfl rfl (fun x _=>c_findC1 L x id)) ?_
 rcases idxF_find (fun x:Req=>x.flow.id==id) q with ⟨e1,e2⟩|⟨k,x,e1,e2,e3⟩
 ·have hg:getQ q id=none:=e2
  rw[e1]
  refine Wk ?_
  exact resP.mk rfl (Sees.of_eq (by unfold getD;rw[hg];rfl))
 ·have hg:getQ q id=some x:=e3
  have hmx:=getMap (f:=Req.av) e2
  have hkl:=(List.getElem?_eq_some_iff.1 e2).1
  have g:decide ((k:Int) < 0)=false:=decide_eq_false (by omega)
  rw[e1]
  repeat((conv=>whnf);first|refine sJ ?_|refine aI (by first|exact trivial|exact inbMap hkl|kernel_rfl) ?_|rw[g]|rw[hmx])
  try(conv=>whnf)
  exact resP.mk rfl (Sees.of_eq (by unfold getD;rw[hg];rfl))
theorem c_appliedC (s:Sched)(c:Chg):PCall Tryz.prog L 67 [s.av,c.av] (.tup [(chgM s c).1.av,.int .i64 (chgM s c).2]):=by
 refine PCall.intro mixed [] (nt:=20) Tryz.func67 rfl rfl (by simp) ?_
 refine Wk ?_
 refine BrK.mk (fun h=>?_) (fun h=>?_)<;>(try rw[h])
 ·refine Wk ?_
  refine cD (c_Add L s c.cell) ?_
  refine Wk ?_
  exact resP.mk rfl (Sees.of_eq (by rw[chgM,if_pos h];rfl))
 ·refine Wk ?_
  refine cD (c_Remove L s c.cell) ?_
  refine Wk ?_
  exact resP.mk rfl (Sees.of_eq (by rw[chgM,if_neg (by simp[h])];rfl))
end
theorem c_faultyC (n:Net)(hn:n.small)(h0:netE n=0)(q:List Req)(hq:q.length≤1099511627776)(hx:∀x∈q,x.small):PCall Tryz.prog LW 109 [n.av,encReqs q] (.bool (decide ((reqE n q).2≠0))):=by
 rw[←faulty_iff h0]
 refine PCall.intro mixed [] (nt:=22) Tryz.func109 rfl rfl (by simp) ?_
 refine Wk ?_
 refine cD (c_Make n hn q hq hx ⟨0,0,[]⟩ (by simp)) ?_
 cases g1:((makeM n q ⟨0,0,[]⟩).2.2 != 1) with
 | true=>
  repeat((conv=>whnf);first|refine sT ?_|rw[g1])
  try(conv=>whnf)
  exact resP.mk rfl (Sees.bool rfl)
 | false=>
  repeat((conv=>whnf);first|refine sT ?_|rw[g1])
  try(conv=>whnf)
  exact resP.mk rfl (Sees.bool rfl)
theorem upto_at {l:List Chg}{t:Int}{k:Nat}(h:∀(j:Nat) c,j < k→l[j]? = some c→c.slot≤t)(he:∀c,l[k]? = some c→t < c.slot):uptoW l t=l.take k:=by
 unfold uptoW
 induction l generalizing k with
 | nil=>simp
 | cons c l ih=>
  cases k with
  | zero=>
   have:=he c rfl
   rw[List.takeWhile_cons,if_neg (by simp;omega)]
   rfl
  | succ k=>
   have h1:=h 0 c (by omega) rfl
   rw[List.takeWhile_cons,if_pos (by simpa using h1),List.take_succ_cons,ih (fun j d hj hd=>h (j+1) d (by omega) hd) fun d hd=>he d hd]
section
variable (L:World→Prop)
theorem c_CloneCl (l:List Cell)(hl:l.length≤1099511627776):PCall Tryz.prog L 66 [encCells l] (encCells l):=by
 by_cases hne:l=[]
 ·subst hne;exact c_Clone0Cell L
 refine PCall.intro mixed [] (nt:=8) Tryz.func66 rfl rfl (by simp) ?_
 refine Wk ?_
 refine BrK.mk (fun h=>?_) (fun h=>?_)<;>(try rw[h])
 ·exact absurd (by simpa using h) hne
 ·repeat((conv=>whnf);first|refine sJ ?_|refine aI (by first|exact Els.map (f:=Cell.av) (fun x=>⟨cellOk.len x,cellOk.cell x⟩)|exact(show _*40≤_ by simp only[List.length_map,List.length_nil];omega)|exact(by simp only[List.length_map,List.length_nil,maxLen];omega)|kernel_rfl) ?_ )
  try(conv=>whnf)
  exact resP.mk rfl (Sees.of_eq rfl)
end
def apO (s:Sched)(out:List AV):List Ob:=[.cells s.av.cells 30,.cells out 30]
theorem c_ApplyC (s:Sched)(hc:s.cells.length≤1099511627776)(l:List Chg)(hl:l.length≤281474976710656)(t:Int):PCall Tryz.prog LW 22 [s.av,encChgs l,.int .i64 t] (.tup [(applyP s l t).1.av,.int .i64 (applyP s l t).2]):=by
 refine PCall.intro mixed [] (nt:=40) Tryz.func22 rfl rfl (by simp) ?_
 refine Wk ?_
 refine cD (c_wrongC s l hl) ?_
 by_cases hw:wrongE s l≠0
 ·have g:(wrongE s l != 0)=true:=by simpa using hw
  repeat((conv=>whnf);first|refine sT ?_|rw[g])
  try(conv=>whnf)
  exact resP.mk rfl (Sees.of_eq (by unfold applyP;rw[if_pos hw];rfl))
 have g:(wrongE s l != 0)=false:=by simpa using hw
 repeat((conv=>whnf);first|refine sT ?_|rw[g])
 try(conv=>whnf)
 refine cD (c_CloneCl LW s.cells hc) ?_
 repeat((conv=>whnf);first|refine sT ?_ )
 try(conv=>whnf)
 refine LoopK.run mixed [] (fun k:Nat=>k≤l.length∧∀(j:Nat) c,j < k→l[j]? = some c→c.slot≤t) (fun k=>[(2,.int .i64 t),(3,.ptr 0 0),(6,.ptr 1 0),(22,encChgs l),(23,.int .i64 l.length),(24,.int .i64 k)]) (fun k=>⟨apO (afterC s (l.take k)) [.int .i64 0,.int .i64 0,.nils],[],0,0,fun _=>0⟩) (fun k=>l.length-k) 0 ⟨by simp,by simp⟩ ?_ ?_
 ·refine fN ?_<;>repeat' (first|exact fQ|refine And.intro ?_ ?_|exact SeesL.rfl' _|exact Sees.int (by simp))
 rintro k ⟨hk,hinv⟩
 have hend:(∀c,l[k]? = some c→t < c.slot)→applyP s l t=(afterC s (l.take k),0):=fun h=>by
  unfold applyP
  rw[if_neg hw,upto_at hinv h]
 by_cases hkl:k < l.length
 rotate_left
 ·have hke:k=l.length:=by omega
  subst hke
  have gk:decide ((l.length:Int) < (l.length:Int))=false:=decide_eq_false (by omega)
  have hpe:=hend fun c hc=>by rw[List.getElem?_eq_none (by omega)]at hc;cases hc
  repeat((conv=>whnf);first|refine sT ?_|rw[gk])
  try(conv=>whnf)
  exact resP.mk rfl (Sees.of_eq (by rw[hpe];rfl))
 obtain⟨c,hgc⟩:=getLt hkl
 have hmc:=getMap (f:=Chg.av) hgc
 have gk:decide ((k:Int) < (l.length:Int))=true:=decide_eq_true (by omega)
 by_cases hct:t < c.slot
 ·have g2:decide (t < c.slot)=true:=decide_eq_true hct
  have hpe:=hend fun d hd=>by rw[hgc]at hd;injection hd with hd;subst hd;exact hct
  repeat((conv=>whnf);first|refine sJ ?_|refine aI (by first|exact trivial|exact inbMap hkl|kernel_rfl) ?_|rw[gk]|rw[hmc]|rw[g2])
  try(conv=>whnf)
  exact resP.mk rfl (Sees.of_eq (by rw[hpe];rfl))
 ·have g2:decide (t < c.slot)=false:=decide_eq_false hct
  repeat((conv=>whnf);first|refine sJ ?_|refine aI (by first|exact trivial|exact inbMap hkl|kernel_rfl) ?_|rw[gk]|rw[hmc]|rw[g2])
  try(conv=>whnf)
  refine cD (c_appliedC LW (afterC s (l.take k)) c) ?_
  repeat((conv=>whnf);first|refine sT ?_ )
  try(conv=>whnf)
  refine⟨k+1,⟨hkl,fun j d hj hd=>?_⟩,by omega,?_⟩
  ·rcases Nat.lt_succ_iff_lt_or_eq.1 hj with h'|rfl
   ·exact hinv j d h' hd
   ·rw[hgc]at hd;injection hd with hd;subst hd;omega
  ·rw[afterC_snoc hgc]
   refine fN ?_<;>repeat' (first|exact fQ|refine And.intro ?_ ?_|exact SeesL.rfl' _|exact Sees.int (succI hkl (by omega)))
theorem c_BusyC (s:Sched)(hc:s.cells.length≤1099511627776)(l:List Chg)(hl:l.length≤281474976710656)(t:Int)(h63:t≤9223372036854775807):PCall Tryz.prog LW 24 [s.av,encChgs l,.int .i64 t] (.tup [.int .i64 (busyP s l t).1,.int .i64 (busyP s l t).2]):=by
 refine PCall.intro mixed [] (nt:=40) Tryz.func24 rfl rfl (by simp) ?_
 refine Wk ?_
 refine cD (c_ApplyC s hc l hl t) ?_
 by_cases hw:(applyP s l t).2≠0
 ·have g:((applyP s l t).2 != 0)=true:=by simpa using hw
  repeat((conv=>whnf);first|refine sT ?_|rw[g])
  try(conv=>whnf)
  exact resP.mk rfl (Sees.of_eq (by unfold busyP;rw[if_pos hw]))
 have g:((applyP s l t).2 != 0)=false:=by simpa using hw
 by_cases ht:t < 0
 ·have g2:decide (t < 0)=true:=decide_eq_true ht
  repeat((conv=>whnf);first|refine sT ?_|rw[g]|rw[g2])
  try(conv=>whnf)
  exact resP.mk rfl (Sees.of_eq (by unfold busyP;rw[if_neg hw,if_pos ht]))
 have g2:decide (t < 0)=false:=decide_eq_false ht
 obtain⟨hw0,hap,hfo⟩:=apply_ok (s:=s) (l:=l) (t:=t) (by omega)
 have hal:=(form_all hfo).2.1
 repeat((conv=>whnf);first|refine sT ?_|rw[g]|rw[g2])
 try(conv=>whnf)
 refine cD (c_At LW (applyP s l t).1 t (by omega) h63) ?_
 repeat((conv=>whnf);first|refine sT ?_ )
 try(conv=>whnf)
 obtain⟨A,hA⟩:∃A,A=atM (applyP s l t).1 t:=⟨_,rfl⟩
 rw[←hA]
 have hAl:A.length≤512:=by
  rw[hA];unfold atM
  split
  ·simp
  ·exact Nat.le_trans (List.length_filter_le _ _) hal
 have hAo:∀c∈A,0≤c.off:=fun c hc=>(form_off15 hfo (at_mem (by rw[←hA];exact hc))).1
 refine LoopK.run mixed [] (fun k:Nat=>k≤A.length) (fun k=>[(10,.int .i64 (busF (A.take k))),(27,encCells A),(28,.int .i64 A.length),(29,.int .i64 k)]) (fun k=>St.none) (fun k=>A.length-k) 0 (by simp) ?_ ?_
 ·refine fN ?_<;>repeat' (first|exact fQ|refine And.intro ?_ ?_|exact Sees.int (by simp))
 rintro k hk
 by_cases hkl:k < A.length
 rotate_left
 ·have hke:k=A.length:=by omega
  subst hke
  have gk:decide ((A.length:Int) < (A.length:Int))=false:=decide_eq_false (by omega)
  rw[List.take_length]
  repeat((conv=>whnf);first|refine sT ?_|rw[gk])
  try(conv=>whnf)
  exact resP.mk rfl (Sees.of_eq (by unfold busyP;rw[if_neg hw,if_neg ht,←hA]))
 obtain⟨c,hgc⟩:=getLt hkl
 have hmc:=getMap (f:=Cell.av) hgc
 have gk:decide ((k:Int) < (A.length:Int))=true:=decide_eq_true (by omega)
 repeat((conv=>whnf);first|refine sJ ?_|refine aI (by first|exact trivial|exact inbMap hkl|exact(hAo c (List.mem_of_getElem? hgc))|kernel_rfl) ?_|rw[gk]|rw[hmc])
 try(conv=>whnf)
 refine⟨k+1,hkl,by omega,?_⟩
 rw[take_succ hgc,busF_snoc]
 refine fN ?_<;>repeat' (first|exact fQ|refine And.intro ?_ ?_|exact Sees.int (succI hkl (by omega)))
theorem c_Apply42 (s:Sched)(l:List Chg)(t:Int):PCall Tryz.prog LW 23 [s.av,encChgs l,.int .i64 t] (.tup [(applyP s l t).1.av,.int .i64 (applyP s l t).2]):=by
 refine PCall.intro mixed [] (nt:=26) Tryz.func23 rfl rfl (by simp) ?_
 have har:=apply_ref s l t
 refine Wk ?_
 refine cD (c_Formed LW s) ?_
 cases hf:formB s with
 | false=>
  rw[if_pos hf]at har
  repeat((conv=>whnf);first|refine sT ?_ )
  try(conv=>whnf)
  exact resP.mk rfl (Sees.of_eq (by rw[har];rfl))
 | true=>
 rw[if_neg (by rw[hf];decide)]at har
 repeat((conv=>whnf);first|refine sT ?_ )
 try(conv=>whnf)
 refine cD (c_Apply36 LW s l t) ?_
 by_cases hw:(applyM s l t).2≠0
 ·have g:((applyM s l t).2 != 0)=true:=by simpa using hw
  rw[if_pos hw]at har
  repeat((conv=>whnf);first|refine sT ?_|rw[g])
  try(conv=>whnf)
  exact resP.mk rfl (Sees.of_eq (by rw[har];rfl))
 ·have g:((applyM s l t).2 != 0)=false:=by simpa using hw
  rw[if_neg hw]at har
  repeat((conv=>whnf);first|refine sT ?_|rw[g])
  try(conv=>whnf)
  exact resP.mk rfl (Sees.of_eq (by rw[har];rfl))
theorem c_Busy42 (s:Sched)(l:List Chg)(t:Int)(h63:t≤9223372036854775807):PCall Tryz.prog LW 25 [s.av,encChgs l,.int .i64 t] (.tup [.int .i64 (busyP s l t).1,.int .i64 (busyP s l t).2]):=by
 refine PCall.intro mixed [] (nt:=52) Tryz.func25 rfl rfl (by simp) ?_
 refine Wk ?_
 refine cD (c_Apply42 s l t) ?_
 by_cases hw:(applyP s l t).2≠0
 ·have g:((applyP s l t).2 != 0)=true:=by simpa using hw
  repeat((conv=>whnf);first|refine sT ?_|rw[g])
  try(conv=>whnf)
  exact resP.mk rfl (Sees.of_eq (by unfold busyP;rw[if_pos hw]))
 have g:((applyP s l t).2 != 0)=false:=by simpa using hw
 by_cases ht:t < 0
 ·have g2:decide (t < 0)=true:=decide_eq_true ht
  repeat((conv=>whnf);first|refine sT ?_|rw[g]|rw[g2])
  try(conv=>whnf)
  exact resP.mk rfl (Sees.of_eq (by unfold busyP;rw[if_neg hw,if_pos ht]))
 have g2:decide (t < 0)=false:=decide_eq_false ht
 obtain⟨hw0,hap,hfo⟩:=apply_ok (s:=s) (l:=l) (t:=t) (by omega)
 obtain⟨S,hS⟩:∃S,S=(applyP s l t).1:=⟨_,rfl⟩
 have hbp:busyP s l t=(busF (atM S t),0):=by unfold busyP;rw[if_neg hw,if_neg ht,←hS]
 rw[hbp]
 rw[←hS]at hfo ⊢
 obtain⟨hsz,hal,_⟩:=form_all hfo
 have hsl:1≤S.len∧S.len≤512:=by
  simp only[sizedB,Bool.and_eq_true,decide_eq_true_eq]at hsz
  omega
 have htm:t.tmod S.len=t % S.len:=tmod_eq (by omega)
 have hAf:atM S t=S.cells.filter fun c=>c.slot==t % S.len:=by unfold atM;rw[if_neg (by simp[hfo];omega)]
 repeat((conv=>whnf);first|refine sT ?_|rw[g]|rw[g2])
 try(conv=>whnf)
 refine LoopK.run mixed [] (fun k:Nat=>k≤S.cells.length) (fun k=>[(2,.int .i64 t),(8,.ptr 1 0),(10,.int .i64 (busF ((S.cells.take k).filter fun c=>c.slot==t % S.len))),(11,.int .i64 k)]) (fun k=>⟨[.dead,.cells S.av.cells 30],[],0,0,fun _=>0⟩) (fun k=>S.cells.length-k) 0 (by simp) ?_ ?_
 ·refine fN ?_<;>repeat' (first|exact fQ|refine And.intro ?_ ?_|exact SeesL.rfl' _)
 rintro k hk
 by_cases hkl:k < S.cells.length
 rotate_left
 ·have hke:k=S.cells.length:=by omega
  subst hke
  have gk:decide ((S.cells.length:Int) < ((S.cells.map Cell.av).length:Int))=false:=decide_eq_false (by rw[List.length_map];omega)
  rw[List.take_length,←hAf]
  repeat((conv=>whnf);first|refine sT ?_|rw[gk])
  try(conv=>whnf)
  exact resP.mk rfl (Sees.of_eq rfl)
 obtain⟨c,hgc⟩:=getLt hkl
 have hmc:=getMap (f:=Cell.av) hgc
 have hof:=(form_off15 hfo (List.mem_of_getElem? hgc)).1
 have gk:decide ((k:Int) < ((S.cells.map Cell.av).length:Int))=true:=decide_eq_true (by rw[List.length_map];omega)
 have hft:(S.cells.take (k+1)).filter (fun c=>c.slot==t % S.len)=(S.cells.take k).filter (fun c=>c.slot==t % S.len)++if (c.slot==t % S.len)=true then [c] else []:=by
  rw[take_succ hgc,List.filter_append]
  congr 1
  simp only[List.filter_cons,List.filter_nil]
 cases hb:(c.slot==t % S.len) with
 | true=>
  rw[if_pos hb]at hft
  repeat((conv=>whnf);first|refine sJ ?_|refine aI (by first|exact trivial|exact inbMap hkl|exact(show S.len≠0 by omega)|exact hof|kernel_rfl) ?_|rw[gk]|rw[hmc]|rw[htm]|rw[hb])
  try(conv=>whnf)
  refine⟨k+1,hkl,by omega,?_⟩
  rw[hft,busF_snoc]
  refine fN ?_<;>repeat' (first|exact fQ|refine And.intro ?_ ?_|exact SeesL.rfl' _|exact Sees.int (succI hkl (by omega)))
 | false=>
  rw[if_neg (by rw[hb];decide),List.append_nil]at hft
  repeat((conv=>whnf);first|refine sJ ?_|refine aI (by first|exact trivial|exact inbMap hkl|exact(show S.len≠0 by omega)|exact hof|kernel_rfl) ?_|rw[gk]|rw[hmc]|rw[htm]|rw[hb])
  try(conv=>whnf)
  refine⟨k+1,hkl,by omega,?_⟩
  rw[hft]
  refine fN ?_<;>repeat' (first|exact fQ|refine And.intro ?_ ?_|exact SeesL.rfl' _|exact Sees.int (succI hkl (by omega)))
end HM
