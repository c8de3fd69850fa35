/- Whether a schedule is valid: the reference. -/
import Derived.Test.YtggiajmlnieidaaGreatDoorS138
import Derived.Test.YtggiajmlnieidaaGreatDoorS69
import Derived.Test.YtggiajmlnieidaaGreatDoorS33
import Derived.Test.YtggiajmlnieidaaGreatDoorS1
import Derived.Test.YtggiajmlnieidaaGreatDoorDe
set_option maxHeartbeats 64000000
set_option maxRecDepth 100000
namespace HM
open Go Go.RowKit Go.Proofs
section
variable (L:World→Prop)
theorem sized_in (s:Sched):sizedB s=(inB s.len 1 512&&inB s.offs 1 16):=by unfold sizedB inB;simp[Bool.and_assoc]
theorem c_whole35 (n:Net)(hn:n.small)(l:List Flow)(hl:l.length≤281474976710656)(s:Sched):PCall Tryz.prog L 233 [n.av,encFlows l,s.av] (.int .i64 (wholeM n l s)):=by
 refine PCall.intro mixed [] (nt:=53) Tryz.func233 rfl rfl (by simp) ?_
 refine Wk ?_
 refine cD (c_FCheck32 L n.nodes l hl) ?_
 refine Wk ?_
 refine cD (c_Check31 L n hn) ?_
 cases g1:(netE n != 0) with
 | true=>
  repeat((conv=>whnf);first|refine sT ?_|rw[g1])
  try(conv=>whnf)
  exact resP.mk rfl (Sees.int (by rw[wholeM,if_pos (.inl (by simpa using g1))]))
 | false=>
 have g1':netE n=0:=by simpa using g1
 cases g2:((flowsE n.nodes l).2 != 0) with
 | true=>
  repeat((conv=>whnf);first|refine sT ?_|rw[g1]|rw[g2])
  try(conv=>whnf)
  exact resP.mk rfl (Sees.int (by rw[wholeM,if_pos (.inr (by simpa using g2))]))
 | false=>
 have g2':(flowsE n.nodes l).2=0:=by simpa using g2
 have e1:¬(netE n≠0∨(flowsE n.nodes l).2≠0):=by simp[g1',g2']
 have hnodes:=(netE_ok g1').nodes
 repeat((conv=>whnf);first|refine sT ?_|rw[g1]|rw[g2])
 try(conv=>whnf)
 refine cD (c_in35 L s.len 1 512) ?_
 cases g3:inB s.len 1 512 with
 | false=>
  refine Wk ?_
  exact resP.mk rfl (Sees.int (by rw[wholeM,if_neg e1,if_pos (by rw[sized_in,g3];rfl)]))
 | true=>
 refine Wk ?_
 refine cD (c_in35 L s.offs 1 16) ?_
 cases g4:inB s.offs 1 16 with
 | false=>
  refine Wk ?_
  exact resP.mk rfl (Sees.int (by rw[wholeM,if_neg e1,if_pos (by rw[sized_in,g3,g4];rfl)]))
 | true=>
 have hz:sizedB s=true:=by rw[sized_in,g3,g4];rfl
 have e2:¬sizedB s=false:=by simp[hz]
 have hsb:=sized_bd hz
 have hper:∀(k:Nat) (f:Flow),l[k]? = some f→1≤f.period:=fun k f hf=>by
  have h1:firstAt (flowAt n.nodes l) l.length=flowsE n.nodes l∨True:=.inr trivial
  have h2:=g2'
  unfold flowsE at h2
  split at h2
  ·cases h2
  split at h2
  ·cases h2
  have h3:=firstAt_ok.1 h2 k (List.getElem?_eq_some_iff.1 hf).1
  unfold flowAt at h3
  rw[hf]at h3
  simp only at h3
  by_cases e:flowE n.nodes f=0
  ·exact(flowE_ok e).2.2.2.2.2.2.1
  ·rw[if_pos e]at h3;exact absurd h3 e
 refine Wk ?_
 refine LoopK.run mixed [] (fun (k:Nat)=>k≤l.length∧∀(j:Nat) f,j < k→l[j]? = some f→mism s f=false) (fun k=>[(1,encFlows l),(3,.ptr 0 0),(5,.ptr 1 0),(9,.int .i64 k)]) (fun k=>⟨[.cells n.cs 26,.cells [.int .i64 s.len,.int .i64 s.offs,encCells s.cells] 30],[],0,0,fun _=>0⟩) (fun k=>l.length-k) 0 ⟨by omega,fun j f hj=>by omega⟩ ?_ ?_
 ·refine fN ?_<;>repeat' (first|exact fQ|refine And.intro ?_ ?_|exact SeesL.rfl' _)
 rintro k ⟨hk,hinv⟩
 by_cases hkt:k < l.length
 ·obtain⟨f,hgf⟩:=getLt hkt
  have hmf:=getMap (f:=Flow.av) hgf
  have gk:decide ((k:Int) < ((l.map Flow.av).length:Int))=true:=decide_eq_true (by rw[List.length_map];omega)
  have hp:=hper k f hgf
  have hmi:(s.len.tmod f.period != 0)=mism s f:=by unfold mism;rw[tmod_eq (by omega)]
  repeat((conv=>whnf);first|refine sJ ?_|refine aI (by first|exact trivial|exact inbMap hkt|exact(show f.period≠0 by omega)|kernel_rfl) ?_|rw[gk]|rw[hmf])
  try(conv=>whnf)
  rw[hmi]
  cases g5:mism s f with
  | true=>
   refine Wk ?_
   exact resP.mk rfl (Sees.int (by rw[wholeM,if_neg e1,if_neg e2,if_pos (List.any_eq_true.2 ⟨f,List.mem_of_getElem? hgf,g5⟩)]))
  | false=>
   refine Wk ?_
   refine⟨k+1,⟨by omega,fun j x hj hx=>?_⟩,by omega,?_⟩
   ·rcases Nat.lt_succ_iff_lt_or_eq.1 hj with hj|rfl
    ·exact hinv j x hj hx
    ·rw[hgf]at hx;injection hx with hx;rw[←hx];exact g5
   ·refine fN ?_<;>repeat' (first|exact fQ|refine And.intro ?_ ?_|exact SeesL.rfl' _|exact Sees.int (succI hkt (by omega)))
 ·have hkn:k=l.length:=by omega
  subst hkn
  have gk:decide ((l.length:Int) < ((l.map Flow.av).length:Int))=false:=decide_eq_false (by rw[List.length_map];omega)
  have e3:¬l.any (mism s)=true:=by
   rw[Bool.not_eq_true,List.any_eq_false]
   intro f hf
   obtain⟨j,hj⟩:=List.getElem?_of_mem hf
   rw[hinv j f (List.getElem?_eq_some_iff.1 hj).1 hj];simp
  by_cases hbig:512 < s.cells.length
  ·have g5:decide ((512:Int) < ((s.cells.map Cell.av).length:Int))=true:=decide_eq_true (by rw[List.length_map];omega)
   repeat((conv=>whnf);first|refine sT ?_|rw[gk]|rw[g5])
   try(conv=>whnf)
   exact resP.mk rfl (Sees.int (by rw[wholeM,if_neg e1,if_neg e2,if_neg e3,if_pos hbig]))
  ·have g5:decide ((512:Int) < ((s.cells.map Cell.av).length:Int))=false:=decide_eq_false (by rw[List.length_map];omega)
   repeat((conv=>whnf);first|refine sT ?_|rw[gk]|rw[g5])
   try(conv=>whnf)
   exact resP.mk rfl (Sees.int (by rw[wholeM,if_neg e1,if_neg e2,if_neg e3,if_neg hbig]))
theorem c_Share35 (s:Sched)(i:Nat)(c:Cell)(hi:s.cells[i]? = some c)(hc:s.cells.length≤512):PCall Tryz.prog L 235 [s.av,.int .i64 i] (.tup [encCells (shareL s.cells c),.int .i64 (shareAt s.cells c i)]):=by
 have hil:=(List.getElem?_eq_some_iff.1 hi).1
 have hmi:=getMap (f:=Cell.av) hi
 have hat:shareAt s.cells c i=(shareT s.cells c i).length:=rfl
 refine PCall.intro mixed [] (nt:=60) Tryz.func235 rfl rfl (by simp) ?_
 refine Wk ?_
 refine LoopK.run mixed [] (fun (k:Nat)=>k≤s.cells.length) (fun k=>[(1,.int .i64 i),(2,.ptr 0 0),(6,.own ((shareT s.cells c k).map Cell.av) 0),(7,.int .i64 (if i < k then((shareAt s.cells c i:Nat):Int) else 0)),(8,.int .i64 k)]) (fun k=>⟨[.cells [.int .i64 s.len,.int .i64 s.offs,encCells s.cells] 30],[((shareT s.cells c k).length,5)],0,0,fun _=>40⟩) (fun k=>s.cells.length-k) 0 (by omega) ?_ ?_
 ·refine fN ?_<;>repeat' (first|exact fQ|refine And.intro ?_ ?_|exact SeesL.rfl' _)
 rintro k hk
 have hsl:=shareT_len s.cells c k
 by_cases hkt:k < s.cells.length
 ·obtain⟨d,hgd⟩:=getLt hkt
  have hmd:=getMap (f:=Cell.av) hgd
  have gk:decide ((k:Int) < ((s.cells.map Cell.av).length:Int))=true:=decide_eq_true (by rw[List.length_map];omega)
  have hst:=shareT_succ (c:=c) hgd
  have hsh:shareB c d=(d.slot==c.slot&&d.off==c.off):=rfl
  by_cases hki:k=i
  ·subst hki
   have g1:((k:Int)==(k:Int))=true:=beq_self_eq_true _
   have hdc:d=c:=by rw[hgd]at hi;injection hi
   subst hdc
   have b1:(d.slot==d.slot)=true:=beq_self_eq_true _
   have b2:(d.off==d.off)=true:=beq_self_eq_true _
   rw[hsh,b1,b2,Bool.and_self,if_pos rfl]at hst
   repeat((conv=>whnf);first|refine sJ ?_|refine aI (by first|exact trivial|exact inbMap hkt|exact Els.map (f:=Cell.av) (fun x=>⟨cellOk.len x,cellOk.cell x⟩)|exact(show _*40≤_ by simp only[List.length_map,List.length_cons,List.length_nil];omega)|exact(by simp only[List.length_map,List.length_cons,List.length_nil,maxLen];omega)|exact(show some (_,_)=some (_,_) by simp only[List.length_map])|kernel_rfl) ?_|rw[gk]|rw[g1]|rw[hmd]|rw[b1]|rw[b2])
   try(conv=>whnf)
   refine⟨k+1,by omega,by omega,?_⟩
   rw[hst]
   refine fN ?_<;>repeat' (first|exact fQ|refine And.intro ?_ ?_|exact SeesL.rfl' _|exact Sees.int (succI hkt (by omega))|exact Sees.own (by rw[List.map_append];rfl)|(show(_,_)=(_,_);simp only[List.length_append,List.length_map,List.length_cons,List.length_nil])|exact Sees.int (by rw[if_pos (by omega),hat,List.length_map]))
  ·have g1:((k:Int)==(i:Int))=false:=by rw[beq_eq_false_iff_ne];omega
   have hif:(if i < k+1 then((shareAt s.cells c i:Nat):Int) else 0)=if i < k then((shareAt s.cells c i:Nat):Int) else 0:=by
    by_cases h:i < k
    ·rw[if_pos h,if_pos (by omega)]
    ·rw[if_neg h,if_neg (by omega)]
   cases b1:(d.slot==c.slot) with
   | false=>
    rw[hsh,b1,Bool.false_and,if_neg (by simp),List.append_nil]at hst
    repeat((conv=>whnf);first|refine sJ ?_|refine aI (by first|exact trivial|exact inbMap hkt|exact inbMap hil|kernel_rfl) ?_|rw[gk]|rw[g1]|rw[hmd]|rw[hmi]|rw[b1])
    try(conv=>whnf)
    refine⟨k+1,by omega,by omega,?_⟩
    rw[hst]
    refine fN ?_<;>repeat' (first|exact fQ|refine And.intro ?_ ?_|exact SeesL.rfl' _|exact Sees.int (succI hkt (by omega))|exact Sees.int hif.symm)
   | true=>
    cases b2:(d.off==c.off) with
    | false=>
     rw[hsh,b1,b2,Bool.and_false,if_neg (by simp),List.append_nil]at hst
     repeat((conv=>whnf);first|refine sJ ?_|refine aI (by first|exact trivial|exact inbMap hkt|exact inbMap hil|kernel_rfl) ?_|rw[gk]|rw[g1]|rw[hmd]|rw[hmi]|rw[b1]|rw[b2])
     try(conv=>whnf)
     refine⟨k+1,by omega,by omega,?_⟩
     rw[hst]
     refine fN ?_<;>repeat' (first|exact fQ|refine And.intro ?_ ?_|exact SeesL.rfl' _|exact Sees.int (succI hkt (by omega))|exact Sees.int hif.symm)
    | true=>
     rw[hsh,b1,b2,Bool.and_self,if_pos rfl]at hst
     repeat((conv=>whnf);first|refine sJ ?_|refine aI (by first|exact trivial|exact inbMap hkt|exact inbMap hil|exact Els.map (f:=Cell.av) (fun x=>⟨cellOk.len x,cellOk.cell x⟩)|exact(show _*40≤_ by simp only[List.length_map,List.length_cons,List.length_nil];omega)|exact(by simp only[List.length_map,List.length_cons,List.length_nil,maxLen];omega)|exact(show some (_,_)=some (_,_) by simp only[List.length_map])|kernel_rfl) ?_|rw[gk]|rw[g1]|rw[hmd]|rw[hmi]|rw[b1]|rw[b2])
     try(conv=>whnf)
     refine⟨k+1,by omega,by omega,?_⟩
     rw[hst]
     refine fN ?_<;>repeat' (first|exact fQ|refine And.intro ?_ ?_|exact SeesL.rfl' _|exact Sees.int (succI hkt (by omega))|exact Sees.int hif.symm|exact Sees.own (by rw[List.map_append];rfl)|(show(_,_)=(_,_);simp only[List.length_append,List.length_map,List.length_cons,List.length_nil]))
 ·have hkn:k=s.cells.length:=by omega
  subst hkn
  have gk:decide ((s.cells.length:Int) < ((s.cells.map Cell.av).length:Int))=false:=decide_eq_false (by rw[List.length_map];omega)
  rw[if_pos hil,show shareT s.cells c s.cells.length=shareL s.cells c from by unfold shareT shareL;rw[List.take_length]]
  repeat((conv=>whnf);first|refine sT ?_|rw[gk])
  try(conv=>whnf)
  exact resP.mk rfl (Sees.of_eq rfl)
end
end HM
