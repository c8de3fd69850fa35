/- Changes: the reference's Check. -/
import Derived.Test.YtggiajmlnieidaaGreatDoorS264
import Derived.Test.YtggiajmlnieidaaGreatDoorS202
import Derived.Test.YtggiajmlnieidaaGreatDoorS103
import Derived.Test.YtggiajmlnieidaaGreatDoorS114
import Derived.Test.YtggiajmlnieidaaGreatDoorS257
set_option maxHeartbeats 64000000
set_option maxRecDepth 100000
namespace HM
open Go Go.RowKit Go.Proofs
section
variable (L:World→Prop)
theorem differ_at {n:Net}{before after:List Req}(hb:(reqE n before).2=0){x:Req}(hx:x∈before):differB after x=((getQ after x.flow.id).isSome&&!(stayB before after x.flow.id)):=by
 have hg:=getQ_mem (reqsOk hb).sorted hx
 unfold differB stayB stayQ
 rw[hg]
 cases h:getQ after x.flow.id with
 | none=>rfl
 | some y=>
  simp only[Option.isSome_some,Bool.true_and]
  by_cases e:x.flow=y.flow
  ·simp[e]
  ·simp[e,Ne.symm e]
theorem c_Whole42 (n:Net)(hn:n.small)(before after:List Req)(hq1:before.length≤1000)(hq2:after.length≤1000)(hx1:∀x∈before,x.small)(hx2:∀x∈after,x.small)(s:Sched)(hc:s.cells.length≤281474976710656):PCall Tryz.prog L 55 [n.av,encReqs before,encReqs after,s.av] (.int .i64 (wholeC n before after s)):=by
 refine PCall.intro mixed [] (nt:=76) Tryz.func55 rfl rfl (by simp) ?_
 refine Wk ?_
 refine cD (c_Fault38 L n hn after (by omega) hx2) ?_
 refine Wk ?_
 refine cD (c_Serves38 L n hn before (by omega) hx1 s hc) ?_
 cases g1:((makeM n before s).2.2==0) with
 | false=>
  have e1:(makeM n before s).2.2≠0:=by simpa using g1
  repeat((conv=>whnf);first|refine sT ?_ )
  try(conv=>whnf)
  exact resP.mk rfl (Sees.int (by unfold wholeC;rw[if_pos (.inl e1)]))
 | true=>
 have e1:(makeM n before s).2.2=0:=by simpa using g1
 by_cases h2:(reqE n after).2≠0
 ·have g2:((reqE n after).2 != 0)=true:=by simpa using h2
  repeat((conv=>whnf);first|refine sT ?_|rw[g2])
  try(conv=>whnf)
  exact resP.mk rfl (Sees.int (by unfold wholeC;rw[if_pos (.inr h2)]))
 have g2:((reqE n after).2 != 0)=false:=by simpa using h2
 have hnot:¬((makeM n before s).2.2≠0∨(reqE n after).2≠0):=fun h=>h.elim (fun h=>h e1) h2
 have hrb:(reqE n before).2=0:=(make_parts e1).1
 have hra:(reqE n after).2=0:=by omega
 have hpa:∀x∈after,x.flow.period≠0:=fun x hx=>by have:=flowE_ok ((reqE_ok hra).2.2.1 x hx).flow;omega
 have hal:=(reqE_ok hra).2.1
 have hbl:=(reqE_ok hrb).2.1
 repeat((conv=>whnf);first|refine sT ?_|rw[g2])
 try(conv=>whnf)
 refine LoopK.run mixed [] (fun (k:Nat)=>k≤before.length∧(before.take k).any (differB after)=false) (fun k=>[(1,encReqs before),(2,encReqs after),(4,.ptr 0 0),(7,.ptr 1 0),(11,.int .i64 k)]) (fun k=>⟨kp42 n s,[],0,0,fun _=>0⟩) (fun k=>before.length-k) 0 ⟨by simp,by simp⟩ ?_ ?_
 ·refine fN ?_<;>repeat' (first|exact fQ|refine And.intro ?_ ?_|exact SeesL.rfl' _)
 rintro k ⟨hk,hinv⟩
 by_cases hkl:k < before.length
 ·obtain⟨x,hgx⟩:=getLt hkl
  have hmx:=getMap (f:=Req.av) hgx
  have hxm:=List.mem_of_getElem? hgx
  have hst:(before.take (k+1)).any (differB after)=differB after x:=by rw[take_succ hgx,List.any_append,hinv];simp
  have hdf:=differ_at (after:=after) hrb hxm
  have gk:decide ((k:Int) < ((before.map Req.av).length:Int))=true:=decide_eq_true (by rw[List.length_map];omega)
  repeat((conv=>whnf);first|refine sJ ?_|refine aI (by first|exact trivial|exact inbMap hkl|kernel_rfl) ?_|rw[gk]|rw[hmx])
  try(conv=>whnf)
  refine cD (c_request42 L after x.flow.id (by omega)) ?_
  rcases findF_get after x.flow.id with ⟨e2,g2⟩|⟨j,y,e2,hy,g2⟩
  ·have gi:decide ((0:Int) ≤ -1)=false:=by decide
   rw[g2]at hdf
   rw[e2]
   repeat((conv=>whnf);first|refine sT ?_|rw[gi])
   try(conv=>whnf)
   refine⟨k+1,⟨by omega,by rw[hst,hdf];rfl⟩,by omega,?_⟩
   refine fN ?_<;>repeat' (first|exact fQ|refine And.intro ?_ ?_|exact SeesL.rfl' _|exact Sees.int (succI hkl (by omega)))
  have gi:decide ((0:Int)≤(j:Int))=true:=decide_eq_true (by omega)
  rw[g2]at hdf
  rw[e2]
  repeat((conv=>whnf);first|refine sJ ?_|refine aI (by first|exact trivial|exact inbMap hkl|kernel_rfl) ?_|rw[gi]|rw[hmx])
  try(conv=>whnf)
  refine cD (c_Stays42 L before after x.flow.id (by omega) (by omega)) ?_
  cases hs:stayB before after x.flow.id with
  | true=>
   rw[hs]at hdf
   repeat((conv=>whnf);first|refine sT ?_ )
   try(conv=>whnf)
   refine⟨k+1,⟨by omega,by rw[hst,hdf];rfl⟩,by omega,?_⟩
   refine fN ?_<;>repeat' (first|exact fQ|refine And.intro ?_ ?_|exact SeesL.rfl' _|exact Sees.int (succI hkl (by omega)))
  | false=>
   rw[hs]at hdf
   repeat((conv=>whnf);first|refine sT ?_ )
   try(conv=>whnf)
   exact resP.mk rfl (Sees.int (by unfold wholeC;rw[if_neg hnot,if_pos (List.any_eq_true.2 ⟨x,hxm,hdf⟩)]))
 have hke:k=before.length:=by omega
 subst hke
 have gk:decide ((before.length:Int) < ((before.map Req.av).length:Int))=false:=decide_eq_false (by rw[List.length_map];omega)
 rw[List.take_length]at hinv
 have hnd:¬before.any (differB after)=true:=by rw[hinv];decide
 repeat((conv=>whnf);first|refine sT ?_|rw[gk])
 try(conv=>whnf)
 refine LoopK.run mixed [] (fun (k:Nat)=>k≤after.length∧((after.take k).any fun x=>s.len % x.flow.period != 0)=false) (fun k=>[(1,encReqs before),(2,encReqs after),(4,.ptr 0 0),(7,.ptr 1 0),(12,.int .i64 k)]) (fun k=>⟨kp42 n s,[],0,0,fun _=>0⟩) (fun k=>after.length-k) 0 ⟨by simp,by simp⟩ ?_ ?_
 ·refine fN ?_<;>repeat' (first|exact fQ|refine And.intro ?_ ?_|exact SeesL.rfl' _)
 rintro k ⟨hk,hinv2⟩
 by_cases hkl:k < after.length
 ·obtain⟨x,hgx⟩:=getLt hkl
  have hmx:=getMap (f:=Req.av) hgx
  have hxm:=List.mem_of_getElem? hgx
  have hst:((after.take (k+1)).any fun x=>s.len % x.flow.period != 0)=(s.len % x.flow.period != 0):=by rw[take_succ hgx,List.any_append,hinv2];simp
  have gk:decide ((k:Int) < ((after.map Req.av).length:Int))=true:=decide_eq_true (by rw[List.length_map];omega)
  have hsl:=sized_bd (make_parts e1).2.1.size
  have htm:s.len.tmod x.flow.period=s.len % x.flow.period:=tmod_eq (by omega)
  cases h5:(s.len % x.flow.period != 0) with
  | true=>
   repeat((conv=>whnf);first|refine sJ ?_|refine aI (by first|exact trivial|exact inbMap hkl|exact hpa x hxm|kernel_rfl) ?_|rw[gk]|rw[hmx]|rw[htm]|rw[h5])
   try(conv=>whnf)
   exact resP.mk rfl (Sees.int (by unfold wholeC;rw[if_neg hnot,if_neg hnd,if_pos (List.any_eq_true.2 ⟨x,hxm,h5⟩)]))
  | false=>
   repeat((conv=>whnf);first|refine sJ ?_|refine aI (by first|exact trivial|exact inbMap hkl|exact hpa x hxm|kernel_rfl) ?_|rw[gk]|rw[hmx]|rw[htm]|rw[h5])
   try(conv=>whnf)
   refine⟨k+1,⟨by omega,by rw[hst,h5]⟩,by omega,?_⟩
   refine fN ?_<;>repeat' (first|exact fQ|refine And.intro ?_ ?_|exact SeesL.rfl' _|exact Sees.int (succI hkl (by omega)))
 have hke:k=after.length:=by omega
 subst hke
 have gk2:decide ((after.length:Int) < ((after.map Req.av).length:Int))=false:=decide_eq_false (by rw[List.length_map];omega)
 rw[List.take_length]at hinv2
 have hnp:¬(after.any fun x=>s.len % x.flow.period != 0)=true:=by rw[hinv2];decide
 repeat((conv=>whnf);first|refine sT ?_|rw[gk2])
 try(conv=>whnf)
 refine cD (c_Both42 L before after (by omega) (by omega)) ?_
 by_cases hl:16 < (bothM before after).length
 ·have gl:decide ((16:Int) < (((bothM before after).map Flow.av).length:Int))=true:=decide_eq_true (by rw[List.length_map];omega)
  repeat((conv=>whnf);first|refine sT ?_|rw[gl])
  try(conv=>whnf)
  exact resP.mk rfl (Sees.int (by unfold wholeC;rw[if_neg hnot,if_neg hnd,if_neg hnp,if_pos hl]))
 ·have gl:decide ((16:Int) < (((bothM before after).map Flow.av).length:Int))=false:=decide_eq_false (by rw[List.length_map];omega)
  repeat((conv=>whnf);first|refine sT ?_|rw[gl])
  try(conv=>whnf)
  exact resP.mk rfl (Sees.int (by unfold wholeC;rw[if_neg hnot,if_neg hnd,if_neg hnp,if_neg hl]))
theorem early_ref {n:Net}{before after:List Req}{s:Sched}(hW:WholeOk n before after s){done:List Chg}{c:Chg}:earlyB before after done c=(!(c.add||!(stayB before after c.cell.flow))&&done.any fun d=>(d.add&&d.cell.flow==c.cell.flow)&&decide (IntKind.i64.wrap (c.slot-d.slot) < (getD before c.cell.flow).flow.period)):=by
 unfold earlyB
 rw[stayB_at hW]
 cases hq:stayQ before after c.cell.flow with
 | none=>cases c.add<;>rfl
 | some p=>
  obtain⟨x,y⟩:=p
  obtain⟨g1,g2⟩:=stayQ_some hq
  have:(getD before c.cell.flow).flow.period=x.flow.period:=by unfold getD;rw[g1];rfl
  rw[this]
  cases c.add with
  | true=>rfl
  | false=>
   simp only[Bool.not_false,Bool.true_and,Option.isSome_some,Bool.not_true,Bool.or_false]
   congr 1
   funext d
   unfold earlyD
   rw[Bool.and_assoc]
theorem c_early42 {n:Net}{s0:Sched}(before after:List Req)(hW:WholeOk n before after s0)(l:List Chg)(i:Nat)(c:Chg)(hi:l[i]? = some c)(hl:l.length≤281474976710656):PCall Tryz.prog L 120 [encReqs before,encReqs after,encChgs l,.int .i64 i] (.bool (earlyB before after (l.take i) c)):=by
 refine PCall.intro mixed [] (nt:=71) Tryz.func120 rfl rfl (by simp) ?_
 have hbl:=(reqE_ok hW.rb).2.1
 have hal:=(reqE_ok hW.ra).2.1
 have hil:=(List.getElem?_eq_some_iff.1 hi).1
 have hmc:=getMap (f:=Chg.av) hi
 rw[early_ref hW]
 cases hca:c.add with
 | true=>
  repeat((conv=>whnf);first|refine sJ ?_|refine aI (by first|exact trivial|exact inbMap hil|kernel_rfl) ?_|rw[hmc]|rw[hca])
  try(conv=>whnf)
  exact resP.mk rfl (Sees.bool rfl)
 | false=>
 repeat((conv=>whnf);first|refine sJ ?_|refine aI (by first|exact trivial|exact inbMap hil|kernel_rfl) ?_|rw[hmc]|rw[hca])
 try(conv=>whnf)
 refine cD (c_Stays42 L before after c.cell.flow (by omega) (by omega)) ?_
 cases hs:stayB before after c.cell.flow with
 | false=>
  repeat((conv=>whnf);first|refine sT ?_ )
  try(conv=>whnf)
  exact resP.mk rfl (Sees.bool rfl)
 | true=>
 obtain⟨j,x,e1,hx,g1⟩:∃(j:Nat) (x:Req),findF (flowsQ before) c.cell.flow=j∧before[j]? = some x∧getQ before c.cell.flow=some x:=by
  rcases findF_get before c.cell.flow with ⟨e1,g1⟩|h
  ·exfalso
   unfold stayB stayQ at hs
   rw[g1]at hs
   cases hs
  ·exact h
 have hmx:=getMap (f:=Req.av) hx
 have hjl:=(List.getElem?_eq_some_iff.1 hx).1
 have hgd:(getD before c.cell.flow).flow.period=x.flow.period:=by unfold getD;rw[g1];rfl
 rw[hgd]
 obtain⟨F,hF⟩:∃F:Chg→Bool,F=fun d=>(d.add&&d.cell.flow==c.cell.flow)&&decide (IntKind.i64.wrap (c.slot-d.slot) < x.flow.period):=⟨_,rfl⟩
 rw[←hF]
 repeat((conv=>whnf);first|refine sT ?_ )
 try(conv=>whnf)
 refine LoopK.run mixed [] (fun (k:Nat)=>k≤i∧(l.take k).any F=false) (fun k=>[(0,encReqs before),(1,encReqs after),(2,encChgs l),(3,.int .i64 i),(9,.int .i64 c.cell.flow),(10,.int .i64 k)]) (fun k=>St.none) (fun k=>i-k) 0 ⟨by simp,by simp⟩ ?_ ?_
 ·refine fN ?_<;>repeat' (first|exact fQ|refine And.intro ?_ ?_ )
 rintro k ⟨hk,hinv⟩
 by_cases hkl:k < i
 rotate_left
 ·have hke:k=i:=by omega
  subst hke
  have gk:decide ((k:Int) < (k:Int))=false:=decide_eq_false (by omega)
  repeat((conv=>whnf);first|refine sT ?_|rw[gk])
  try(conv=>whnf)
  exact resP.mk rfl (Sees.bool (by rw[hinv];rfl))
 obtain⟨d,hgd⟩:=getLt (l:=l) (k:=k) (by omega)
 have hmd:=getMap (f:=Chg.av) hgd
 have hkl2:k < l.length:=by omega
 have hst:(l.take (k+1)).any F=F d:=by rw[take_succ hgd,List.any_append,hinv];simp
 have gk:decide ((k:Int) < (i:Int))=true:=decide_eq_true (by omega)
 cases hda:d.add with
 | false=>
  have hFd:F d=false:=by rw[hF];simp[hda]
  repeat((conv=>whnf);first|refine sJ ?_|refine aI (by first|exact trivial|exact inbMap hkl2|kernel_rfl) ?_|rw[gk]|rw[hmd]|rw[hda])
  try(conv=>whnf)
  refine⟨k+1,⟨by omega,by rw[hst,hFd]⟩,by omega,?_⟩
  refine fN ?_<;>repeat' (first|exact fQ|refine And.intro ?_ ?_|exact Sees.int (succI hkl (by omega)))
 | true=>
 cases hfe:(d.cell.flow==c.cell.flow) with
 | false=>
  have hFd:F d=false:=by rw[hF];simp only[hda,hfe];rfl
  repeat((conv=>whnf);first|refine sJ ?_|refine aI (by first|exact trivial|exact inbMap hkl2|kernel_rfl) ?_|rw[gk]|rw[hmd]|rw[hda]|rw[hfe])
  try(conv=>whnf)
  refine⟨k+1,⟨by omega,by rw[hst,hFd]⟩,by omega,?_⟩
  refine fN ?_<;>repeat' (first|exact fQ|refine And.intro ?_ ?_|exact Sees.int (succI hkl (by omega)))
 | true=>
 have hFd:F d=decide (IntKind.i64.wrap (c.slot-d.slot) < x.flow.period):=by rw[hF];simp only[hda,hfe];rfl
 repeat((conv=>whnf);first|refine sJ ?_|refine aI (by first|exact trivial|exact inbMap hkl2|exact inbMap hil|kernel_rfl) ?_|rw[gk]|rw[hmd]|rw[hda]|rw[hfe]|rw[hmc])
 try(conv=>whnf)
 refine cD (c_request42 L before c.cell.flow (by omega)) ?_
 rw[e1]
 repeat((conv=>whnf);first|refine sJ ?_|refine aI (by first|exact trivial|exact inbMap hjl|kernel_rfl) ?_|rw[hmx])
 try(conv=>whnf)
 cases hv:decide (IntKind.i64.wrap (c.slot-d.slot) < x.flow.period) with
 | true=>
  rw[hv]at hFd
  repeat((conv=>whnf);first|refine sT ?_ )
  try(conv=>whnf)
  exact resP.mk rfl (Sees.bool (by symm;rw[List.any_eq_true.2 ⟨d,by rw[List.mem_iff_getElem?];exact⟨k,by rw[List.getElem?_take,if_pos hkl];exact hgd⟩,hFd⟩];rfl))
 | false=>
  rw[hv]at hFd
  repeat((conv=>whnf);first|refine sT ?_ )
  try(conv=>whnf)
  refine⟨k+1,⟨by omega,by rw[hst,hFd]⟩,by omega,?_⟩
  refine fN ?_<;>repeat' (first|exact fQ|refine And.intro ?_ ?_|exact Sees.int (succI hkl (by omega)))
end
end HM
