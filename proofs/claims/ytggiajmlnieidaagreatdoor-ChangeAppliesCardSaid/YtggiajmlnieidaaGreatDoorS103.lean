/- Schedules that are changed: the reference. -/
import Derived.Test.YtggiajmlnieidaaGreatDoorS1
import Derived.Test.YtggiajmlnieidaaGreatDoorDb
set_option maxHeartbeats 64000000
set_option maxRecDepth 100000
namespace HM
open Go Go.RowKit Go.Proofs
section
variable (L:World→Prop)
theorem c_Has35 (s:Sched)(c:Cell)(hl:s.cells.length≤281474976710656):PCall Tryz.prog L 168 [s.av,c.av] (.bool (decide (c∈s.cells))):=by
 refine PCall.intro mixed [] (nt:=20) Tryz.func168 rfl rfl (by simp) ?_
 refine Wk ?_
 refine LoopK.run mixed [] (fun (k:Nat)=>k≤s.cells.length∧∀(j:Nat) y,j < k→s.cells[j]? = some y→y≠c) (fun k=>[(2,.ptr 0 0),(3,.ptr 1 0),(5,.int .i64 k)]) (fun k=>⟨[.cells s.av.cells 30,.cells c.av.cells 40],[],0,0,fun _=>0⟩) (fun k=>s.cells.length-k) 0 ⟨by simp,by simp⟩ ?_ ?_
 ·refine fN ?_<;>repeat' (first|exact fQ|refine And.intro ?_ ?_|exact SeesL.rfl' _)
 rintro k ⟨hk,hinv⟩
 refine Wk ?_
 refine BrK.mk (fun hb=>?_) (fun hb=>?_)<;>try rw[hb]
 ·have hkt:k < s.cells.length:=by simpa using hb
  obtain⟨y,hgy⟩:=getLt hkt
  have hmy:=getMap (f:=Cell.av) hgy
  repeat((conv=>whnf);first|refine sJ ?_|refine aI (by first|exact inbMap hkt|kernel_rfl) ?_|rw[hmy])
  try(conv=>whnf)
  refine BrK.mk (fun h2=>?_) (fun h2=>?_)<;>(try rw[h2])
  ·have h2':cellEqB y c=true:=h2
   have hyc:=cellEqB_iff.1 h2'
   subst hyc
   refine Wk ?_
   exact resP.mk rfl (Sees.bool (decide_eq_true (List.mem_of_getElem? hgy)).symm)
  ·have h2':cellEqB y c=false:=h2
   have hyc:y≠c:=fun h=>by rw[cellEqB_iff.2 h]at h2';cases h2'
   refine Wk ?_
   refine⟨k+1,⟨by omega,fun j z hj hz=>?_⟩,by omega,?_⟩
   ·rcases Nat.lt_succ_iff_lt_or_eq.1 hj with h|rfl
    ·exact hinv j z h hz
    ·rw[hgy]at hz;injection hz with hz;rw[←hz];exact hyc
   ·refine fN ?_<;>repeat' (first|exact fQ|refine And.intro ?_ ?_|exact SeesL.rfl' _|exact Sees.int (succI hkt hl))
 ·have hkn:k=s.cells.length:=by simp at hb;omega
  subst hkn
  have hno:decide (c∈s.cells)=false:=decide_eq_false fun h=>by
   obtain⟨j,hj⟩:=List.getElem?_of_mem h
   exact hinv j c (List.getElem?_eq_some_iff.1 hj).1 hj rfl
  refine Wk ?_
  exact resP.mk rfl (Sees.bool hno.symm)
def wiB (s:Sched)(c:Cell)(o:AV):List Ob:=[.cells s.av.cells 30,.cells c.av.cells 40,.cells [.int .i64 0,.int .i64 0,.nils] 30,.cells [.int .i64 s.len,.int .i64 s.offs,o] 30]
theorem c_With35 (s:Sched)(c:Cell)(hl:s.cells.length≤1048576):PCall Tryz.prog L 169 [s.av,c.av] (Sched.av ⟨s.len,s.offs,withL c s.cells⟩):=by
 refine PCall.intro mixed [] (nt:=56) Tryz.func169 rfl rfl (by simp) ?_
 refine Wk ?_
 refine LoopK.bornC 3 2 5 40 rfl rfl ?_
 refine LoopK.run mixed [] (fun (k:Nat)=>k≤s.cells.length) (fun k=>[(2,.ptr 0 0),(3,.ptr 1 0),(4,.ptr 2 0),(5,.ptr 3 0),(6,.bool (putB c (s.cells.take k))),(7,.int .i64 k)]) (fun k=>⟨wiB s c (.own ((withK c (s.cells.take k)).map Cell.av) 0),[((withK c (s.cells.take k)).length,5)],0,0,fun z=>if z=0 then 40 else 0⟩) (fun k=>s.cells.length-k) 0 (by simp) ?_ ?_
 ·refine fN ?_<;>repeat' (first|exact fQ|refine And.intro ?_ ?_|exact SeesL.rfl' _)
 rintro k hk
 refine Wk ?_
 refine BrK.mk (fun hb=>?_) (fun hb=>?_)<;>try rw[hb]
 ·have hkt:k < s.cells.length:=by simpa using hb
  obtain⟨y,hgy⟩:=getLt hkt
  have hmy:=getMap (f:=Cell.av) hgy
  have hwl:=withK_len c (s.cells.take k)
  rw[List.length_take,Nat.min_eq_left hk]at hwl
  have hts:=take_succ hgy
  obtain⟨W,hW⟩:∃W,W=withK c (s.cells.take k):=⟨_,rfl⟩
  obtain⟨pb,hpb⟩:∃pb,pb=putB c (s.cells.take k):=⟨_,rfl⟩
  rw[←hW]at hwl
  rw[←hW,←hpb]
  refine Wk ?_
  refine BrK.mk (fun g1=>?_) (fun g1=>?_)<;>(try rw[g1])
  ·have g1':putB c (s.cells.take k)=false:=by rw[←hpb];simpa using g1
   repeat((conv=>whnf);first|refine sJ ?_|refine aI (by first|exact Els.map (f:=Cell.av) (fun _=>⟨rfl,rfl⟩)|exact(show _*40≤_ by simp only[List.length_append,List.length_map,List.length_cons,List.length_nil];omega)|exact(by simp only[List.length_map];omega)|exact(by rw[List.length_map];rfl)|exact inbMap hkt|kernel_rfl) ?_|rw[hmy])
   try(conv=>whnf)
   refine cD (c_Less L c y) ?_
   refine Wk ?_
   refine BrK.mk (fun g2=>?_) (fun g2=>?_)<;>(try rw[g2])
   ·have hEl:Els (4+1) (W.map Cell.av++[c.av]):=by
     rw[show W.map Cell.av++[c.av] = (W++[c]).map Cell.av from by simp]
     exact Els.map (f:=Cell.av) (fun _=>⟨rfl,rfl⟩)
    have e1:withK c (s.cells.take (k+1))=W++[c]++[y]:=by rw[hts,withK_now g1' (by simpa using g2),←hW]
    have e2:putB c (s.cells.take (k+1))=true:=by rw[hts,putB_snoc,g1'];simpa using g2
    repeat((conv=>whnf);first|refine sJ ?_|refine aI (by first|exact hEl|exact Els.map (f:=Cell.av) (fun _=>⟨rfl,rfl⟩)|exact(show _*40≤_ by simp only[List.length_append,List.length_map,List.length_cons,List.length_nil];omega)|exact(by simp only[List.length_append,List.length_map,List.length_cons,List.length_nil,maxLen];omega)|exact(by rw[List.length_map];rfl)|exact inbMap hkt|kernel_rfl) ?_|rw[hmy])
    try(conv=>whnf)
    refine⟨k+1,by omega,by omega,?_⟩
    rw[e1,e2]
    refine fN ?_<;>repeat' (first|exact fQ|refine And.intro ?_ ?_|exact SeesL.rfl' _|exact Sees.int (succI hkt (by omega))|exact Sees.own (by simp;rfl)|exact Sees.own (by rw[List.map_append,List.map_append];rfl)|(show(_,_)=(_,_);simp only[List.length_append,List.length_map,List.length_cons,List.length_nil]))
   ·have e1:withK c (s.cells.take (k+1))=W++[y]:=by rw[hts,withK_not g1' (by simpa using g2),←hW]
    have e2:putB c (s.cells.take (k+1))=pb:=by rw[hts,putB_snoc,hpb,g1'];simpa using g2
    repeat((conv=>whnf);first|refine sJ ?_|refine aI (by first|exact Els.map (f:=Cell.av) (fun _=>⟨rfl,rfl⟩)|exact(show _*40≤_ by simp only[List.length_map,List.length_cons,List.length_nil];omega)|exact(by simp only[List.length_map,List.length_cons,List.length_nil,maxLen];omega)|exact(by rw[List.length_map];rfl)|exact inbMap hkt|kernel_rfl) ?_|rw[hmy])
    try(conv=>whnf)
    refine⟨k+1,by omega,by omega,?_⟩
    rw[e1,e2]
    refine fN ?_<;>repeat' (first|exact fQ|refine And.intro ?_ ?_|exact SeesL.rfl' _|exact Sees.int (succI hkt (by omega))|exact Sees.own (by simp;rfl)|exact Sees.own (by rw[List.map_append,List.map_append];rfl)|(show(_,_)=(_,_);simp only[List.length_append,List.length_map,List.length_cons,List.length_nil]))
  ·have g1':putB c (s.cells.take k)=true:=by rw[←hpb];simpa using g1
   have e1:withK c (s.cells.take (k+1))=W++[y]:=by rw[hts,withK_put g1',←hW]
   have e2:putB c (s.cells.take (k+1))=pb:=by rw[hts,putB_snoc,hpb,g1'];rfl
   repeat((conv=>whnf);first|refine sJ ?_|refine aI (by first|exact Els.map (f:=Cell.av) (fun _=>⟨rfl,rfl⟩)|exact(show _*40≤_ by simp only[List.length_map,List.length_cons,List.length_nil];omega)|exact(by simp only[List.length_map,List.length_cons,List.length_nil,maxLen];omega)|exact(by rw[List.length_map];rfl)|exact inbMap hkt|kernel_rfl) ?_|rw[hmy])
   try(conv=>whnf)
   refine⟨k+1,by omega,by omega,?_⟩
   rw[e1,e2]
   refine fN ?_<;>repeat' (first|exact fQ|refine And.intro ?_ ?_|exact SeesL.rfl' _|exact Sees.int (succI hkt (by omega))|exact Sees.own (by simp;rfl)|exact Sees.own (by rw[List.map_append,List.map_append];rfl)|(show(_,_)=(_,_);simp only[List.length_append,List.length_map,List.length_cons,List.length_nil]))
 ·have hkn:k=s.cells.length:=by simp at hb;omega
  subst hkn
  rw[List.take_length]
  refine Wk ?_
  refine BrK.mk (fun g1=>?_) (fun g1=>?_)<;>(try rw[g1])
  ·have g1':putB c s.cells=false:=by simpa using g1
   have e1:withK c s.cells=s.cells:=by unfold withK;rw[if_neg (by simp[g1'])]
   rw[e1]
   repeat((conv=>whnf);first|refine sJ ?_|refine aI (by first|exact Els.map (f:=Cell.av) (fun _=>⟨rfl,rfl⟩)|exact(show _*40≤_ by simp only[List.length_map,List.length_cons,List.length_nil];omega)|exact(by simp only[List.length_map,List.length_cons,List.length_nil,maxLen];omega)|exact(by rw[List.length_map];rfl)|kernel_rfl) ?_ )
   try(conv=>whnf)
   exact resP.mk rfl (Sees.of_eq (by simp only[Sched.av,encCells,with_none g1',List.map_append,List.map_cons,List.map_nil];rfl))
  ·have g1':putB c s.cells=true:=by simpa using g1
   have e1:withK c s.cells=withL c s.cells:=by unfold withK;rw[if_pos g1']
   rw[e1]
   refine Wk ?_
   exact resP.mk rfl (Sees.of_eq rfl)
theorem c_Less1 (s:Sched)(c:Cell)(hl:s.cells.length≤512):PCall Tryz.prog L 170 [s.av,c.av] (Sched.av ⟨s.len,s.offs,s.cells.filter fun x=>decide (x≠c)⟩):=by
 refine PCall.intro mixed [] (nt:=37) Tryz.func170 rfl rfl (by simp) ?_
 refine Wk ?_
 refine LoopK.bornC 3 2 5 40 rfl rfl ?_
 refine LoopK.run mixed [] (fun (k:Nat)=>k≤s.cells.length) (fun k=>[(2,.ptr 0 0),(3,.ptr 1 0),(4,.ptr 2 0),(5,.ptr 3 0),(6,.int .i64 k)]) (fun k=>⟨wiB s c (.own (((s.cells.take k).filter fun x=>decide (x≠c)).map Cell.av) 0),[(((s.cells.take k).filter fun x=>decide (x≠c)).length,5)],0,0,fun z=>if z=0 then 40 else 0⟩) (fun k=>s.cells.length-k) 0 (by simp) ?_ ?_
 ·refine fN ?_<;>repeat' (first|exact fQ|refine And.intro ?_ ?_|exact SeesL.rfl' _)
 rintro k hk
 refine Wk ?_
 refine BrK.mk (fun hb=>?_) (fun hb=>?_)<;>try rw[hb]
 ·have hkt:k < s.cells.length:=by simpa using hb
  obtain⟨y,hgy⟩:=getLt hkt
  have hmy:=getMap (f:=Cell.av) hgy
  have hwl:=List.length_filter_le (fun x=>decide (x≠c)) (s.cells.take k)
  rw[List.length_take]at hwl
  obtain⟨W,hW⟩:∃W,W=(s.cells.take k).filter fun x=>decide (x≠c):=⟨_,rfl⟩
  rw[←hW]at hwl
  rw[←hW]
  repeat((conv=>whnf);first|refine sJ ?_|refine aI (by first|exact inbMap hkt|kernel_rfl) ?_|rw[hmy])
  try(conv=>whnf)
  refine BrK.mk (fun g1=>?_) (fun g1=>?_)<;>(try rw[g1])
  ·have g1':(!cellEqB y c)=true:=g1
   have hyc:y≠c:=fun h=>by rw[cellEqB_iff.2 h]at g1';cases g1'
   have e1:(s.cells.take (k+1)).filter (fun x=>decide (x≠c))=W++[y]:=by rw[filter_hit hgy hyc,←hW]
   repeat((conv=>whnf);first|refine sJ ?_|refine aI (by first|exact Els.map (f:=Cell.av) (fun _=>⟨rfl,rfl⟩)|exact(show _*40≤_ by simp only[List.length_map,List.length_cons,List.length_nil];omega)|exact(by simp only[List.length_map,List.length_cons,List.length_nil,maxLen];omega)|exact(by rw[List.length_map];rfl)|exact inbMap hkt|kernel_rfl) ?_|rw[hmy])
   try(conv=>whnf)
   refine⟨k+1,by omega,by omega,?_⟩
   rw[e1]
   refine fN ?_<;>repeat' (first|exact fQ|refine And.intro ?_ ?_|exact SeesL.rfl' _|exact Sees.int (succI hkt (by omega))|exact Sees.own (by simp;rfl)|exact Sees.own (by rw[List.map_append,List.map_append];rfl)|(show(_,_)=(_,_);simp only[List.length_append,List.length_map,List.length_cons,List.length_nil]))
  ·have g1':(!cellEqB y c)=false:=g1
   have hyc:y=c:=cellEqB_iff.1 (by simpa using g1')
   have e1:(s.cells.take (k+1)).filter (fun x=>decide (x≠c))=W:=by rw[filter_miss hgy hyc,←hW]
   refine Wk ?_
   refine⟨k+1,by omega,by omega,?_⟩
   rw[e1]
   refine fN ?_<;>repeat' (first|exact fQ|refine And.intro ?_ ?_|exact SeesL.rfl' _|exact Sees.int (succI hkt (by omega))|exact Sees.own (by simp;rfl)|exact Sees.own (by rw[List.map_append,List.map_append];rfl)|(show(_,_)=(_,_);simp only[List.length_append,List.length_map,List.length_cons,List.length_nil]))
 ·have hkn:k=s.cells.length:=by simp at hb;omega
  subst hkn
  rw[List.take_length]
  refine Wk ?_
  exact resP.mk rfl (Sees.of_eq rfl)
theorem c_Add35 (s:Sched)(c:Cell):PCall Tryz.prog L 118 [s.av,c.av] (.tup [(addM s c).1.av,.int .i64 (addM s c).2]):=by
 refine PCall.intro mixed [] (nt:=27) Tryz.func118 rfl rfl (by simp) ?_
 refine Wk ?_
 refine cD (c_Formed L s) ?_
 refine Wk ?_
 refine BrK.mk (fun h1=>?_) (fun h1=>?_)<;>(try rw[h1])
 ·have h1':formB s=false:=by simpa using h1
  refine Wk ?_
  exact resP.mk rfl (Sees.of_eq (by rw[addM,if_pos h1'];rfl))
 have h1':formB s=true:=by simpa using h1
 obtain⟨f1,f2,f3⟩:=form_all h1'
 obtain⟨z1,z2,z3,z4⟩:=sized_bd f1
 refine Wk ?_
 refine cD (c_right L s c (by omega) (by omega) (by omega) (by omega)) ?_
 refine Wk ?_
 refine BrK.mk (fun h2=>?_) (fun h2=>?_)<;>(try rw[h2])
 ·have h2':formedB s c=false:=by simpa using h2
  refine Wk ?_
  exact resP.mk rfl (Sees.of_eq (by rw[addM,if_neg (by simp[h1']),if_pos h2'];rfl))
 have h2':formedB s c=true:=by simpa using h2
 refine Wk ?_
 refine cD (c_Has35 L s c (by omega)) ?_
 rw[←hasC_mem h1']
 refine Wk ?_
 refine BrK.mk (fun h3=>?_) (fun h3=>?_)<;>(try rw[h3])
 ·refine Wk ?_
  exact resP.mk rfl (Sees.of_eq (by rw[addM,if_neg (by simp[h1']),if_neg (by simp[h2']),if_pos h3];rfl))
 refine Wk ?_
 refine BrK.mk (fun h4=>?_) (fun h4=>?_)<;>(try rw[h4])
 ·have h4':s.cells.length=512:=by simp at h4;omega
  refine Wk ?_
  exact resP.mk rfl (Sees.of_eq (by rw[addM,if_neg (by simp[h1']),if_neg (by simp[h2']),if_neg (by simp[h3]),if_pos h4'];rfl))
 have h4':¬s.cells.length=512:=by simp at h4;omega
 have hres:addM s c=(⟨s.len,s.offs,withL c s.cells⟩,0):=by rw[addM,if_neg (by simp[h1']),if_neg (by simp[h2']),if_neg (by simp[h3]),if_neg h4',addM_with h1' h3]
 rw[hres]
 refine Wk ?_
 refine cD (c_With35 L s c (by omega)) ?_
 refine Wk ?_
 exact resP.mk rfl (Sees.of_eq rfl)
theorem c_Remove35 (s:Sched)(c:Cell):PCall Tryz.prog L 119 [s.av,c.av] (.tup [(remM s c).1.av,.int .i64 (remM s c).2]):=by
 refine PCall.intro mixed [] (nt:=18) Tryz.func119 rfl rfl (by simp) ?_
 refine Wk ?_
 refine cD (c_Formed L s) ?_
 refine Wk ?_
 refine BrK.mk (fun h1=>?_) (fun h1=>?_)<;>(try rw[h1])
 ·have h1':formB s=false:=by simpa using h1
  refine Wk ?_
  exact resP.mk rfl (Sees.of_eq (by rw[remM,if_pos h1'];rfl))
 have h1':formB s=true:=by simpa using h1
 obtain⟨f1,f2,f3⟩:=form_all h1'
 refine Wk ?_
 refine cD (c_Has35 L s c (by omega)) ?_
 rw[←hasC_mem h1']
 refine Wk ?_
 refine BrK.mk (fun h2=>?_) (fun h2=>?_)<;>(try rw[h2])
 ·have h2':hasC s c=false:=by simpa using h2
  refine Wk ?_
  exact resP.mk rfl (Sees.of_eq (by rw[remM,if_neg (by simp[h1']),if_pos h2'];rfl))
 have h2':hasC s c=true:=by simpa using h2
 have hres:remM s c=(⟨s.len,s.offs,s.cells.filter fun x=>decide (x≠c)⟩,0):=by rw[remM,if_neg (by simp[h1']),if_neg (by simp[h2']),remM_filter h1' h2']
 rw[hres]
 refine Wk ?_
 refine cD (c_Less1 L s c f2) ?_
 refine Wk ?_
 exact resP.mk rfl (Sees.of_eq rfl)
theorem c_apply36 (s:Sched)(c:Chg):PCall Tryz.prog L 134 [s.av,c.av] (.tup [(chgM s c).1.av,.int .i64 (chgM s c).2]):=by
 refine PCall.intro mixed [] (nt:=20) Tryz.func134 rfl rfl (by simp) ?_
 refine Wk ?_
 refine BrK.mk (fun h=>?_) (fun h=>?_)<;>(try rw[h])
 ·refine Wk ?_
  refine cD (c_Add35 L s c.cell) ?_
  refine Wk ?_
  exact resP.mk rfl (Sees.of_eq (by rw[chgM,if_pos h];rfl))
 ·refine Wk ?_
  refine cD (c_Remove35 L s c.cell) ?_
  refine Wk ?_
  exact resP.mk rfl (Sees.of_eq (by rw[chgM,if_neg (by simp[h])];rfl))
def apB (u o:Sched):List Ob:=[.cells u.av.cells 30,.cells [.int .i64 0,.int .i64 0,.nils] 30,.cells o.av.cells 30]
theorem c_Apply36 (s:Sched)(cs:List Chg)(t:Int):PCall Tryz.prog L 69 [s.av,encChgs cs,.int .i64 t] (.tup [(applyM s cs t).1.av,.int .i64 (applyM s cs t).2]):=by
 refine PCall.intro mixed [] (nt:=70) Tryz.func69 rfl rfl (by simp) ?_
 refine Wk ?_
 refine BrK.mk (fun h1=>?_) (fun h1=>?_)<;>(try rw[h1])
 ·have hpm:applyM s cs t=(s,8):=by rw[applyM,if_pos (by simp at h1;omega)]
  refine Wk ?_
  rw[hpm]
  exact resP.mk rfl (Sees.of_eq rfl)
 have h1':¬1024 < cs.length:=by simp at h1;omega
 have hfin:∀q,appM none s s cs t=q→applyM s cs t=q:=fun q hq=>by rw[applyM,if_neg h1',hq]
 refine Wk ?_
 refine LoopK.run mixed [12] (fun q:Nat×Sched×Sched=>AppI s cs t q.1 q.2.1 q.2.2) (fun q=>[(1,encChgs cs),(2,.int .i64 t),(3,.ptr 0 0),(6,.ptr 1 0),(7,.int .i64 0),(8,.ptr 2 0),(9,.int .i64 q.1)]) (fun q=>⟨apB q.2.1 q.2.2,[],0,0,fun _=>0⟩) (fun q=>cs.length-q.1) (0,s,s) (AppI.zero s cs t) ?_ ?_
 ·refine fN ?_<;>repeat' (first|exact fQ|refine And.intro ?_ ?_|exact SeesL.rfl' _)
 rintro⟨k,u,o⟩ hA
 simp only at hA
 refine Wk ?_
 refine BrK.mk (fun hb=>?_) (fun hb=>?_)<;>try rw[hb]
 ·have hkt:k < cs.length:=by simpa using hb
  obtain⟨c,hgc⟩:=getLt hkt
  have hmc:=getMap (f:=Chg.av) hgc
  have hwk:IntKind.i64.wrap ((k:Int)+1)=((k+1:Nat):Int):=by rw[w64]<;>omega
  repeat((conv=>whnf);first|refine sJ ?_|refine aI (by first|exact inbMap hkt|kernel_rfl) ?_|rw[hmc])
  try(conv=>whnf)
  refine BrK.mk (fun hb2=>?_) (fun hb2=>?_)<;>(try rw[hb2])
  ·have hneg:c.slot < 0:=by simpa using hb2
   have hpm:=hfin _ (hA.err1 hgc (chgE_neg hneg) (by decide))
   repeat((conv=>whnf);first|refine sT ?_ )
   try(conv=>whnf)
   rw[hpm]
   exact resP.mk rfl (Sees.of_eq rfl)
  have hneg:¬c.slot < 0:=by simpa using hb2
  repeat((conv=>whnf);first|refine sT ?_ )
  try(conv=>whnf)
  refine BrK.mk (fun g1=>?_) (fun g1=>?_)<;>(try rw[g1])
  ·have hpos:0 < k:=by simpa using g1
   obtain⟨d,hgd⟩:=getLt (l:=cs) (k:=k-1) (by omega)
   have hmd:=getMap (f:=Chg.av) hgd
   have hw1:IntKind.i64.wrap ((k:Int)-1)=((k-1:Nat):Int):=by rw[w64]<;>omega
   have hce:=chgE_next (cs:=cs) (j:=k-1) hneg hgd
   rw[show k-1+1=k from by omega]at hce
   repeat((conv=>whnf);first|refine sJ ?_|refine aI (by first|exact inbMap hkt|(rw[hw1];exact inbMap (by omega:k-1 < cs.length))|kernel_rfl) ?_|rw[hw1]|rw[hmc]|rw[hmd])
   try(conv=>whnf)
   refine BrK.mk (fun g2=>?_) (fun g2=>?_)<;>(try rw[g2])
   ·have hpm:=hfin _ (hA.err1 hgc (e:=5) (by rw[hce,if_pos (by simpa using g2)]) (by decide))
    repeat((conv=>whnf);first|refine sT ?_ )
    try(conv=>whnf)
    rw[hpm]
    exact resP.mk rfl (Sees.of_eq rfl)
   rw[if_neg (by simpa using g2)]at hce
   repeat((conv=>whnf);first|refine sT ?_ )
   try(conv=>whnf)
   refine SeqK.cutS mixed [] [(1,encChgs cs),(2,.int .i64 t),(3,.ptr 0 0),(6,.ptr 1 0),(7,.int .i64 0),(8,.ptr 2 0),(9,.int .i64 k),(10,.ptr 3 0),(11,.int .i64 (chgM u c).2)] ⟨apB u o++[.cells (chgM u c).1.av.cells 30],[],0,0,fun _=>0⟩ (SemK.regionMix mixed [0,1,2,3,4,5,6,7,8] 3 rfl rfl (by decide) rfl ?_) ?_
   ·repeat((conv=>whnf);first|refine sJ ?_|refine aI (by first|exact inbMap hkt|kernel_rfl) ?_|rw[hmc])
    try(conv=>whnf)
    refine cD (c_apply36 L u c) ?_
    repeat((conv=>whnf);first|refine sT ?_ )
    try(conv=>whnf)
    repeat' ((conv=>whnf);first|exact trivial|refine sJ ?_|refine aI (by first|exact trivial|exact More.pre rfl rfl|kernel_rfl) ?_|refine And.intro ?_ ?_ )
    all_goals refine Fits.mk' rfl rfl rfl rfl ?_ ?_ ?_ ?_ ?_
    all_goals repeat' (first|exact trivial|refine And.intro ?_ ?_|exact Sees.of_eq rfl|exact lt_b rfl|rfl|exact SeesL.rfl' _)
   repeat((conv=>whnf);first|refine sT ?_ )
   try(conv=>whnf)
   refine BrK.mk (fun h3=>?_) (fun h3=>?_)<;>(try rw[h3])
   ·have hpm:=hfin _ (hA.err2 hgc hce (by simpa using h3))
    repeat((conv=>whnf);first|refine sT ?_ )
    try(conv=>whnf)
    rw[hpm]
    exact resP.mk rfl (Sees.of_eq rfl)
   have hstep:=hA.step hgc hce (by simpa using h3)
   repeat((conv=>whnf);first|refine sJ ?_|refine aI (by first|exact inbMap hkt|kernel_rfl) ?_|rw[hmc])
   try(conv=>whnf)
   refine BrK.mk (fun h4=>?_) (fun h4=>?_)<;>(try rw[h4])
   ·rw[if_pos (by simpa using h4)]at hstep
    repeat((conv=>whnf);first|refine sT ?_ )
    try(conv=>whnf)
    refine⟨(k+1,(chgM u c).1,(chgM u c).1),hstep,by simp only;omega,?_⟩
    refine fN ?_<;>repeat' (first|exact fQ|refine And.intro ?_ ?_|exact SeesL.rfl' _|exact Sees.int hwk)
   ·rw[if_neg (by simpa using h4)]at hstep
    repeat((conv=>whnf);first|refine sT ?_ )
    try(conv=>whnf)
    refine⟨(k+1,(chgM u c).1,o),hstep,by simp only;omega,?_⟩
    refine fN ?_<;>repeat' (first|exact fQ|refine And.intro ?_ ?_|exact SeesL.rfl' _|exact Sees.int hwk)
  ·have hk0:k=0:=by simp at g1;omega
   have hce:chgE (prevS cs k) c=0:=by rw[hk0];exact chgE_first hneg
   repeat((conv=>whnf);first|refine sT ?_ )
   try(conv=>whnf)
   refine SeqK.cutS mixed [] [(1,encChgs cs),(2,.int .i64 t),(3,.ptr 0 0),(6,.ptr 1 0),(7,.int .i64 0),(8,.ptr 2 0),(9,.int .i64 k),(10,.ptr 3 0),(11,.int .i64 (chgM u c).2)] ⟨apB u o++[.cells (chgM u c).1.av.cells 30],[],0,0,fun _=>0⟩ (SemK.regionMix mixed [0,1,2,3,4,5,6,7,8] 3 rfl rfl (by decide) rfl ?_) ?_
   ·repeat((conv=>whnf);first|refine sJ ?_|refine aI (by first|exact inbMap hkt|kernel_rfl) ?_|rw[hmc])
    try(conv=>whnf)
    refine cD (c_apply36 L u c) ?_
    repeat((conv=>whnf);first|refine sT ?_ )
    try(conv=>whnf)
    repeat' ((conv=>whnf);first|exact trivial|refine sJ ?_|refine aI (by first|exact trivial|exact More.pre rfl rfl|kernel_rfl) ?_|refine And.intro ?_ ?_ )
    all_goals refine Fits.mk' rfl rfl rfl rfl ?_ ?_ ?_ ?_ ?_
    all_goals repeat' (first|exact trivial|refine And.intro ?_ ?_|exact Sees.of_eq rfl|exact lt_b rfl|rfl|exact SeesL.rfl' _)
   repeat((conv=>whnf);first|refine sT ?_ )
   try(conv=>whnf)
   refine BrK.mk (fun h3=>?_) (fun h3=>?_)<;>(try rw[h3])
   ·have hpm:=hfin _ (hA.err2 hgc hce (by simpa using h3))
    repeat((conv=>whnf);first|refine sT ?_ )
    try(conv=>whnf)
    rw[hpm]
    exact resP.mk rfl (Sees.of_eq rfl)
   have hstep:=hA.step hgc hce (by simpa using h3)
   repeat((conv=>whnf);first|refine sJ ?_|refine aI (by first|exact inbMap hkt|kernel_rfl) ?_|rw[hmc])
   try(conv=>whnf)
   refine BrK.mk (fun h4=>?_) (fun h4=>?_)<;>(try rw[h4])
   ·rw[if_pos (by simpa using h4)]at hstep
    repeat((conv=>whnf);first|refine sT ?_ )
    try(conv=>whnf)
    refine⟨(k+1,(chgM u c).1,(chgM u c).1),hstep,by simp only;omega,?_⟩
    refine fN ?_<;>repeat' (first|exact fQ|refine And.intro ?_ ?_|exact SeesL.rfl' _|exact Sees.int hwk)
   ·rw[if_neg (by simpa using h4)]at hstep
    repeat((conv=>whnf);first|refine sT ?_ )
    try(conv=>whnf)
    refine⟨(k+1,(chgM u c).1,o),hstep,by simp only;omega,?_⟩
    refine fN ?_<;>repeat' (first|exact fQ|refine And.intro ?_ ?_|exact SeesL.rfl' _|exact Sees.int hwk)
 ·have hkn:k=cs.length:=by have:=hA.le;simp at hb;omega
  subst hkn
  have hpm:=hfin _ hA.fin
  refine Wk ?_
  rw[hpm]
  exact resP.mk rfl (Sees.of_eq rfl)
end
end HM
