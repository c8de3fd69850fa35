/- One cell more: the range over offsets. -/
import Derived.Test.YtpdlbjnjdbgpaaaGreatDoorS217
set_option maxHeartbeats 64000000
set_option maxRecDepth 100000
namespace HM
open Go Go.RowKit Go.Proofs
theorem slotSecond (n:Net)(s:Sched)(l:Link)(id k:Int)(hn:n.small)(hg:GridOk s)(hs:s.cells.length≤1000000)(hz:1≤s.offs∧s.offs≤16)(hk:0≤k∧k≤512):(slotHalf n s l id k hn hg hs hz hk).1.2:=by
 have hhere:∀j,(hereL s k j).length≤16:=fun j=>Nat.le_trans (hereL_le s k j) (slotA_len hg.apart hg.nodes k)
 intro Lp hLp hbody hno
 have hok:∀k2 m,6≤k2→Ob.okk k2 m (.loop Lp):=fun k2 m hk2=>loop_okk (l:=slSl n s l id k) (by rw[hLp]) (by simp[slSl,okL,AV.okk,okks];omega)
 refine ICall.intro mixed [] (nt:=58) Tryz.func96 rfl rfl (by simp) ?_
 refine Wk ?_
 refine LoopK.run mixed [] (fun j:Nat=>j≤s.cells.length∧∀(i:Nat) c,i < j→s.cells[i]? = some c→c.slot=k→touL l.src l.dst c=false) (fun j=>[(0,.yld 6),(1,.cptr (gridAv n s) 0),(2,.cptr (.agg [.int .i64 k]) 0),(3,.cptr l.av 0),(5,hereV1 (hereL s k j)),(12,encCells s.cells),(13,.int .i64 s.cells.length),(14,.int .i64 j)]) (fun j=>slS n s Lp (hereL s k j)) (fun j=>s.cells.length-j) 0 ⟨by omega,fun i c hi=>by omega⟩ ?_ ?_
 ·refine fN ?_<;>repeat' (first|exact fQ|refine And.intro ?_ ?_|exact hok _ _ (le_b rfl)|exact SeesL.rfl' _|exact Sees.int (by simp))
 rintro j ⟨hj,hinv⟩
 have hHl:=hhere j
 by_cases hjt:j < s.cells.length
 ·obtain⟨c,hgc⟩:=getLt hjt
  have hmc:=getMap (f:=Cell.av) hgc
  have gj:decide ((j:Int) < (s.cells.length:Int))=true:=decide_eq_true (by omega)
  have hnx:=hereL_succ (slot:=k) hgc
  by_cases hcs:c.slot=k
  ·have g1:(c.slot != k)=false:=by simp[hcs]
   rw[show(c.slot==k)=true by simp[hcs]]at hnx
   simp only[if_true]at hnx
   cases ht:touL l.src l.dst c with
   | true=>
    have hfr:freeS s l.src l.dst k=false:=by
     unfold freeS
     rw[Bool.not_eq_false',List.any_eq_true]
     exact⟨c,List.mem_of_getElem? hgc,by simp[hcs,ht]⟩
    have hS:slotM n s l.src l.dst id k=(s,false):=by rw[slotM,if_neg (by simp[hno]),roomF_none hfr]
    rw[hS]
    cases hh2:hereL s k j with
    | nil=>
     repeat((conv=>whnf);first|refine sJ ?_|refine aI (by first|exact trivial|exact inbMap hjt|kernel_rfl) ?_|rw[gj]|rw[hmc]|rw[g1])
     try(conv=>whnf)
     refine cD (c_touchA LW c l) ?_
     rw[ht]
     refine Wk ?_
     rw[show Lp.st=.ready from by rw[hLp],show Lp.pend=none from by rw[hLp]]
     clear hLp
     refine Wk ?_
     exact resP.mk rfl (Sees.of_eq rfl)
    | cons c0 cs0=>
     repeat((conv=>whnf);first|refine sJ ?_|refine aI (by first|exact trivial|exact inbMap hjt|kernel_rfl) ?_|rw[gj]|rw[hmc]|rw[g1])
     try(conv=>whnf)
     refine cD (c_touchA LW c l) ?_
     rw[ht]
     refine Wk ?_
     rw[show Lp.st=.ready from by rw[hLp],show Lp.pend=none from by rw[hLp]]
     clear hLp
     refine Wk ?_
     exact resP.mk rfl (Sees.of_eq rfl)
   | false=>
    have hinv2:∀(i:Nat) c,i < j+1→s.cells[i]? = some c→c.slot=k→touL l.src l.dst c=false:=fun i c' hi hc' hs'=>by
     rcases Nat.lt_succ_iff_lt_or_eq.1 hi with hi|rfl
     ·exact hinv i c' hi hc' hs'
     ·rw[hgc]at hc';injection hc' with hc';rw[←hc'];exact ht
    cases hh2:hereL s k j with
    | nil=>
     rw[hh2]at hHl hnx
     repeat((conv=>whnf);first|refine sJ ?_|refine aI (by first|exact trivial|exact inbMap hjt|kernel_rfl) ?_|rw[gj]|rw[hmc]|rw[g1])
     try(conv=>whnf)
     refine cD (c_touchA LW c l) ?_
     rw[ht]
     repeat((conv=>whnf);first|refine sJ ?_|refine aI (by first|exact trivial|exact inbMap hjt|exact Els.map (f:=Cell.av) (fun x=>⟨cellOk.len x,cellOk.cell x⟩)|exact(show _*40≤_ by simp only[List.length_map,List.length_cons,List.length_nil];simp only[List.length_cons]at hHl;omega)|exact(by simp only[List.length_map,List.length_cons,List.length_nil,maxLen];simp only[List.length_cons]at hHl;omega)|exact(show some (_,_)=some (_,_) by simp only[List.length_map])|kernel_rfl) ?_|rw[hmc])
     try(conv=>whnf)
     refine⟨j+1,⟨by omega,hinv2⟩,by omega,?_⟩
     rw[hnx]
     refine fN ?_<;>repeat' (first|exact fQ|refine And.intro ?_ ?_|exact hok _ _ (le_b rfl)|exact SeesL.rfl' _|exact Sees.int (succI hjt (by omega)))
    | cons c0 cs0=>
     rw[hh2]at hHl hnx
     repeat((conv=>whnf);first|refine sJ ?_|refine aI (by first|exact trivial|exact inbMap hjt|kernel_rfl) ?_|rw[gj]|rw[hmc]|rw[g1])
     try(conv=>whnf)
     refine cD (c_touchA LW c l) ?_
     rw[ht]
     repeat((conv=>whnf);first|refine sJ ?_|refine aI (by first|exact trivial|exact inbMap hjt|exact Els.map (f:=Cell.av) (fun x=>⟨cellOk.len x,cellOk.cell x⟩)|exact(show _*40≤_ by simp only[List.length_map,List.length_cons,List.length_nil];simp only[List.length_cons]at hHl;omega)|exact(by simp only[List.length_map,List.length_cons,List.length_nil,maxLen];simp only[List.length_cons]at hHl;omega)|exact(show some (_,_)=some (_,_) by simp only[List.length_map])|kernel_rfl) ?_|rw[hmc])
     try(conv=>whnf)
     refine⟨j+1,⟨by omega,hinv2⟩,by omega,?_⟩
     rw[hnx]
     refine fN ?_<;>repeat' (first|exact fQ|refine And.intro ?_ ?_|exact hok _ _ (le_b rfl)|exact SeesL.rfl' _|exact Sees.int (succI hjt (by omega))|exact Sees.own (by show _=List.map Cell.av ((c0 :: cs0)++[c]);rw[List.map_append];rfl)|(show(_,_)=(((c0 :: cs0)++[c]).length,5);simp only[List.length_append,List.length_map,List.length_cons,List.length_nil]))
  ·have g1:(c.slot != k)=true:=by simp[hcs]
   rw[show(c.slot==k)=false by simp[hcs],if_neg (by simp),List.append_nil]at hnx
   have hinv2:∀(i:Nat) c,i < j+1→s.cells[i]? = some c→c.slot=k→touL l.src l.dst c=false:=fun i c' hi hc' hs'=>by
    rcases Nat.lt_succ_iff_lt_or_eq.1 hi with hi|rfl
    ·exact hinv i c' hi hc' hs'
    ·rw[hgc]at hc';injection hc' with hc';exact absurd (hc'▸hs') hcs
   cases hh2:hereL s k j with
   | nil=>
    rw[hh2]at hnx
    repeat((conv=>whnf);first|refine sJ ?_|refine aI (by first|exact trivial|exact inbMap hjt|kernel_rfl) ?_|rw[gj]|rw[hmc]|rw[g1])
    try(conv=>whnf)
    refine⟨j+1,⟨by omega,hinv2⟩,by omega,?_⟩
    rw[hnx]
    refine fN ?_<;>repeat' (first|exact fQ|refine And.intro ?_ ?_|exact hok _ _ (le_b rfl)|exact SeesL.rfl' _|exact Sees.int (succI hjt (by omega)))
   | cons c0 cs0=>
    rw[hh2]at hnx
    repeat((conv=>whnf);first|refine sJ ?_|refine aI (by first|exact trivial|exact inbMap hjt|kernel_rfl) ?_|rw[gj]|rw[hmc]|rw[g1])
    try(conv=>whnf)
    refine⟨j+1,⟨by omega,hinv2⟩,by omega,?_⟩
    rw[hnx]
    refine fN ?_<;>repeat' (first|exact fQ|refine And.intro ?_ ?_|exact hok _ _ (le_b rfl)|exact SeesL.rfl' _|exact Sees.int (succI hjt (by omega)))
 ·have hjn:j=s.cells.length:=by omega
  subst hjn
  have gj:decide ((s.cells.length:Int) < (s.cells.length:Int))=false:=decide_eq_false (by omega)
  have hfr:freeS s l.src l.dst k=true:=by
   unfold freeS
   rw[Bool.not_eq_true',List.any_eq_false]
   intro c hc
   obtain⟨i,hi⟩:=List.getElem?_of_mem hc
   by_cases hcs:c.slot=k
   ·simp[hinv i c (List.getElem?_eq_some_iff.1 hi).1 hi hcs]
   ·simp[hcs]
  have hfit:∀o:Nat,fitsM n s ⟨k,o,l.src,l.dst,0⟩=goodM n (((hereL s k s.cells.length).filter fun c=>!(c.off != (o:Int)))++[⟨0,0,l.src,l.dst,0⟩]):=fun o=>by
   rw[fits_prog,hfr,Bool.true_and,hereL_all]
  cases hh2:hereL s k s.cells.length with
  | nil=>
   rw[hh2]at hfit
   repeat((conv=>whnf);first|refine sT ?_|rw[gj])
   try(conv=>whnf)
   refine LoopK.run mixed [10012] (fun o:Nat=>(o:Int)≤s.offs∧(List.range o).find? (fun o=>fitsM n s ⟨k,(o:Nat),l.src,l.dst,0⟩)=none) (fun o=>[(0,.yld 6),(1,.cptr (gridAv n s) 0),(2,.cptr (.agg [.int .i64 k]) 0),(3,.cptr l.av 0),(5,.nils),(32,.int .i64 s.offs),(33,.int .i64 o)]) (fun o=>slS n s Lp []) (fun o=>s.offs.toNat-o) 0 ⟨by omega,rfl⟩ ?_ ?_
   ·refine fN ?_<;>repeat' (first|exact fQ|refine And.intro ?_ ?_|exact hok _ _ (le_b rfl)|exact SeesL.rfl' _)
   rintro o ⟨ho,hnone⟩
   by_cases hol:(o:Int) < s.offs
   ·have g1:decide ((o:Int) < s.offs)=true:=decide_eq_true hol
    have wo:IntKind.i64.wrap ((o:Int)+1)=((o+1:Nat):Int):=by rw[w64]<;>omega
    have hst:=roomF_step n s l.src l.dst k o
    rw[hnone,Option.none_or]at hst
    repeat((conv=>whnf);first|refine sT ?_|rw[g1])
    try(conv=>whnf)
    refine CallK.inl rfl (ICall.intro mixed [] (nt:=8) Tryz.func52 rfl rfl (by simp) ?_)
    refine Wk ?_
    refine CallK.inl rfl (ICall.intro mixed [] (nt:=42) Tryz.func53 rfl rfl (by simp) ?_)
    refine Wk ?_
    refine CallK.look (args':=[.sl false (([]:List Cell).map Cell.av),.fn 98 [.ptr 7 0]]) ⟨Sees.elems rfl,Sees.of_eq rfl,trivial⟩ ?_
    refine CallK.box rfl (c_IndexFuncCell LW [] (fun x=>x.off != (o:Int)) 98 [.cptr (.agg [.int .i64 o]) 0] (by simp) rfl rfl (fun x _=>c_off11 LW x o)) (fz2 rfl (fzf1 rfl)) rfl ?_
    refine Wk ?_
    refine SemK.regionFin mixed (fun _=>True) [0,1,2,3,4,5,6,7,8] 8 rfl rfl (by decide) rfl trivial ?_
    iterate 9
     conv=>whnf
     apply exV
     ·rintro S' K' hI hh
      repeat((conv=>whnf);first|refine sJ ?_|refine aI (by first|exact trivial|exact Els.of_b rfl|kernel_rfl) ?_ )
      try(conv=>whnf)
      exact hh
    conv=>whnf
    repeat' ((conv=>whnf);first|exact trivial|refine sJ ?_|refine aI (by first|exact Or.inr trivial|exact Els.of_b rfl|kernel_rfl) ?_|refine And.intro ?_ ?_ )
    all_goals(conv=>whnf)
    have hfo:goodM n [⟨0,0,l.src,l.dst,0⟩] = fitsM n s ⟨k,o,l.src,l.dst,0⟩:=(hfit o).symm
    refine cD (c_Good LW n hn [⟨0,0,l.src,l.dst,0⟩] (by simp)) ?_
    rw[hfo]
    cases hft:fitsM n s ⟨k,o,l.src,l.dst,0⟩ with
    | false=>
     rw[hft,if_neg (by simp)]at hst
     repeat' ((conv=>whnf);first|exact trivial|refine sJ ?_|refine aI (by first|exact Or.inr trivial|kernel_rfl) ?_|refine And.intro ?_ ?_ )
     all_goals(conv=>whnf)
     all_goals refine⟨o+1,⟨by omega,hst⟩,by omega,?_⟩
     all_goals refine fN ?_<;>repeat' (first|exact fQ|refine And.intro ?_ ?_|exact hok _ _ (le_b rfl)|exact SeesL.rfl' _|exact Sees.int wo)
    | true=>
     rw[hft,if_pos rfl]at hst
     have hroom:roomF n s l.src l.dst k=some o:=by
      unfold roomF
      obtain⟨e,he⟩:∃e,s.offs.toNat=(o+1)+e:=⟨s.offs.toNat-(o+1),by omega⟩
      rw[he,List.range_add,List.find?_append,hst];rfl
     have hS:slotM n s l.src l.dst id k=(putM s ⟨k,o,l.src,l.dst,id⟩,true):=by rw[slotM,if_neg (by simp[hno]),hroom]
     rw[hS]
     repeat' ((conv=>whnf);first|exact trivial|refine sJ ?_|refine aI (by first|exact Or.inr trivial|kernel_rfl) ?_|refine And.intro ?_ ?_ )
     all_goals(conv=>whnf)
     all_goals refine hbody _ o _ hft rfl rfl rfl rfl fun S' v e4 e5 e6 hfz=>?_
     all_goals
      repeat' ((conv=>whnf);first|exact trivial|refine sJ ?_|refine aI (by first|exact Or.inr trivial|kernel_rfl) ?_|refine And.intro ?_ ?_ )
     all_goals(conv=>whnf)
     all_goals
      split
      rotate_left
      ·rename_i hnot
       exact absurd e6 (hnot _)
      rename_i L2 hL2
      have hL3:L2={Lp with st:=.done,pend:=some .ret}:=by
       have h3:=hL2.symm.trans e6
       injection h3 with h3
       injection h3
      subst hL3
      clear hL2 hLp
      generalize hT:St.put _ _ _=T
      have hTq:∀i o,i≠6→S'.bx[i]? = some o→T.bx[i]? = some o:=fun i o hi ho=>by
       rw[←hT]
       show(S'.bx.set 6 _)[i]? = _
       rw[List.getElem?_set_ne (by omega)];exact ho
      have t4:=hTq 4 _ (by decide) e4
      have t5:=hTq 5 _ (by decide) e5
      repeat((conv=>whnf);first|refine sT ?_|rw[t4]|rw[t5])
      try(conv=>whnf)
      have hz:=hfz (T.outer St.none) hTq
      refine⟨.tup [gridAv n (putM s ⟨k,o,l.src,l.dst,id⟩),.bool true],?_,Sees.of_eq rfl⟩
      show fzb (T.outer St.none) (.tup [.agg (slG n s v),.bool true])=_
      simp only[slG,fzb,fzbs,hz]
      rfl
   ·have hon:o=s.offs.toNat:=by omega
    subst hon
    have g1:decide (((s.offs.toNat:Nat):Int) < s.offs)=false:=decide_eq_false (by omega)
    have hS:slotM n s l.src l.dst id k=(s,false):=by rw[slotM,if_neg (by simp[hno]),show roomF n s l.src l.dst k=none from hnone]
    rw[hS]
    repeat((conv=>whnf);first|refine sT ?_|rw[g1])
    try(conv=>whnf)
    rw[show Lp.st=.ready from by rw[hLp],show Lp.pend=none from by rw[hLp]]
    clear hLp
    refine Wk ?_
    exact resP.mk rfl (Sees.of_eq rfl)
  | cons c0 cs0=>
   have hHl2:=hhere s.cells.length
   rw[hh2]at hfit hHl2
   have hne0:(c0 :: cs0)≠[]:=by simp
   repeat((conv=>whnf);first|refine sT ?_|rw[gj])
   try(conv=>whnf)
   refine LoopK.run mixed [10012] (fun o:Nat=>(o:Int)≤s.offs∧(List.range o).find? (fun o=>fitsM n s ⟨k,(o:Nat),l.src,l.dst,0⟩)=none) (fun o=>[(0,.yld 6),(1,.cptr (gridAv n s) 0),(2,.cptr (.agg [.int .i64 k]) 0),(3,.cptr l.av 0),(5,.sl false ((c0 :: cs0).map Cell.av)),(32,.int .i64 s.offs),(33,.int .i64 o)]) (fun o=>slS n s Lp []) (fun o=>s.offs.toNat-o) 0 ⟨by omega,rfl⟩ ?_ ?_
   ·refine fN ?_<;>repeat' (first|exact fQ|refine And.intro ?_ ?_|exact hok _ _ (le_b rfl)|exact SeesL.rfl' _|exact Sees.elems rfl)
   rintro o ⟨ho,hnone⟩
   by_cases hol:(o:Int) < s.offs
   ·have g1:decide ((o:Int) < s.offs)=true:=decide_eq_true hol
    have wo:IntKind.i64.wrap ((o:Int)+1)=((o+1:Nat):Int):=by rw[w64]<;>omega
    have hst:=roomF_step n s l.src l.dst k o
    rw[hnone,Option.none_or]at hst
    obtain⟨F,hF⟩:∃F,F=(c0 :: cs0).filter fun c=>!(c.off != (o:Int)):=⟨_,rfl⟩
    have hFl:F.length≤31:=by rw[hF];exact Nat.le_trans (List.length_filter_le _ _) (by omega)
    have hfo:=hfit o
    rw[←hF]at hfo
    repeat((conv=>whnf);first|refine sT ?_|rw[g1])
    try(conv=>whnf)
    refine CallK.fresh rfl (c_CloneCell LW (c0 :: cs0) hne0 (by omega)) (by rfl) (cellOk.els _) (cellOk.scal (fun _=>rfl) _) (fun h=>by simp at h) (fun d=>?_)
    refine Wk ?_
    rw[List.length_map]
    refine CallK.inl rfl (i_DelCell8 LW _ _ _ _ _ _ _ _ _ _ _ (c0 :: cs0) (fun x=>x.off != (o:Int)) _ [.ptr 7 0] [.cptr (.agg [.int .i64 o]) 0] d (by omega) rfl rfl ⟨?_,trivial,trivial,trivial,?_,?_,hok _ _ (le_b rfl),?_,?_⟩ (fun _ _ _ _=>rfl) (fun c _=>c_off11 LW c o) fun ex=>?_)
    ·exact(by simp[slG,Ob.okk,okks,AV.okk,encRows,encLinks,encIs,encCells])
    ·exact(by simp[slZ,Ob.okk,okks,AV.okk])
    ·exact⟨trivial,trivial⟩
    ·exact⟨trivial,trivial⟩
    ·exact⟨(by decide:7 < 9),trivial⟩
    rw[←hF]
    have hFf:=cellOk.flen F
    refine Wk ?_
    refine SemK.regionFin mixed (fun _=>True) [0,1,2,3,4,5,6,7,8] 8 rfl rfl (by decide) rfl trivial ?_
    iterate 9
     conv=>whnf
     apply exV
     ·rintro S' K' hI hh
      repeat((conv=>whnf);first|refine sJ ?_|refine aI (by first|exact trivial|exact Els.of_b rfl|kernel_rfl) ?_ )
      try(conv=>whnf)
      exact hh
    conv=>whnf
    repeat' ((conv=>whnf);first|exact trivial|refine sJ ?_|refine aI (by first|exact Or.inr trivial|kernel_rfl) ?_|refine And.intro ?_ ?_ )
    ·exact(show(F.length+1)*40≤140737488355328 by omega)
    ·exact(show F.length+1≤maxLen by simp only[maxLen];omega)
    ·exact(show F.length*5≤(flatE (F.map Cell.av)++ex).length by rw[List.length_append,hFf];exact Nat.le_add_right _ _)
    refine AppK.mk (fun hroom=>?_) (fun _=>?_)
    ·repeat' ((conv=>whnf);first|exact trivial|refine sJ ?_|refine aI (by first|exact Or.inr trivial|kernel_rfl) ?_|refine And.intro ?_ ?_ )
     have hpush:=cell_push F ⟨0,0,l.src,l.dst,0⟩ ex hroom
     have e1:∀X:St,X.bx[8]? = some (Ob.cells (splice (flatE (F.map Cell.av)++ex) (F.length*5) (flatE [Cell.av ⟨0,0,l.src,l.dst,0⟩])) 63)→fzb X (.vsl 8 0 (F.length+1) 5)=some (.sl false ((F++[(⟨0,0,l.src,l.dst,0⟩:Cell)]).map Cell.av)):=fun X hX=>cellOk.fzb (l:=F++[(⟨0,0,l.src,l.dst,0⟩:Cell)]) (ex:=ex.drop 5) (t:=63) (by rw[hX,hpush]) (by rw[List.length_append,List.length_singleton])
     refine CallK.box rfl (c_Good LW n hn (F++[(⟨0,0,l.src,l.dst,0⟩:Cell)]) (by rw[List.length_append,List.length_singleton];omega)) (fz2 rfl (fz2 (e1 _ rfl) rfl)) rfl ?_
     rw[←hfo]
     cases hft:fitsM n s ⟨k,o,l.src,l.dst,0⟩ with
     | false=>
      rw[hft,if_neg (by simp)]at hst
      repeat' ((conv=>whnf);first|exact trivial|refine sJ ?_|refine aI (by first|exact Or.inr trivial|kernel_rfl) ?_|refine And.intro ?_ ?_ )
      all_goals(conv=>whnf)
      all_goals refine⟨o+1,⟨by omega,hst⟩,by omega,?_⟩
      all_goals refine fN ?_<;>repeat' (first|exact fQ|refine And.intro ?_ ?_|exact hok _ _ (le_b rfl)|exact SeesL.rfl' _|exact Sees.int wo)
     | true=>
      rw[hft,if_pos rfl]at hst
      have hroom:roomF n s l.src l.dst k=some o:=by
       unfold roomF
       obtain⟨e,he⟩:∃e,s.offs.toNat=(o+1)+e:=⟨s.offs.toNat-(o+1),by omega⟩
       rw[he,List.range_add,List.find?_append,hst];rfl
      have hS:slotM n s l.src l.dst id k=(putM s ⟨k,o,l.src,l.dst,id⟩,true):=by rw[slotM,if_neg (by simp[hno]),hroom]
      rw[hS]
      repeat' ((conv=>whnf);first|exact trivial|refine sJ ?_|refine aI (by first|exact Or.inr trivial|kernel_rfl) ?_|refine And.intro ?_ ?_ )
      all_goals(conv=>whnf)
      all_goals refine hbody _ o _ hft rfl rfl rfl rfl fun S' v e4 e5 e6 hfz=>?_
      all_goals
       repeat' ((conv=>whnf);first|exact trivial|refine sJ ?_|refine aI (by first|exact Or.inr trivial|kernel_rfl) ?_|refine And.intro ?_ ?_ )
      all_goals(conv=>whnf)
      all_goals
       split
       rotate_left
       ·rename_i hnot
        exact absurd e6 (hnot _)
       rename_i L2 hL2
       have hL3:L2={Lp with st:=.done,pend:=some .ret}:=by
        have h3:=hL2.symm.trans e6
        injection h3 with h3
        injection h3
       subst hL3
       clear hL2 hLp
       generalize hT:St.put _ _ _=T
       have hTq:∀i o,i≠6→S'.bx[i]? = some o→T.bx[i]? = some o:=fun i o hi ho=>by
        rw[←hT]
        show(S'.bx.set 6 _)[i]? = _
        rw[List.getElem?_set_ne (by omega)];exact ho
       have t4:=hTq 4 _ (by decide) e4
       have t5:=hTq 5 _ (by decide) e5
       repeat((conv=>whnf);first|refine sT ?_|rw[t4]|rw[t5])
       try(conv=>whnf)
       have hz:=hfz (T.outer St.none) hTq
       refine⟨.tup [gridAv n (putM s ⟨k,o,l.src,l.dst,id⟩),.bool true],?_,Sees.of_eq rfl⟩
       show fzb (T.outer St.none) (.tup [.agg (slG n s v),.bool true])=_
       simp only[slG,fzb,fzbs,hz]
       rfl
    ·intro d2
     repeat' ((conv=>whnf);first|exact trivial|refine sJ ?_|refine aI (by first|exact Or.inr trivial|kernel_rfl) ?_|refine And.intro ?_ ?_ )
     have hcut:=cell_cut F ⟨0,0,l.src,l.dst,0⟩ ex
     have e1:∀X:St,X.bx[9]? = some (Ob.cells (List.take (F.length*5) (flatE (F.map Cell.av)++ex)++flatE [Cell.av ⟨0,0,l.src,l.dst,0⟩]++List.replicate (d2*5) .undef) 63)→fzb X (.vsl 9 0 (F.length+1) 5)=some (.sl false ((F++[(⟨0,0,l.src,l.dst,0⟩:Cell)]).map Cell.av)):=fun X hX=>cellOk.fzb (l:=F++[(⟨0,0,l.src,l.dst,0⟩:Cell)]) (ex:=List.replicate (d2*5) .undef) (t:=63) (by rw[hX,hcut]) (by rw[List.length_append,List.length_singleton])
     refine CallK.box rfl (c_Good LW n hn (F++[(⟨0,0,l.src,l.dst,0⟩:Cell)]) (by rw[List.length_append,List.length_singleton];omega)) (fz2 rfl (fz2 (e1 _ rfl) rfl)) rfl ?_
     rw[←hfo]
     cases hft:fitsM n s ⟨k,o,l.src,l.dst,0⟩ with
     | false=>
      rw[hft,if_neg (by simp)]at hst
      repeat' ((conv=>whnf);first|exact trivial|refine sJ ?_|refine aI (by first|exact Or.inr trivial|kernel_rfl) ?_|refine And.intro ?_ ?_ )
      all_goals(conv=>whnf)
      all_goals refine⟨o+1,⟨by omega,hst⟩,by omega,?_⟩
      all_goals refine fN ?_<;>repeat' (first|exact fQ|refine And.intro ?_ ?_|exact hok _ _ (le_b rfl)|exact SeesL.rfl' _|exact Sees.int wo)
     | true=>
      rw[hft,if_pos rfl]at hst
      have hroom:roomF n s l.src l.dst k=some o:=by
       unfold roomF
       obtain⟨e,he⟩:∃e,s.offs.toNat=(o+1)+e:=⟨s.offs.toNat-(o+1),by omega⟩
       rw[he,List.range_add,List.find?_append,hst];rfl
      have hS:slotM n s l.src l.dst id k=(putM s ⟨k,o,l.src,l.dst,id⟩,true):=by rw[slotM,if_neg (by simp[hno]),hroom]
      rw[hS]
      repeat' ((conv=>whnf);first|exact trivial|refine sJ ?_|refine aI (by first|exact Or.inr trivial|kernel_rfl) ?_|refine And.intro ?_ ?_ )
      all_goals(conv=>whnf)
      all_goals refine hbody _ o _ hft rfl rfl rfl rfl fun S' v e4 e5 e6 hfz=>?_
      all_goals
       repeat' ((conv=>whnf);first|exact trivial|refine sJ ?_|refine aI (by first|exact Or.inr trivial|kernel_rfl) ?_|refine And.intro ?_ ?_ )
      all_goals(conv=>whnf)
      all_goals
       split
       rotate_left
       ·rename_i hnot
        exact absurd e6 (hnot _)
       rename_i L2 hL2
       have hL3:L2={Lp with st:=.done,pend:=some .ret}:=by
        have h3:=hL2.symm.trans e6
        injection h3 with h3
        injection h3
       subst hL3
       clear hL2 hLp
       generalize hT:St.put _ _ _=T
       have hTq:∀i o,i≠6→S'.bx[i]? = some o→T.bx[i]? = some o:=fun i o hi ho=>by
        rw[←hT]
        show(S'.bx.set 6 _)[i]? = _
        rw[List.getElem?_set_ne (by omega)];exact ho
       have t4:=hTq 4 _ (by decide) e4
       have t5:=hTq 5 _ (by decide) e5
       repeat((conv=>whnf);first|refine sT ?_|rw[t4]|rw[t5])
       try(conv=>whnf)
       have hz:=hfz (T.outer St.none) hTq
       refine⟨.tup [gridAv n (putM s ⟨k,o,l.src,l.dst,id⟩),.bool true],?_,Sees.of_eq rfl⟩
       show fzb (T.outer St.none) (.tup [.agg (slG n s v),.bool true])=_
       simp only[slG,fzb,fzbs,hz]
       rfl
   ·have hon:o=s.offs.toNat:=by omega
    subst hon
    have g1:decide (((s.offs.toNat:Nat):Int) < s.offs)=false:=decide_eq_false (by omega)
    have hS:slotM n s l.src l.dst id k=(s,false):=by rw[slotM,if_neg (by simp[hno]),show roomF n s l.src l.dst k=none from hnone]
    rw[hS]
    repeat((conv=>whnf);first|refine sT ?_|rw[g1])
    try(conv=>whnf)
    rw[show Lp.st=.ready from by rw[hLp],show Lp.pend=none from by rw[hLp]]
    clear hLp
    refine Wk ?_
    exact resP.mk rfl (Sees.of_eq rfl)
end HM
