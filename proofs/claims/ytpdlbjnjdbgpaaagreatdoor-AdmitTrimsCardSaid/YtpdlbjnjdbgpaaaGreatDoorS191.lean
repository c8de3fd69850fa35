/- Room: the program. -/
import Derived.Test.YtpdlbjnjdbgpaaaGreatDoorS92
import Derived.Test.YtpdlbjnjdbgpaaaGreatDoorS6
import Derived.Test.YtpdlbjnjdbgpaaaGreatDoorS30
import Derived.Test.YtpdlbjnjdbgpaaaGreatDoorFh
set_option maxHeartbeats 64000000
set_option maxRecDepth 100000
namespace HM
open Go Go.RowKit Go.Proofs
def hereL (s:Sched)(slot:Int)(j:Nat):List Cell:=(s.cells.take j).filter fun c=>c.slot==slot
theorem hereL_succ {s:Sched}{slot:Int}{j:Nat}{c:Cell}(h:s.cells[j]? = some c):hereL s slot (j+1)=hereL s slot j++if c.slot==slot then [c] else []:=by
 unfold hereL
 rw[take_succ h,List.filter_append]
 congr 1
 cases hc:c.slot==slot<;>simp[hc]
theorem hereL_len (s:Sched)(slot:Int)(j:Nat):(hereL s slot j).length≤s.cells.length:=Nat.le_trans (List.length_filter_le _ _) (by rw[List.length_take];omega)
theorem hereL_all (s:Sched)(slot:Int):hereL s slot s.cells.length=s.cells.filter fun c=>c.slot==slot:=by unfold hereL;rw[List.take_length]
theorem cell_push (F:List Cell)(x:Cell)(ex:List AV)(h:(F.length+1)*5≤(flatE (F.map Cell.av)++ex).length):splice (flatE (F.map Cell.av)++ex) (F.length*5) (flatE [x.av])=flatE ((F++[x]).map Cell.av)++ex.drop 5:=by
 have hF:=cellOk.flen F
 have hX:(flatE [x.av]).length=5:=rfl
 rw[List.length_append,hF]at h
 rw[splice_eq _ _ _ (by rw[List.length_append,hF,hX];omega),List.map_append,←hF,List.take_left,hX,List.drop_append,List.drop_eq_nil_of_le (by omega),show(flatE (F.map Cell.av)).length+5-(flatE (F.map Cell.av)).length=5 by omega]
 simp[flatE]
theorem cell_cut (F:List Cell)(x:Cell)(ex:List AV):List.take (F.length*5) (flatE (F.map Cell.av)++ex)++flatE [x.av] = flatE ((F++[x]).map Cell.av):=by
 have hF:=cellOk.flen F
 rw[←hF,List.take_left,List.map_append]
 simp[flatE]
def hereV:List Cell→AV
 | []=>.nils
 | c :: cs=>.own ((c :: cs).map Cell.av) 2
def rmS (out:List Cell)(slot:Int)(Lp:LoopA):List Cell→St
 | []=>⟨[.dead,.dead,.dead,.cells [.own (out.map Cell.av) 0] 28,.cells [.int .i64 slot] 3,.loop Lp],[(out.length,5)],6,1,fun _=>63⟩
 | c :: cs=>⟨[.dead,.dead,.dead,.cells [.own (out.map Cell.av) 0] 28,.cells [.int .i64 slot] 3,.loop Lp],[(out.length,5),(1,5),((c :: cs).length,5)],6,1,fun _=>63⟩
def rmSl (n:Net)(s:Sched)(l:Link)(slot:Nat):List (Nat×AV):=[(3,.cptr n.av 0),(4,.cptr s.av 0),(5,.cptr l.av 0),(10,.ptr 3 0),(11,.ptr 4 0),(33,.int .i64 s.len),(34,.int .i64 slot),(42,.fn 96 [.cptr (gridAv n s) 0,.cptr (.agg [.int .i64 slot]) 0,.cptr l.av 0])]
theorem c_Room (n:Net)(s:Sched)(l:Link)(hn:n.small)(hs:s.cells.length≤31):PCall Tryz.prog LW 17 [n.av,s.av,l.av] (.tup [encCells (roomM n s l).1,.int .i64 (roomM n s l).2]):=by
 refine PCall.intro mixed [1] (nt:=59) Tryz.func17 rfl rfl (by simp) ?_
 refine Wk ?_
 refine SeqK.sem mixed [] ?_
 refine Wk ?_
 refine SemK.freezeB 0 rfl rfl ?_
 refine SemK.freezeB 1 rfl rfl ?_
 refine SemK.freezeB 2 rfl rfl ?_
 refine twC_sound (ct:=[]) mixed _ _ _ _ ?_
 refine Wk ?_
 refine cD (c_netCheck LW n hn) ?_
 refine Wk ?_
 refine BrK.mk (fun h1=>?_) (fun h1=>?_)<;>(try rw[h1])
 ·refine Wk ?_
  exact resP.mk rfl (Sees.of_eq (by rw[roomM,if_pos (.inl (by simpa using h1))];rfl))
 have h1':netE n=0:=by simpa using h1
 refine Wk ?_
 refine cD (c_Print s) ?_
 cases hf:formB s with
 | false=>
  refine Wk ?_
  exact resP.mk rfl (Sees.of_eq (by rw[roomM,if_pos (.inr hf)];rfl))
 | true=>
 have e1:¬(netE n≠0∨formB s=false):=by simp[h1',hf]
 have hsb:=sized_bd (form_all hf).1
 refine Wk ?_
 refine cD (c_index LW n hn l.src l.dst) ?_
 refine Wk ?_
 refine cD (c_Usable LW n hn (indexN n l.src l.dst)) ?_
 rw[usable_index h1']
 cases hg:goodL n l.src l.dst with
 | false=>
  refine Wk ?_
  exact resP.mk rfl (Sees.of_eq (by rw[roomM,if_neg e1,if_pos hg];rfl))
 | true=>
 have e2:¬goodL n l.src l.dst=false:=by simp[hg]
 refine Wk ?_
 refine LoopK.bornB 3 5 63 _ rfl ?_
 refine LoopK.run mixed [] (fun k:Nat=>(k:Int)≤s.len) (fun k=>[(3,.cptr n.av 0),(4,.cptr s.av 0),(5,.cptr l.av 0),(10,.ptr 3 0),(33,.int .i64 s.len),(34,.int .i64 k)]) (fun k=>⟨[.dead,.dead,.dead,.cells [.own ((roomS n s l.src l.dst k).map Cell.av) 0] 28],[((roomS n s l.src l.dst k).length,5)],0,0,fun _=>63⟩) (fun k=>s.len.toNat-k) 0 (by omega) ?_ ?_
 ·refine fN ?_<;>repeat' (first|exact fQ|refine And.intro ?_ ?_ )
 rintro k hk
 have hSl:=roomS_len n s l.src l.dst k
 have hSl2:k*s.offs.toNat≤512*16:=Nat.mul_le_mul (by omega) (by omega)
 by_cases hkl:(k:Int) < s.len
 ·have g0:decide ((k:Int) < s.len)=true:=decide_eq_true hkl
  have wk:IntKind.i64.wrap ((k:Int)+1)=((k+1:Nat):Int):=by rw[w64]<;>omega
  repeat((conv=>whnf);first|refine sT ?_|rw[g0])
  try(conv=>whnf)
  refine cD (c_offsets LW n s l k) ?_
  refine Wk ?_
  refine RangeK.weak (l:=rmSl n s l k) (S1:=⟨[.dead,.dead,.dead,.cells [.own ((roomS n s l.src l.dst k).map Cell.av) 0] 28,.cells [.int .i64 k] 3],[((roomS n s l.src l.dst k).length,5)],0,0,fun _=>63⟩) ?_ ?_
  ·refine fN ?_<;>repeat' (first|exact fQ|refine And.intro ?_ ?_ )
  refine RangeK.named rfl rfl fun Lp hLp=>?_
  have hok:∀k2 m,5≤k2→Ob.okk k2 m (.loop Lp):=fun k2 m hk2=>loop_okk (l:=rmSl n s l k) (by rw[hLp]) (by simp[rmSl,okL,AV.okk,okks];omega)
  refine ICall.intro mixed [] (nt:=58) Tryz.func96 rfl rfl (by simp) ?_
  refine Wk ?_
  refine LoopK.run mixed [] (fun j:Nat=>j≤s.cells.length∧∀(i:Nat) c,i < j→s.cells[i]? = some c→c.slot=(k:Int)→touL l.src l.dst c=false) (fun j=>[(0,.yld 5),(1,.cptr (gridAv n s) 0),(2,.cptr (.agg [.int .i64 k]) 0),(3,.cptr l.av 0),(5,hereV (hereL s k j)),(12,encCells s.cells),(13,.int .i64 s.cells.length),(14,.int .i64 j)]) (fun j=>rmS (roomS n s l.src l.dst k) k Lp (hereL s k j)) (fun j=>s.cells.length-j) 0 ⟨by omega,fun i c hi=>by omega⟩ ?_ ?_
  ·refine fN ?_<;>repeat' (first|exact fQ|refine And.intro ?_ ?_|exact hok _ _ (le_b rfl)|exact Sees.int (by simp))
  rintro j ⟨hj,hinv⟩
  have hHl:=hereL_len s k j
  by_cases hjt:j < s.cells.length
  ·obtain⟨c,hgc⟩:=getLt hjt
   have hmc:=getMap (f:=Cell.av) hgc
   have gj:decide ((j:Int) < (s.cells.length:Int))=true:=decide_eq_true (by omega)
   have hnx:=hereL_succ (slot:=(k:Int)) hgc
   by_cases hcs:c.slot=(k:Int)
   ·have g1:(c.slot != (k:Int))=false:=by simp[hcs]
    rw[show(c.slot==(k:Int))=true by simp[hcs]]at hnx
    simp only[if_true]at hnx
    cases ht:touL l.src l.dst c with
    | true=>
     have hfr:freeS s l.src l.dst k=false:=by
      unfold freeS
      rw[Bool.not_eq_false',List.any_eq_true]
      exact⟨c,List.mem_of_getElem? hgc,by simp[hcs,ht]⟩
     have hrs:roomS n s l.src l.dst (k+1)=roomS n s l.src l.dst k:=by rw[roomS_succ,roomO_none hfr,List.append_nil]
     cases hh:hereL s k j with
     | nil=>
      repeat((conv=>whnf);first|refine sJ ?_|refine aI (by first|exact trivial|exact inbMap hjt|kernel_rfl) ?_|rw[gj]|rw[hmc]|rw[g1])
      try(conv=>whnf)
      refine cD (c_touchA LW c l) ?_
      rw[ht]
      refine Wk ?_
      rw[show Lp.st=.ready from by rw[hLp],show Lp.pend=none from by rw[hLp]]
      clear hLp
      refine Wk ?_
      refine⟨k+1,by omega,by omega,?_⟩
      rw[hrs]
      refine fN ?_<;>repeat' (first|exact fQ|refine And.intro ?_ ?_|exact Sees.int wk)
     | cons c0 cs0=>
      repeat((conv=>whnf);first|refine sJ ?_|refine aI (by first|exact trivial|exact inbMap hjt|kernel_rfl) ?_|rw[gj]|rw[hmc]|rw[g1])
      try(conv=>whnf)
      refine cD (c_touchA LW c l) ?_
      rw[ht]
      refine Wk ?_
      rw[show Lp.st=.ready from by rw[hLp],show Lp.pend=none from by rw[hLp]]
      clear hLp
      refine Wk ?_
      refine⟨k+1,by omega,by omega,?_⟩
      rw[hrs]
      refine fN ?_<;>repeat' (first|exact fQ|refine And.intro ?_ ?_|exact Sees.int wk)
    | false=>
     have hinv2:∀(i:Nat) c,i < j+1→s.cells[i]? = some c→c.slot=(k:Int)→touL l.src l.dst c=false:=fun i c' hi hc' hs'=>by
      rcases Nat.lt_succ_iff_lt_or_eq.1 hi with hi|rfl
      ·exact hinv i c' hi hc' hs'
      ·rw[hgc]at hc';injection hc' with hc';rw[←hc'];exact ht
     cases hh:hereL s k j with
     | nil=>
      rw[hh]at hHl hnx
      repeat((conv=>whnf);first|refine sJ ?_|refine aI (by first|exact trivial|exact inbMap hjt|kernel_rfl) ?_|rw[gj]|rw[hmc]|rw[g1])
      try(conv=>whnf)
      refine cD (c_touchA LW c l) ?_
      rw[ht]
      repeat((conv=>whnf);first|refine sJ ?_|refine aI (by first|exact trivial|exact inbMap hjt|exact Els.map (f:=Cell.av) (fun x=>⟨cellOk.len x,cellOk.cell x⟩)|exact(show _*40≤_ by simp only[List.length_map,List.length_cons,List.length_nil];simp only[List.length_cons]at hHl;omega)|exact(by simp only[List.length_map,List.length_cons,List.length_nil,maxLen];simp only[List.length_cons]at hHl;omega)|exact(show some (_,_)=some (_,_) by simp only[List.length_map])|kernel_rfl) ?_|rw[hmc])
      try(conv=>whnf)
      refine⟨j+1,⟨by omega,hinv2⟩,by omega,?_⟩
      rw[hnx]
      refine fN ?_<;>repeat' (first|exact fQ|refine And.intro ?_ ?_|exact hok _ _ (le_b rfl)|exact Sees.int (succI hjt (by omega)))
     | cons c0 cs0=>
      rw[hh]at hHl hnx
      repeat((conv=>whnf);first|refine sJ ?_|refine aI (by first|exact trivial|exact inbMap hjt|kernel_rfl) ?_|rw[gj]|rw[hmc]|rw[g1])
      try(conv=>whnf)
      refine cD (c_touchA LW c l) ?_
      rw[ht]
      repeat((conv=>whnf);first|refine sJ ?_|refine aI (by first|exact trivial|exact inbMap hjt|exact Els.map (f:=Cell.av) (fun x=>⟨cellOk.len x,cellOk.cell x⟩)|exact(show _*40≤_ by simp only[List.length_map,List.length_cons,List.length_nil];simp only[List.length_cons]at hHl;omega)|exact(by simp only[List.length_map,List.length_cons,List.length_nil,maxLen];simp only[List.length_cons]at hHl;omega)|exact(show some (_,_)=some (_,_) by simp only[List.length_map])|kernel_rfl) ?_|rw[hmc])
      try(conv=>whnf)
      refine⟨j+1,⟨by omega,hinv2⟩,by omega,?_⟩
      rw[hnx]
      refine fN ?_<;>repeat' (first|exact fQ|refine And.intro ?_ ?_|exact hok _ _ (le_b rfl)|exact Sees.int (succI hjt (by omega))|exact Sees.own (by show _=List.map Cell.av ((c0 :: cs0)++[c]);rw[List.map_append];rfl)|(show(_,_)=(((c0 :: cs0)++[c]).length,5);simp only[List.length_append,List.length_map,List.length_cons,List.length_nil]))
   ·have g1:(c.slot != (k:Int))=true:=by simp[hcs]
    rw[show(c.slot==(k:Int))=false by simp[hcs],if_neg (by simp),List.append_nil]at hnx
    have hinv2:∀(i:Nat) c,i < j+1→s.cells[i]? = some c→c.slot=(k:Int)→touL l.src l.dst c=false:=fun i c' hi hc' hs'=>by
     rcases Nat.lt_succ_iff_lt_or_eq.1 hi with hi|rfl
     ·exact hinv i c' hi hc' hs'
     ·rw[hgc]at hc';injection hc' with hc';exact absurd (hc'▸hs') hcs
    cases hh:hereL s k j with
    | nil=>
     rw[hh]at hnx
     repeat((conv=>whnf);first|refine sJ ?_|refine aI (by first|exact trivial|exact inbMap hjt|kernel_rfl) ?_|rw[gj]|rw[hmc]|rw[g1])
     try(conv=>whnf)
     refine⟨j+1,⟨by omega,hinv2⟩,by omega,?_⟩
     rw[hnx]
     refine fN ?_<;>repeat' (first|exact fQ|refine And.intro ?_ ?_|exact hok _ _ (le_b rfl)|exact Sees.int (succI hjt (by omega)))
    | cons c0 cs0=>
     rw[hh]at hnx
     repeat((conv=>whnf);first|refine sJ ?_|refine aI (by first|exact trivial|exact inbMap hjt|kernel_rfl) ?_|rw[gj]|rw[hmc]|rw[g1])
     try(conv=>whnf)
     refine⟨j+1,⟨by omega,hinv2⟩,by omega,?_⟩
     rw[hnx]
     refine fN ?_<;>repeat' (first|exact fQ|refine And.intro ?_ ?_|exact hok _ _ (le_b rfl)|exact Sees.int (succI hjt (by omega)))
  ·have hjn:j=s.cells.length:=by omega
   subst hjn
   have gj:decide ((s.cells.length:Int) < (s.cells.length:Int))=false:=decide_eq_false (by omega)
   have hfr:freeS s l.src l.dst k=true:=by
    unfold freeS
    rw[Bool.not_eq_true',List.any_eq_false]
    intro c hc
    obtain⟨i,hi⟩:=List.getElem?_of_mem hc
    by_cases hcs:c.slot=(k:Int)
    ·simp[hinv i c (List.getElem?_eq_some_iff.1 hi).1 hi hcs]
    ·simp[hcs]
   have hfit:∀o:Nat,fitsM n s (cellR l.src l.dst k o)=goodM n (((hereL s k s.cells.length).filter fun c=>!(c.off != (o:Int)))++[⟨0,0,l.src,l.dst,0⟩]):=fun o=>by
    unfold cellR
    rw[fits_prog,hfr,Bool.true_and,hereL_all]
   cases hh:hereL s k s.cells.length with
   | nil=>
    rw[hh]at hfit
    repeat((conv=>whnf);first|refine sT ?_|rw[gj])
    try(conv=>whnf)
    refine LoopK.run mixed [10012] (fun o:Nat=>(o:Int)≤s.offs) (fun o=>[(0,.yld 5),(1,.cptr (gridAv n s) 0),(2,.cptr (.agg [.int .i64 k]) 0),(3,.cptr l.av 0),(5,.nils),(32,.int .i64 s.offs),(33,.int .i64 o)]) (fun o=>rmS (roomS n s l.src l.dst k++roomO n s l.src l.dst k o) k Lp []) (fun o=>s.offs.toNat-o) 0 (by omega) ?_ ?_
    ·refine fN ?_<;>repeat' (first|exact fQ|refine And.intro ?_ ?_|exact hok _ _ (le_b rfl)|exact Sees.own (by simp[roomO])|(show(_,_)=(_,_);simp[roomO]))
    rintro o ho
    have hOl:=roomO_len n s l.src l.dst k o
    have hOs:=roomO_succ n s l.src l.dst k o
    by_cases hol:(o:Int) < s.offs
    ·have g1:decide ((o:Int) < s.offs)=true:=decide_eq_true hol
     have wo:IntKind.i64.wrap ((o:Int)+1)=((o+1:Nat):Int):=by rw[w64]<;>omega
     repeat((conv=>whnf);first|refine sT ?_|rw[g1])
     try(conv=>whnf)
     refine CallK.inl rfl (ICall.intro mixed [] (nt:=8) Tryz.func52 rfl rfl (by simp) ?_)
     refine Wk ?_
     refine CallK.inl rfl (ICall.intro mixed [] (nt:=42) Tryz.func53 rfl rfl (by simp) ?_)
     refine Wk ?_
     refine CallK.look (args':=[.sl false (([]:List Cell).map Cell.av),.fn 98 [.ptr 6 0]]) ⟨Sees.elems rfl,Sees.of_eq rfl,trivial⟩ ?_
     refine CallK.box rfl (c_IndexFuncCell LW [] (fun x=>x.off != (o:Int)) 98 [.cptr (.agg [.int .i64 o]) 0] (by simp) rfl rfl (fun x _=>c_off11 LW x o)) (fz2 rfl (fzf1 rfl)) rfl ?_
     refine Wk ?_
     refine SemK.regionFin mixed (fun _=>True) [0,1,2,3,4,5,6,7,8] 8 rfl rfl (by decide) rfl trivial ?_
     iterate 9
      conv=>whnf
      apply exV
      ·rintro S' K' hI hh
       repeat((conv=>whnf);first|refine sJ ?_|refine aI (by first|exact trivial|exact Els.of_b rfl|kernel_rfl) ?_ )
       try(conv=>whnf)
       exact hh
     conv=>whnf
     repeat' ((conv=>whnf);first|exact trivial|refine sJ ?_|refine aI (by first|exact Or.inr trivial|exact Els.of_b rfl|kernel_rfl) ?_|refine And.intro ?_ ?_ )
     all_goals(conv=>whnf)
     have hf1:goodM n [⟨0,0,l.src,l.dst,0⟩] = fitsM n s (cellR l.src l.dst k o):=(hfit o).symm
     refine cD (c_Good LW n hn [⟨0,0,l.src,l.dst,0⟩] (by simp)) ?_
     rw[hf1]
     cases hft:fitsM n s (cellR l.src l.dst k o) with
     | false=>
      rw[hft,if_neg (by simp),List.append_nil]at hOs
      repeat' ((conv=>whnf);first|exact trivial|refine sJ ?_|refine aI (by first|exact Or.inr trivial|kernel_rfl) ?_|refine And.intro ?_ ?_ )
      all_goals(conv=>whnf)
      all_goals refine⟨o+1,by omega,by omega,?_⟩
      all_goals rw[hOs]
      all_goals refine fN ?_<;>repeat' (first|exact fQ|refine And.intro ?_ ?_|exact hok _ _ (le_b rfl)|exact Sees.int wo)
     | true=>
      rw[hft,if_pos rfl]at hOs
      have hl1:(roomS n s l.src l.dst k++(roomO n s l.src l.dst k o++[cellR l.src l.dst k o])).length=(roomS n s l.src l.dst k++roomO n s l.src l.dst k o).length+1:=by simp[Nat.add_assoc]
      repeat' ((conv=>whnf);first|exact trivial|refine sJ ?_|refine aI (by first|exact Or.inr trivial|kernel_rfl) ?_|refine And.intro ?_ ?_ )
      all_goals(conv=>whnf)
      all_goals refine CallK.round mixed [] hLp rfl rfl rfl ?_
      all_goals clear hLp
      all_goals
       repeat((conv=>whnf);first|refine sJ ?_|refine aI (by first|exact trivial|exact Els.map (f:=Cell.av) (fun x=>⟨cellOk.len x,cellOk.cell x⟩)|exact(show _*40≤_ by simp only[List.length_map,List.length_append,List.length_cons,List.length_nil];omega)|exact(by simp only[List.length_map,List.length_append,List.length_cons,List.length_nil,maxLen];omega)|exact(show some (_,_)=some (_,_) by simp only[List.length_map])|kernel_rfl) ?_ )
       try(conv=>whnf)
      all_goals
       repeat' ((conv=>whnf);first|exact trivial|refine sJ ?_|refine aI (by first|exact Or.inr trivial|kernel_rfl) ?_|refine And.intro ?_ ?_ )
      all_goals(conv=>whnf)
      all_goals refine⟨o+1,by omega,by omega,?_⟩
      all_goals rw[hOs]
      all_goals refine fN ?_<;>repeat' (first|exact fQ|refine And.intro ?_ ?_|exact hok _ _ (le_b rfl)|exact Sees.int wo|exact Sees.own (by rw[←List.append_assoc,List.map_append (l₁:=roomS n s l.src l.dst k++roomO n s l.src l.dst k o)];rfl)|(show(_,_)=(_,_);rw[hl1,List.length_append,List.length_map];rfl))
    ·have hon:o=s.offs.toNat:=by omega
     subst hon
     have g1:decide (((s.offs.toNat:Nat):Int) < s.offs)=false:=decide_eq_false (by omega)
     repeat((conv=>whnf);first|refine sT ?_|rw[g1])
     try(conv=>whnf)
     rw[show Lp.st=.ready from by rw[hLp],show Lp.pend=none from by rw[hLp]]
     clear hLp
     refine Wk ?_
     refine⟨k+1,by omega,by omega,?_⟩
     rw[roomS_succ]
     refine fN ?_<;>repeat' (first|exact fQ|refine And.intro ?_ ?_|exact Sees.int wk)
   | cons c0 cs0=>
    rw[hh]at hfit hHl
    have hne0:(c0 :: cs0)≠[]:=by simp
    repeat((conv=>whnf);first|refine sT ?_|rw[gj])
    try(conv=>whnf)
    refine LoopK.run mixed [10012] (fun o:Nat=>(o:Int)≤s.offs) (fun o=>[(0,.yld 5),(1,.cptr (gridAv n s) 0),(2,.cptr (.agg [.int .i64 k]) 0),(3,.cptr l.av 0),(5,.sl false ((c0 :: cs0).map Cell.av)),(32,.int .i64 s.offs),(33,.int .i64 o)]) (fun o=>rmS (roomS n s l.src l.dst k++roomO n s l.src l.dst k o) k Lp []) (fun o=>s.offs.toNat-o) 0 (by omega) ?_ ?_
    ·refine fN ?_<;>repeat' (first|exact fQ|refine And.intro ?_ ?_|exact hok _ _ (le_b rfl)|exact Sees.own (by simp[roomO])|(show(_,_)=(_,_);simp[roomO])|exact Sees.elems rfl)
    rintro o ho
    have hOl:=roomO_len n s l.src l.dst k o
    have hOs:=roomO_succ n s l.src l.dst k o
    by_cases hol:(o:Int) < s.offs
    ·have g1:decide ((o:Int) < s.offs)=true:=decide_eq_true hol
     have wo:IntKind.i64.wrap ((o:Int)+1)=((o+1:Nat):Int):=by rw[w64]<;>omega
     obtain⟨F,hF⟩:∃F,F=(c0 :: cs0).filter fun c=>!(c.off != (o:Int)):=⟨_,rfl⟩
     have hFl:F.length≤31:=by rw[hF];exact Nat.le_trans (List.length_filter_le _ _) (by omega)
     have hfo:=hfit o
     rw[←hF]at hfo
     repeat((conv=>whnf);first|refine sT ?_|rw[g1])
     try(conv=>whnf)
     refine CallK.fresh rfl (c_CloneCell LW (c0 :: cs0) hne0 (by omega)) (by rfl) (cellOk.els _) (cellOk.scal (fun _=>rfl) _) (fun h=>by simp at h) (fun d=>?_)
     refine Wk ?_
     rw[List.length_map]
     refine CallK.inl rfl (i_DelCell7 LW _ _ _ _ _ _ _ _ _ _ _ (c0 :: cs0) (fun x=>x.off != (o:Int)) _ [.ptr 6 0] [.cptr (.agg [.int .i64 o]) 0] d (by omega) rfl rfl ⟨trivial,trivial,trivial,?_,?_,hok _ _ (le_b rfl),?_,?_⟩ (fun _ _ _ _=>rfl) (fun c _=>c_off11 LW c o) fun ex=>?_)
     ·exact⟨Nat.one_pos,trivial⟩
     ·exact⟨trivial,trivial⟩
     ·exact⟨trivial,trivial⟩
     ·exact⟨(by decide:6 < 8),trivial⟩
     rw[←hF]
     have hFf:=cellOk.flen F
     refine Wk ?_
     refine SemK.regionFin mixed (fun _=>True) [0,1,2,3,4,5,6,7,8] 8 rfl rfl (by decide) rfl trivial ?_
     iterate 9
      conv=>whnf
      apply exV
      ·rintro S' K' hI hh
       repeat((conv=>whnf);first|refine sJ ?_|refine aI (by first|exact trivial|exact Els.of_b rfl|kernel_rfl) ?_ )
       try(conv=>whnf)
       exact hh
     conv=>whnf
     repeat' ((conv=>whnf);first|exact trivial|refine sJ ?_|refine aI (by first|exact Or.inr trivial|kernel_rfl) ?_|refine And.intro ?_ ?_ )
     ·exact(show(F.length+1)*40≤140737488355328 by omega)
     ·exact(show F.length+1≤maxLen by simp only[maxLen];omega)
     ·exact(show F.length*5≤(flatE (F.map Cell.av)++ex).length by rw[List.length_append,hFf];exact Nat.le_add_right _ _)
     refine AppK.mk (fun hroom=>?_) (fun _=>?_)
     ·repeat' ((conv=>whnf);first|exact trivial|refine sJ ?_|refine aI (by first|exact Or.inr trivial|kernel_rfl) ?_|refine And.intro ?_ ?_ )
      have hpush:=cell_push F ⟨0,0,l.src,l.dst,0⟩ ex hroom
      have e1:∀X:St,X.bx[7]? = some (Ob.cells (splice (flatE (F.map Cell.av)++ex) (F.length*5) (flatE [Cell.av ⟨0,0,l.src,l.dst,0⟩])) 63)→fzb X (.vsl 7 0 (F.length+1) 5)=some (.sl false ((F++[(⟨0,0,l.src,l.dst,0⟩:Cell)]).map Cell.av)):=fun X hX=>cellOk.fzb (l:=F++[(⟨0,0,l.src,l.dst,0⟩:Cell)]) (ex:=ex.drop 5) (t:=63) (by rw[hX,hpush]) (by rw[List.length_append,List.length_singleton])
      refine CallK.box rfl (c_Good LW n hn (F++[(⟨0,0,l.src,l.dst,0⟩:Cell)]) (by rw[List.length_append,List.length_singleton];omega)) (fz2 rfl (fz2 (e1 _ rfl) rfl)) rfl ?_
      rw[←hfo]
      cases hft:fitsM n s (cellR l.src l.dst k o) with
      | false=>
       rw[hft,if_neg (by simp),List.append_nil]at hOs
       repeat' ((conv=>whnf);first|exact trivial|refine sJ ?_|refine aI (by first|exact Or.inr trivial|kernel_rfl) ?_|refine And.intro ?_ ?_ )
       all_goals(conv=>whnf)
       all_goals refine⟨o+1,by omega,by omega,?_⟩
       all_goals rw[hOs]
       all_goals refine fN ?_<;>repeat' (first|exact fQ|refine And.intro ?_ ?_|exact hok _ _ (le_b rfl)|exact Sees.int wo)
      | true=>
       rw[hft,if_pos rfl]at hOs
       have hl1:(roomS n s l.src l.dst k++(roomO n s l.src l.dst k o++[cellR l.src l.dst k o])).length=(roomS n s l.src l.dst k++roomO n s l.src l.dst k o).length+1:=by simp[Nat.add_assoc]
       repeat' ((conv=>whnf);first|exact trivial|refine sJ ?_|refine aI (by first|exact Or.inr trivial|kernel_rfl) ?_|refine And.intro ?_ ?_ )
       all_goals(conv=>whnf)
       all_goals refine CallK.round mixed [] hLp rfl rfl rfl ?_
       all_goals clear hLp
       all_goals
        repeat((conv=>whnf);first|refine sJ ?_|refine aI (by first|exact trivial|exact Els.map (f:=Cell.av) (fun x=>⟨cellOk.len x,cellOk.cell x⟩)|exact(show _*40≤_ by simp only[List.length_map,List.length_append,List.length_cons,List.length_nil];omega)|exact(by simp only[List.length_map,List.length_append,List.length_cons,List.length_nil,maxLen];omega)|exact(show some (_,_)=some (_,_) by simp only[List.length_map])|kernel_rfl) ?_ )
        try(conv=>whnf)
       all_goals
        repeat' ((conv=>whnf);first|exact trivial|refine sJ ?_|refine aI (by first|exact Or.inr trivial|kernel_rfl) ?_|refine And.intro ?_ ?_ )
       all_goals(conv=>whnf)
       all_goals refine⟨o+1,by omega,by omega,?_⟩
       all_goals rw[hOs]
       all_goals refine fN ?_<;>repeat' (first|exact fQ|refine And.intro ?_ ?_|exact hok _ _ (le_b rfl)|exact Sees.int wo|exact Sees.own (by rw[←List.append_assoc,List.map_append (l₁:=roomS n s l.src l.dst k++roomO n s l.src l.dst k o)];rfl)|(show(_,_)=(_,_);rw[hl1,List.length_append,List.length_map];rfl))
     ·intro d2
      repeat' ((conv=>whnf);first|exact trivial|refine sJ ?_|refine aI (by first|exact Or.inr trivial|kernel_rfl) ?_|refine And.intro ?_ ?_ )
      have hcut:=cell_cut F ⟨0,0,l.src,l.dst,0⟩ ex
      have e1:∀X:St,X.bx[8]? = some (Ob.cells (List.take (F.length*5) (flatE (F.map Cell.av)++ex)++flatE [Cell.av ⟨0,0,l.src,l.dst,0⟩]++List.replicate (d2*5) .undef) 63)→fzb X (.vsl 8 0 (F.length+1) 5)=some (.sl false ((F++[(⟨0,0,l.src,l.dst,0⟩:Cell)]).map Cell.av)):=fun X hX=>cellOk.fzb (l:=F++[(⟨0,0,l.src,l.dst,0⟩:Cell)]) (ex:=List.replicate (d2*5) .undef) (t:=63) (by rw[hX,hcut]) (by rw[List.length_append,List.length_singleton])
      refine CallK.box rfl (c_Good LW n hn (F++[(⟨0,0,l.src,l.dst,0⟩:Cell)]) (by rw[List.length_append,List.length_singleton];omega)) (fz2 rfl (fz2 (e1 _ rfl) rfl)) rfl ?_
      rw[←hfo]
      cases hft:fitsM n s (cellR l.src l.dst k o) with
      | false=>
       rw[hft,if_neg (by simp),List.append_nil]at hOs
       repeat' ((conv=>whnf);first|exact trivial|refine sJ ?_|refine aI (by first|exact Or.inr trivial|kernel_rfl) ?_|refine And.intro ?_ ?_ )
       all_goals(conv=>whnf)
       all_goals refine⟨o+1,by omega,by omega,?_⟩
       all_goals rw[hOs]
       all_goals refine fN ?_<;>repeat' (first|exact fQ|refine And.intro ?_ ?_|exact hok _ _ (le_b rfl)|exact Sees.int wo)
      | true=>
       rw[hft,if_pos rfl]at hOs
       have hl1:(roomS n s l.src l.dst k++(roomO n s l.src l.dst k o++[cellR l.src l.dst k o])).length=(roomS n s l.src l.dst k++roomO n s l.src l.dst k o).length+1:=by simp[Nat.add_assoc]
       repeat' ((conv=>whnf);first|exact trivial|refine sJ ?_|refine aI (by first|exact Or.inr trivial|kernel_rfl) ?_|refine And.intro ?_ ?_ )
       all_goals(conv=>whnf)
       all_goals refine CallK.round mixed [] hLp rfl rfl rfl ?_
       all_goals clear hLp
       all_goals
        repeat((conv=>whnf);first|refine sJ ?_|refine aI (by first|exact trivial|exact Els.map (f:=Cell.av) (fun x=>⟨cellOk.len x,cellOk.cell x⟩)|exact(show _*40≤_ by simp only[List.length_map,List.length_append,List.length_cons,List.length_nil];omega)|exact(by simp only[List.length_map,List.length_append,List.length_cons,List.length_nil,maxLen];omega)|exact(show some (_,_)=some (_,_) by simp only[List.length_map])|kernel_rfl) ?_ )
        try(conv=>whnf)
       all_goals
        repeat' ((conv=>whnf);first|exact trivial|refine sJ ?_|refine aI (by first|exact Or.inr trivial|kernel_rfl) ?_|refine And.intro ?_ ?_ )
       all_goals(conv=>whnf)
       all_goals refine⟨o+1,by omega,by omega,?_⟩
       all_goals rw[hOs]
       all_goals refine fN ?_<;>repeat' (first|exact fQ|refine And.intro ?_ ?_|exact hok _ _ (le_b rfl)|exact Sees.int wo|exact Sees.own (by rw[←List.append_assoc,List.map_append (l₁:=roomS n s l.src l.dst k++roomO n s l.src l.dst k o)];rfl)|(show(_,_)=(_,_);rw[hl1,List.length_append,List.length_map];rfl))
    ·have hon:o=s.offs.toNat:=by omega
     subst hon
     have g1:decide (((s.offs.toNat:Nat):Int) < s.offs)=false:=decide_eq_false (by omega)
     repeat((conv=>whnf);first|refine sT ?_|rw[g1])
     try(conv=>whnf)
     rw[show Lp.st=.ready from by rw[hLp],show Lp.pend=none from by rw[hLp]]
     clear hLp
     refine Wk ?_
     refine⟨k+1,by omega,by omega,?_⟩
     rw[roomS_succ]
     refine fN ?_<;>repeat' (first|exact fQ|refine And.intro ?_ ?_|exact Sees.int wk)
 ·have hkn:k=s.len.toNat:=by omega
  subst hkn
  have g0:decide (((s.len.toNat:Nat):Int) < s.len)=false:=decide_eq_false (by omega)
  by_cases hbig:1024 < (roomS n s l.src l.dst s.len.toNat).length
  ·have g1:decide ((1024:Int) < (((roomS n s l.src l.dst s.len.toNat).map Cell.av).length:Int))=true:=decide_eq_true (by rw[List.length_map];omega)
   repeat((conv=>whnf);first|refine sT ?_|rw[g0]|rw[g1])
   try(conv=>whnf)
   exact resP.mk rfl (Sees.of_eq (by rw[roomM,if_neg e1,if_neg e2,if_pos hbig];rfl))
  ·have g1:decide ((1024:Int) < (((roomS n s l.src l.dst s.len.toNat).map Cell.av).length:Int))=false:=decide_eq_false (by rw[List.length_map];omega)
   repeat((conv=>whnf);first|refine sT ?_|rw[g0]|rw[g1])
   try(conv=>whnf)
   exact resP.mk rfl (Sees.of_eq (by rw[roomM,if_neg e1,if_neg e2,if_neg hbig];rfl))
end HM
