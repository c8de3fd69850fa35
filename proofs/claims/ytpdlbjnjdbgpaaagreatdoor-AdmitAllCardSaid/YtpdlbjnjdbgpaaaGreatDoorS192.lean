/- Room and Drop: the reference. -/
import Derived.Test.YtpdlbjnjdbgpaaaGreatDoorS68
import Derived.Test.YtpdlbjnjdbgpaaaGreatDoorS6
import Derived.Test.YtpdlbjnjdbgpaaaGreatDoorS103
import Derived.Test.YtpdlbjnjdbgpaaaGreatDoorDc
set_option maxHeartbeats 64000000
set_option maxRecDepth 100000
namespace HM
open Go Go.RowKit Go.Proofs
section
variable (L:World→Prop)
def ft41 (n:Net)(s:Sched)(c:Cell):List Ob:=[.cells [.int .i64 n.nodes,encRows n.power,.int .i64 n.noise,.int .i64 n.thr,encLinks n.links,encIs n.margin] 26,.cells [.int .i64 s.len,.int .i64 s.offs,encCells s.cells] 30,.cells [.int .i64 c.slot,.int .i64 c.off,.int .i64 c.src,.int .i64 c.dst,.int .i64 c.flow] 63]
def ownT (s:Sched)(c:Cell)(k:Nat):List Cell:=c :: (s.cells.take k).filter fun d=>d.slot==c.slot&&d.off==c.off
theorem ownT_succ {s:Sched}{c d:Cell}{k:Nat}(h:s.cells[k]? = some d):ownT s c (k+1)=ownT s c k++if (d.slot==c.slot&&d.off==c.off)=true then [d] else []:=by
 unfold ownT
 rw[take_succ h,List.filter_append,List.cons_append]
 congr 2
 simp only[List.filter_cons,List.filter_nil]
theorem ownT_len (s:Sched)(c:Cell)(k:Nat):(ownT s c k).length≤s.cells.length+1:=by
 unfold ownT
 rw[List.length_cons]
 exact Nat.succ_le_succ (Nat.le_trans (List.length_filter_le _ _) (by rw[List.length_take];omega))
theorem c_Fits41 (n:Net)(s:Sched)(c:Cell)(hn:n.small)(hs:s.cells.length≤1048576)(ho:(ownT s c s.cells.length).length≤32):PCall Tryz.prog L 204 [n.av,s.av,c.av] (.bool (fitsM n s c)):=by
 refine PCall.intro mixed [] (nt:=76) Tryz.func204 rfl rfl (by simp) ?_
 refine Wk ?_
 refine LoopK.run mixed [] (fun (k:Nat)=>k≤s.cells.length∧∀(i:Nat) d,i < k→s.cells[i]? = some d→d.slot=c.slot→touL c.src c.dst d=false) (fun k=>[(3,.ptr 0 0),(4,.ptr 1 0),(5,.ptr 2 0),(7,.own ((ownT s c k).map Cell.av) 0),(8,.int .i64 k)]) (fun k=>⟨ft41 n s c,[((ownT s c k).length,5)],0,0,fun _=>63⟩) (fun k=>s.cells.length-k) 0 ⟨by omega,fun i d hi=>by omega⟩ ?_ ?_
 ·refine fN ?_<;>repeat' (first|exact fQ|refine And.intro ?_ ?_|exact SeesL.rfl' _)
 rintro k ⟨hk,hinv⟩
 have hol:=ownT_len s c k
 by_cases hkt:k < s.cells.length
 ·obtain⟨d,hgd⟩:=getLt hkt
  have hmd:=getMap (f:=Cell.av) hgd
  have gk:decide ((k:Int) < ((s.cells.map Cell.av).length:Int))=true:=decide_eq_true (by rw[List.length_map];omega)
  have hos:=ownT_succ (c:=c) hgd
  cases hsl:(d.slot==c.slot) with
  | false=>
   rw[hsl,Bool.false_and,if_neg (by simp),List.append_nil]at hos
   have how:=hos
   have hnx2:∀(i:Nat) d,i < k+1→s.cells[i]? = some d→d.slot=c.slot→touL c.src c.dst d=false:=fun i d' hi hd' hs'=>by
    rcases Nat.lt_succ_iff_lt_or_eq.1 hi with hi|rfl
    ·exact hinv i d' hi hd' hs'
    ·rw[hgd]at hd';injection hd' with hd';rw[←hd']at hs';simp[hs']at hsl
   repeat((conv=>whnf);first|refine sJ ?_|refine aI (by first|exact trivial|exact inbMap hkt|kernel_rfl) ?_|rw[gk]|rw[hmd]|rw[hsl])
   try(conv=>whnf)
   refine⟨k+1,⟨by omega,hnx2⟩,by omega,?_⟩
   refine fN ?_<;>repeat' (first|exact fQ|refine And.intro ?_ ?_|exact SeesL.rfl' _|exact Sees.int (succI hkt (by omega))|exact Sees.own (by rw[how])|(show(_,_)=(_,_);rw[how]))
  | true=>
   have hsl':d.slot=c.slot:=by simpa using hsl
   rw[hsl,Bool.true_and]at hos
   cases a1:(d.src==c.src)<;>cases a2:(d.src==c.dst)<;>cases a3:(d.dst==c.src)<;>cases a4:(d.dst==c.dst)
   ·have ht:touL c.src c.dst d=false:=by unfold touL;rw[a1,a2,a3,a4];rfl
    have hnx2:∀(i:Nat) d,i < k+1→s.cells[i]? = some d→d.slot=c.slot→touL c.src c.dst d=false:=fun i d' hi hd' hs'=>by
     rcases Nat.lt_succ_iff_lt_or_eq.1 hi with hi|rfl
     ·exact hinv i d' hi hd' hs'
     ·rw[hgd]at hd';injection hd' with hd';rw[←hd'];exact ht
    cases hof:(d.off==c.off) with
    | false=>
     rw[hof,if_neg (by simp),List.append_nil]at hos
     have how:=hos
     repeat((conv=>whnf);first|refine sJ ?_|refine aI (by first|exact trivial|exact inbMap hkt|kernel_rfl) ?_|rw[gk]|rw[hmd]|rw[hsl]|rw[a1]|rw[a2]|rw[a3]|rw[a4]|rw[hof])
     try(conv=>whnf)
     refine⟨k+1,⟨by omega,hnx2⟩,by omega,?_⟩
     refine fN ?_<;>repeat' (first|exact fQ|refine And.intro ?_ ?_|exact SeesL.rfl' _|exact Sees.int (succI hkt (by omega))|exact Sees.own (by rw[how])|(show(_,_)=(_,_);rw[how]))
    | true=>
     rw[hof,if_pos rfl]at hos
     repeat((conv=>whnf);first|refine sJ ?_|refine aI (by first|exact trivial|exact inbMap hkt|exact Els.map (f:=Cell.av) (fun x=>⟨cellOk.len x,cellOk.cell x⟩)|exact(show _*40≤_ by simp only[List.length_map,List.length_cons,List.length_nil];omega)|exact(by simp only[List.length_map,List.length_cons,List.length_nil,maxLen];omega)|exact(show some (_,_)=some (_,_) by simp only[List.length_map])|kernel_rfl) ?_|rw[gk]|rw[hmd]|rw[hsl]|rw[a1]|rw[a2]|rw[a3]|rw[a4]|rw[hof])
     try(conv=>whnf)
     refine⟨k+1,⟨by omega,hnx2⟩,by omega,?_⟩
     refine fN ?_<;>repeat' (first|exact fQ|refine And.intro ?_ ?_|exact SeesL.rfl' _|exact Sees.int (succI hkt (by omega))|exact Sees.own (by rw[hos,List.map_append];rfl)|(show(_,_)=(_,_);rw[hos];simp only[List.length_append,List.length_map,List.length_cons,List.length_nil]))
   all_goals
    have ht:touL c.src c.dst d=true:=by unfold touL;rw[a1,a2,a3,a4];rfl
    have hfr:freeS s c.src c.dst c.slot=false:=by
     unfold freeS
     rw[Bool.not_eq_false',List.any_eq_true]
     exact⟨d,List.mem_of_getElem? hgd,by simp[hsl',ht]⟩
    repeat((conv=>whnf);first|refine sJ ?_|refine aI (by first|exact trivial|exact inbMap hkt|kernel_rfl) ?_|rw[gk]|rw[hmd]|rw[hsl]|rw[a1]|rw[a2]|rw[a3]|rw[a4])
    try(conv=>whnf)
    exact resP.mk rfl (Sees.bool (by rw[fitsM,hfr];rfl))
 ·have hkn:k=s.cells.length:=by omega
  subst hkn
  have gk:decide ((s.cells.length:Int) < ((s.cells.map Cell.av).length:Int))=false:=decide_eq_false (by rw[List.length_map];omega)
  have hfr:freeS s c.src c.dst c.slot=true:=by
   unfold freeS
   rw[Bool.not_eq_true',List.any_eq_false]
   intro d hd
   obtain⟨i,hi⟩:=List.getElem?_of_mem hd
   by_cases hcs:d.slot=c.slot
   ·simp[hinv i d (List.getElem?_eq_some_iff.1 hi).1 hi hcs]
   ·simp[hcs]
  repeat((conv=>whnf);first|refine sT ?_|rw[gk])
  try(conv=>whnf)
  refine cD (c_Good34 L n hn (ownT s c s.cells.length) ho) ?_
  refine Wk ?_
  exact resP.mk rfl (Sees.bool (by rw[fitsM,hfr,Bool.true_and,ownT,List.take_length];rfl))
end
section
variable (L:World→Prop)
theorem own_few {s:Sched}(h:GridOk s)(c:Cell):(ownT s c s.cells.length).length≤32:=by
 have h1:=slotA_len h.apart h.nodes c.slot
 have h2:(s.cells.filter fun d=>d.slot==c.slot&&d.off==c.off).length≤(s.cells.filter fun d=>d.slot==c.slot).length:=by
  rw[←List.countP_eq_length_filter,←List.countP_eq_length_filter]
  exact List.countP_mono_left fun x _ hx=>by simp only[Bool.and_eq_true]at hx;exact hx.1
 unfold ownT
 rw[List.take_length,List.length_cons]
 omega
theorem c_find41 (n:Net)(hn:n.small)(s:Sched)(hg:GridOk s)(hs:s.cells.length≤1048576)(hz:1≤s.len∧s.offs≤16)(id a b slot:Int)(h0:0≤slot) :
  PCall Tryz.prog L 185 [n.av,s.av,.int .i64 id,.int .i64 a,.int .i64 b,.int .i64 slot] (.tup [(slotM n s a b id (slot % s.len)).1.av,.bool (slotM n s a b id (slot % s.len)).2]):=by
 refine PCall.intro mixed [1] (nt:=79) Tryz.func185 rfl rfl (by simp) ?_
 refine Wk ?_
 refine SeqK.sem mixed [] ?_
 refine Wk ?_
 refine SemK.freezeB 0 rfl rfl ?_
 refine SemK.freezeB 1 rfl rfl ?_
 refine twC_sound (ct:=[]) mixed _ _ _ _ ?_
 refine Wk ?_
 obtain⟨v,hv⟩:∃v,v=slot % s.len:=⟨_,rfl⟩
 have htm:slot.tmod s.len=v:=by rw[tmod_eq h0,hv]
 rw[←hv]
 refine LoopK.run mixed [] (fun k:Nat=>k≤s.cells.length∧∀(j:Nat) c,j < k→s.cells[j]? = some c→(c.slot==v&&(c.src==a&&(c.dst==b&&c.flow==id)))=false) (fun k=>[(2,.int .i64 id),(3,.int .i64 a),(4,.int .i64 b),(5,.int .i64 slot),(6,.cptr n.av 0),(7,.cptr s.av 0),(12,.ptr 2 0),(14,.int .i64 k)]) (fun _=>⟨[.dead,.dead,.cells [.int .i64 0,.int .i64 0,.nils] 30],[],0,0,fun _=>0⟩) (fun k=>s.cells.length-k) 0 ⟨by omega,fun j c hj=>by omega⟩ ?_ ?_
 ·refine fN ?_<;>repeat' (first|exact fQ|refine And.intro ?_ ?_ )
 rintro k ⟨hk,hinv⟩
 by_cases hkt:k < s.cells.length
 ·obtain⟨c,hgc⟩:=getLt hkt
  have hmc:=getMap (f:=Cell.av) hgc
  have gk:decide ((k:Int) < ((s.cells.map Cell.av).length:Int))=true:=decide_eq_true (by rw[List.length_map];omega)
  have nx:(c.slot==v&&(c.src==a&&(c.dst==b&&c.flow==id)))=false→∀(j:Nat) c,j < k+1→s.cells[j]? = some c→(c.slot==v&&(c.src==a&&(c.dst==b&&c.flow==id)))=false:=fun h j c' hj hc'=>by
   rcases Nat.lt_succ_iff_lt_or_eq.1 hj with hj|rfl
   ·exact hinv j c' hj hc'
   ·rw[hgc]at hc';injection hc' with hc';rw[←hc'];exact h
  cases b1:(c.slot==v)<;>cases b2:(c.flow==id)<;>cases b3:(c.src==a)<;>cases b4:(c.dst==b)
  rotate_right
  ·have hh:hasF s a b id v=true:=List.any_eq_true.2 ⟨c,List.mem_of_getElem? hgc,by rw[b1,b2,b3,b4];rfl⟩
   have hS:slotM n s a b id v=(s,true):=by rw[slotM,if_pos hh]
   rw[hS]
   repeat((conv=>whnf);first|refine sJ ?_|refine aI (by first|exact trivial|exact inbMap hkt|exact(show s.len≠0 by omega)|kernel_rfl) ?_|rw[gk]|rw[hmc]|rw[htm]|rw[b1]|rw[b2]|rw[b3]|rw[b4])
   try(conv=>whnf)
   exact resP.mk rfl (Sees.of_eq rfl)
  all_goals
   have hf:=nx (by rw[b1,b2,b3,b4];rfl)
   repeat((conv=>whnf);first|refine sJ ?_|refine aI (by first|exact trivial|exact inbMap hkt|exact(show s.len≠0 by omega)|kernel_rfl) ?_|rw[gk]|rw[hmc]|rw[htm]|rw[b1]|rw[b2]|rw[b3]|rw[b4])
   try(conv=>whnf)
   refine⟨k+1,⟨by omega,hf⟩,by omega,?_⟩
   refine fN ?_<;>repeat' (first|exact fQ|refine And.intro ?_ ?_|exact Sees.int (succI hkt (by omega)))
 ·have hkn:k=s.cells.length:=by omega
  subst hkn
  have gk:decide ((s.cells.length:Int) < ((s.cells.map Cell.av).length:Int))=false:=decide_eq_false (by rw[List.length_map];omega)
  have hno:hasF s a b id v=false:=by
   unfold hasF
   rw[List.any_eq_false]
   intro c hc
   obtain⟨j,hj⟩:=List.getElem?_of_mem hc
   rw[hinv j c (List.getElem?_eq_some_iff.1 hj).1 hj];simp
  repeat((conv=>whnf);first|refine sT ?_|rw[gk])
  try(conv=>whnf)
  refine LoopK.run mixed [] (fun o:Nat=>((o:Int)≤s.offs∨o=0)∧(List.range o).find? (fun o=>fitsM n s ⟨v,(o:Nat),a,b,0⟩)=none) (fun o=>[(2,.int .i64 id),(3,.int .i64 a),(4,.int .i64 b),(5,.int .i64 slot),(6,.cptr n.av 0),(7,.cptr s.av 0),(12,.ptr 2 0),(16,.int .i64 o)]) (fun _=>⟨[.dead,.dead,.cells [.int .i64 0,.int .i64 0,.nils] 30],[],0,0,fun _=>0⟩) (fun o=>s.offs.toNat-o) 0 ⟨.inr rfl,rfl⟩ ?_ ?_
  ·refine fN ?_<;>repeat' (first|exact fQ|refine And.intro ?_ ?_ )
  rintro o ⟨ho,hnone⟩
  by_cases hot:(o:Int) < s.offs
  ·have g1:decide ((o:Int) < s.offs)=true:=decide_eq_true hot
   have wo:IntKind.i64.wrap ((o:Int)+1)=((o+1:Nat):Int):=by rw[w64]<;>omega
   have hst:=roomF_step n s a b v o
   rw[hnone,Option.none_or]at hst
   have hfl:fitsM n s ⟨v,o,a,b,id⟩=fitsM n s ⟨v,o,a,b,0⟩:=fits_flow
   repeat((conv=>whnf);first|refine sJ ?_|refine aI (by first|exact trivial|exact(show s.len≠0 by omega)|kernel_rfl) ?_|rw[g1]|rw[htm])
   try(conv=>whnf)
   refine cD (c_Fits41 L n s ⟨v,o,a,b,id⟩ hn hs (own_few hg _)) ?_
   cases hft:fitsM n s ⟨v,o,a,b,id⟩ with
   | true=>
    rw[←hfl,hft,if_pos rfl]at hst
    have hroom:roomF n s a b v=some o:=by
     unfold roomF
     obtain⟨e,he⟩:∃e,s.offs.toNat=(o+1)+e:=⟨s.offs.toNat-(o+1),by omega⟩
     rw[he,List.range_add,List.find?_append,hst];rfl
    have hcm:=hasF_not hno o
    have hhb:hasB (cellTo ⟨v,o,a,b,id⟩) s.cells=false:=by rw[has_mem hg.sorted];simpa using hcm
    have hS:slotM n s a b id v=(⟨s.len,s.offs,withL ⟨v,o,a,b,id⟩ s.cells⟩,true):=by
     rw[slotM,if_neg (by simp[hno]),hroom]
     simp only[putM]
     rw[with_ins hhb]
     rfl
    rw[hS]
    refine Wk ?_
    refine cD (c_With35 L s ⟨v,o,a,b,id⟩ hs) ?_
    refine Wk ?_
    exact resP.mk rfl (Sees.of_eq rfl)
   | false=>
    rw[←hfl,hft,if_neg (by simp)]at hst
    refine Wk ?_
    refine⟨o+1,⟨.inl (by omega),hst⟩,by omega,?_⟩
    refine fN ?_<;>repeat' (first|exact fQ|refine And.intro ?_ ?_|exact Sees.int wo)
  ·have g1:decide ((o:Int) < s.offs)=false:=decide_eq_false hot
   have hon:o=s.offs.toNat:=by omega
   have hroom:roomF n s a b v=none:=by unfold roomF;rw[←hon];exact hnone
   have hS:slotM n s a b id v=(s,false):=by rw[slotM,if_neg (by simp[hno]),hroom]
   rw[hS]
   repeat((conv=>whnf);first|refine sT ?_|rw[g1])
   try(conv=>whnf)
   exact resP.mk rfl (Sees.of_eq rfl)
end
end HM
