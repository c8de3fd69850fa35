/- Trim: the reference. -/
import Derived.Test.YtpdlbjnjdbgpaaaGreatDoorS202
import Derived.Test.YtpdlbjnjdbgpaaaGreatDoorS103
import Derived.Test.YtpdlbjnjdbgpaaaGreatDoorS178
import Derived.Test.YtpdlbjnjdbgpaaaGreatDoorDd
set_option maxHeartbeats 64000000
set_option maxRecDepth 100000
namespace HM
open Go Go.RowKit Go.Proofs
section
variable (L:World→Prop)
def trmL (n:Net)(q:List Req)(s:Sched)(k:Nat):List Cell:=(s.cells.take k).filter (trimB n q s)
def trmS (s:Sched):List Cell→St
 | []=>⟨[.dead,.dead,.cells [.int .i64 0,.int .i64 0,.nils] 30,.cells [.int .i64 s.len,.int .i64 s.offs,.nils] 30],[],0,0,fun _=>0⟩
 | c :: cs=>⟨[.dead,.dead,.cells [.int .i64 0,.int .i64 0,.nils] 30,.cells [.int .i64 s.len,.int .i64 s.offs,.own ((c :: cs).map Cell.av) 0] 30],[((c :: cs).length,5)],0,0,fun _=>63⟩
theorem trmL_succ {n:Net}{q:List Req}{s:Sched}{k:Nat}{c:Cell}(h:s.cells[k]? = some c):trmL n q s (k+1)=trmL n q s k++if trimB n q s c=true then [c] else []:=by
 unfold trmL
 rw[take_succ h,List.filter_append]
 congr 1
 simp only[List.filter_cons,List.filter_nil]
theorem trmL_len (n:Net)(q:List Req)(s:Sched)(k:Nat):(trmL n q s k).length≤s.cells.length:=Nat.le_trans (List.length_filter_le _ _) (by rw[List.length_take];omega)
theorem c_Trim41 (n:Net)(hn:n.small)(q:List Req)(hq:q.length≤1099511627776)(hx:∀x∈q,x.small)(s:Sched)(hs:s.cells.length≤281474976710656) :
  PCall Tryz.prog L 14 [n.av,encReqs q,s.av] (.tup [(trimM n q s).1.av,.int .i64 (trimM n q s).2]):=by
 refine PCall.intro mixed [1] (nt:=77) Tryz.func14 rfl rfl (by simp) ?_
 refine Wk ?_
 refine SeqK.sem mixed [] ?_
 refine Wk ?_
 refine SemK.freezeB 0 rfl rfl ?_
 refine SemK.freezeB 1 rfl rfl ?_
 refine twC_sound (ct:=[]) mixed _ _ _ _ ?_
 refine Wk ?_
 refine cD (c_Serves38 L n hn q hq hx s hs) ?_
 cases g1:((makeM n q s).2.2==0) with
 | false=>
  have e1:trimM n q s=(⟨0,0,[]⟩,1):=by unfold trimM;rw[if_pos (by simpa using g1)]
  rw[e1]
  refine Wk ?_
  exact resP.mk rfl (Sees.of_eq rfl)
 | true=>
 have g1':(makeM n q s).2.2=0:=by simpa using g1
 have e1:trimM n q s=(⟨s.len,s.offs,trmL n q s s.cells.length⟩,0):=by unfold trimM trimS trmL;rw[if_neg (by omega),List.take_length]
 rw[e1]
 obtain⟨hrq,hv,_,_⟩:=make_parts g1'
 obtain⟨hok,hq16,hreq,hfl⟩:=reqE_ok hrq
 have h512:=hv.many
 have hsmr:∀x∈q,(∀r∈x.routes,r.length≤281474976710656)∧x.routes.length≤281474976710656:=fun x hxm=>⟨(hx x hxm).2,(hx x hxm).1⟩
 have hnl:n.links.length≤281474976710656:=by have:=hok.many;omega
 refine Wk ?_
 refine LoopK.run mixed [10011] (fun k:Nat=>k≤s.cells.length) (fun k=>[(1,encReqs q),(3,.cptr n.av 0),(5,.cptr s.av 0),(6,.ptr 2 0),(8,.ptr 3 0),(9,.int .i64 k)]) (fun k=>trmS s (trmL n q s k)) (fun k=>s.cells.length-k) 0 (by omega) ?_ ?_
 ·refine fN ?_<;>repeat' (first|exact fQ|refine And.intro ?_ ?_|exact SeesL.rfl' _)
 rintro k hk
 have htl:=trmL_len n q s k
 by_cases hkt:k < s.cells.length
 rotate_left
 ·have hkn:k=s.cells.length:=by omega
  subst hkn
  have gk:decide ((s.cells.length:Int) < ((s.cells.map Cell.av).length:Int))=false:=decide_eq_false (by rw[List.length_map];omega)
  cases hh:trmL n q s s.cells.length with
  | nil=>
   repeat((conv=>whnf);first|refine sT ?_|rw[gk])
   try(conv=>whnf)
   exact resP.mk rfl (Sees.tup ⟨Sees.agg ⟨Sees.of_eq rfl,Sees.of_eq rfl,Sees.elems rfl,trivial⟩,Sees.of_eq rfl,trivial⟩)
  | cons c0 cs0=>
   repeat((conv=>whnf);first|refine sT ?_|rw[gk])
   try(conv=>whnf)
   exact resP.mk rfl (Sees.of_eq rfl)
 obtain⟨c,hgc⟩:=getLt hkt
 have hmc:=getMap (f:=Cell.av) hgc
 have gk:decide ((k:Int) < ((s.cells.map Cell.av).length:Int))=true:=decide_eq_true (by rw[List.length_map];omega)
 have hnx:=trmL_succ (n:=n) (q:=q) hgc
 have hcm:=List.mem_of_getElem? hgc
 obtain⟨p,hp⟩:∃p:Req→Bool,p=fun x=>decide (c∈allC n s x.flow x.routes):=⟨_,rfl⟩
 have hpT:q.any p=trimB n q s c:=by rw[hp];rfl
 cases hh:trmL n q s k with
 | nil=>
  rw[hh]at hnx
  repeat((conv=>whnf);first|refine sJ ?_|refine aI (by first|exact trivial|exact inbMap hkt|kernel_rfl) ?_|rw[gk])
  try(conv=>whnf)
  refine LoopK.run mixed [10011] (fun i:Nat=>i≤q.length) (fun i=>[(1,encReqs q),(3,.cptr n.av 0),(5,.cptr s.av 0),(6,.ptr 2 0),(8,.ptr 3 0),(9,.int .i64 k),(10,.bool ((q.take i).any p)),(11,.int .i64 i)]) (fun _=>trmS s []) (fun i=>q.length-i) 0 (by omega) ?_ ?_
  ·refine fN ?_<;>repeat' (first|exact fQ|refine And.intro ?_ ?_|exact SeesL.rfl' _)
  rintro i hi
  by_cases hit:i < q.length
  ·obtain⟨x,hgx⟩:=getLt hit
   have hmx:=getMap (f:=Req.av) hgx
   have hxm:=List.mem_of_getElem? hgx
   have gi:decide ((i:Int) < ((q.map Req.av).length:Int))=true:=decide_eq_true (by rw[List.length_map];omega)
   have hcl:=c_Needed37 L n s x.flow x.routes hn hs (hsmr x hxm).1 (hsmr x hxm).2 hnl
   rw[need_srv g1' hxm]at hcl
   dsimp only at hcl
   have hany:(q.take (i+1)).any p=((q.take i).any p||p x):=by rw[take_succ hgx,List.any_append];simp
   have hpx:decide (c∈needL n s x.flow x.routes)=p x:=by
    rw[hp]
    refine decide_eq_decide.2 ?_
    unfold needL
    rw[List.mem_filter,decide_eq_true_eq]
    exact⟨fun h=>h.2,fun h=>⟨hcm,h⟩⟩
   repeat((conv=>whnf);first|refine sT ?_|rw[gi])
   try(conv=>whnf)
   refine SemK.regionFin mixed (fun _=>True) [0,1,2,3,4,5,6,7,8,9,10,11,12,13,14,15] 2 rfl rfl (by decide) rfl trivial ?_
   iterate 12
    conv=>whnf
    apply exV
    ·rintro S' K' hI hh
     repeat((conv=>whnf);first|refine sJ ?_|refine aI (by first|exact trivial|exact inbMap hit|kernel_rfl) ?_|rw[hmx])
     try(conv=>whnf)
     exact hh
   conv=>whnf
   apply exV
   ·rintro S' K' hI hh
    refine Wk ?_
    refine cD (hcl) ?_
    exact hh
   iterate 3
    conv=>whnf
    apply exV
    ·rintro S' K' hI hh
     refine Wk ?_
     exact hh
   conv=>whnf
   repeat' ((conv=>whnf);first|exact trivial|refine sJ ?_|refine aI (by first|exact trivial|exact Or.inr trivial|exact Or.inl rfl|kernel_rfl) ?_|refine And.intro ?_ ?_ )
   all_goals(conv=>whnf)
   cases gB:(q.take i).any p with
   | true=>
    rw[gB,Bool.true_or]at hany
    refine Wk ?_
    refine⟨i+1,by omega,by omega,?_⟩
    rw[hany]
    refine fN ?_<;>repeat' (first|exact fQ|refine And.intro ?_ ?_|exact SeesL.rfl' _|exact Sees.int (succI hit (by omega)))
   | false=>
    rw[gB,Bool.false_or]at hany
    repeat((conv=>whnf);first|refine sJ ?_|refine aI (by first|exact trivial|exact inbMap hkt|kernel_rfl) ?_|rw[hmc])
    try(conv=>whnf)
    refine cD (c_Has35 L ⟨0,0,needL n s x.flow x.routes⟩ c (Nat.le_trans (List.length_filter_le _ _) hs)) ?_
    rw[hpx]
    refine Wk ?_
    refine⟨i+1,by omega,by omega,?_⟩
    rw[hany]
    refine fN ?_<;>repeat' (first|exact fQ|refine And.intro ?_ ?_|exact SeesL.rfl' _|exact Sees.int (succI hit (by omega)))
  have hin:i=q.length:=by omega
  subst hin
  have gi:decide ((q.length:Int) < ((q.map Req.av).length:Int))=false:=decide_eq_false (by rw[List.length_map];omega)
  rw[List.take_length,hpT]
  cases hT:trimB n q s c with
  | false=>
   rw[hT,if_neg (by decide),List.append_nil]at hnx
   repeat((conv=>whnf);first|refine sT ?_|rw[gi])
   try(conv=>whnf)
   refine⟨k+1,by omega,by omega,?_⟩
   rw[hnx]
   refine fN ?_<;>repeat' (first|exact fQ|refine And.intro ?_ ?_|exact SeesL.rfl' _|exact Sees.int (succI hkt (by omega)))
  | true=>
   rw[hT,if_pos rfl]at hnx
   repeat((conv=>whnf);first|refine sJ ?_|refine aI (by first|exact trivial|exact inbMap hkt|kernel_rfl) ?_|rw[gi]|rw[hmc])
   try(conv=>whnf)
   refine⟨k+1,by omega,by omega,?_⟩
   rw[hnx]
   refine fN ?_<;>repeat' (first|exact fQ|refine And.intro ?_ ?_|exact SeesL.rfl' _|exact Sees.int (succI hkt (by omega)))
 | cons c0 cs0=>
  rw[hh]at hnx htl
  repeat((conv=>whnf);first|refine sJ ?_|refine aI (by first|exact trivial|exact inbMap hkt|kernel_rfl) ?_|rw[gk])
  try(conv=>whnf)
  refine LoopK.run mixed [10011] (fun i:Nat=>i≤q.length) (fun i=>[(1,encReqs q),(3,.cptr n.av 0),(5,.cptr s.av 0),(6,.ptr 2 0),(8,.ptr 3 0),(9,.int .i64 k),(10,.bool ((q.take i).any p)),(11,.int .i64 i)]) (fun _=>trmS s (c0 :: cs0)) (fun i=>q.length-i) 0 (by omega) ?_ ?_
  ·refine fN ?_<;>repeat' (first|exact fQ|refine And.intro ?_ ?_|exact SeesL.rfl' _)
  rintro i hi
  by_cases hit:i < q.length
  ·obtain⟨x,hgx⟩:=getLt hit
   have hmx:=getMap (f:=Req.av) hgx
   have hxm:=List.mem_of_getElem? hgx
   have gi:decide ((i:Int) < ((q.map Req.av).length:Int))=true:=decide_eq_true (by rw[List.length_map];omega)
   have hcl:=c_Needed37 L n s x.flow x.routes hn hs (hsmr x hxm).1 (hsmr x hxm).2 hnl
   rw[need_srv g1' hxm]at hcl
   dsimp only at hcl
   have hany:(q.take (i+1)).any p=((q.take i).any p||p x):=by rw[take_succ hgx,List.any_append];simp
   have hpx:decide (c∈needL n s x.flow x.routes)=p x:=by
    rw[hp]
    refine decide_eq_decide.2 ?_
    unfold needL
    rw[List.mem_filter,decide_eq_true_eq]
    exact⟨fun h=>h.2,fun h=>⟨hcm,h⟩⟩
   repeat((conv=>whnf);first|refine sT ?_|rw[gi])
   try(conv=>whnf)
   refine SemK.regionFin mixed (fun _=>True) [0,1,2,3,4,5,6,7,8,9,10,11,12,13,14,15] 2 rfl rfl (by decide) rfl trivial ?_
   iterate 12
    conv=>whnf
    apply exV
    ·rintro S' K' hI hh
     repeat((conv=>whnf);first|refine sJ ?_|refine aI (by first|exact trivial|exact inbMap hit|kernel_rfl) ?_|rw[hmx])
     try(conv=>whnf)
     exact hh
   conv=>whnf
   apply exV
   ·rintro S' K' hI hh
    refine Wk ?_
    refine cD (hcl) ?_
    exact hh
   iterate 3
    conv=>whnf
    apply exV
    ·rintro S' K' hI hh
     refine Wk ?_
     exact hh
   conv=>whnf
   repeat' ((conv=>whnf);first|exact trivial|refine sJ ?_|refine aI (by first|exact trivial|exact Or.inr trivial|exact Or.inl rfl|kernel_rfl) ?_|refine And.intro ?_ ?_ )
   all_goals(conv=>whnf)
   cases gB:(q.take i).any p with
   | true=>
    rw[gB,Bool.true_or]at hany
    refine Wk ?_
    refine⟨i+1,by omega,by omega,?_⟩
    rw[hany]
    refine fN ?_<;>repeat' (first|exact fQ|refine And.intro ?_ ?_|exact SeesL.rfl' _|exact Sees.int (succI hit (by omega)))
   | false=>
    rw[gB,Bool.false_or]at hany
    repeat((conv=>whnf);first|refine sJ ?_|refine aI (by first|exact trivial|exact inbMap hkt|kernel_rfl) ?_|rw[hmc])
    try(conv=>whnf)
    refine cD (c_Has35 L ⟨0,0,needL n s x.flow x.routes⟩ c (Nat.le_trans (List.length_filter_le _ _) hs)) ?_
    rw[hpx]
    refine Wk ?_
    refine⟨i+1,by omega,by omega,?_⟩
    rw[hany]
    refine fN ?_<;>repeat' (first|exact fQ|refine And.intro ?_ ?_|exact SeesL.rfl' _|exact Sees.int (succI hit (by omega)))
  have hin:i=q.length:=by omega
  subst hin
  have gi:decide ((q.length:Int) < ((q.map Req.av).length:Int))=false:=decide_eq_false (by rw[List.length_map];omega)
  rw[List.take_length,hpT]
  cases hT:trimB n q s c with
  | false=>
   rw[hT,if_neg (by decide),List.append_nil]at hnx
   repeat((conv=>whnf);first|refine sT ?_|rw[gi])
   try(conv=>whnf)
   refine⟨k+1,by omega,by omega,?_⟩
   rw[hnx]
   refine fN ?_<;>repeat' (first|exact fQ|refine And.intro ?_ ?_|exact SeesL.rfl' _|exact Sees.int (succI hkt (by omega)))
  | true=>
   rw[hT,if_pos rfl]at hnx
   repeat((conv=>whnf);first|refine sJ ?_|refine aI (by first|exact trivial|exact inbMap hkt|exact Els.map (f:=Cell.av) (fun x=>⟨cellOk.len x,cellOk.cell x⟩)|exact(show _*40≤_ by simp only[List.length_map,List.length_cons,List.length_nil];simp only[List.length_cons]at htl;omega)|exact(by simp only[List.length_map,List.length_cons,List.length_nil,maxLen];simp only[List.length_cons]at htl;omega)|exact(show some (_,_)=some (_,_) by simp only[List.length_map])|kernel_rfl) ?_|rw[gi]|rw[hmc])
   try(conv=>whnf)
   refine⟨k+1,by omega,by omega,?_⟩
   rw[hnx]
   refine fN ?_<;>repeat' (first|exact fQ|refine And.intro ?_ ?_|exact SeesL.rfl' _|exact Sees.int (succI hkt (by omega))|exact Sees.own (by show _=List.map Cell.av ((c0 :: cs0)++[c]);rw[List.map_append];rfl)|(show(_,_)=(((c0 :: cs0)++[c]).length,5);simp only[List.length_append,List.length_map,List.length_cons,List.length_nil]))
end
end HM
