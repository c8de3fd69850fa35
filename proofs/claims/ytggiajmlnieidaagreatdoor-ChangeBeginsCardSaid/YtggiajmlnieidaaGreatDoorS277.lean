/- Changes: the law ChangeBegins. -/
import Derived.Test.YtggiajmlnieidaaGreatDoorS270
import Derived.Test.YtggiajmlnieidaaGreatDoorDe
import Derived.Test.YtggiajmlnieidaaGreatDoorFh
set_option maxHeartbeats 64000000
set_option maxRecDepth 100000
namespace HM
open Go Go.RowKit Go.Proofs
section
variable (L:World→Prop)
theorem c_ContainsFuncReqC (l:List Req)(p:Req→Bool)(g:Nat)(caps:List AV)(hl:l.length≤281474976710656)(hcb:callable Tryz.prog g=true)(hc:fzs caps=some caps)(hp:∀x∈l,PCall Tryz.prog L g (Req.av x :: caps) (.bool (p x))) :
  PCall Tryz.prog L 30 [.sl false (l.map Req.av),.fn g caps] (.bool (l.any p)):=by
 refine PCall.intro mixed [] (nt:=9) Tryz.func30 rfl rfl (by simp) ?_
 refine Wk ?_
 refine CallK.data rfl (c_IndexFuncReqC L l p g caps hl hcb hc hp) (by show(match fz _,fzs [AV.fn g caps] with|some a,some b=>some (a :: b)|_,_=>none)=_;rw[show fzs [AV.fn g caps] = some [AV.fn g caps] from by simp[fz,fzs,hc]];rfl) ?_
 refine Wk ?_
 exact resP.mk rfl (Sees.bool (idxF_any p l))
end
theorem c_begins1 (x:Req)(c:Cell):PCall Tryz.prog LW 31 [x.av,.cptr c.av 0] (.bool (x.flow.id==c.flow)):=by
 refine PCall.intro mixed [] (nt:=10) Tryz.func31 rfl rfl (by simp) ?_
 refine Wk ?_
 exact resP.mk rfl (Sees.bool rfl)
def bgS (n:Net)(s T Z:Sched):List Ob:=kp42 n s++[.cells [.int .i64 T.len,.int .i64 T.offs,encCells T.cells] 30,.cells [.int .i64 Z.len,.int .i64 Z.offs,encCells Z.cells] 30]
def ownK (after:List Req)(l:List Cell)(k:Nat):List Cell:=(l.take k).filter fun c=>(getQ after c.flow).isSome
theorem ownK_len (after:List Req)(l:List Cell)(k:Nat):(ownK after l k).length≤k:=by
 unfold ownK
 refine Nat.le_trans (List.length_filter_le _ _) ?_
 rw[List.length_take];omega
theorem ownK_next {after:List Req}{l:List Cell}{k:Nat}{c:Cell}(h:l[k]? = some c):ownK after l (k+1)=ownK after l k++if (getQ after c.flow).isSome=true then [c] else []:=by
 unfold ownK
 rw[take_succ h,List.filter_append]
 congr 1
 cases hs:(getQ after c.flow).isSome<;>simp[hs]
theorem c_ChangeBegins (n:Net)(before after:List Req)(s:Sched)(l:List Chg)(fr:Int)(hn:n.small)(hq1:before.length≤281474976710656)(hx1:∀x∈before,x.small)(hq2:after.length≤281474976710656)(hx2:∀x∈after,x.small)(hl:l.length≤281474976710656)(hsl:∀c∈l,c.slot≤9223372036854775807)(h0:0≤fr)(h1:fr≤255) :
  PCall Tryz.prog LW 7 [n.av,encReqs before,encReqs after,s.av,encChgs l,.int .u8 fr] (.bool true):=by
 refine PCall.intro mixed [] (nt:=146) Tryz.func7 rfl rfl (by simp) ?_
 refine Wk ?_
 refine cD (c_awake42) ?_
 refine Wk ?_
 refine cD (c_Few42 LW n hn before after hq1 hq2 hx1 hx2 s l) ?_
 cases g:few42 n before after s l with
 | false=>
  repeat((conv=>whnf);first|refine sT ?_ )
  try(conv=>whnf)
  exact resP.mk rfl (Sees.bool rfl)
 | true=>
 obtain⟨f1,f2,f3,f4⟩:=few42_len g
 repeat((conv=>whnf);first|refine sT ?_ )
 try(conv=>whnf)
 refine cD (c_CheckC n hn before after (by omega) (by omega) hx1 hx2 s (by omega) l hl) ?_
 by_cases hck:(checkC n before after s l).2≠0
 ·have gc:((checkC n before after s l).2 != 0)=true:=by simpa using hck
  repeat((conv=>whnf);first|refine sT ?_|rw[gc])
  try(conv=>whnf)
  exact resP.mk rfl (Sees.bool rfl)
 have gc:((checkC n before after s l).2 != 0)=false:=by simpa using hck
 have hk:=ckOk (n:=n) (before:=before) (after:=after) (s:=s) (l:=l) (by simpa using hck)
 have hW:=wholeC_ok hk.whole
 have hwf:IntKind.i64.wrap fr=fr:=by rw[w64]<;>omega
 have hap:=hk.apply fr
 have hap2:=hk.apply 9223372036854775807
 rw[upto_all hsl]at hap2
 have hbs:=hk.busy h0
 have hfo:=hk.formU fr
 have hva:=hk.upto fr
 have hal:=(form_all hfo).2.1
 have hbm:(bothM before after).length≤281474976710656:=by
  unfold bothM bothN
  refine Nat.le_trans (List.length_filterMap_le _ _) ?_
  rw[List.length_range];omega
 obtain⟨T,hT⟩:∃T,T=afterC s (uptoW l fr):=⟨_,rfl⟩
 obtain⟨Z,hZ⟩:∃Z,Z=afterC s l:=⟨_,rfl⟩
 have hZl:Z.cells.length≤40:=by rw[hZ];have:=afterC_len s l;omega
 rw[←hT]at hap hbs hfo hva hal
 rw[←hZ]at hap2
 repeat((conv=>whnf);first|refine sT ?_|rw[gc]|rw[hwf])
 try(conv=>whnf)
 refine cD (c_ApplyC s (by omega) l hl fr) ?_
 rw[hap]
 repeat((conv=>whnf);first|refine sT ?_ )
 try(conv=>whnf)
 refine cD (c_Both42 LW before after (by omega) (by omega)) ?_
 repeat((conv=>whnf);first|refine sT ?_ )
 try(conv=>whnf)
 refine cD (c_SCheck LW n hn (bothM before after) hbm T (by omega)) ?_
 rw[hva]
 repeat((conv=>whnf);first|refine sT ?_ )
 try(conv=>whnf)
 refine cD (c_ApplyC s (by omega) l hl 9223372036854775807) ?_
 rw[hap2]
 repeat((conv=>whnf);first|refine sT ?_|rw[hwf])
 try(conv=>whnf)
 refine cD (c_BusyC s (by omega) l hl fr (by omega)) ?_
 rw[hbs]
 repeat((conv=>whnf);first|refine sT ?_|rw[hwf])
 try(conv=>whnf)
 refine cD (c_At LW T fr (by omega) (by omega)) ?_
 obtain⟨A,hA⟩:∃A,A=atM T fr:=⟨_,rfl⟩
 rw[←hA]
 have hAl:A.length≤512:=by
  rw[hA];unfold atM
  split
  ·simp
  ·exact Nat.le_trans (List.length_filter_le _ _) hal
 have hAo:∀c∈A,0≤c.off∧c.off≤15:=fun c hc=>form_off15 hfo (at_mem (by rw[←hA];exact hc))
 repeat((conv=>whnf);first|refine sT ?_ )
 try(conv=>whnf)
 refine LoopK.run mixed [] (fun k:Nat=>k≤A.length) (fun k=>[(2,encReqs after),(6,.ptr 0 0),(15,.ptr 2 0),(18,.int .i64 0),(19,.ptr 3 0),(20,.int .i64 0),(21,.int .i64 (busF A)),(22,.int .i64 0),(23,.int .i64 (busF (A.take k))),(85,encCells A),(86,.int .i64 A.length),(87,.int .i64 k)]) (fun k=>⟨bgS n s T Z,[],0,0,fun _=>0⟩) (fun k=>A.length-k) 0 (by omega) ?_ ?_
 ·refine fN ?_<;>repeat' (first|exact fQ|refine And.intro ?_ ?_|exact SeesL.rfl' _|exact Sees.int (by simp))
 rintro k hkk
 by_cases hkl:k < A.length
 ·obtain⟨c,hgc⟩:=getLt hkl
  have hmc:=getMap (f:=Cell.av) hgc
  have hoc:=hAo c (List.mem_of_getElem? hgc)
  have gk:decide ((k:Int) < (A.length:Int))=true:=decide_eq_true (by omega)
  have go1:decide (c.off < 0)=false:=decide_eq_false (by omega)
  have go2:decide (15 < c.off)=false:=decide_eq_false (by omega)
  repeat((conv=>whnf);first|refine sJ ?_|refine aI (by first|exact trivial|exact inbMap hkl|exact hoc.1|kernel_rfl) ?_|rw[gk]|rw[hmc]|rw[go1]|rw[go2])
  try(conv=>whnf)
  refine⟨k+1,hkl,by omega,?_⟩
  rw[take_succ hgc,busF_snoc]
  refine fN ?_<;>repeat' (first|exact fQ|refine And.intro ?_ ?_|exact SeesL.rfl' _|exact Sees.int (succI hkl (by omega)))
 have hke:k=A.length:=by omega
 subst hke
 have gk:decide ((A.length:Int) < (A.length:Int))=false:=decide_eq_false (by omega)
 have gb:(busF A != busF A)=false:=by simp
 rw[List.take_length]
 repeat((conv=>whnf);first|refine sT ?_|rw[gk]|rw[gb])
 try(conv=>whnf)
 refine⟨SemK.bornO 4 5 40 30 [.int .i64 Z.len,.int .i64 Z.offs] rfl (LoopK.out ?_)⟩
 refine LoopK.run mixed [] (fun k:Nat=>k≤Z.cells.length) (fun k=>[(2,encReqs after),(6,.ptr 0 0),(26,.ptr 4 0),(126,encCells Z.cells),(127,.int .i64 Z.cells.length),(128,.int .i64 k)]) (fun k=>⟨bgS n s T Z++[.cells [.int .i64 Z.len,.int .i64 Z.offs,.own ((ownK after Z.cells k).map Cell.av) 0] 30],[((ownK after Z.cells k).length,5)],0,0,fun _=>40⟩) (fun k=>Z.cells.length-k) 0 (by omega) ?_ ?_
 ·refine fN ?_<;>repeat' (first|exact fQ|refine And.intro ?_ ?_|exact SeesL.rfl' _|exact Sees.int (by simp))
 rintro k hkk
 by_cases hkl:k < Z.cells.length
 rotate_left
 ·have hke:k=Z.cells.length:=by omega
  subst hke
  have gk:decide ((Z.cells.length:Int) < (Z.cells.length:Int))=false:=decide_eq_false (by omega)
  have hfin:ownK after Z.cells Z.cells.length=(ownQ after Z).cells:=by unfold ownK ownQ;rw[List.take_length]
  rw[hfin]
  have hend:((makeM n after (ownQ after Z)).2.2==0)=true:=by
   have:=hk.ends
   unfold endsB at this
   rw[hZ]
   simpa using this
  repeat((conv=>whnf);first|refine sT ?_|rw[gk])
  try(conv=>whnf)
  refine cD (c_Serves38 LW n hn after (by omega) hx2 (ownQ after Z) (Nat.le_trans (List.length_filter_le _ _) (by omega))) ?_
  rw[hend]
  repeat((conv=>whnf);first|refine sT ?_ )
  try(conv=>whnf)
  exact resP.mk rfl (Sees.bool rfl)
 obtain⟨c,hgc⟩:=getLt hkl
 have hmc:=getMap (f:=Cell.av) hgc
 have hnx:=ownK_next (after:=after) hgc
 have hkn:=ownK_len after Z.cells k
 have gk:decide ((k:Int) < (Z.cells.length:Int))=true:=decide_eq_true (by omega)
 have hany:(after.any fun x=>x.flow.id==c.flow)=(getQ after c.flow).isSome:=(getQ_has after c.flow).symm
 repeat((conv=>whnf);first|refine sJ ?_|refine aI (by first|exact trivial|exact inbMap hkl|kernel_rfl) ?_|rw[gk]|rw[hmc])
 try(conv=>whnf)
 refine cB (c_ContainsFuncReqC LW after (fun x=>x.flow.id==c.flow) 31 [.cptr c.av 0] (by omega) rfl rfl (fun x _=>c_begins1 x c)) ?_
 rw[hany]
 cases hs:(getQ after c.flow).isSome with
 | true=>
  rw[hs,if_pos rfl]at hnx
  repeat((conv=>whnf);first|refine sJ ?_|refine aI (by first|exact trivial|exact Els.map (f:=Cell.av) (fun _=>⟨rfl,rfl⟩)|exact(show _*40≤_ by simp only[List.length_map,List.length_cons,List.length_nil];omega)|exact(by simp only[List.length_map,List.length_append,List.length_cons,List.length_nil,maxLen];omega)|exact(show some (_,_)=some (_,_) by simp only[List.length_map])|kernel_rfl) ?_ )
  try(conv=>whnf)
  refine⟨k+1,by omega,by omega,?_⟩
  rw[hnx]
  refine fN ?_<;>repeat' (first|exact fQ|refine And.intro ?_ ?_|exact SeesL.rfl' _|exact Sees.int (succI hkl (by omega))|exact Sees.own (by simp;rfl)|(show(_,_)=(_,_);exact Prod.ext (by simp only[List.length_append,List.length_map,List.length_cons,List.length_nil]) rfl))
 | false=>
  rw[hs,if_neg (by decide),List.append_nil]at hnx
  repeat((conv=>whnf);first|refine sT ?_ )
  try(conv=>whnf)
  refine⟨k+1,by omega,by omega,?_⟩
  rw[hnx]
  refine fN ?_<;>repeat' (first|exact fQ|refine And.intro ?_ ?_|exact SeesL.rfl' _|exact Sees.int (succI hkl (by omega)))
end HM
