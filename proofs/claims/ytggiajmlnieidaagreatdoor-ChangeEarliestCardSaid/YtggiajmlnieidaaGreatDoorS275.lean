/- Changes: the law ChangeEarliest. -/
import Derived.Test.YtggiajmlnieidaaGreatDoorS270
import Derived.Test.YtggiajmlnieidaaGreatDoorS43
import Derived.Test.YtggiajmlnieidaaGreatDoorDe
set_option maxHeartbeats 64000000
set_option maxRecDepth 100000
namespace HM
open Go Go.RowKit Go.Proofs
theorem c_early1 (c:Chg):PCall Tryz.prog LW 14 [c.av] (.bool (decide (1048576 < c.slot))):=by
 refine PCall.intro mixed [] (nt:=6) Tryz.func14 rfl rfl (by simp) ?_
 refine Wk ?_
 exact resP.mk rfl (Sees.bool rfl)
theorem chg_sts (v:Int)(ex:List AV):∀{l:List Chg} {k:Nat} {c:Chg},l[k]? = some c→splice (flatE (l.map Chg.av)++ex) (k*7+0) [.int .i64 v] = flatE ((l.set k ⟨v,c.add,c.cell⟩).map Chg.av)++ex
 | [],_,_,h=>by cases h
 | d :: l,0,c,h=>by
  rw[List.getElem?_cons_zero]at h
  cases h
  rw[splice_one];rfl
 | d :: l,k+1,c,h=>by
  have ih:=chg_sts v ex (l:=l) (k:=k) (c:=c) (by simpa using h)
  have e:flatE ((d :: l).map Chg.av)++ex=d.av.cells++(flatE (l.map Chg.av)++ex):=by simp[flatE]
  have e2:(k+1)*7+0=d.av.cells.length+(k*7+0):=by show _=7+_;omega
  rw[e,e2,splice_append_left,ih]
  simp[flatE]
theorem chg_lds {l:List Chg}{k:Nat}{c:Chg}(ex:List AV)(h:l[k]? = some c)(n o:Nat)(hn:n=7)(ho:o=0):(flatE (l.map Chg.av)++ex)[0+(k:Int).toNat*n+o]? = some (.int .i64 c.slot):=by
 subst hn;subst ho
 rw[Nat.zero_add,Int.toNat_natCast,chgOk.ldc ex h 0 (by omega)];rfl
theorem cell_eqv (a b:Cell):(a.slot==b.slot&&(a.off==b.off&&(a.src==b.src&&(a.dst==b.dst&&(a.flow==b.flow&&true)))))=decide (a=b):=by
 rw[Bool.eq_iff_iff]
 simp only[Bool.and_eq_true,beq_iff_eq,and_true,decide_eq_true_eq]
 constructor
 ·rintro⟨h1,h2,h3,h4,h5⟩
  cases a;cases b
  simp only at h1 h2 h3 h4 h5
  subst h1;subst h2;subst h3;subst h4;subst h5;rfl
 ·rintro rfl;exact⟨rfl,rfl,rfl,rfl,rfl⟩
def stayK (before after:List Req)(k:Nat):List Flow:=((before.take k).filter fun x=>stayB before after x.flow.id).map Req.flow
theorem stayK_len (before after:List Req)(k:Nat):(stayK before after k).length≤k:=by
 unfold stayK
 rw[List.length_map]
 refine Nat.le_trans (List.length_filter_le _ _) ?_
 rw[List.length_take];omega
theorem stayK_next {before after:List Req}{k:Nat}{x:Req}(h:before[k]? = some x):stayK before after (k+1)=stayK before after k++if stayB before after x.flow.id=true then [x.flow] else []:=by
 unfold stayK
 rw[take_succ h,List.filter_append,List.map_append]
 congr 1
 cases hs:stayB before after x.flow.id<;>simp[hs]
theorem stayK_all (before after:List Req):stayK before after before.length=stayF before after:=by unfold stayK stayF;rw[List.take_length]
theorem c_ChangeEarliest (n:Net)(before after:List Req)(s:Sched)(l:List Chg)(fr:Int)(hn:n.small)(hq1:before.length≤281474976710656)(hx1:∀x∈before,x.small)(hq2:after.length≤281474976710656)(hx2:∀x∈after,x.small)(hl:l.length≤281474976710656)(h0:0≤fr)(h1:fr≤65535) :
  PCall Tryz.prog LW 4 [n.av,encReqs before,encReqs after,s.av,encChgs l,.int .u16 fr] (.bool true):=by
 refine PCall.intro mixed [] (nt:=215) Tryz.func4 rfl rfl (by simp) ?_
 refine Wk ?_
 refine cD (c_awake42) ?_
 refine Wk ?_
 refine cD (c_Few42 LW n hn before after hq1 hq2 hx1 hx2 s l) ?_
 cases g:few42 n before after s l with
 | false=>
  repeat((conv=>whnf);first|refine sT ?_ )
  try(conv=>whnf)
  exact resP.mk rfl (Sees.bool rfl)
 | true=>
 obtain⟨f1,f2,f3,f4⟩:=few42_len g
 cases g2:((l.length:Int)==0) with
 | true=>
  repeat((conv=>whnf);first|refine sT ?_|rw[List.length_map]|rw[g2])
  try(conv=>whnf)
  exact resP.mk rfl (Sees.bool rfl)
 | false=>
 repeat((conv=>whnf);first|refine sT ?_|rw[List.length_map]|rw[g2])
 try(conv=>whnf)
 refine cD (c_ContainsFuncChgC LW l (fun c=>decide (1048576 < c.slot)) 14 [] hl rfl rfl (fun x _=>c_early1 x)) ?_
 cases g3:l.any fun c=>decide (1048576 < c.slot) with
 | true=>
  repeat((conv=>whnf);first|refine sT ?_ )
  try(conv=>whnf)
  exact resP.mk rfl (Sees.bool rfl)
 | false=>
 have hs:∀c∈l,c.slot≤1048576:=fun c hc=>by have:=List.any_eq_false.1 g3 c hc;simp only[decide_eq_true_eq]at this;omega
 repeat((conv=>whnf);first|refine sT ?_ )
 try(conv=>whnf)
 refine cD (c_CheckC n hn before after (by omega) (by omega) hx1 hx2 s (by omega) l hl) ?_
 by_cases hck:(checkC n before after s l).2≠0
 ·have gc:((checkC n before after s l).2 != 0)=true:=by simpa using hck
  repeat((conv=>whnf);first|refine sT ?_|rw[gc])
  try(conv=>whnf)
  exact resP.mk rfl (Sees.bool rfl)
 have gc:((checkC n before after s l).2 != 0)=false:=by simpa using hck
 have hk:=ckOk (n:=n) (before:=before) (after:=after) (s:=s) (l:=l) (by simpa using hck)
 have hW:=wholeC_ok hk.whole
 obtain⟨m,hm1,hm2⟩:=time_from (fr:=fr) hk h0 (by omega)
 obtain⟨c0,hc0⟩:=getLt (l:=l) (k:=0) (by simp only[beq_eq_false_iff_ne]at g2;omega)
 obtain⟨o,ho1,ho2,ho3⟩:=time_first hk hs hc0
 have hmk:=timed_ok hk h0 hm2
 have hmc:=hmk.check
 have hml:=hm2.len
 have hol:=ho2.len
 repeat((conv=>whnf);first|refine sT ?_|rw[gc])
 try(conv=>whnf)
 refine LoopK.born 15 6 46 rfl ?_
 refine LoopK.run mixed [] (fun (k:Nat)=>k≤before.length) (fun k=>[(1,encReqs before),(2,encReqs after),(4,encChgs l),(5,.int .u16 fr),(6,.ptr 0 0),(9,.ptr 1 0),(15,.own ((stayK before after k).map Flow.av) 0),(57,encReqs before),(58,.int .i64 before.length),(59,.int .i64 k)]) (fun k=>⟨kp42 n s,[((stayK before after k).length,6)],0,0,fun _=>46⟩) (fun k=>before.length-k) 0 (by omega) ?_ ?_
 ·refine fN ?_<;>repeat' (first|exact fQ|refine And.intro ?_ ?_|exact SeesL.rfl' _|exact Sees.int (by simp))
 rintro k hk2
 by_cases hkl:k < before.length
 ·obtain⟨x,hgx⟩:=getLt hkl
  have hmx:=getMap (f:=Req.av) hgx
  have hnx:=stayK_next (after:=after) hgx
  have hkln:=stayK_len before after k
  have gk:decide ((k:Int) < (before.length:Int))=true:=decide_eq_true (by omega)
  repeat((conv=>whnf);first|refine sJ ?_|refine aI (by first|exact trivial|exact inbMap hkl|kernel_rfl) ?_|rw[gk]|rw[hmx])
  try(conv=>whnf)
  refine cD (c_Stays42 LW before after x.flow.id (by omega) (by omega)) ?_
  cases hst:stayB before after x.flow.id with
  | true=>
   rw[hst,if_pos rfl]at hnx
   repeat((conv=>whnf);first|refine sJ ?_|refine aI (by first|exact trivial|exact Els.map (f:=Flow.av) (fun _=>⟨rfl,rfl⟩)|exact(show _*48≤_ by simp only[List.length_map,List.length_cons,List.length_nil];omega)|exact(by simp only[List.length_map,List.length_cons,List.length_nil,maxLen];omega)|exact(show some (_,_)=some (_,_) by simp only[List.length_map])|kernel_rfl) ?_ )
   try(conv=>whnf)
   refine⟨k+1,by omega,by omega,?_⟩
   rw[hnx]
   refine fN ?_<;>repeat' (first|exact fQ|refine And.intro ?_ ?_|exact SeesL.rfl' _|exact Sees.int (succI hkl (by omega))|exact Sees.own (by simp;rfl)|(show(_,_)=(_,_);exact Prod.ext (by simp only[List.length_append,List.length_map,List.length_cons,List.length_nil]) rfl))
  | false=>
   rw[hst,if_neg (by decide),List.append_nil]at hnx
   repeat((conv=>whnf);first|refine sT ?_ )
   try(conv=>whnf)
   refine⟨k+1,by omega,by omega,?_⟩
   rw[hnx]
   refine fN ?_<;>repeat' (first|exact fQ|refine And.intro ?_ ?_|exact SeesL.rfl' _|exact Sees.int (succI hkl (by omega)))
 have hke:k=before.length:=by omega
 subst hke
 have gk:decide ((before.length:Int) < (before.length:Int))=false:=decide_eq_false (by omega)
 have hsl:(stayF before after).length≤281474976710656:=by rw[←stayK_all];have:=stayK_len before after before.length;omega
 rw[stayK_all]
 have hwf:IntKind.i64.wrap fr=fr:=by rw[w64]<;>omega
 have hmc0:(l.map Chg.av)[(0:Int).toNat]? = some c0.av:=getMap (f:=Chg.av) hc0
 have hl0:0 < l.length:=(List.getElem?_eq_some_iff.1 hc0).1
 repeat((conv=>whnf);first|refine sT ?_|rw[gk]|rw[hwf])
 try(conv=>whnf)
 refine cD (c_TimeC (stayF before after) hsl l hl fr) ?_
 rw[hm1]
 repeat((conv=>whnf);first|refine sJ ?_|refine aI (by first|exact trivial|exact inbMap hl0|kernel_rfl) ?_|rw[hmc0])
 try(conv=>whnf)
 refine cD (c_TimeC (stayF before after) hsl l hl c0.slot) ?_
 rw[ho1]
 repeat((conv=>whnf);first|refine sT ?_ )
 try(conv=>whnf)
 refine cD (c_CheckC n hn before after (by omega) (by omega) hx1 hx2 s (by omega) m (by omega)) ?_
 rw[hmc]
 have hq1:(((m.map Chg.av).length:Int) != ((l.map Chg.av).length:Int))=false:=by rw[List.length_map,List.length_map,hml];simp
 have hq2:(((o.map Chg.av).length:Int) != ((l.map Chg.av).length:Int))=false:=by rw[List.length_map,List.length_map,hol];simp
 repeat((conv=>whnf);first|refine sT ?_|rw[hq1]|rw[hq2])
 try(conv=>whnf)
 refine LoopK.run mixed [] (fun (k:Nat)=>k≤l.length) (fun k=>[(1,encReqs before),(2,encReqs after),(4,encChgs l),(6,.ptr 0 0),(9,.ptr 1 0),(18,encChgs m),(20,encChgs o),(131,.int .i64 l.length),(132,.int .i64 k)]) (fun k=>⟨kp42 n s,[((stayF before after).length,6)],0,0,fun _=>46⟩) (fun k=>l.length-k) 0 (by omega) ?_ ?_
 ·refine fN ?_<;>repeat' (first|exact fQ|refine And.intro ?_ ?_|exact SeesL.rfl' _|exact Sees.int (by simp))
 rintro k hkk
 by_cases hkl:k < l.length
 rotate_left
 ·have gk2:decide ((k:Int) < (l.length:Int))=false:=decide_eq_false (by omega)
  repeat((conv=>whnf);first|refine sT ?_|rw[gk2])
  try(conv=>whnf)
  exact resP.mk rfl (Sees.bool rfl)
 have gk2:decide ((k:Int) < (l.length:Int))=true:=decide_eq_true (by omega)
 obtain⟨c,hgc⟩:=getLt hkl
 obtain⟨d,hgd⟩:=getLt (l:=o) (k:=k) (by omega)
 obtain⟨e,hge⟩:=getLt (l:=m) (k:=k) (by omega)
 have hko:k < o.length:=by omega
 have hkm:k < m.length:=by omega
 have hle:=ho3 k c d hgc hgd
 obtain⟨c',hc',hde⟩:=ho2.orig hgd
 rw[hgc]at hc'
 cases hc'
 have hda:d.add=c.add:=by rw[hde]
 have hdc:d.cell=c.cell:=by rw[hde]
 have hmc1:=getMap (f:=Chg.av) hgc
 have hmd1:=getMap (f:=Chg.av) hgd
 have hme1:=getMap (f:=Chg.av) hge
 have gle:decide (c.slot < d.slot)=false:=decide_eq_false (by omega)
 have gad:(d.add==c.add)=true:=by rw[hda];exact beq_self_eq_true _
 have gce:(d.cell.slot==c.cell.slot&&(d.cell.off==c.cell.off&&(d.cell.src==c.cell.src&&(d.cell.dst==c.cell.dst&&(d.cell.flow==c.cell.flow&&true)))))=true:=by rw[cell_eqv,hdc];exact decide_eq_true rfl
 cases hk0:((k:Int)==0) with
 | true=>
  repeat((conv=>whnf);first|refine sJ ?_|refine aI (by first|exact trivial|exact inbMap hkl|exact inbMap hko|kernel_rfl) ?_|rw[gk2]|rw[hmc1]|rw[hmd1]|rw[gle]|rw[gad]|rw[gce]|rw[hk0])
  try(conv=>whnf)
  refine⟨k+1,by omega,by omega,?_⟩
  refine fN ?_<;>repeat' (first|exact fQ|refine And.intro ?_ ?_|exact SeesL.rfl' _|exact Sees.int (succI hkl (by omega)))
 | false=>
 obtain⟨j,rfl⟩:∃j,k=j+1:=⟨k-1,by simp only[beq_eq_false_iff_ne]at hk0;omega⟩
 obtain⟨e1,hge1⟩:=getLt (l:=m) (k:=j) (by omega)
 have hme2:=getMap (f:=Chg.av) hge1
 have hjm:j < m.length:=by omega
 have hw1:IntKind.i64.wrap (((j+1:Nat):Int)-1)=(j:Int):=by rw[w64]<;>omega
 cases hse:(e.slot==e1.slot) with
 | true=>
  repeat((conv=>whnf);first|refine sJ ?_|refine aI (by first|exact trivial|exact inbMap hkl|exact inbMap hko|exact inbMap hkm|(rw[hw1];exact inbMap hjm)|kernel_rfl) ?_|rw[gk2]|rw[hmc1]|rw[hmd1]|rw[gle]|rw[gad]|rw[gce]|rw[hk0]|rw[hme1]|rw[hw1]|rw[hme2]|rw[hse])
  try(conv=>whnf)
  refine⟨j+1+1,by omega,by omega,?_⟩
  refine fN ?_<;>repeat' (first|exact fQ|refine And.intro ?_ ?_|exact SeesL.rfl' _|exact Sees.int (succI hkl (by omega)))
 | false=>
 have hone:=early_one hk h0 hm2 hge1 hge (by simpa using hse)
 have hne:m≠[]:=by rintro rfl;simp at hkm
 have hlo:=hm2.lo hge
 have htop:=hm2.top hge
 have hws:IntKind.i64.wrap (e.slot-1)=e.slot-1:=by rw[w64]<;>omega
 repeat((conv=>whnf);first|refine sJ ?_|refine aI (by first|exact trivial|exact inbMap hkl|exact inbMap hko|exact inbMap hkm|(rw[hw1];exact inbMap hjm)|kernel_rfl) ?_|rw[gk2]|rw[hmc1]|rw[hmd1]|rw[gle]|rw[gad]|rw[gce]|rw[hk0]|rw[hme1]|rw[hw1]|rw[hme2]|rw[hse])
 try(conv=>whnf)
 refine CallK.fresh rfl (c_CloneChg LW m hne (by omega)) (by rfl) (chgOk.els _) (chgOk.scal (fun _=>rfl) _) (fun h=>absurd (by simpa using h) hne) (fun dd=>?_)
 have hfit:=chgOk.fit1 (l:=m) (List.replicate (dd*7) AV.undef) (k:=j+1) hkm
 have hft1:0+((j+1:Nat):Int).toNat*7+0+1≤(flatE (m.map Chg.av)++List.replicate (dd*7) AV.undef).length:=by omega
 repeat((conv=>whnf);first|refine sJ ?_|refine aI (by first|exact trivial|exact⟨by omega,by rw[List.length_map];omega⟩|kernel_rfl) ?_ )
 try(conv=>whnf)
 rw[chg_lds _ hge _ _ (by kernel_rfl) (by kernel_rfl)]
 repeat((conv=>whnf);first|refine sJ ?_|refine aI (by first|exact trivial|exact⟨by omega,by rw[List.length_map];omega⟩|exact hft1|kernel_rfl) ?_|rw[hws])
 try(conv=>whnf)
 have hsl2:(m.set (j+1) ⟨e.slot-1,e.add,e.cell⟩).length=(m.map Chg.av).length:=by rw[List.length_set,List.length_map]
 refine CallK.boxU rfl (c_CheckC n hn before after (by omega) (by omega) hx1 hx2 s (by omega) (m.set (j+1) ⟨e.slot-1,e.add,e.cell⟩) (by rw[List.length_set];omega)) (fz2 rfl (fz2 rfl (fz2 rfl (fz2 rfl (fz2 (chgOk.fzb (ex:=List.replicate (dd*7) AV.undef) (t:=42) ?_ hsl2) rfl))))) ?_
 ·show some (Ob.cells (splice (flatE (m.map Chg.av)++List.replicate (dd*7) AV.undef) (0+((j+1:Nat):Int).toNat*7+0) [.int .i64 (e.slot-1)]) 42)=_
  rw[Nat.zero_add,Int.toNat_natCast,chg_sts _ _ hge]
 rw[hone]
 have hcm:((j:Int)+1 != ((j+1:Nat):Int))=false:=by rw[Int.natCast_add];simp
 repeat((conv=>whnf);first|refine sT ?_|rw[hcm])
 try(conv=>whnf)
 refine⟨j+1+1,by omega,by omega,?_⟩
 refine fN ?_<;>repeat' (first|exact fQ|refine And.intro ?_ ?_|exact SeesL.rfl' _|exact Sees.int (succI hkl (by omega)))
end HM
