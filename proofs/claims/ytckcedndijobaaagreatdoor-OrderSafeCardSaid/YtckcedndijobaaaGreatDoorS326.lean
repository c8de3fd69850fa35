/- OrderSafe: the law. -/
import Derived.Test.YtckcedndijobaaaGreatDoorS309
import Derived.Test.YtckcedndijobaaaGreatDoorS314
import Derived.Test.YtckcedndijobaaaGreatDoorS93
import Derived.Test.YtckcedndijobaaaGreatDoorS259
import Derived.Test.YtckcedndijobaaaGreatDoorDe
set_option maxHeartbeats 64000000
set_option maxRecDepth 100000
namespace HM
open Go Go.RowKit Go.Proofs
theorem cell_same (a b:Cell):(a.slot==b.slot&&(a.off==b.off&&(a.src==b.src&&(a.dst==b.dst&&(a.flow==b.flow&&true)))))=decide (a=b):=by
 rw[Bool.eq_iff_iff]
 simp only[Bool.and_eq_true,beq_iff_eq,and_true,decide_eq_true_eq]
 constructor
 ·rintro⟨h1,h2,h3,h4,h5⟩
  cases a;cases b
  simp only at h1 h2 h3 h4 h5
  subst h1;subst h2;subst h3;subst h4;subst h5;rfl
 ·rintro rfl;exact⟨rfl,rfl,rfl,rfl,rfl⟩
theorem upto_fin {t:Int}:∀{l:List Chg},(∀c∈l,c.slot≤t)→uptoW l t=l
 | [],_=>rfl
 | c :: l,h=>by
  unfold uptoW
  rw[List.takeWhile_cons_of_pos (by simpa using h c (List.mem_cons_self ..))]
  exact congrArg _ (upto_fin fun d hd=>h d (List.mem_cons_of_mem _ hd))
def shfK (l:List Chg)(d:Int)(k:Nat):List Chg:=(l.take k).map (fun c=>⟨c.slot+d,c.add,c.cell⟩)++l.drop k
theorem shfK_len (l:List Chg)(d:Int)(k:Nat):(shfK l d k).length=l.length:=by
 unfold shfK
 rw[List.length_append,List.length_map,←List.length_append,List.take_append_drop]
theorem shfK_all (l:List Chg)(d:Int):shfK l d l.length=l.map fun c=>⟨c.slot+d,c.add,c.cell⟩:=by
 unfold shfK
 rw[List.take_length,List.drop_length,List.append_nil]
theorem shfK_at {l:List Chg}{d:Int}{k:Nat}{c:Chg}(h:l[k]? = some c):(shfK l d k)[k]? = some c:=by
 have hk:=(List.getElem?_eq_some_iff.1 h).1
 unfold shfK
 rw[List.getElem?_append_right (by rw[List.length_map,List.length_take];omega),List.length_map,List.length_take,Nat.min_eq_left (by omega),Nat.sub_self,List.getElem?_drop,Nat.add_zero,h]
theorem shfK_next {l:List Chg}{d:Int}{k:Nat}{c:Chg}(h:l[k]? = some c):(shfK l d k).set k ⟨c.slot+d,c.add,c.cell⟩=shfK l d (k+1):=by
 have hk:=(List.getElem?_eq_some_iff.1 h).1
 have hd:l.drop k=c :: l.drop (k+1):=by
  rw[List.drop_eq_getElem_cons hk,(List.getElem?_eq_some_iff.1 h).2]
 unfold shfK
 rw[List.set_append_right _ _ (by rw[List.length_map,List.length_take];omega),List.length_map,List.length_take,Nat.min_eq_left (by omega),Nat.sub_self,hd,List.set_cons_zero,take_succ h,List.map_append,List.append_assoc]
 rfl
theorem chg_put (v:Int)(ex:List AV):∀{l:List Chg} {k:Nat} {c:Chg},l[k]? = some c→splice (flatE (l.map Chg.av)++ex) (k*7+0) [.int .i64 v] = flatE ((l.set k ⟨v,c.add,c.cell⟩).map Chg.av)++ex
 | [],_,_,h=>by cases h
 | d :: l,0,c,h=>by
  rw[List.getElem?_cons_zero]at h
  cases h
  rw[splice_one];rfl
 | d :: l,k+1,c,h=>by
  have ih:=chg_put v ex (l:=l) (k:=k) (c:=c) (by simpa using h)
  have e:flatE ((d :: l).map Chg.av)++ex=d.av.cells++(flatE (l.map Chg.av)++ex):=by simp[flatE]
  have e2:(k+1)*7+0=d.av.cells.length+(k*7+0):=by show _=7+_;omega
  rw[e,e2,splice_append_left,ih]
  simp[flatE]
theorem chg_putAt (v:Int)(ex:List AV){l:List Chg}{k:Nat}{c:Chg}(h:l[k]? = some c)(n o:Nat)(hn:n=7)(ho:o=0):splice (flatE (l.map Chg.av)++ex) (0+(k:Int).toNat*n+o) [.int .i64 v] = flatE ((l.set k ⟨v,c.add,c.cell⟩).map Chg.av)++ex:=by
 subst hn;subst ho
 rw[Nat.zero_add,Int.toNat_natCast]
 exact chg_put v ex h
theorem chg_slot {l:List Chg}{k:Nat}{c:Chg}(ex:List AV)(h:l[k]? = some c)(n o:Nat)(hn:n=7)(ho:o=0):(flatE (l.map Chg.av)++ex)[0+(k:Int).toNat*n+o]? = some (.int .i64 c.slot):=by
 subst hn;subst ho
 rw[Nat.zero_add,Int.toNat_natCast,chgOk.ldc ex h 0 (by omega)];rfl
theorem c_safe1 (x y:Chg):PCall Tryz.prog LW 28 [y.av,.cptr x.av 0] (.bool (y.add==x.add&&decide (y.cell=x.cell))):=by
 refine PCall.intro mixed [] (nt:=16) Tryz.func28 rfl rfl (by simp) ?_
 cases h:(y.add==x.add) with
 | false=>
  repeat((conv=>whnf);first|refine sT ?_|rw[h])
  try(conv=>whnf)
  exact resP.mk rfl (Sees.bool rfl)
 | true=>
  repeat((conv=>whnf);first|refine sT ?_|rw[h])
  try(conv=>whnf)
  exact resP.mk rfl (Sees.bool (by rw[←cell_same];rfl))
def kp43 (n:Net)(s t:Sched):List Ob:=[.cells n.cs 36,.cells s.av.cells 24,.cells t.av.cells 24,.cells t.av.cells 24]
theorem c_OrderSafe (n:Net)(before after:List Req)(s t:Sched)(more:Int)(hn:n.small)(hq1:before.length≤281474976710656)(hx1:∀x∈before,x.small)(hq2:after.length≤281474976710656)(hx2:∀x∈after,x.small)(h0:0≤more)(h1:more≤65535):PCall Tryz.prog LW 8 [n.av,encReqs before,encReqs after,s.av,t.av,.int .u16 more] (.bool true):=by
 refine PCall.intro mixed [] (nt:=140) Tryz.func8 rfl rfl (by simp) ?_
 refine Wk ?_
 refine cD (c_awake43) ?_
 repeat((conv=>whnf);first|refine sT ?_ )
 try(conv=>whnf)
 refine cD (c_Few43 LW n hn before after hq1 hq2 hx1 hx2 s t) ?_
 cases g:few43 n before after s t with
 | false=>
  repeat((conv=>whnf);first|refine sT ?_ )
  try(conv=>whnf)
  exact resP.mk rfl (Sees.bool rfl)
 | true=>
 obtain⟨f1,f2,f3,f4⟩:=few43_len g
 have hf:=c_FindO n hn before after (by omega) (by omega) hx1 hx2 s t (by omega) (by omega)
 repeat((conv=>whnf);first|refine sT ?_ )
 try(conv=>whnf)
 by_cases ho:openO n before after s t=0
 rotate_left
 ·rw[(open_bad ho).1]at hf
  have gE:(openO n before after s t != 0)=true:=by simpa using ho
  refine cD (hf) ?_
  repeat((conv=>whnf);first|refine sT ?_|rw[gE])
  try(conv=>whnf)
  exact resP.mk rfl (Sees.bool rfl)
 by_cases hc:cntO (stO s t) (cnO n before after s t) 0=0
 ·rw[find_no ho hc]at hf
  refine cD (hf) ?_
  repeat((conv=>whnf);first|refine sT ?_ )
  try(conv=>whnf)
  exact resP.mk rfl (Sees.bool rfl)
 obtain⟨o,ho1,hck,ho2,ho3,ho4,ho5⟩:=order_safe ho (by omega) (Nat.pos_of_ne_zero hc)
 have hm:=(opn_ok ho).few
 rw[ho1]at hf
 have hst:=c_StepsO LW s t (by omega) (by omega)
 rw[(opn_ok ho).steps]at hst
 have hcc:=c_CheckC n hn before after (by omega) (by omega) hx1 hx2 s (by omega) o (by omega)
 rw[hck.check]at hcc
 have hap:=c_ApplyC s (by omega) o (by omega) 1073741824
 rw[hck.apply,upto_fin (fun c hc=>by have:=ho4 c hc;omega),ho3]at hap
 have hsm:=c_Same35 LW t (by omega)
 obtain⟨L,hL⟩:∃L,L=stepsL s t:=⟨_,rfl⟩
 rw[←hL]at hst ho2 hm ho5
 have gl:(((o.map Chg.av).length:Int) != ((L.map Chg.av).length:Int))=false:=by rw[List.length_map,List.length_map,ho2];simp
 refine cD (hf) ?_
 repeat((conv=>whnf);first|refine sT ?_ )
 try(conv=>whnf)
 refine cD (hst) ?_
 refine Wk ?_
 refine cD (hcc) ?_
 refine Wk ?_
 refine cD (hap) ?_
 repeat((conv=>whnf);first|refine sT ?_ )
 try(conv=>whnf)
 refine cD (hsm) ?_
 repeat((conv=>whnf);first|refine sT ?_|rw[gl])
 try(conv=>whnf)
 refine LoopK.run mixed [] (fun (k:Nat)=>k≤L.length) (fun k=>[(1,encReqs before),(2,encReqs after),(5,.int .u16 more),(6,.ptr 0 0),(9,.ptr 1 0),(13,encChgs o),(96,encChgs L),(97,.int .i64 L.length),(98,.int .i64 k)]) (fun k=>⟨kp43 n s t,[],0,0,fun _=>0⟩) (fun k=>L.length-k) 0 (by omega) ?_ ?_
 ·refine fN ?_<;>repeat' (first|exact fQ|refine And.intro ?_ ?_|exact SeesL.rfl' _|exact Sees.int (by simp))
 rintro k hk
 by_cases hkl:k < L.length
 ·obtain⟨x,hgx⟩:=getLt hkl
  have hmx:=getMap (f:=Chg.av) hgx
  have gk:decide ((k:Int) < (L.length:Int))=true:=decide_eq_true (by omega)
  have hany:o.any (fun y=>y.add==x.add&&decide (y.cell=x.cell))=true:=by
   obtain⟨y,hy,e1,e2⟩:=ho5 x (List.mem_of_getElem? hgx)
   rw[List.any_eq_true]
   exact⟨y,hy,by rw[e1,e2];simp⟩
  repeat((conv=>whnf);first|refine sJ ?_|refine aI (by first|exact trivial|exact inbMap hkl|kernel_rfl) ?_|rw[gk]|rw[hmx])
  try(conv=>whnf)
  refine CallK.box rfl (c_ContainsFuncChgC LW o (fun y=>y.add==x.add&&decide (y.cell=x.cell)) 28 [.cptr x.av 0] (by omega) rfl rfl (fun y _=>c_safe1 x y)) rfl rfl ?_
  rw[hany]
  repeat((conv=>whnf);first|refine sT ?_ )
  try(conv=>whnf)
  refine⟨k+1,by omega,by omega,?_⟩
  refine fN ?_<;>repeat' (first|exact fQ|refine And.intro ?_ ?_|exact SeesL.rfl' _|exact Sees.int (succI hkl (by omega)))
 have hke:k=L.length:=by omega
 subst hke
 have gk:decide ((L.length:Int) < (L.length:Int))=false:=decide_eq_false (by omega)
 have hcs:=c_CheckC n hn before after (by omega) (by omega) hx1 hx2 s (by omega) (o.map fun c=>⟨c.slot+more,c.add,c.cell⟩) (by rw[List.length_map];omega)
 rw[(ck_shift hck ho4 h0 h1).check]at hcs
 have hwm:IntKind.i64.wrap more=more:=by rw[w64]<;>omega
 repeat((conv=>whnf);first|refine sT ?_|rw[gk])
 try(conv=>whnf)
 by_cases hne:o=[]
 ·subst hne
  refine cD (c_Clone0Chg LW) ?_
  repeat((conv=>whnf);first|refine sT ?_ )
  try(conv=>whnf)
  refine LoopK.run mixed [] (fun (k:Nat)=>k≤0) (fun k=>[(1,encReqs before),(2,encReqs after),(5,.int .u16 more),(6,.ptr 0 0),(9,.ptr 1 0),(23,encChgs []),(110,.int .i64 0),(111,.int .i64 k)]) (fun k=>⟨kp43 n s t,[],0,0,fun _=>0⟩) (fun k=>0-k) 0 (by omega) ?_ ?_
  ·refine fN ?_<;>repeat' (first|exact fQ|refine And.intro ?_ ?_|exact SeesL.rfl' _)
  rintro k hk2
  have hk0:k=0:=by omega
  subst hk0
  repeat((conv=>whnf);first|refine sT ?_ )
  try(conv=>whnf)
  refine cD (hcs) ?_
  repeat((conv=>whnf);first|refine sT ?_ )
  try(conv=>whnf)
  exact resP.mk rfl (Sees.bool rfl)
 refine CallK.fresh rfl (c_CloneChg LW o hne (by omega)) (by rfl) (chgOk.els _) (chgOk.scal (fun _=>rfl) _) (fun h=>absurd (by simpa using h) hne) (fun dd=>?_)
 repeat((conv=>whnf);first|refine sT ?_|rw[List.length_map])
 try(conv=>whnf)
 refine LoopK.run mixed [] (fun (k:Nat)=>k≤o.length) (fun k=>[(1,encReqs before),(2,encReqs after),(5,.int .u16 more),(6,.ptr 0 0),(9,.ptr 1 0),(23,.vsl 4 0 o.length 7),(110,.int .i64 o.length),(111,.int .i64 k)]) (fun k=>⟨kp43 n s t++[.cells (flatE ((shfK o more k).map Chg.av)++List.replicate (dd*7) .undef) 54],[],0,0,fun _=>0⟩) (fun k=>o.length-k) 0 (by omega) ?_ ?_
 ·refine fN ?_<;>repeat' (first|exact fQ|refine And.intro ?_ ?_|exact SeesL.rfl' _|exact okks_append (chgOk.okk _ _ _) (okks_undef _ _ _)|exact Sees.int (by simp))
 rintro k hk2
 by_cases hkl:k < o.length
 ·obtain⟨c,hgc⟩:=getLt hkl
  have hat:=shfK_at (d:=more) hgc
  have hsl:=ho4 c (List.mem_of_getElem? hgc)
  have hws:IntKind.i64.wrap (c.slot+more)=c.slot+more:=by rw[w64]<;>omega
  have gk2:decide ((k:Int) < (o.length:Int))=true:=decide_eq_true (by omega)
  have hfit:=chgOk.fit1 (l:=shfK o more k) (List.replicate (dd*7) AV.undef) (k:=k) (by rw[shfK_len];exact hkl)
  have hft1:0+(k:Int).toNat*7+0+1≤(flatE ((shfK o more k).map Chg.av)++List.replicate (dd*7) AV.undef).length:=by omega
  repeat((conv=>whnf);first|refine sJ ?_|refine aI (by first|exact trivial|exact⟨by omega,by omega⟩|kernel_rfl) ?_|rw[gk2])
  try(conv=>whnf)
  rw[chg_slot _ hat _ _ (by kernel_rfl) (by kernel_rfl)]
  repeat((conv=>whnf);first|refine sJ ?_|refine aI (by first|exact trivial|exact⟨by omega,by omega⟩|exact hft1|kernel_rfl) ?_|rw[hwm]|rw[hws])
  try(conv=>whnf)
  refine⟨k+1,by omega,by omega,?_⟩
  refine fN ?_<;>repeat' (first|exact fQ|refine And.intro ?_ ?_|exact SeesL.rfl' _|exact okks_append (chgOk.okk _ _ _) (okks_undef _ _ _)|exact Sees.int (succI hkl (by omega))|exact SeesL.of_eq ((chg_putAt _ _ hat _ _ (by kernel_rfl) (by kernel_rfl)).trans (by rw[shfK_next hgc])))
 have hke2:k=o.length:=by omega
 subst hke2
 have gk2:decide ((o.length:Int) < (o.length:Int))=false:=decide_eq_false (by omega)
 have hsl2:(shfK o more o.length).length=o.length:=shfK_len _ _ _
 repeat((conv=>whnf);first|refine sT ?_|rw[gk2])
 try(conv=>whnf)
 rw[shfK_all]at *
 refine CallK.boxU rfl hcs (fz2 rfl (fz2 rfl (fz2 rfl (fz2 rfl (fz2 (chgOk.fzb (ex:=List.replicate (dd*7) AV.undef) (t:=54) rfl (by rw[List.length_map])) rfl))))) ?_
 repeat((conv=>whnf);first|refine sT ?_ )
 try(conv=>whnf)
 exact resP.mk rfl (Sees.bool rfl)
end HM
