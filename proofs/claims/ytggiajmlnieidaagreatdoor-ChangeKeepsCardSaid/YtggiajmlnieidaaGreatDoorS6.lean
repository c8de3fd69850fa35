/- The text of a schedule. -/
import Derived.Test.YtggiajmlnieidaaGreatDoorS1
import Derived.Lib.UnsafeStr
import Derived.Lib.FrozenHead
import Derived.RegionTactic
import Derived.ChangeAlike
import Derived.WalkKit
set_option maxRecDepth 100000
namespace HM
open Go Go.RowKit Go.Proofs
theorem zf4 (w:World)(b g:Nat)(p:Value)(cur:Array Value)(cap:Nat)(l:List UInt8)(h0:l≠[])(hbk:w.heap[b]? = some (.cells #[p,.slice (some ⟨g,0,none⟩) l.length cap] 236 (0,0)))
  (hg:w.heap[g]? = some (.cells cur 5 (0,0))) (hnc:l.length≤cap) (hsz:l.length≤cur.size) (h63:l.length≤9223372036854775807) (hcell:∀j x,l[j]? = some x→w.cell? ⟨g,j,none⟩=some (.int .u8 x.toNat)) :
  Calls Tryz.prog 198 #[.pointer (some ⟨b,0,none⟩)] w fun e w'=>e=.returned (.string ⟨l.toArray⟩)∧w'=w.drew.freeze ⟨g,0,none⟩ l.length:=by
 have hl0:l.length≠0:=by simpa using h0
 have c1:w.drew.cell? ⟨b,1,none⟩=some (.slice (some ⟨g,0,none⟩) l.length cap):=by
  have:w.drew.heap[b]? = some (.cells #[p,.slice (some ⟨g,0,none⟩) l.length cap] 236 (0,0)):=hbk
  rw[Lib.cell_of_heap this];rfl
 have hSD:(Builtin.unsafeSliceData_ #[234] 290 #[.slice (some ⟨g,0,none⟩) l.length cap]).run Tryz.prog w.drew=.ok (.pointer (some ⟨g,0,none⟩)) w.drew:=
  Lib.run_unsafeSliceData_row _ _ _ _ _ _ (by omega)
 have hUS:(Builtin.unsafeString_ #[290,3] 9 #[.pointer (some ⟨g,0,none⟩),.int .i64 l.length]).run Tryz.prog w.drew=.ok (.string ⟨l.toArray⟩) (w.drew.freeze ⟨g,0,none⟩ l.length):=by
  refine Lib.run_unsafeString_row w.drew 290 3 9 5 (by kernel_rfl) (by kernel_rfl) g cur.size (by have hg':w.drew.heap[g]? = some (.cells cur 5 (0,0)):=hg;simp[World.shape?,hg']) l h0 (by omega) h63 ?_
  intro j x hx
  rw[Addr.add_lit,Nat.zero_add]
  exact hcell j x hx
 go_enter Tryz.func198,Tryz.ntmps198
 go_wp2
 go_region
 all_goals(go_wp2;go_ret;exact⟨rfl,rfl⟩)
def qn (l:List UInt8):List AV:=l.map fun x=>.int .u8 x.toNat
theorem zgU {L:World→Prop}{S:St}{id ch:Nat}{p:AV}{l:List UInt8}{K:AV→St→Prop}(hb:S.bx[id]? = some (.cells [p,.own (qn l) ch] 236))(hF:S.fr[ch]? = some (l.length,1))(hty:S.ty ch=5)(h0:l≠[])
  (h63:l.length≤9223372036854775807) (hK:K (.str ⟨l.toArray⟩) {S with fr:=S.fr.set ch (l.length+1,1)}):zo Tryz.prog L S (.fn 198 []) [.ptr id 0] K:=by
 refine⟨fun ro w0 G w fvv vals hS ⟨cvs,hfe,hcv⟩ hargs=>?_⟩
 subst hfe
 obtain⟨u,us,rfl,⟨b,hρ,rfl⟩,hus⟩:=hargs
 obtain rfl:us=[]:=hus
 have hcv:cvs.toList=[]:=hcv
 have hcv:cvs=#[]:=by simpa using hcv
 subst hcv
 refine vY.fn rfl ?_
 obtain⟨b',ob,hr',hheap,arr,rfl,hasz,hv⟩:=hS.bx id _ hb rfl
 rw[hρ]at hr';injection hr' with hr';subst hr'
 have hlen2:arr.size=2:=by simpa using hasz
 rw[List.take_of_length_le (by simp;omega)]at hv
 obtain⟨pv,us,hl1,hp,bv,us2,hl2,hown,hl3⟩:=hv
 have hl3:us2=[]:=hl3
 subst hl3;subst hl2
 have harr:arr=#[pv,bv]:=by apply Array.ext';simpa using hl1
 subst harr
 obtain⟨F,sz,hF',hle,huni,hv⟩:=hown
 rw[hF]at hF';injection hF' with hF';injection hF' with e1 e2;subst e1;subst e2
 have hll:(qn l).length=l.length:=by simp[qn]
 rcases hv with ⟨_,hn,_⟩|⟨g,o,c,rfl,hc,hlt,hok,hm,hal⟩
 ·have:=congrArg List.length hn;rw[hll]at this;exact absurd (List.eq_nil_of_length_eq_zero this) h0
 obtain⟨hχ,rfl,cur,tt,hrow,hcs,_⟩:=hal hll
 obtain⟨_,⟨cur',fz,hrow'⟩,_⟩:=(hS.ch ch _ _ hF).2 g hχ
 rw[hrow]at hrow';injection hrow' with hrow';injection hrow' with f1 f2 f3
 have htt:tt=5:=f2.trans hty
 subst htt
 have hcell:∀j x,l[j]? = some x→w.cell? ⟨g,j,none⟩=some (.int .u8 x.toNat):=by
  intro j x hx
  obtain⟨u,hu,hn,ha⟩:=MC.get (sz:=1) (i:=j) huni hm (e:=.int .u8 x.toNat) (by simp[qn,hx])
  obtain rfl:u=_:=hu
  have:=ha 0 (.int .u8 x.toNat) rfl
  simpa using this
 rw[hll]at hheap hc
 refine(zf4 w b g pv cur c l h0 hheap hrow hc (by omega) h63 hcell).mono fun e w' ⟨he,hw⟩=>⟨_,he,?_⟩
 have hfr:(w.drew.freeze ⟨g,0,none⟩ l.length).os=w.os∧(w.drew.freeze ⟨g,0,none⟩ l.length).tape=w.tape∧(w.drew.freeze ⟨g,0,none⟩ l.length).output=w.output∧(w.drew.freeze ⟨g,0,none⟩ l.length).heap.size=w.heap.size ∧
   (∀k,k≠g→(w.drew.freeze ⟨g,0,none⟩ l.length).heap[k]? = w.heap[k]?)∧∀arr t fz,w.heap[g]? = some (.cells arr t fz)→∃fz',(w.drew.freeze ⟨g,0,none⟩ l.length).heap[g]? = some (.cells arr t fz'):=by
  unfold World.freeze
  split
  ·exact⟨rfl,rfl,rfl,rfl,fun _ _=>rfl,fun arr t fz h=>⟨fz,h⟩⟩
  ·refine⟨rfl,rfl,rfl,by simp,fun k hk=>?_,fun arr t fz h=>?_⟩
   ·simp only[Array.getElem?_modify]
    rw[if_neg (Ne.symm hk)];rfl
   ·simp only[Array.getElem?_modify,if_true]
    have h':w.drew.heap[g]? = some (.cells arr t fz):=h
    rw[h']
    exact⟨_,rfl⟩
 rw[←hw]at hfr
 obtain⟨q1,q2,q3,q4,q5,q6⟩:=hfr
 obtain⟨g1,g2⟩:=hS.froze hF hχ w' q1 q2 q3 q4 q5 q6
 exact⟨G,_,.str ⟨l.toArray⟩,g1,g2,rfl,hK⟩
def za7:ByteArray:=⟨#[115,99,104,101,100,117,108,101]⟩
def za8:ByteArray:=⟨#[99,101,108,108]⟩
def YO (w:ByteArray)(l:List Int):ByteArray:=lineB w l++⟨#[10]⟩
def V1:List UInt8→List zg→List UInt8
 | acc,[]=>acc
 | acc,c :: l=>V1 (acc++(YO za8 c.nums).data.toList) l
def zdd (s:zc):List UInt8:=V1 (YO za7 [s.len,s.offs]).data.toList s.cells
theorem WZ (w:ByteArray)(l:List Int)(hw:w.size≤8)(hl:l.length≤5)(h:∀n∈l,I64 n):(YO w l).size≤119∧(YO w l).size≠0:=by
 have h1:=lineB_size l w h
 have h10:(⟨#[10]⟩:ByteArray).size=1:=rfl
 simp only[YO,ByteArray.size_append,h10]
 omega
theorem J2 (b:ByteArray):b.data.toList.length=b.size:=by simp
theorem XR (a b:List UInt8):qn (a++b)=qn a++qn b:=by simp[qn]
theorem XQ (a:List UInt8):(qn a).length=a.length:=by simp[qn]
theorem zf1 (a:List UInt8):xF 1 (qn a):=xF.map (f:=fun x:UInt8=>AV.int .u8 x.toNat) (fun _=>⟨rfl,rfl⟩)
theorem zdn {s:zc}{c:zg}(hs:wA s=true)(h:yR s c=true):∀n∈c.nums,I64 n:=by
 simp[wA]at hs
 simp[yR,wy,yE]at h
 intro n hn
 simp[zg.nums]at hn
 unfold I64
 rcases hn with rfl|rfl|rfl|rfl|rfl<;>omega
theorem zez (s:zc):zb Tryz.prog LW 145 [s.av] (.tup [.str (if yc s then ⟨(zdd s).toArray⟩ else ⟨#[]⟩),.int .i64 (if yc s then 0 else 1)]):=by
 refine zb.intro mixed [] (nt:=32) Tryz.func145 rfl rfl (by simp) ?_
 refine Wk ?_
 refine cD (c_form LW s) ?_
 refine Wk ?_
 refine zx.mk (fun h1=>?_) (fun h1=>?_)<;>(try rw[h1])
 ·refine Wk ?_
  exact ze.mk rfl (za.of_eq (by simp at h1;simp[h1]))
 simp at h1
 have hsz:wA s=true:=by simp[yc]at h1;exact h1.1.1
 have hal:∀j,j < s.cells.length→Xr s j=true:=by simp[yc]at h1;exact h1.2
 have hlen:s.cells.length≤512:=by simp[yc]at h1;exact h1.1.2
 refine Wk ?_
 have e1:I64 s.len:=by simp[wA]at hsz;unfold I64;omega
 have e2:I64 s.offs:=by simp[wA]at hsz;unfold I64;omega
 have e3:∀n∈[s.len,s.offs],I64 n:=by intro n hn;simp at hn;rcases hn with rfl|rfl<;>assumption
 refine cD (c_line za7 [s.len,s.offs] (by decide) (by simp) e3) ?_
 have hs0:=WZ za7 [s.len,s.offs] (by decide) (by simp) e3
 obtain⟨t0,ht0⟩:∃t0,t0=YO za7 [s.len,s.offs]:=⟨_,rfl⟩
 rw[show lineB za7 [s.len,s.offs]++⟨#[10]⟩=t0 from ht0.symm]
 rw[←ht0]at hs0
 refine Wk ?_
 refine zo.inl rfl (zQ.intro mixed [] (nt:=19) Tryz.func196 rfl rfl (by simp) ?_)
 refine Wk ?_
 refine zo.inl rfl (zQ.intro mixed [] (nt:=20) Tryz.func245 rfl rfl (by simp) ?_)
 refine Wk ?_
 refine zo.same rfl (by kernel_rfl) (by kernel_rfl) (by kernel_rfl) (by kernel_rfl) ?_
 refine Wk ?_
 repeat((conv=>whnf);first|refine sJ ?_|refine aI (by first|omega|kernel_rfl) ?_ )
 try(conv=>whnf)
 refine zt.run mixed [] (fun q:Nat×List UInt8=>q.1≤s.cells.length∧q.2.length≤119*(q.1+1)∧q.2≠[]∧V1 q.2 (s.cells.drop q.1)=zdd s) (fun q=>[(4,.ptr 1 0),(19,zy s.cells),(20,.int .i64 s.cells.length),(21,.int .i64 q.1)])
  (fun q=>⟨[.cells [.int .i64 s.len,.int .i64 s.offs,zy s.cells] 30,.cells [.ptr 1 0,.own (qn q.2) 1] 236],[(2,1),((qn q.2).length,1)],0,0,fun k=>if k=1 then 5 else if k=0 then 3 else 0⟩) (fun q=>s.cells.length-q.1) (0,t0.data.toList) ⟨by simp,by simp;omega,?_,by simp[zdd,ht0]⟩ ?_ ?_
 ·intro h
  have:=congrArg List.length h
  rw[J2]at this
  exact hs0.2 this
 ·refine fN ?_<;>repeat' (first|exact fQ|refine And.intro ?_ ?_|exact za.int (by simp))
 rintro⟨k,acc⟩ ⟨hk,hsize,hne,hinv⟩
 simp only at hk hsize hne hinv
 refine Wk ?_
 refine zx.mk (fun hb=>?_) (fun hb=>?_)<;>try rw[hb]
 ·have hlt:k < s.cells.length:=by simpa using hb
  obtain⟨c,hgc⟩:=zr hlt
  have hmc:=zk (f:=zg.av) hgc
  have hf:yR s c=true:=by
   have:=hal k hlt
   simp[Xr,hgc]at this
   exact this.1
  have hi:=zdn hsz hf
  rw[qw hgc]at hinv
  repeat((conv=>whnf);first|refine sJ ?_|refine aI (by first|exact zh hlt|kernel_rfl) ?_|rw[hmc])
  try(conv=>whnf)
  refine cD (c_numbers LW c) ?_
  refine Wk ?_
  refine zo.box rfl (c_line za8 c.nums (by decide) (by simp[zg.nums]) hi) rfl rfl ?_
  have hs1:=WZ za8 c.nums (by decide) (by simp[zg.nums]) hi
  simp only[V1]at hinv
  obtain⟨t1,ht1⟩:∃t1,t1=YO za8 c.nums:=⟨_,rfl⟩
  rw[show lineB za8 c.nums++⟨#[10]⟩=t1 from ht1.symm]
  rw[←ht1]at hs1 hinv
  refine Wk ?_
  refine zo.inl rfl (zQ.intro mixed [] (nt:=19) Tryz.func196 rfl rfl (by simp) ?_)
  refine Wk ?_
  refine zo.inl rfl (zQ.intro mixed [] (nt:=20) Tryz.func245 rfl rfl (by simp) ?_)
  repeat((conv=>whnf);first|refine sJ ?_|refine aI (by first|exact zf1 _|(show(some 2:Option Nat)≠some 0;decide)|(simp only[XQ];omega)|omega|kernel_rfl) ?_ )
  try(conv=>whnf)
  refine⟨(k+1,acc++t1.data.toList),⟨by simp;omega,?_,by simp[hne],by simpa using hinv⟩,by simp;omega,?_⟩
  ·simp only[List.length_append,J2];omega
  ·refine fN ?_<;>repeat' (first|exact fQ|refine And.intro ?_ ?_|exact za.int (zu hlt (by omega))|exact za.of_eq (by rw[XR];rfl)|(show((qn acc++qn t1.data.toList).length,1)=((qn (acc++t1.data.toList)).length,1);rw[XR]))
 ·have hk':k=s.cells.length:=by simp at hb;omega
  subst hk'
  rw[List.drop_length]at hinv
  simp only[V1]at hinv
  refine Wk ?_
  refine zgU (l:=acc) rfl (by simp[XQ]) rfl hne (by omega) ?_
  refine Wk ?_
  exact ze.mk rfl (za.of_eq (by rw[hinv];simp[h1]))
end HM
