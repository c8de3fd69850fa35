/- The text of a schedule. -/
import Derived.Test.YtckcedndijobaaaGreatDoorS1
import Derived.Lib.UnsafeStr
import Derived.Lib.FrozenHead
import Derived.RegionTactic
import Derived.ChangeAlike
import Derived.WalkKit
set_option maxRecDepth 100000
namespace HM
open Go Go.RowKit Go.Proofs
theorem bl_String (w:World)(b g:Nat)(p:Value)(cur:Array Value)(cap:Nat)(l:List UInt8)(h0:l≠[])(hbk:w.heap[b]? = some (.cells #[p,.slice (some ⟨g,0,none⟩) l.length cap] 277 (0,0)))
  (hg:w.heap[g]? = some (.cells cur 5 (0,0))) (hnc:l.length≤cap) (hsz:l.length≤cur.size) (h63:l.length≤9223372036854775807) (hcell:∀j x,l[j]? = some x→w.cell? ⟨g,j,none⟩=some (.int .u8 x.toNat)) :
  Calls Tryz.prog 252 #[.pointer (some ⟨b,0,none⟩)] w fun e w'=>e=.returned (.string ⟨l.toArray⟩)∧w'=w.drew.freeze ⟨g,0,none⟩ l.length:=by
 have hl0:l.length≠0:=by simpa using h0
 have c1:w.drew.cell? ⟨b,1,none⟩=some (.slice (some ⟨g,0,none⟩) l.length cap):=by
  have:w.drew.heap[b]? = some (.cells #[p,.slice (some ⟨g,0,none⟩) l.length cap] 277 (0,0)):=hbk
  rw[Lib.cell_of_heap this];rfl
 have hSD:(Builtin.unsafeSliceData_ #[275] 305 #[.slice (some ⟨g,0,none⟩) l.length cap]).run Tryz.prog w.drew=.ok (.pointer (some ⟨g,0,none⟩)) w.drew:=
  Lib.run_unsafeSliceData_row _ _ _ _ _ _ (by omega)
 have hUS:(Builtin.unsafeString_ #[305,3] 9 #[.pointer (some ⟨g,0,none⟩),.int .i64 l.length]).run Tryz.prog w.drew=.ok (.string ⟨l.toArray⟩) (w.drew.freeze ⟨g,0,none⟩ l.length):=by
  refine Lib.run_unsafeString_row w.drew 305 3 9 5 (by kernel_rfl) (by kernel_rfl) g cur.size (by have hg':w.drew.heap[g]? = some (.cells cur 5 (0,0)):=hg;simp[World.shape?,hg']) l h0 (by omega) h63 ?_
  intro j x hx
  rw[Addr.add_lit,Nat.zero_add]
  exact hcell j x hx
 go_enter Tryz.func252,Tryz.ntmps252
 go_wp2
 go_region
 all_goals(go_wp2;go_ret;exact⟨rfl,rfl⟩)
def byteL (l:List UInt8):List AV:=l.map fun x=>.int .u8 x.toNat
theorem k_String {L:World→Prop}{S:St}{id ch:Nat}{p:AV}{l:List UInt8}{K:AV→St→Prop}(hb:S.bx[id]? = some (.cells [p,.own (byteL l) ch] 277))(hF:S.fr[ch]? = some (l.length,1))(hty:S.ty ch=5)(h0:l≠[])
  (h63:l.length≤9223372036854775807) (hK:K (.str ⟨l.toArray⟩) {S with fr:=S.fr.set ch (l.length+1,1)}):CallK Tryz.prog L S (.fn 252 []) [.ptr id 0] K:=by
 refine⟨fun ro w0 G w fvv vals hS ⟨cvs,hfe,hcv⟩ hargs=>?_⟩
 subst hfe
 obtain⟨u,us,rfl,⟨b,hρ,rfl⟩,hus⟩:=hargs
 obtain rfl:us=[]:=hus
 have hcv:cvs.toList=[]:=hcv
 have hcv:cvs=#[]:=by simpa using hcv
 subst hcv
 refine CallSem.fn rfl ?_
 obtain⟨b',ob,hr',hheap,arr,rfl,hasz,hv⟩:=hS.bx id _ hb rfl
 rw[hρ]at hr';injection hr' with hr';subst hr'
 have hlen2:arr.size=2:=by simpa using hasz
 rw[List.take_of_length_le (by simp;omega)]at hv
 obtain⟨pv,us,hl1,hp,bv,us2,hl2,hown,hl3⟩:=hv
 have hl3:us2=[]:=hl3
 subst hl3;subst hl2
 have harr:arr=#[pv,bv]:=by apply Array.ext';simpa using hl1
 subst harr
 obtain⟨F,sz,hF',hle,huni,hv⟩:=hown
 rw[hF]at hF';injection hF' with hF';injection hF' with e1 e2;subst e1;subst e2
 have hll:(byteL l).length=l.length:=by simp[byteL]
 rcases hv with ⟨_,hn,_⟩|⟨g,o,c,rfl,hc,hlt,hok,hm,hal⟩
 ·have:=congrArg List.length hn;rw[hll]at this;exact absurd (List.eq_nil_of_length_eq_zero this) h0
 obtain⟨hχ,rfl,cur,tt,hrow,hcs,_⟩:=hal hll
 obtain⟨_,⟨cur',fz,hrow'⟩,_⟩:=(hS.ch ch _ _ hF).2 g hχ
 rw[hrow]at hrow';injection hrow' with hrow';injection hrow' with f1 f2 f3
 have htt:tt=5:=f2.trans hty
 subst htt
 have hcell:∀j x,l[j]? = some x→w.cell? ⟨g,j,none⟩=some (.int .u8 x.toNat):=by
  intro j x hx
  obtain⟨u,hu,hn,ha⟩:=MC.get (sz:=1) (i:=j) huni hm (e:=.int .u8 x.toNat) (by simp[byteL,hx])
  obtain rfl:u=_:=hu
  have:=ha 0 (.int .u8 x.toNat) rfl
  simpa using this
 rw[hll]at hheap hc
 refine(bl_String w b g pv cur c l h0 hheap hrow hc (by omega) h63 hcell).mono fun e w' ⟨he,hw⟩=>⟨_,he,?_⟩
 have hfr:(w.drew.freeze ⟨g,0,none⟩ l.length).os=w.os∧(w.drew.freeze ⟨g,0,none⟩ l.length).tape=w.tape∧(w.drew.freeze ⟨g,0,none⟩ l.length).output=w.output∧(w.drew.freeze ⟨g,0,none⟩ l.length).heap.size=w.heap.size ∧
   (∀k,k≠g→(w.drew.freeze ⟨g,0,none⟩ l.length).heap[k]? = w.heap[k]?)∧∀arr t fz,w.heap[g]? = some (.cells arr t fz)→∃fz',(w.drew.freeze ⟨g,0,none⟩ l.length).heap[g]? = some (.cells arr t fz'):=by
  unfold World.freeze
  split
  ·exact⟨rfl,rfl,rfl,rfl,fun _ _=>rfl,fun arr t fz h=>⟨fz,h⟩⟩
  ·refine⟨rfl,rfl,rfl,by simp,fun k hk=>?_,fun arr t fz h=>?_⟩
   ·simp only[Array.getElem?_modify]
    rw[if_neg (Ne.symm hk)];rfl
   ·simp only[Array.getElem?_modify,if_true]
    have h':w.drew.heap[g]? = some (.cells arr t fz):=h
    rw[h']
    exact⟨_,rfl⟩
 rw[←hw]at hfr
 obtain⟨q1,q2,q3,q4,q5,q6⟩:=hfr
 obtain⟨g1,g2⟩:=hS.froze hF hχ w' q1 q2 q3 q4 q5 q6
 exact⟨G,_,.str ⟨l.toArray⟩,g1,g2,rfl,hK⟩
def wordS:ByteArray:=⟨#[115,99,104,101,100,117,108,101]⟩
def wordC:ByteArray:=⟨#[99,101,108,108]⟩
def lineOf (w:ByteArray)(l:List Int):ByteArray:=lineB w l++⟨#[10]⟩
def printR:List UInt8→List Cell→List UInt8
 | acc,[]=>acc
 | acc,c :: l=>printR (acc++(lineOf wordC c.nums).data.toList) l
def printT (s:Sched):List UInt8:=printR (lineOf wordS [s.len,s.offs]).data.toList s.cells
theorem lineOf_size (w:ByteArray)(l:List Int)(hw:w.size≤8)(hl:l.length≤5)(h:∀n∈l,I64 n):(lineOf w l).size≤119∧(lineOf w l).size≠0:=by
 have h1:=lineB_size l w h
 have h10:(⟨#[10]⟩:ByteArray).size=1:=rfl
 simp only[lineOf,ByteArray.size_append,h10]
 omega
theorem size_list (b:ByteArray):b.data.toList.length=b.size:=by simp
theorem byteL_append (a b:List UInt8):byteL (a++b)=byteL a++byteL b:=by simp[byteL]
theorem byteL_length (a:List UInt8):(byteL a).length=a.length:=by simp[byteL]
theorem byteL_els (a:List UInt8):Els 1 (byteL a):=Els.map (f:=fun x:UInt8=>AV.int .u8 x.toNat) (fun _=>⟨rfl,rfl⟩)
theorem formed_i64 {s:Sched}{c:Cell}(hs:sizedB s=true)(h:formedB s c=true):∀n∈c.nums,I64 n:=by
 simp[sizedB]at hs
 simp[formedB,placedB,insB]at h
 intro n hn
 simp[Cell.nums]at hn
 unfold I64
 rcases hn with rfl|rfl|rfl|rfl|rfl<;>omega
theorem c_Print (s:Sched):PCall Tryz.prog LW 208 [s.av] (.tup [.str (if formB s then ⟨(printT s).toArray⟩ else ⟨#[]⟩),.int .i64 (if formB s then 0 else 1)]):=by
 refine PCall.intro mixed [] (nt:=32) Tryz.func208 rfl rfl (by simp) ?_
 refine Wk ?_
 refine cD (c_form LW s) ?_
 refine Wk ?_
 refine BrK.mk (fun h1=>?_) (fun h1=>?_)<;>(try rw[h1])
 ·refine Wk ?_
  exact resP.mk rfl (Sees.of_eq (by simp at h1;simp[h1]))
 simp at h1
 have hsz:sizedB s=true:=by simp[formB]at h1;exact h1.1.1
 have hal:∀j,j < s.cells.length→okAt s j=true:=by simp[formB]at h1;exact h1.2
 have hlen:s.cells.length≤512:=by simp[formB]at h1;exact h1.1.2
 refine Wk ?_
 have e1:I64 s.len:=by simp[sizedB]at hsz;unfold I64;omega
 have e2:I64 s.offs:=by simp[sizedB]at hsz;unfold I64;omega
 have e3:∀n∈[s.len,s.offs],I64 n:=by intro n hn;simp at hn;rcases hn with rfl|rfl<;>assumption
 refine cD (c_line wordS [s.len,s.offs] (by decide) (by simp) e3) ?_
 have hs0:=lineOf_size wordS [s.len,s.offs] (by decide) (by simp) e3
 obtain⟨t0,ht0⟩:∃t0,t0=lineOf wordS [s.len,s.offs]:=⟨_,rfl⟩
 rw[show lineB wordS [s.len,s.offs]++⟨#[10]⟩=t0 from ht0.symm]
 rw[←ht0]at hs0
 refine Wk ?_
 refine CallK.inl rfl (ICall.intro mixed [] (nt:=19) Tryz.func250 rfl rfl (by simp) ?_)
 refine Wk ?_
 refine CallK.inl rfl (ICall.intro mixed [] (nt:=20) Tryz.func272 rfl rfl (by simp) ?_)
 refine Wk ?_
 refine CallK.same rfl (by kernel_rfl) (by kernel_rfl) (by kernel_rfl) (by kernel_rfl) ?_
 refine Wk ?_
 repeat((conv=>whnf);first|refine sJ ?_|refine aI (by first|omega|kernel_rfl) ?_ )
 try(conv=>whnf)
 refine LoopK.run mixed [] (fun q:Nat×List UInt8=>q.1≤s.cells.length∧q.2.length≤119*(q.1+1)∧q.2≠[]∧printR q.2 (s.cells.drop q.1)=printT s) (fun q=>[(4,.ptr 1 0),(19,encCells s.cells),(20,.int .i64 s.cells.length),(21,.int .i64 q.1)])
  (fun q=>⟨[.cells [.int .i64 s.len,.int .i64 s.offs,encCells s.cells] 24,.cells [.ptr 1 0,.own (byteL q.2) 1] 277],[(2,1),((byteL q.2).length,1)],0,0,fun k=>if k=1 then 5 else if k=0 then 3 else 0⟩) (fun q=>s.cells.length-q.1) (0,t0.data.toList) ⟨by simp,by simp;omega,?_,by simp[printT,ht0]⟩ ?_ ?_
 ·intro h
  have:=congrArg List.length h
  rw[size_list]at this
  exact hs0.2 this
 ·refine fN ?_<;>repeat' (first|exact fQ|refine And.intro ?_ ?_|exact Sees.int (by simp))
 rintro⟨k,acc⟩ ⟨hk,hsize,hne,hinv⟩
 simp only at hk hsize hne hinv
 refine Wk ?_
 refine BrK.mk (fun hb=>?_) (fun hb=>?_)<;>try rw[hb]
 ·have hlt:k < s.cells.length:=by simpa using hb
  obtain⟨c,hgc⟩:=getLt hlt
  have hmc:=getMap (f:=Cell.av) hgc
  have hf:formedB s c=true:=by
   have:=hal k hlt
   simp[okAt,hgc]at this
   exact this.1
  have hi:=formed_i64 hsz hf
  rw[dropGet hgc]at hinv
  repeat((conv=>whnf);first|refine sJ ?_|refine aI (by first|exact inbMap hlt|kernel_rfl) ?_|rw[hmc])
  try(conv=>whnf)
  refine cD (c_numbers LW c) ?_
  refine Wk ?_
  refine CallK.box rfl (c_line wordC c.nums (by decide) (by simp[Cell.nums]) hi) rfl rfl ?_
  have hs1:=lineOf_size wordC c.nums (by decide) (by simp[Cell.nums]) hi
  simp only[printR]at hinv
  obtain⟨t1,ht1⟩:∃t1,t1=lineOf wordC c.nums:=⟨_,rfl⟩
  rw[show lineB wordC c.nums++⟨#[10]⟩=t1 from ht1.symm]
  rw[←ht1]at hs1 hinv
  refine Wk ?_
  refine CallK.inl rfl (ICall.intro mixed [] (nt:=19) Tryz.func250 rfl rfl (by simp) ?_)
  refine Wk ?_
  refine CallK.inl rfl (ICall.intro mixed [] (nt:=20) Tryz.func272 rfl rfl (by simp) ?_)
  repeat((conv=>whnf);first|refine sJ ?_|refine aI (by first|exact byteL_els _|(show(some 2:Option Nat)≠some 0;decide)|(simp only[byteL_length];omega)|omega|kernel_rfl) ?_ )
  try(conv=>whnf)
  refine⟨(k+1,acc++t1.data.toList),⟨by simp;omega,?_,by simp[hne],by simpa using hinv⟩,by simp;omega,?_⟩
  ·simp only[List.length_append,size_list];omega
  ·refine fN ?_<;>repeat' (first|exact fQ|refine And.intro ?_ ?_|exact Sees.int (succI hlt (by omega))|exact Sees.of_eq (by rw[byteL_append];rfl)|(show((byteL acc++byteL t1.data.toList).length,1)=((byteL (acc++t1.data.toList)).length,1);rw[byteL_append]))
 ·have hk':k=s.cells.length:=by simp at hb;omega
  subst hk'
  rw[List.drop_length]at hinv
  simp only[printR]at hinv
  refine Wk ?_
  refine k_String (l:=acc) rfl (by simp[byteL_length]) rfl hne (by omega) ?_
  refine Wk ?_
  exact resP.mk rfl (Sees.of_eq (by rw[hinv];simp[h1]))
section
variable (L:World→Prop)
theorem c_IndexFuncCell (l:List Cell)(p:Cell→Bool)(g:Nat)(caps:List AV)(hl:l.length≤281474976710656)(hcb:callable Tryz.prog g=true)(hc:fzs caps=some caps)(hp:∀x∈l,PCall Tryz.prog L g (Cell.av x :: caps) (.bool (p x))) :
  PCall Tryz.prog L 158 [.sl false (l.map Cell.av),.fn g caps] (.int .i64 (idxF p l)):=by
 refine PCall.intro mixed [] (nt:=19) Tryz.func158 rfl rfl (by simp) ?_
 refine Wk ?_
 refine LoopK.run mixed [] (fun (k:Nat)=>k≤l.length∧∀j x,j < k→l[j]? = some x→p x=false) (fun k=>[(0,.sl false (l.map Cell.av)),(1,.fn g caps),(7,.int .i64 l.length),(8,.int .i64 k)]) (fun k=>St.none) (fun k=>l.length-k) 0 ⟨by simp,by simp⟩ ?_ ?_
 ·refine fN ?_<;>repeat' (first|exact fQ|refine And.intro ?_ ?_|exact Sees.int (by simp)|exact fzs_okk hc)
 rintro k ⟨hk,hinv⟩
 refine Wk ?_
 refine BrK.mk (fun hb=>?_) (fun hb=>?_)<;>try rw[hb]
 ·have hlt:k < l.length:=by simpa using hb
  obtain⟨x,hgx⟩:=getLt hlt
  have hmx:=getMap (f:=Cell.av) hgx
  repeat((conv=>whnf);first|refine sJ ?_|refine aI (by first|exact inbMap hlt|kernel_rfl) ?_|rw[hmx])
  try(conv=>whnf)
  refine CallK.data hcb (hp x (List.mem_of_getElem? hgx)) (by show(match fz _,fzs caps with|some a,some b=>some (a :: b)|_,_=>none)=_;rw[hc];rfl) ?_
  refine Wk ?_
  refine BrK.mk (fun h2=>?_) (fun h2=>?_)<;>(try rw[h2])
  ·refine Wk ?_
   exact resP.mk rfl (Sees.int (idxF_some hlt hinv hgx h2).symm)
  ·refine Wk ?_
   refine⟨k+1,⟨by omega,fun j y hj hy=>?_⟩,by omega,?_⟩
   ·rcases Nat.lt_succ_iff_lt_or_eq.1 hj with h|rfl
    ·exact hinv j y h hy
    ·rw[hgx]at hy;injection hy with hy;subst hy;exact h2
   ·refine fN ?_<;>repeat' (first|exact fQ|refine And.intro ?_ ?_|exact Sees.int (succI hlt hl)|exact fzs_okk hc)
 ·have hk':k=l.length:=by simp at hb;omega
  subst hk'
  refine Wk ?_
  exact resP.mk rfl (Sees.int (idxF_none hinv).symm)
end
end HM
