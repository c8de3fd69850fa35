/- The text of a schedule. -/
import Derived.Test.YtpdlbjnjdbgpaaaGreatDoorS1
import Derived.Lib.UnsafeStr
import Derived.Lib.FrozenHead
import Derived.RegionTactic
import Derived.ChangeAlike
import Derived.WalkKit
import Derived.Test.YtpdlbjnjdbgpaaaGreatDoorS30
import Derived.Test.YtpdlbjnjdbgpaaaGreatDoorDb
import Derived.Test.YtpdlbjnjdbgpaaaGreatDoorDa
set_option maxHeartbeats 64000000
set_option maxRecDepth 100000
namespace HM
open Go Go.RowKit Go.Proofs
theorem bl_String (w:World)(b g:Nat)(p:Value)(cur:Array Value)(cap:Nat)(l:List UInt8)(h0:l≠[])(hbk:w.heap[b]? = some (.cells #[p,.slice (some ⟨g,0,none⟩) l.length cap] 133 (0,0)))
  (hg:w.heap[g]? = some (.cells cur 5 (0,0))) (hnc:l.length≤cap) (hsz:l.length≤cur.size) (h63:l.length≤9223372036854775807) (hcell:∀j x,l[j]? = some x→w.cell? ⟨g,j,none⟩=some (.int .u8 x.toNat)) :
  Calls Tryz.prog 93 #[.pointer (some ⟨b,0,none⟩)] w fun e w'=>e=.returned (.string ⟨l.toArray⟩)∧w'=w.drew.freeze ⟨g,0,none⟩ l.length:=by
 have hl0:l.length≠0:=by simpa using h0
 have c1:w.drew.cell? ⟨b,1,none⟩=some (.slice (some ⟨g,0,none⟩) l.length cap):=by
  have:w.drew.heap[b]? = some (.cells #[p,.slice (some ⟨g,0,none⟩) l.length cap] 133 (0,0)):=hbk
  rw[Lib.cell_of_heap this];rfl
 have hSD:(Builtin.unsafeSliceData_ #[131] 194 #[.slice (some ⟨g,0,none⟩) l.length cap]).run Tryz.prog w.drew=.ok (.pointer (some ⟨g,0,none⟩)) w.drew:=
  Lib.run_unsafeSliceData_row _ _ _ _ _ _ (by omega)
 have hUS:(Builtin.unsafeString_ #[194,3] 9 #[.pointer (some ⟨g,0,none⟩),.int .i64 l.length]).run Tryz.prog w.drew=.ok (.string ⟨l.toArray⟩) (w.drew.freeze ⟨g,0,none⟩ l.length):=by
  refine Lib.run_unsafeString_row w.drew 194 3 9 5 (by kernel_rfl) (by kernel_rfl) g cur.size (by have hg':w.drew.heap[g]? = some (.cells cur 5 (0,0)):=hg;simp[World.shape?,hg']) l h0 (by omega) h63 ?_
  intro j x hx
  rw[Addr.add_lit,Nat.zero_add]
  exact hcell j x hx
 go_enter Tryz.func93,Tryz.ntmps93
 go_wp2
 go_region
 all_goals(go_wp2;go_ret;exact⟨rfl,rfl⟩)
def byteL (l:List UInt8):List AV:=l.map fun x=>.int .u8 x.toNat
theorem k_String {L:World→Prop}{S:St}{id ch:Nat}{p:AV}{l:List UInt8}{K:AV→St→Prop}(hb:S.bx[id]? = some (.cells [p,.own (byteL l) ch] 133))(hF:S.fr[ch]? = some (l.length,1))(hty:S.ty ch=5)(h0:l≠[])
  (h63:l.length≤9223372036854775807) (hK:K (.str ⟨l.toArray⟩) {S with fr:=S.fr.set ch (l.length+1,1)}):CallK Tryz.prog L S (.fn 93 []) [.ptr id 0] K:=by
 refine⟨fun ro w0 G w fvv vals hS ⟨cvs,hfe,hcv⟩ hargs=>?_⟩
 subst hfe
 obtain⟨u,us,rfl,⟨b,hρ,rfl⟩,hus⟩:=hargs
 obtain rfl:us=[]:=hus
 have hcv:cvs.toList=[]:=hcv
 have hcv:cvs=#[]:=by simpa using hcv
 subst hcv
 refine CallSem.fn rfl ?_
 obtain⟨b',ob,hr',hheap,arr,rfl,hasz,hv⟩:=hS.bx id _ hb rfl
 rw[hρ]at hr';injection hr' with hr';subst hr'
 have hlen2:arr.size=2:=by simpa using hasz
 rw[List.take_of_length_le (by simp;omega)]at hv
 obtain⟨pv,us,hl1,hp,bv,us2,hl2,hown,hl3⟩:=hv
 have hl3:us2=[]:=hl3
 subst hl3;subst hl2
 have harr:arr=#[pv,bv]:=by apply Array.ext';simpa using hl1
 subst harr
 obtain⟨F,sz,hF',hle,huni,hv⟩:=hown
 rw[hF]at hF';injection hF' with hF';injection hF' with e1 e2;subst e1;subst e2
 have hll:(byteL l).length=l.length:=by simp[byteL]
 rcases hv with ⟨_,hn,_⟩|⟨g,o,c,rfl,hc,hlt,hok,hm,hal⟩
 ·have:=congrArg List.length hn;rw[hll]at this;exact absurd (List.eq_nil_of_length_eq_zero this) h0
 obtain⟨hχ,rfl,cur,tt,hrow,hcs,_⟩:=hal hll
 obtain⟨_,⟨cur',fz,hrow'⟩,_⟩:=(hS.ch ch _ _ hF).2 g hχ
 rw[hrow]at hrow';injection hrow' with hrow';injection hrow' with f1 f2 f3
 have htt:tt=5:=f2.trans hty
 subst htt
 have hcell:∀j x,l[j]? = some x→w.cell? ⟨g,j,none⟩=some (.int .u8 x.toNat):=by
  intro j x hx
  obtain⟨u,hu,hn,ha⟩:=MC.get (sz:=1) (i:=j) huni hm (e:=.int .u8 x.toNat) (by simp[byteL,hx])
  obtain rfl:u=_:=hu
  have:=ha 0 (.int .u8 x.toNat) rfl
  simpa using this
 rw[hll]at hheap hc
 refine(bl_String w b g pv cur c l h0 hheap hrow hc (by omega) h63 hcell).mono fun e w' ⟨he,hw⟩=>⟨_,he,?_⟩
 have hfr:(w.drew.freeze ⟨g,0,none⟩ l.length).os=w.os∧(w.drew.freeze ⟨g,0,none⟩ l.length).tape=w.tape∧(w.drew.freeze ⟨g,0,none⟩ l.length).output=w.output∧(w.drew.freeze ⟨g,0,none⟩ l.length).heap.size=w.heap.size ∧
   (∀k,k≠g→(w.drew.freeze ⟨g,0,none⟩ l.length).heap[k]? = w.heap[k]?)∧∀arr t fz,w.heap[g]? = some (.cells arr t fz)→∃fz',(w.drew.freeze ⟨g,0,none⟩ l.length).heap[g]? = some (.cells arr t fz'):=by
  unfold World.freeze
  split
  ·exact⟨rfl,rfl,rfl,rfl,fun _ _=>rfl,fun arr t fz h=>⟨fz,h⟩⟩
  ·refine⟨rfl,rfl,rfl,by simp,fun k hk=>?_,fun arr t fz h=>?_⟩
   ·simp only[Array.getElem?_modify]
    rw[if_neg (Ne.symm hk)];rfl
   ·simp only[Array.getElem?_modify,if_true]
    have h':w.drew.heap[g]? = some (.cells arr t fz):=h
    rw[h']
    exact⟨_,rfl⟩
 rw[←hw]at hfr
 obtain⟨q1,q2,q3,q4,q5,q6⟩:=hfr
 obtain⟨g1,g2⟩:=hS.froze hF hχ w' q1 q2 q3 q4 q5 q6
 exact⟨G,_,.str ⟨l.toArray⟩,g1,g2,rfl,hK⟩
def wordS:ByteArray:=⟨#[115,99,104,101,100,117,108,101]⟩
def wordC:ByteArray:=⟨#[99,101,108,108]⟩
def lineOf (w:ByteArray)(l:List Int):ByteArray:=lineB w l++⟨#[10]⟩
def printR:List UInt8→List Cell→List UInt8
 | acc,[]=>acc
 | acc,c :: l=>printR (acc++(lineOf wordC c.nums).data.toList) l
def printT (s:Sched):List UInt8:=printR (lineOf wordS [s.len,s.offs]).data.toList s.cells
theorem lineOf_size (w:ByteArray)(l:List Int)(hw:w.size≤8)(hl:l.length≤5)(h:∀n∈l,I64 n):(lineOf w l).size≤119∧(lineOf w l).size≠0:=by
 have h1:=lineB_size l w h
 have h10:(⟨#[10]⟩:ByteArray).size=1:=rfl
 simp only[lineOf,ByteArray.size_append,h10]
 omega
theorem size_list (b:ByteArray):b.data.toList.length=b.size:=by simp
theorem byteL_append (a b:List UInt8):byteL (a++b)=byteL a++byteL b:=by simp[byteL]
theorem byteL_length (a:List UInt8):(byteL a).length=a.length:=by simp[byteL]
theorem byteL_els (a:List UInt8):Els 1 (byteL a):=Els.map (f:=fun x:UInt8=>AV.int .u8 x.toNat) (fun _=>⟨rfl,rfl⟩)
theorem formed_i64 {s:Sched}{c:Cell}(hs:sizedB s=true)(h:formedB s c=true):∀n∈c.nums,I64 n:=by
 simp[sizedB]at hs
 simp[formedB,placedB,insB]at h
 intro n hn
 simp[Cell.nums]at hn
 unfold I64
 rcases hn with rfl|rfl|rfl|rfl|rfl<;>omega
theorem c_Print (s:Sched):PCall Tryz.prog LW 45 [s.av] (.tup [.str (if formB s then ⟨(printT s).toArray⟩ else ⟨#[]⟩),.int .i64 (if formB s then 0 else 1)]):=by
 refine PCall.intro mixed [] (nt:=32) Tryz.func45 rfl rfl (by simp) ?_
 refine Wk ?_
 refine cD (c_form LW s) ?_
 refine Wk ?_
 refine BrK.mk (fun h1=>?_) (fun h1=>?_)<;>(try rw[h1])
 ·refine Wk ?_
  exact resP.mk rfl (Sees.of_eq (by simp at h1;simp[h1]))
 simp at h1
 have hsz:sizedB s=true:=by simp[formB]at h1;exact h1.1.1
 have hal:∀j,j < s.cells.length→okAt s j=true:=by simp[formB]at h1;exact h1.2
 have hlen:s.cells.length≤512:=by simp[formB]at h1;exact h1.1.2
 refine Wk ?_
 have e1:I64 s.len:=by simp[sizedB]at hsz;unfold I64;omega
 have e2:I64 s.offs:=by simp[sizedB]at hsz;unfold I64;omega
 have e3:∀n∈[s.len,s.offs],I64 n:=by intro n hn;simp at hn;rcases hn with rfl|rfl<;>assumption
 refine cD (c_line wordS [s.len,s.offs] (by decide) (by simp) e3) ?_
 have hs0:=lineOf_size wordS [s.len,s.offs] (by decide) (by simp) e3
 obtain⟨t0,ht0⟩:∃t0,t0=lineOf wordS [s.len,s.offs]:=⟨_,rfl⟩
 rw[show lineB wordS [s.len,s.offs]++⟨#[10]⟩=t0 from ht0.symm]
 rw[←ht0]at hs0
 refine Wk ?_
 refine CallK.inl rfl (ICall.intro mixed [] (nt:=19) Tryz.func90 rfl rfl (by simp) ?_)
 refine Wk ?_
 refine CallK.inl rfl (ICall.intro mixed [] (nt:=20) Tryz.func155 rfl rfl (by simp) ?_)
 refine Wk ?_
 refine CallK.same rfl (by kernel_rfl) (by kernel_rfl) (by kernel_rfl) (by kernel_rfl) ?_
 refine Wk ?_
 repeat((conv=>whnf);first|refine sJ ?_|refine aI (by first|omega|kernel_rfl) ?_ )
 try(conv=>whnf)
 refine LoopK.run mixed [] (fun q:Nat×List UInt8=>q.1≤s.cells.length∧q.2.length≤119*(q.1+1)∧q.2≠[]∧printR q.2 (s.cells.drop q.1)=printT s) (fun q=>[(4,.ptr 1 0),(19,encCells s.cells),(20,.int .i64 s.cells.length),(21,.int .i64 q.1)])
  (fun q=>⟨[.cells [.int .i64 s.len,.int .i64 s.offs,encCells s.cells] 30,.cells [.ptr 1 0,.own (byteL q.2) 1] 133],[(2,1),((byteL q.2).length,1)],0,0,fun k=>if k=1 then 5 else if k=0 then 3 else 0⟩) (fun q=>s.cells.length-q.1) (0,t0.data.toList) ⟨by simp,by simp;omega,?_,by simp[printT,ht0]⟩ ?_ ?_
 ·intro h
  have:=congrArg List.length h
  rw[size_list]at this
  exact hs0.2 this
 ·refine fN ?_<;>repeat' (first|exact fQ|refine And.intro ?_ ?_|exact Sees.int (by simp))
 rintro⟨k,acc⟩ ⟨hk,hsize,hne,hinv⟩
 simp only at hk hsize hne hinv
 refine Wk ?_
 refine BrK.mk (fun hb=>?_) (fun hb=>?_)<;>try rw[hb]
 ·have hlt:k < s.cells.length:=by simpa using hb
  obtain⟨c,hgc⟩:=getLt hlt
  have hmc:=getMap (f:=Cell.av) hgc
  have hf:formedB s c=true:=by
   have:=hal k hlt
   simp[okAt,hgc]at this
   exact this.1
  have hi:=formed_i64 hsz hf
  rw[dropGet hgc]at hinv
  repeat((conv=>whnf);first|refine sJ ?_|refine aI (by first|exact inbMap hlt|kernel_rfl) ?_|rw[hmc])
  try(conv=>whnf)
  refine cD (c_numbers LW c) ?_
  refine Wk ?_
  refine CallK.box rfl (c_line wordC c.nums (by decide) (by simp[Cell.nums]) hi) rfl rfl ?_
  have hs1:=lineOf_size wordC c.nums (by decide) (by simp[Cell.nums]) hi
  simp only[printR]at hinv
  obtain⟨t1,ht1⟩:∃t1,t1=lineOf wordC c.nums:=⟨_,rfl⟩
  rw[show lineB wordC c.nums++⟨#[10]⟩=t1 from ht1.symm]
  rw[←ht1]at hs1 hinv
  refine Wk ?_
  refine CallK.inl rfl (ICall.intro mixed [] (nt:=19) Tryz.func90 rfl rfl (by simp) ?_)
  refine Wk ?_
  refine CallK.inl rfl (ICall.intro mixed [] (nt:=20) Tryz.func155 rfl rfl (by simp) ?_)
  repeat((conv=>whnf);first|refine sJ ?_|refine aI (by first|exact byteL_els _|(show(some 2:Option Nat)≠some 0;decide)|(simp only[byteL_length];omega)|omega|kernel_rfl) ?_ )
  try(conv=>whnf)
  refine⟨(k+1,acc++t1.data.toList),⟨by simp;omega,?_,by simp[hne],by simpa using hinv⟩,by simp;omega,?_⟩
  ·simp only[List.length_append,size_list];omega
  ·refine fN ?_<;>repeat' (first|exact fQ|refine And.intro ?_ ?_|exact Sees.int (succI hlt (by omega))|exact Sees.of_eq (by rw[byteL_append];rfl)|(show((byteL acc++byteL t1.data.toList).length,1)=((byteL (acc++t1.data.toList)).length,1);rw[byteL_append]))
 ·have hk':k=s.cells.length:=by simp at hb;omega
  subst hk'
  rw[List.drop_length]at hinv
  simp only[printR]at hinv
  refine Wk ?_
  refine k_String (l:=acc) rfl (by simp[byteL_length]) rfl hne (by omega) ?_
  refine Wk ?_
  exact resP.mk rfl (Sees.of_eq (by rw[hinv];simp[h1]))
section
variable (L:World→Prop)
theorem c_isNode (n:Net)(a:Int):PCall Tryz.prog L 177 [n.av,.int .i64 a] (.bool (insB a n.nodes)):=by
 refine PCall.intro mixed [] (nt:=13) Tryz.func177 rfl rfl (by simp) ?_
 repeat' ((conv=>whnf);first|refine sI ?_  | (refine BrK.mk (fun hb=>?_) (fun hb=>?_)<;>try rw[hb]))
 all_goals try(conv=>whnf)
 all_goals exact resP.mk rfl (Sees.of_eq (by first|(simp_all[insB];done)|(simp_all[insB];omega)))
theorem c_cdist (n:Net)(h:NetOk n)(cs:List Cell)(hc:cs.length≤4096)(i:Nat)(node:Int)(hn:insB node n.nodes=true):PCall Tryz.prog L 179 [n.av,encCells cs,.int .i64 i,.int .i64 node] (.int .i64 (distM n cs i node)):=by
 refine PCall.intro mixed [] (nt:=50) Tryz.func179 rfl rfl (by simp) ?_
 refine Wk ?_
 refine LoopK.run mixed [] (fun (k:Nat)=>k≤cs.length) (fun k=>[(2,.int .i64 i),(3,.int .i64 node),(4,.ptr 0 0),(9,.int .i64 (distU n cs i node k)),(14,encCells cs),(15,.int .i64 cs.length),(16,.int .i64 k)]) (fun k=>⟨[.cells n.cs 26],[],0,0,fun _=>0⟩) (fun k=>cs.length-k) 0 (by simp) ?_ ?_
 ·refine fN ?_<;>repeat' (first|exact fQ|refine And.intro ?_ ?_|exact SeesL.rfl' _|exact Sees.int (by simp))
 rintro k hk
 have hb1:=distU_bd h cs i node k
 have hst:=distU_succ n cs i node k
 refine Wk ?_
 refine BrK.mk (fun hb=>?_) (fun hb=>?_)<;>try rw[hb]
 ·have hlt:k < cs.length:=by simpa using hb
  obtain⟨c,hgc⟩:=getLt hlt
  have hmc:=getMap (f:=Cell.av) hgc
  have hda:distAt n cs i node k=if k=i then 0 else powN n c.src node+powN n c.dst node:=by unfold distAt;rw[hgc]
  repeat((conv=>whnf);first|refine sJ ?_|refine aI (by first|exact inbMap hlt|kernel_rfl) ?_|rw[hmc])
  try(conv=>whnf)
  refine BrK.mk (fun h1=>?_) (fun h1=>?_)<;>(try rw[h1])
  ·have h1':k=i:=by simp at h1;omega
   rw[if_pos h1']at hda
   refine Wk ?_
   refine⟨k+1,by omega,by omega,?_⟩
   refine fN ?_<;>repeat' (first|exact fQ|refine And.intro ?_ ?_|exact SeesL.rfl' _|exact Sees.int (by rw[w64]<;>omega)|exact Sees.int (by rw[hst,hda,Int.add_zero]))
  ·have h1':k≠i:=by simp at h1;omega
   rw[if_neg h1']at hda
   obtain⟨es,hes⟩:∃es,es=[c.src,c.dst]:=⟨_,rfl⟩
   have hel:es.length=2:=by rw[hes];rfl
   have hsum:sumW (fun e=>powN n e node) es=powN n c.src node+powN n c.dst node:=by rw[hes];simp[sumW]
   refine Wk ?_
   refine LoopK.run mixed [] (fun (j:Nat)=>j≤es.length) (fun j=>[(2,.int .i64 i),(3,.int .i64 node),(4,.ptr 0 0),(9,.int .i64 (distU n cs i node k+sumW (fun e=>powN n e node) (es.take j))),(14,encCells cs),(15,.int .i64 cs.length),(16,.int .i64 k),(28,encIs es),(29,.int .i64 es.length),(30,.int .i64 j)]) (fun j=>⟨[.cells n.cs 26],[],0,0,fun _=>0⟩) (fun j=>es.length-j) 0 (by simp) ?_ ?_
   ·refine fN ?_<;>repeat' (first|exact fQ|refine And.intro ?_ ?_|exact SeesL.rfl' _|exact Sees.int (by rw[hel];rfl)|exact Sees.int (by simp[sumW])|exact Sees.elems (by rw[hes];rfl))
   rintro j hj
   refine Wk ?_
   refine BrK.mk (fun hd=>?_) (fun hd=>?_)<;>(try rw[hd])
   ·have hjt:j < es.length:=by simpa using hd
    obtain⟨e,hge⟩:=getLt hjt
    have hme:=getMap (f:=encI) hge
    have hst2:=sumW_take (fun e=>powN n e node) hge
    have hsb:=sumW_bd (f:=fun e=>powN n e node) (m:=68719476736) (by omega) (l:=es.take (j+1)) fun e _=>powN_bd h e node
    have hsb0:=sumW_bd (f:=fun e=>powN n e node) (m:=68719476736) (by omega) (l:=es.take j) fun e _=>powN_bd h e node
    have hpe:=powN_bd h e node
    rw[List.length_take]at hsb hsb0
    repeat((conv=>whnf);first|refine sJ ?_|refine aI (by first|exact inbMap hjt|kernel_rfl) ?_|rw[hme])
    try(conv=>whnf)
    refine cD (c_isNode L n e) ?_
    cases hi:insB e n.nodes with
    | true=>
     obtain⟨a,b,r,x,rfl,rfl,hgr,hgx,hpx⟩:=pow_at h hi hn
     have hmr:=getMap (f:=encIs) hgr
     have hmx:=getMap (f:=encI) hgx
     have hal:=(List.getElem?_eq_some_iff.1 hgr).1
     have hbl:=(List.getElem?_eq_some_iff.1 hgx).1
     have hpn:powN n a b=x:=by unfold powN;rw[if_pos hi,hpx]
     rw[hpn]at hst2 hpe
     repeat((conv=>whnf);first|refine sJ ?_|refine aI (by first|exact inbMap hal|exact inbMap hbl|kernel_rfl) ?_|rw[hmr]|rw[hmx])
     try(conv=>whnf)
     refine⟨j+1,by omega,by omega,?_⟩
     refine fN ?_<;>repeat' (first|exact fQ|refine And.intro ?_ ?_|exact SeesL.rfl' _|exact Sees.int (by rw[w64]<;>omega)|exact Sees.int (by rw[hst2,w64]<;>omega))
    | false=>
     have hpn:powN n e node=0:=by unfold powN;rw[if_neg (by simp[hi])]
     rw[hpn]at hst2
     refine Wk ?_
     refine⟨j+1,by omega,by omega,?_⟩
     refine fN ?_<;>repeat' (first|exact fQ|refine And.intro ?_ ?_|exact SeesL.rfl' _|exact Sees.int (by rw[w64]<;>omega)|exact Sees.int (by rw[hst2,Int.add_zero]))
   ·have hjl:j=es.length:=by simp at hd;omega
    subst hjl
    rw[List.take_length,hsum,←hda,←hst]
    refine Wk ?_
    refine⟨k+1,by omega,by omega,?_⟩
    refine fN ?_<;>repeat' (first|exact fQ|refine And.intro ?_ ?_|exact SeesL.rfl' _|exact Sees.int (by rw[w64]<;>omega))
 ·have hkn:k=cs.length:=by simp at hb;omega
  subst hkn
  refine Wk ?_
  exact resP.mk rfl (Sees.int rfl)
def hearsN (n:Net)(s d:Int):Bool:=decide (netE n=0)&&decide (0≤s)&&decide (0≤d)&&decide (s≤8796093022208)&&decide (d≤8796093022208)&&heardB n s d
theorem c_Hears (n:Net)(hn:n.small)(s d:Int):PCall Tryz.prog L 129 [n.av,.int .i64 s,.int .i64 d] (.bool (hearsN n s d)):=by
 refine PCall.intro mixed [] (nt:=26) Tryz.func129 rfl rfl (by simp) ?_
 refine Wk ?_
 refine cD (c_netCheck L n hn) ?_
 by_cases h0:netE n=0
 rotate_left
 ·have g0:(netE n != 0)=true:=by simpa using h0
  repeat((conv=>whnf);first|refine sT ?_|rw[g0])
  try(conv=>whnf)
  exact resP.mk rfl (Sees.bool (by unfold hearsN;rw[decide_eq_false h0];rfl))
 have g0:(netE n != 0)=false:=by simpa using h0
 by_cases h1:0≤s∧0≤d
 rotate_left
 ·have g1:decide ((if d < s then d else s) < 0)=true:=by rw[decide_eq_true_eq];split<;>omega
  repeat((conv=>whnf);first|refine sT ?_|rw[g0]|rw[g1])
  try(conv=>whnf)
  exact resP.mk rfl (Sees.bool (by unfold hearsN;rw[decide_eq_true h0];rcases Decidable.em (0≤s) with h|h<;>simp[h]<;>omega))
 have g1:decide ((if d < s then d else s) < 0)=false:=by rw[decide_eq_false_iff_not];split<;>omega
 by_cases h2:s≤8796093022208∧d≤8796093022208
 rotate_left
 ·have g2:decide (8796093022208 < (if s < d then d else s))=true:=by rw[decide_eq_true_eq];split<;>omega
  repeat((conv=>whnf);first|refine sT ?_|rw[g0]|rw[g1]|rw[g2])
  try(conv=>whnf)
  exact resP.mk rfl (Sees.bool (by unfold hearsN;rw[decide_eq_true h0,decide_eq_true h1.1,decide_eq_true h1.2];rcases Decidable.em (s≤8796093022208) with h|h<;>simp[h]<;>omega))
 have g2:decide (8796093022208 < (if s < d then d else s))=false:=by rw[decide_eq_false_iff_not];split<;>omega
 repeat((conv=>whnf);first|refine sT ?_|rw[g0]|rw[g1]|rw[g2])
 try(conv=>whnf)
 refine cD (c_hears L n (netE_ok h0) s d ⟨h1.1,h2.1⟩ ⟨h1.2,h2.2⟩) ?_
 refine Wk ?_
 exact resP.mk rfl (Sees.bool (by unfold hearsN;rw[decide_eq_true h0,decide_eq_true h1.1,decide_eq_true h1.2,decide_eq_true h2.1,decide_eq_true h2.2];simp))
theorem hearsN_ok {n:Net}(h0:netE n=0){s d:Int}(h1:0≤s)(h2:s≤8796093022208)(h3:0≤d)(h4:d≤8796093022208):hearsN n s d=heardB n s d:=by
 unfold hearsN
 rw[decide_eq_true h0,decide_eq_true h1,decide_eq_true h2,decide_eq_true h3,decide_eq_true h4];simp
theorem c_touches (a b:Cell):PCall Tryz.prog L 213 [a.av,b.av] (.bool (touchB a b)):=by
 refine PCall.intro mixed [] (nt:=31) Tryz.func213 rfl rfl (by simp) ?_
 refine Wk ?_
 cases h1:a.src==b.src
 ·refine Wk ?_
  cases h2:a.src==b.dst
  ·refine Wk ?_
   cases h3:a.dst==b.src
   ·refine Wk ?_
    exact resP.mk rfl (Sees.bool (by simp[touchB,h1,h2,h3]))
   ·refine Wk ?_
    exact resP.mk rfl (Sees.bool (by simp[touchB,h3]))
  ·refine Wk ?_
   exact resP.mk rfl (Sees.bool (by simp[touchB,h2]))
 ·refine Wk ?_
  exact resP.mk rfl (Sees.bool (by simp[touchB,h1]))
end
section
variable (L:World→Prop)
theorem c_heard1 (n:Net)(hn:n.small)(h0:netE n=0)(cs:List Cell)(hc:cs.length≤32)(i p:Nat)(m node:Int)(hm:n.margin[p]? = some m)(hm0:0≤m)(hm1:m≤68719476736)(hnd:insB node n.nodes=true):PCall Tryz.prog L 214 [.int .i64 p,.int .i64 node,.cptr n.av 0,.cptr (.agg [encCells cs]) 0,.cptr (.agg [.int .i64 i]) 0] (.bool (heardB n m (distM n cs i node))):=by
 have hok:=netE_ok h0
 have hmm:=getMap (f:=encI) hm
 have hpl:=(List.getElem?_eq_some_iff.1 hm).1
 have hd:0≤distM n cs i node∧distM n cs i node≤cs.length*137438953472:=distU_bd hok cs i node cs.length
 refine PCall.intro mixed [] (nt:=20) Tryz.func214 rfl rfl (by simp) ?_
 repeat((conv=>whnf);first|refine sJ ?_|refine aI (by first|exact inbMap hpl|kernel_rfl) ?_|rw[hmm])
 try(conv=>whnf)
 refine cD (c_cdist L n hok cs (by omega) i node hnd) ?_
 refine Wk ?_
 refine cD (c_Hears L n hn m (distM n cs i node)) ?_
 rw[hearsN_ok h0 hm0 (by omega) hd.1 (by omega)]
 refine Wk ?_
 exact resP.mk rfl (Sees.bool rfl)
theorem any_hit {m k:Nat}{f:Nat→Bool}(hk:k < m)(h:f k=true):(List.range m).any f=true:=List.any_eq_true.2 ⟨k,by simpa using hk,h⟩
theorem any_nk {m:Nat}{f:Nat→Bool}(h:∀j,j < m→f j=false):(List.range m).any f=false:=by
 rw[List.any_eq_false];intro j hj;simp[h j (by simpa using hj)]
theorem c_faulty (n:Net)(hn:n.small)(h0:netE n=0)(cs:List Cell)(hc:cs.length≤32)(i:Nat)(hi:i < cs.length):PCall Tryz.prog L 193 [n.av,encCells cs,.int .i64 i] (.bool (faultyM n cs i)):=by
 have hok:=netE_ok h0
 obtain⟨c,hgc⟩:=getLt hi
 have hmc:=getMap (f:=Cell.av) hgc
 have hF:faultyM n cs i=if goodL n c.src c.dst=false then true else if (List.range cs.length).any (touchAt cs c i) then true
  else if heardB n (marginAt n c.src c.dst) (distM n cs i c.dst)=false then true else !heardB n (marginAt n c.dst c.src) (distM n cs i c.src):=by unfold faultyM;rw[hgc]
 refine PCall.intro mixed [] (nt:=64) Tryz.func193 rfl rfl (by simp) ?_
 repeat((conv=>whnf);first|refine sJ ?_|refine aI (by first|exact inbMap hi|kernel_rfl) ?_|rw[hmc])
 try(conv=>whnf)
 refine cD (c_index L n hn c.src c.dst) ?_
 refine Wk ?_
 refine cD (c_index L n hn c.dst c.src) ?_
 refine Wk ?_
 refine cD (c_Usable L n hn (indexN n c.src c.dst)) ?_
 rw[usable_index h0]
 refine Wk ?_
 refine BrK.mk (fun h1=>?_) (fun h1=>?_)<;>(try rw[h1])
 ·refine Wk ?_
  exact resP.mk rfl (Sees.bool (by rw[hF,if_pos (by simpa using h1)]))
 have hg:goodL n c.src c.dst=true:=by simpa using h1
 rw[if_neg (by simp[hg])]at hF
 obtain⟨p,m,e1,e2,e3,e4,e5,e6,e7,e8⟩:=good_at hok hg
 obtain⟨p',m',f1,f2,f3,f4,f5,f6,f7,f8⟩:=good_at hok e8
 have hi1:indexN n c.src c.dst=(p:Int):=by rw[indexN,if_pos h0,e1]
 have hi2:indexN n c.dst c.src=(p':Int):=by rw[indexN,if_pos h0,f1]
 rw[e3,f3]at hF
 rw[hi1,hi2]
 refine Wk ?_
 refine LoopK.run mixed [] (fun (k:Nat)=>k≤cs.length∧∀j,j < k→touchAt cs c i j=false) (fun k=>[(3,.ptr 0 0),(4,.ptr 1 0),(5,.ptr 2 0),(7,.ptr 3 0),(8,.int .i64 p),(9,.int .i64 p'),(33,encCells cs),(34,.int .i64 cs.length),(35,.int .i64 k)]) (fun _=>⟨[.cells n.cs 26,.cells [encCells cs] 28,.cells [.int .i64 i] 3,.cells c.av.cells 63],[],0,0,fun _=>0⟩) (fun k=>cs.length-k) 0 ⟨by simp,by simp⟩ ?_ ?_
 ·refine fN ?_<;>repeat' (first|exact fQ|refine And.intro ?_ ?_|exact SeesL.rfl' _|exact Sees.int (by simp))
 rintro k ⟨hk,hinv⟩
 refine Wk ?_
 refine BrK.mk (fun hb=>?_) (fun hb=>?_)<;>try rw[hb]
 ·have hlt:k < cs.length:=by simpa using hb
  obtain⟨d,hgd⟩:=getLt hlt
  have hmd:=getMap (f:=Cell.av) hgd
  have htc:touchAt cs c i k=(k != i&&touchB c d):=by unfold touchAt;rw[hgd]
  have nxt:touchAt cs c i k=false→∀j,j < k+1→touchAt cs c i j=false:=fun h j hj=>by
   rcases Nat.lt_succ_iff_lt_or_eq.1 hj with h'|rfl
   ·exact hinv j h'
   ·exact h
  repeat((conv=>whnf);first|refine sJ ?_|refine aI (by first|exact inbMap hlt|kernel_rfl) ?_|rw[hmd])
  try(conv=>whnf)
  by_cases hki:k=i
  ·have g:((k:Int) != (i:Int))=false:=by simp;omega
   have ht:touchAt cs c i k=false:=by rw[htc,show(k != i)=false from by simpa using hki];rfl
   repeat((conv=>whnf);first|refine sT ?_|rw[g])
   try(conv=>whnf)
   refine⟨k+1,⟨by omega,nxt ht⟩,by omega,?_⟩
   refine fN ?_<;>repeat' (first|exact fQ|refine And.intro ?_ ?_|exact SeesL.rfl' _|exact Sees.int (by rw[w64]<;>omega))
  ·have g:((k:Int) != (i:Int))=true:=by simp;omega
   have ht:touchAt cs c i k=touchB c d:=by rw[htc,show(k != i)=true from by simpa using hki];rfl
   repeat((conv=>whnf);first|refine sT ?_|rw[g])
   try(conv=>whnf)
   refine cD (c_touches L c d) ?_
   rw[←ht]
   cases hT:touchAt cs c i k with
   | true=>
    rw[if_pos (any_hit hlt hT)]at hF
    refine Wk ?_
    exact resP.mk rfl (Sees.bool hF.symm)
   | false=>
    refine Wk ?_
    refine⟨k+1,⟨by omega,nxt hT⟩,by omega,?_⟩
    refine fN ?_<;>repeat' (first|exact fQ|refine And.intro ?_ ?_|exact SeesL.rfl' _|exact Sees.int (by rw[w64]<;>omega))
 ·have hkn:k=cs.length:=by simp at hb;omega
  subst hkn
  rw[if_neg (by simp[any_nk hinv])]at hF
  refine Wk ?_
  refine cB (c_heard1 L n hn h0 cs hc i p m c.dst e2 e4 e5 e7) ?_
  cases hh1:heardB n m (distM n cs i c.dst) with
  | false=>
   rw[if_pos hh1]at hF
   refine Wk ?_
   exact resP.mk rfl (Sees.bool hF.symm)
  | true=>
   rw[if_neg (by simp[hh1])]at hF
   refine Wk ?_
   refine cB (c_heard1 L n hn h0 cs hc i p' m' c.src f2 f4 f5 f7) ?_
   refine Wk ?_
   exact resP.mk rfl (Sees.bool hF.symm)
def faultI (n:Net)(cs:List Cell)(k:Nat):Int:=if faultyM n cs k then 1 else 0
def firstF (n:Net)(cs:List Cell):Int×Int:=if netE n≠0 then(-1,0) else firstAt (faultI n cs) cs.length
theorem goodM_first (n:Net)(cs:List Cell):goodM n cs=(decide (netE n=0)&&decide ((firstF n cs).2=0)):=by
 unfold goodM firstF
 by_cases h0:netE n=0
 ·rw[decide_eq_true h0,if_neg (by simp[h0]),Bool.true_and,Bool.true_and,Bool.eq_iff_iff]
  simp only[Bool.not_eq_true',List.any_eq_false,List.mem_range,decide_eq_true_eq,firstAt_ok]
  refine forall_congr' fun j=>forall_congr' fun _=>?_
  unfold faultI
  cases faultyM n cs j<;>simp
 ·rw[decide_eq_false h0,Bool.false_and,Bool.false_and]
theorem c_First (n:Net)(hn:n.small)(cs:List Cell)(hc:cs.length≤32):PCall Tryz.prog L 159 [n.av,encCells cs] (.tup [.int .i64 (firstF n cs).1,.bool (decide ((firstF n cs).2≠0))]):=by
 refine PCall.intro mixed [] (nt:=21) Tryz.func159 rfl rfl (by simp) ?_
 refine Wk ?_
 refine cD (c_netCheck L n hn) ?_
 refine Wk ?_
 refine BrK.mk (fun h1=>?_) (fun h1=>?_)<;>(try rw[h1])
 ·have h1':netE n≠0:=by simpa using h1
  refine Wk ?_
  exact resP.mk rfl (Sees.of_eq (by rw[firstF,if_pos h1'];rfl))
 have h0:netE n=0:=by simpa using h1
 have hF:firstF n cs=firstAt (faultI n cs) cs.length:=by rw[firstF,if_neg (by simp[h0])]
 rw[hF]
 refine Wk ?_
 refine LoopK.run mixed [] (fun (k:Nat)=>k≤cs.length∧∀j,j < k→faultI n cs j=0) (fun k=>[(1,encCells cs),(2,.ptr 0 0),(11,.int .i64 cs.length),(12,.int .i64 k)]) (fun k=>⟨[.cells n.cs 26],[],0,0,fun _=>0⟩) (fun k=>cs.length-k) 0 ⟨by simp,by simp⟩ ?_ ?_
 ·refine fN ?_<;>repeat' (first|exact fQ|refine And.intro ?_ ?_|exact SeesL.rfl' _|exact Sees.int (by simp))
 rintro k ⟨hk,hinv⟩
 refine Wk ?_
 refine BrK.mk (fun hb=>?_) (fun hb=>?_)<;>try rw[hb]
 ·have hlt:k < cs.length:=by simpa using hb
  refine Wk ?_
  refine cD (c_faulty L n hn h0 cs hc k hlt) ?_
  cases hf:faultyM n cs k with
  | true=>
   have hi:faultI n cs k=1:=by rw[faultI,if_pos hf]
   refine Wk ?_
   exact resP.mk rfl (Sees.of_eq (by rw[firstAt_hit hinv (by rw[hi];decide) hlt,hi];rfl))
  | false=>
   have hi:faultI n cs k=0:=by rw[faultI,if_neg (by simp[hf])]
   refine Wk ?_
   refine⟨k+1,⟨by omega,fun j hj=>?_⟩,by omega,?_⟩
   ·rcases Nat.lt_succ_iff_lt_or_eq.1 hj with h|rfl
    ·exact hinv j h
    ·exact hi
   ·refine fN ?_<;>repeat' (first|exact fQ|refine And.intro ?_ ?_|exact SeesL.rfl' _|exact Sees.int (by rw[w64]<;>omega))
 ·have hkn:k=cs.length:=by simp at hb;omega
  subst hkn
  refine Wk ?_
  exact resP.mk rfl (Sees.of_eq (by rw[firstAt_zero hinv];rfl))
theorem c_Good (n:Net)(hn:n.small)(cs:List Cell)(hc:cs.length≤32):PCall Tryz.prog L 99 [n.av,encCells cs] (.bool (goodM n cs)):=by
 rw[goodM_first]
 refine PCall.intro mixed [] (nt:=20) Tryz.func99 rfl rfl (by simp) ?_
 refine Wk ?_
 refine cD (c_First L n hn cs hc) ?_
 refine Wk ?_
 refine cD (c_netCheck L n hn) ?_
 by_cases h0:netE n=0
 ·have g:(netE n==0)=true:=by simpa using h0
  repeat((conv=>whnf);first|refine sT ?_|rw[g])
  try(conv=>whnf)
  exact resP.mk rfl (Sees.bool (by rw[decide_eq_true h0];simp))
 ·have g:(netE n==0)=false:=by simpa using h0
  repeat((conv=>whnf);first|refine sT ?_|rw[g])
  try(conv=>whnf)
  exact resP.mk rfl (Sees.bool (by rw[decide_eq_false h0];rfl))
end
section
variable (L:World→Prop)
theorem c_IndexFuncCell (l:List Cell)(p:Cell→Bool)(g:Nat)(caps:List AV)(hl:l.length≤281474976710656)(hcb:callable Tryz.prog g=true)(hc:fzs caps=some caps)(hp:∀x∈l,PCall Tryz.prog L g (Cell.av x :: caps) (.bool (p x))) :
  PCall Tryz.prog L 105 [.sl false (l.map Cell.av),.fn g caps] (.int .i64 (idxF p l)):=by
 refine PCall.intro mixed [] (nt:=19) Tryz.func105 rfl rfl (by simp) ?_
 refine Wk ?_
 refine LoopK.run mixed [] (fun (k:Nat)=>k≤l.length∧∀j x,j < k→l[j]? = some x→p x=false) (fun k=>[(0,.sl false (l.map Cell.av)),(1,.fn g caps),(7,.int .i64 l.length),(8,.int .i64 k)]) (fun k=>St.none) (fun k=>l.length-k) 0 ⟨by simp,by simp⟩ ?_ ?_
 ·refine fN ?_<;>repeat' (first|exact fQ|refine And.intro ?_ ?_|exact Sees.int (by simp)|exact fzs_okk hc)
 rintro k ⟨hk,hinv⟩
 refine Wk ?_
 refine BrK.mk (fun hb=>?_) (fun hb=>?_)<;>try rw[hb]
 ·have hlt:k < l.length:=by simpa using hb
  obtain⟨x,hgx⟩:=getLt hlt
  have hmx:=getMap (f:=Cell.av) hgx
  repeat((conv=>whnf);first|refine sJ ?_|refine aI (by first|exact inbMap hlt|kernel_rfl) ?_|rw[hmx])
  try(conv=>whnf)
  refine CallK.data hcb (hp x (List.mem_of_getElem? hgx)) (by show(match fz _,fzs caps with|some a,some b=>some (a :: b)|_,_=>none)=_;rw[hc];rfl) ?_
  refine Wk ?_
  refine BrK.mk (fun h2=>?_) (fun h2=>?_)<;>(try rw[h2])
  ·refine Wk ?_
   exact resP.mk rfl (Sees.int (idxF_some hlt hinv hgx h2).symm)
  ·refine Wk ?_
   refine⟨k+1,⟨by omega,fun j y hj hy=>?_⟩,by omega,?_⟩
   ·rcases Nat.lt_succ_iff_lt_or_eq.1 hj with h|rfl
    ·exact hinv j y h hy
    ·rw[hgx]at hy;injection hy with hy;subst hy;exact h2
   ·refine fN ?_<;>repeat' (first|exact fQ|refine And.intro ?_ ?_|exact Sees.int (succI hlt hl)|exact fzs_okk hc)
 ·have hk':k=l.length:=by simp at hb;omega
  subst hk'
  refine Wk ?_
  exact resP.mk rfl (Sees.int (idxF_none hinv).symm)
theorem c_ContainsFuncCell (l:List Cell)(p:Cell→Bool)(g:Nat)(caps:List AV)(hl:l.length≤281474976710656)(hcb:callable Tryz.prog g=true)(hc:fzs caps=some caps)(hp:∀x∈l,PCall Tryz.prog L g (Cell.av x :: caps) (.bool (p x))) :
  PCall Tryz.prog L 178 [.sl false (l.map Cell.av),.fn g caps] (.bool (l.any p)):=by
 refine PCall.intro mixed [] (nt:=9) Tryz.func178 rfl rfl (by simp) ?_
 refine Wk ?_
 refine CallK.data rfl (c_IndexFuncCell L l p g caps hl hcb hc hp) (by show(match fz _,fzs [AV.fn g caps] with|some a,some b=>some (a :: b)|_,_=>none)=_;rw[show fzs [AV.fn g caps] = some [AV.fn g caps] from by simp[fz,fzs,hc]];rfl) ?_
 refine Wk ?_
 exact resP.mk rfl (Sees.bool (idxF_any p l))
end
section
variable (L:World→Prop)
theorem c_Clone0Cell:PCall Tryz.prog L 52 [.sl false (([]:List Cell).map Cell.av)] (.sl false (([]:List Cell).map Cell.av)):=by
 refine PCall.intro mixed [] (nt:=8) Tryz.func52 rfl rfl (by simp) ?_
 refine Wk ?_
 intro b
 cases b
 ·repeat((conv=>whnf);first|refine sJ ?_|refine aI (by first|exact Els.map (f:=Cell.av) (fun x=>⟨(cellOk).len x,(cellOk).cell x⟩)|kernel_rfl) ?_ )
  try(conv=>whnf)
  exact resP.mk rfl (Sees.of_eq rfl)
 ·refine Wk ?_
  exact resP.mk rfl (Sees.of_eq rfl)
theorem c_CloneCell (l:List Cell)(hne:l≠[])(hl:l.length≤1099511627776):FCall Tryz.prog L 52 [.sl false (l.map Cell.av)] (l.map Cell.av) 5 63:=by
 refine FCall.of_ICall (ICall.intro mixed [] (nt:=8) Tryz.func52 rfl rfl (by simp) ?_)
 refine Wk ?_
 refine BrK.mk (fun h=>?_) (fun h=>?_)<;>(try rw[h])
 ·exact absurd (by simpa using h) hne
 ·repeat((conv=>whnf);first|refine sJ ?_|refine aI (by first|exact Els.map (f:=Cell.av) (fun x=>⟨(cellOk).len x,(cellOk).cell x⟩)|exact(show _*40≤_ by simp only[List.length_map,List.length_nil];omega)|exact(by simp only[List.length_map,List.length_nil,maxLen];omega)|kernel_rfl) ?_ )
  try(conv=>whnf)
  exact⟨_,rfl,rfl,rfl⟩
theorem i_DeleteCell (o1 o2:Ob)(n0 m0:Nat)(ty:Nat→TypeId)(l:List Cell)(p:Cell→Bool)(g:Nat)(caps fcaps:List AV)(d:Nat){K:AV→St→Prop}(hl:l.length≤281474976710656)(hcb:callable Tryz.prog g=true)(hc:fzs fcaps=some fcaps)(hok:o1.okk 3 0∧o2.okk 3 0∧okks 3 0 caps)
  (hfz:∀(x:List Ob) (n m:Nat) (ty':Nat→TypeId),fzbs ⟨o1 :: o2 :: x,[],n,m,ty'⟩ caps=some fcaps) (hp:∀x∈l,PCall Tryz.prog L g (Cell.av x :: fcaps) (.bool (p x)))
  (hK:∀ex:List AV,K (.vsl 2 0 (l.filter fun x=>!p x).length 5) ⟨[o1,o2,.cells (flatE ((l.filter fun x=>!p x).map Cell.av)++ex) 63],[],n0,m0,ty⟩) :
  ICall Tryz.prog L 53 [.vsl 2 0 l.length 5,.fn g caps] ⟨[o1,o2,freshO (l.map Cell.av) 5 d 63],[],n0,m0,ty⟩ K:=by
 have hall:∀x:Cell,(Cell.av x).cells.length=5:=fun x=>(cellOk).len x
 refine ICall.intro mixed [] (nt:=42) Tryz.func53 rfl rfl (by simp) ?_
 refine Wk ?_
 refine CallK.box rfl (c_IndexFuncCell L l p g fcaps hl hcb hc hp) (fz2 ((cellOk).fzb rfl rfl) (fzf1 (hfz _ _ _ _))) rfl ?_
 refine Wk ?_
 refine BrK.mk (fun h1=>?_) (fun h1=>?_)<;>(try rw[h1])
 ·refine Wk ?_
  have hnone:=idxF_none_iff (p:=p) (l:=l) (by simpa using h1)
  have hfil:(l.filter fun x=>!p x)=l:=List.filter_eq_self.2 fun x hx=>by
   obtain⟨j,hj⟩:=List.getElem?_of_mem hx
   simp[hnone j x hj]
  have:=hK (List.replicate (d*5) .undef)
  rw[hfil]at this
  exact this
 obtain⟨k,x,e1,e2,e3⟩:=idxF_at (p:=p) (l:=l) (by simpa using h1)
 obtain⟨_,_,_,e4⟩:=idxF_first e1
 have hklt:=(List.getElem?_eq_some_iff.1 e2).1
 rw[e1]
 refine Wk ?_
 refine LoopK.run mixed [] (fun s:List Cell×Nat×Nat=>Kept p l s.1 s.2.1 s.2.2) (fun s=>[(0,.vsl 2 0 l.length 5),(1,.fn g caps),(5,.int .i64 s.2.1),(6,.int .i64 s.2.2)]) (fun s=>⟨[o1,o2,.cells (flatE (s.1.map Cell.av)++List.replicate (d*5) .undef) 63],[],3,0,ty⟩) (fun s=>l.length-s.2.2) (l,k,k+1) (Kept.start e2 e3 e4) ?_ ?_
 ·refine fN ?_<;>repeat' (first|exact fQ|refine And.intro ?_ ?_|exact SeesL.rfl' _|exact SeesO.rfl' _|exact hok.1|exact hok.2.1|exact hok.2.2|exact okks_append ((cellOk).okk _ _ _) (okks_undef _ _ _)|exact Sees.int (succI hklt hl))
 rintro⟨a,i,j⟩ hkept
 simp only at hkept
 have hij:=hkept.ij
 have halen:=hkept.len
 refine Wk ?_
 refine BrK.mk (fun hb=>?_) (fun hb=>?_)<;>try rw[hb]
 ·have hlt:j < l.length:=by simpa using hb
  obtain⟨y,hgy⟩:=getLt hlt
  have hay:=hkept.get hgy
  have hld:=(cellOk).ld (List.replicate (d*5) .undef) hay
  have hft:=(cellOk).fit (l:=a) (List.replicate (d*5) .undef) (k:=j) (by omega)
  have hpy:=hp y (List.mem_of_getElem? hgy)
  repeat((conv=>whnf);first|refine sJ ?_|refine aI (by first|exact⟨by omega,by simp;omega⟩|kernel_rfl) ?_ )
  try(conv=>whnf)
  refine And.intro (show 0+(j:Int).toNat*5+5≤_ by rw[Nat.zero_add,Int.toNat_natCast];exact hft) ?_
  rw[(cellOk).ldr _ hay _ _ (by kernel_rfl) (by kernel_rfl)]
  refine Wk ?_
  refine CallK.box hcb hpy (fz2 rfl (hfz _ _ _ _)) rfl ?_
  have hfi:=(cellOk).fit (l:=a) (List.replicate (d*5) .undef) (k:=i) (by omega)
  refine Wk ?_
  refine BrK.mk (fun h2=>?_) (fun h2=>?_)<;>(try rw[h2])
  ·repeat((conv=>whnf);first|refine sJ ?_|refine aI (by first|exact⟨by omega,by simp;omega⟩|exact(show 0+(i:Int).toNat*5+5≤_ by rw[Nat.zero_add,Int.toNat_natCast];exact hfi)|kernel_rfl) ?_ )
   try(conv=>whnf)
   have hst:=(cellOk).st y (List.replicate (d*5) .undef) (l:=a) (k:=i) (by omega)
   refine⟨(a.set i y,i+1,j+1),hkept.keep hgy (by simpa using h2),by simp only;omega,?_⟩
   refine fN ?_<;>repeat' (first|exact fQ|refine And.intro ?_ ?_|exact SeesO.rfl' _|exact hok.1|exact hok.2.1|exact hok.2.2|exact okks_append ((cellOk).okk _ _ _) (okks_undef _ _ _)|exact Sees.int (succI hlt hl)|exact Sees.int (succI (by omega:i < l.length) hl)|exact SeesL.of_eq (by rw[Nat.zero_add,Int.toNat_natCast];exact hst))
  ·refine Wk ?_
   refine⟨(a,i,j+1),hkept.skip hgy (by simpa using h2),by simp only;omega,?_⟩
   refine fN ?_<;>repeat' (first|exact fQ|refine And.intro ?_ ?_|exact SeesL.rfl' _|exact SeesO.rfl' _|exact hok.1|exact hok.2.1|exact hok.2.2|exact okks_append ((cellOk).okk _ _ _) (okks_undef _ _ _)|exact Sees.int (succI hlt hl))
 ·have hj:j=l.length:=by simp at hb;omega
  subst hj
  have hfin:=hkept.fin
  have hflen:=(cellOk).flen a
  have hcl:0+(i:Int).toNat*5+(l.length-(i:Int).toNat)*5≤(flatE (a.map Cell.av)++List.replicate (d*5) AV.undef).length:=by
   rw[List.length_append,hflen,Int.toNat_natCast,Nat.zero_add,←Nat.add_mul,show i+(l.length-i)=l.length by omega,halen]
   exact Nat.le_add_right _ _
  have hfl:(l.filter fun x=>!p x).length=i:=by rw[←hfin,List.length_take];omega
  repeat((conv=>whnf);first|refine sJ ?_|refine aI (by first|exact(show InC (i:Int) l.length from⟨by omega,by omega⟩)|exact⟨rfl,rfl,Nat.le_of_ble_eq_true rfl,hcl⟩|kernel_rfl) ?_ )
  try(conv=>whnf)
  rw[(cellOk).clr' (l:=a) (k:=i) _ _ _ _ (by kernel_rfl) (by rw[Int.toNat_natCast,halen]) (by omega) rfl]
  repeat((conv=>whnf);first|refine sJ ?_|refine aI (by first|exact⟨(by omega:(0:Int)≤(i:Int)),(cellOk).headLe (k:=i) _ _ rfl (by omega),Nat.le_of_ble_eq_true rfl⟩|kernel_rfl) ?_ )
  try(conv=>whnf)
  have hKK:=hK
  rw[hfl]at hKK
  rw[←hfin]at hKK
  exact hKK _
theorem c_wcells1 (w:Way)(l:Link)(c:Cell):PCall Tryz.prog L 165 [c.av,.cptr w.av 0,.cptr l.av 0] (.bool (offL w.f.id l.src l.dst c)):=by
 refine PCall.intro mixed [] (nt:=25) Tryz.func165 rfl rfl (by simp) ?_
 refine Wk ?_
 refine BrK.mk (fun h1=>?_) (fun h1=>?_)<;>(try rw[h1])
 ·refine Wk ?_
  exact resP.mk rfl (Sees.bool (by unfold offL;rw[h1];rfl))
 ·refine Wk ?_
  refine BrK.mk (fun h2=>?_) (fun h2=>?_)<;>(try rw[h2])
  ·refine Wk ?_
   exact resP.mk rfl (Sees.bool (by unfold offL;rw[h1,h2];rfl))
  ·refine Wk ?_
   exact resP.mk rfl (Sees.bool (by unfold offL;rw[h1,h2];rfl))
theorem c_wcells (w:Way)(l:Link)(hl:w.s.cells.length≤1099511627776):PCall Tryz.prog L 110 [w.av,l.av] (encCells (cellsL w.s w.f l.src l.dst)):=by
 by_cases hne:w.s.cells=[]
 ·obtain⟨n,⟨len,offs,cells⟩,f,r,more⟩:=w
  simp only at hne
  subst hne
  refine PCall.intro mixed [] (nt:=11) Tryz.func110 rfl rfl (by simp) ?_
  refine Wk ?_
  refine cD (c_Clone0Cell L) ?_
  refine Wk ?_
  refine CallK.inl rfl (ICall.intro mixed [] (nt:=42) Tryz.func53 rfl rfl (by simp) ?_)
  refine Wk ?_
  refine CallK.box rfl (c_IndexFuncCell L [] (offL f.id l.src l.dst) 165 [.cptr (Way.av ⟨n,⟨len,offs,[]⟩,f,r,more⟩) 0,.cptr l.av 0] (by simp) rfl rfl (fun c _=>c_wcells1 L _ l c)) (fz2 rfl (fzf1 rfl)) rfl ?_
  refine Wk ?_
  exact resP.mk rfl (Sees.of_eq rfl)
 ·refine PCall.intro mixed [] (nt:=11) Tryz.func110 rfl rfl (by simp) ?_
  refine Wk ?_
  refine CallK.fresh rfl (c_CloneCell L w.s.cells hne hl) (by rfl) (cellOk.els _) (cellOk.scal (fun _=>rfl) _) (fun h=>absurd (by simpa using h) hne) (fun d=>?_)
  refine Wk ?_
  rw[List.length_map]
  refine CallK.inl rfl (i_DeleteCell L _ _ 0 0 _ w.s.cells (offL w.f.id l.src l.dst) _ [.ptr 0 0,.ptr 1 0] [.cptr w.av 0,.cptr l.av 0] d (by omega) rfl rfl ⟨?_,?_,?_⟩ (fun _ _ _ _=>rfl) (fun c _=>c_wcells1 L w l c) fun ex=>?_)
  ·exact fzs_okk (es:=w.av.cells) rfl
  ·exact fzs_okk (es:=l.av.cells) rfl
  ·exact⟨(by decide:0 < 3),(by decide:1 < 3),trivial⟩
  ·refine Wk ?_
   exact⟨_,cellOk.fzb rfl rfl,Sees.rfl' _⟩
theorem flowsE_one {nodes:Int}(h:2≤nodes∧nodes≤32)(f:Flow):(flowsE nodes [f]).2=0↔flowE nodes f=0:=by
 rw[flowsE,if_neg (by omega),if_neg (by simp),firstAt_ok]
 constructor
 ·intro hh
  have:=hh 0 (by simp)
  unfold flowAt at this
  simp only[List.getElem?_cons_zero]at this
  by_cases e:flowE nodes f=0
  ·exact e
  ·rw[if_pos e]at this;exact absurd this e
 ·intro hh j hj
  have:j=0:=by simpa using hj
  subst this
  unfold flowAt
  simp[hh,flowO]
theorem tmod_eq {a b:Int}(h:0≤a):a.tmod b=a % b:=Int.tmod_eq_emod_of_nonneg h
end
theorem c_wcheck (w:Way)(hn:w.n.small)(_hc:w.s.cells.length≤281474976710656)(hr:w.r.length≤281474976710656):PCall Tryz.prog LW 106 [w.av] (.int .i64 (wayE w.n w.s w.f w.r)):=by
 refine PCall.intro mixed [] (nt:=50) Tryz.func106 rfl rfl (by simp) ?_
 refine Wk ?_
 refine cD (c_netCheck LW w.n hn) ?_
 refine Wk ?_
 refine BrK.mk (fun h1=>?_) (fun h1=>?_)<;>(try rw[h1])
 ·refine Wk ?_
  exact resP.mk rfl (Sees.int (by rw[wayE,if_pos (.inl (by simpa using h1))]))
 have h0:netE w.n=0:=by simpa using h1
 have hok:=netE_ok h0
 refine Wk ?_
 refine cD (c_Print w.s) ?_
 refine Wk ?_
 refine BrK.mk (fun h2=>?_) (fun h2=>?_)<;>(try rw[h2])
 ·refine Wk ?_
  exact resP.mk rfl (Sees.int (by rw[wayE,if_pos (.inr (.inl (by cases hf:formB w.s with|false=>rfl|true=>simp[hf]at h2)))]))
 have hf:formB w.s=true:=by cases hf:formB w.s with|true=>rfl|false=>simp[hf]at h2
 have hsb:=sized_bd (form_all hf).1
 refine Wk ?_
 refine cD (c_FCheck LW w.n.nodes [w.f] (by simp)) ?_
 refine Wk ?_
 refine BrK.mk (fun h3=>?_) (fun h3=>?_)<;>(try rw[h3])
 ·refine Wk ?_
  have h3':flowE w.n.nodes w.f≠0:=fun h=>by rw[(flowsE_one hok.nodes w.f).2 h]at h3;cases h3
  exact resP.mk rfl (Sees.int (by rw[wayE,if_pos (.inr (.inr h3'))]))
 have h3':flowE w.n.nodes w.f=0:=(flowsE_one hok.nodes w.f).1 (by simpa using h3)
 have hfb:=flowE_ok h3'
 have e1:¬(netE w.n≠0∨formB w.s=false∨flowE w.n.nodes w.f≠0):=by simp[h0,hf,h3']
 repeat((conv=>whnf);first|refine sJ ?_|refine aI (by first|exact(show w.f.period≠0 by omega)|kernel_rfl) ?_ )
 try(conv=>whnf)
 rw[tmod_eq (by omega)]
 refine BrK.mk (fun h4=>?_) (fun h4=>?_)<;>(try rw[h4])
 ·refine Wk ?_
  exact resP.mk rfl (Sees.int (by rw[wayE,if_neg e1,if_pos (by simpa using h4)]))
 refine Wk ?_
 refine cD (c_RCheck LW w.n hn w.f.src w.f.dst w.r hr) ?_
 refine Wk ?_
 exact resP.mk rfl (Sees.int (by rw[wayE,if_neg e1,if_neg (by simpa using h4)]))
theorem c_wlinks (w:Way):PCall Tryz.prog LW 109 [w.av] (.fn 164 [.cptr w.av 0]):=by
 refine PCall.intro mixed [] (nt:=4) Tryz.func109 rfl rfl (by simp) ?_
 refine Wk ?_
 exact resP.mk rfl (Sees.of_eq rfl)
theorem c_wcounts (w:Way)(rel:Int):PCall Tryz.prog LW 56 [w.av,.int .i64 rel] (.fn 108 [.cptr (.agg [.int .i64 rel]) 0,.cptr w.av 0]):=by
 refine PCall.intro mixed [] (nt:=6) Tryz.func56 rfl rfl (by simp) ?_
 refine Wk ?_
 exact resP.mk rfl (Sees.of_eq rfl)
section
variable (L:World→Prop)
theorem c_BinCell (l:List Cell)(t:Cell)(g:Nat)(c:Cell→Int)(hl:l.length≤281474976710656)(hcb:callable Tryz.prog g=true)(hm:Mono c l)(hp:∀x∈l,PCall Tryz.prog L g [Cell.av x,Cell.av t] (.int .i64 (c x))) :
  PCall Tryz.prog L 196 [.sl false (l.map Cell.av),Cell.av t,.fn g []] (.tup [.int .i64 (posB c l),.bool (hasB c l)]):=by
 refine PCall.intro mixed [] (nt:=49) Tryz.func196 rfl rfl (by simp) ?_
 refine Wk ?_
 refine LoopK.run mixed [] (fun s:Nat×Nat=>s.1≤s.2∧s.2≤l.length∧(∀i x,i < s.1→l[i]? = some x→c x < 0)∧(∀x,l[s.2]? = some x→¬c x < 0)) (fun s=>[(0,.sl false (l.map Cell.av)),(2,.fn g []),(4,.ptr 0 0),(8,.int .i64 l.length),(9,.int .i64 s.1),(10,.int .i64 s.2)]) (fun _=>⟨[.cells (Cell.av t).cells 63],[],0,0,fun _=>0⟩) (fun s=>s.2-s.1) (0,l.length) ⟨by simp,by simp,by simp,by simp⟩ ?_ ?_
 ·refine fN ?_<;>repeat' (first|exact fQ|refine And.intro ?_ ?_|exact Sees.int (by simp))
 rintro⟨i,j⟩ ⟨h1,h2,h3,h4⟩
 simp only at h1 h2 h3 h4
 refine Wk ?_
 refine BrK.mk (fun hb=>?_) (fun hb=>?_)<;>try rw[hb]
 ·have hlt:i < j:=by simpa using hb
  have hw1:IntKind.i64.wrap ((i:Int)+(j:Int))=((i+j:Nat):Int):=by rw[w64]<;>omega
  have hw2:IntKind.i64.wrap ((IntKind.u64.wrap ((i+j:Nat):Int)).fdiv (2 ^ (min (1:Int).toNat IntKind.u64.bits)))=(((i+j) / 2:Nat):Int):=half_ok (by omega)
  obtain⟨m,hmid⟩:∃m,m=(i+j) / 2:=⟨_,rfl⟩
  have hml:m < l.length:=by omega
  obtain⟨x,hgx⟩:=getLt hml
  have hmx:=getMap (f:=Cell.av) hgx
  have hpx:=hp x (List.mem_of_getElem? hgx)
  rw[←hmid]at hw2
  repeat((conv=>whnf);first|refine sJ ?_|refine aI (by first|exact(show(0:Int)≤1 by decide)|exact inbMap hml|kernel_rfl) ?_|rw[hw1]|rw[hw2]|rw[hmx])
  try(conv=>whnf)
  refine CallP.data hcb hpx (by rfl) ?_
  refine Wk ?_
  refine BrK.mk (fun h5=>?_) (fun h5=>?_)<;>(try rw[h5])
  ·refine Wk ?_
   refine⟨(m+1,j),⟨by simp only;omega,by simp only;omega,fun k y hk hy=>?_,h4⟩,by simp only;omega,?_⟩
   ·rcases Nat.lt_succ_iff_lt_or_eq.1 hk with hk|rfl
    ·exact hm k m y x hk hy hgx (by simpa using h5)
    ·rw[hgx]at hy;injection hy with hy;subst hy;simpa using h5
   ·refine fN ?_<;>repeat' (first|exact fQ|refine And.intro ?_ ?_|exact Sees.int (by rw[w64]<;>omega))
  ·refine Wk ?_
   refine⟨(i,m),⟨by simp only;omega,by simp only;omega,h3,fun y hy=>?_⟩,by simp only;omega,?_⟩
   ·rw[hgx]at hy;injection hy with hy;subst hy;simpa using h5
   ·refine fN ?_<;>repeat' (first|exact fQ|refine And.intro ?_ ?_ )
 ·have hij:i=j:=by simp at hb;omega
  subst hij
  have hpos:posB c l=i:=posB_uniq h2 h3 h4
  refine Wk ?_
  refine BrK.mk (fun h6=>?_) (fun h6=>?_)<;>(try rw[h6])
  ·have hlt:i < l.length:=by simpa using h6
   obtain⟨x,hgx⟩:=getLt hlt
   have hmx:=getMap (f:=Cell.av) hgx
   have hpx:=hp x (List.mem_of_getElem? hgx)
   repeat((conv=>whnf);first|refine sJ ?_|refine aI (by first|exact inbMap hlt|kernel_rfl) ?_|rw[hmx])
   try(conv=>whnf)
   refine CallP.data hcb hpx (by rfl) ?_
   refine Wk ?_
   exact resP.mk rfl (Sees.of_eq (by simp only[hasB,hpos,hgx]))
  ·refine Wk ?_
   have:l.length≤i:=by simpa using h6
   exact resP.mk rfl (Sees.of_eq (by simp only[hasB,hpos,List.getElem?_eq_none this]))
theorem ins_cells (l:List Cell)(p:Nat)(c:Cell):flatE ((insAt l p c).map Cell.av)=flatE ((l.take p).map Cell.av)++c.av.cells++flatE ((l.drop p).map Cell.av):=by
 simp only[insAt,List.map_append,List.map_cons,flatE,List.flatMap_append,List.flatMap_cons,List.append_assoc]
theorem cut_cells (l:List Cell)(p:Nat):flatE (l.map Cell.av)=flatE ((l.take p).map Cell.av)++flatE ((l.drop p).map Cell.av):=by
 conv=>lhs;rw[←List.take_append_drop p l]
 simp only[List.map_append,flatE,List.flatMap_append]
theorem splice_len {cs vs:List AV}{off:Nat}(h:off+vs.length≤cs.length):(splice cs off vs).length=cs.length:=by
 rw[splice_eq _ _ _ h];simp;omega
theorem fzAdd {S:St}{a b:Int}{v:AV}{l:List AV}(h:fzb S v=some (.sl false l)):fzb S (.tup [.agg [.int .i64 a,.int .i64 b,v],.int .i64 0])=some (.tup [.agg [.int .i64 a,.int .i64 b,.sl false l],.int .i64 0]):=by
 simp[fzb,fzbs,h]
end
end HM
