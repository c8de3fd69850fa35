/- Is a schedule right, have requests a fault: the program. -/
import Derived.Test.YtpdlbjnjdbgpaaaGreatDoorS164
import Derived.Test.YtpdlbjnjdbgpaaaGreatDoorDc
import Derived.Test.YtpdlbjnjdbgpaaaGreatDoorS6
import Derived.Test.YtpdlbjnjdbgpaaaGreatDoorS191
import Derived.Test.YtpdlbjnjdbgpaaaGreatDoorS206
import Derived.Test.YtpdlbjnjdbgpaaaGreatDoorS208
import Derived.Test.YtpdlbjnjdbgpaaaGreatDoorFh
set_option maxHeartbeats 64000000
set_option maxRecDepth 100000
namespace HM
open Go Go.RowKit Go.Proofs
theorem c_servesA (n:Net)(hn:n.small)(q:List Req)(hq:q.length≤1099511627776)(hx:∀x∈q,x.small)(s:Sched)(hc:s.cells.length≤281474976710656):PCall Tryz.prog LW 22 [n.av,encReqs q,s.av] (.bool ((makeM n q s).2.2==0)):=by
 refine PCall.intro mixed [] (nt:=20) Tryz.func22 rfl rfl (by simp) ?_
 refine Wk ?_
 refine cD (c_Make n hn q hq hx s hc) ?_
 refine Wk ?_
 exact resP.mk rfl (Sees.bool rfl)
theorem c_faultyA (n:Net)(hn:n.small)(h0:netE n=0)(q:List Req)(hq:q.length≤1099511627776)(hx:∀x∈q,x.small):PCall Tryz.prog LW 36 [n.av,encReqs q] (.bool (decide ((reqE n q).2≠0))):=by
 rw[←faulty_iff h0]
 refine PCall.intro mixed [] (nt:=22) Tryz.func36 rfl rfl (by simp) ?_
 refine Wk ?_
 refine cD (c_Make n hn q hq hx ⟨0,0,[]⟩ (by simp)) ?_
 cases g1:((makeM n q ⟨0,0,[]⟩).2.2 != 1) with
 | true=>
  repeat((conv=>whnf);first|refine sT ?_|rw[g1])
  try(conv=>whnf)
  exact resP.mk rfl (Sees.bool rfl)
 | false=>
  repeat((conv=>whnf);first|refine sT ?_|rw[g1])
  try(conv=>whnf)
  exact resP.mk rfl (Sees.bool rfl)
section
variable (L:World→Prop)
theorem i_DelCell8 (o0 o1 o2 o3 o4 o5 o6 o7:Ob)(n0 m0:Nat)(ty:Nat→TypeId)(l:List Cell)(p:Cell→Bool)(g:Nat)(caps fcaps:List AV)(d:Nat){K:AV→St→Prop}(hl:l.length≤281474976710656)(hcb:callable Tryz.prog g=true)(hc:fzs fcaps=some fcaps)(hok:o0.okk 9 0∧o1.okk 9 0∧o2.okk 9 0∧o3.okk 9 0∧o4.okk 9 0∧o5.okk 9 0∧o6.okk 9 0∧o7.okk 9 0∧okks 9 0 caps)
  (hfz:∀(x:List Ob) (n m:Nat) (ty':Nat→TypeId),fzbs ⟨o0 :: o1 :: o2 :: o3 :: o4 :: o5 :: o6 :: o7 :: x,[],n,m,ty'⟩ caps=some fcaps) (hp:∀x∈l,PCall Tryz.prog L g (Cell.av x :: fcaps) (.bool (p x)))
  (hK:∀ex:List AV,K (.vsl 8 0 (l.filter fun x=>!p x).length 5) ⟨[o0,o1,o2,o3,o4,o5,o6,o7,.cells (flatE ((l.filter fun x=>!p x).map Cell.av)++ex) 63],[],n0,m0,ty⟩) :
  ICall Tryz.prog L 53 [.vsl 8 0 l.length 5,.fn g caps] ⟨[o0,o1,o2,o3,o4,o5,o6,o7,freshO (l.map Cell.av) 5 d 63],[],n0,m0,ty⟩ K:=by
 have hall:∀x:Cell,(Cell.av x).cells.length=5:=fun x=>(cellOk).len x
 refine ICall.intro mixed [] (nt:=42) Tryz.func53 rfl rfl (by simp) ?_
 refine Wk ?_
 refine CallK.box rfl (c_IndexFuncCell L l p g fcaps hl hcb hc hp) (fz2 ((cellOk).fzb rfl rfl) (fzf1 (hfz _ _ _ _))) rfl ?_
 refine Wk ?_
 refine BrK.mk (fun h1=>?_) (fun h1=>?_)<;>(try rw[h1])
 ·refine Wk ?_
  have hnone:=idxF_none_iff (p:=p) (l:=l) (by simpa using h1)
  have hfil:(l.filter fun x=>!p x)=l:=List.filter_eq_self.2 fun x hx=>by
   obtain⟨j,hj⟩:=List.getElem?_of_mem hx
   simp[hnone j x hj]
  have:=hK (List.replicate (d*5) .undef)
  rw[hfil]at this
  exact this
 obtain⟨k,x,e1,e2,e3⟩:=idxF_at (p:=p) (l:=l) (by simpa using h1)
 obtain⟨_,_,_,e4⟩:=idxF_first e1
 have hklt:=(List.getElem?_eq_some_iff.1 e2).1
 rw[e1]
 refine Wk ?_
 refine LoopK.run mixed [] (fun s:List Cell×Nat×Nat=>Kept p l s.1 s.2.1 s.2.2) (fun s=>[(0,.vsl 8 0 l.length 5),(1,.fn g caps),(5,.int .i64 s.2.1),(6,.int .i64 s.2.2)]) (fun s=>⟨[o0,o1,o2,o3,o4,o5,o6,o7,.cells (flatE (s.1.map Cell.av)++List.replicate (d*5) .undef) 63],[],9,0,ty⟩) (fun s=>l.length-s.2.2) (l,k,k+1) (Kept.start e2 e3 e4) ?_ ?_
 ·refine fN ?_<;>repeat' (first|exact fQ|refine And.intro ?_ ?_|exact SeesL.rfl' _|exact SeesO.rfl' _|exact hok.1|exact hok.2.1|exact hok.2.2.1|exact hok.2.2.2.1|exact hok.2.2.2.2.1|exact hok.2.2.2.2.2.1|exact hok.2.2.2.2.2.2.1|exact hok.2.2.2.2.2.2.2.1|exact hok.2.2.2.2.2.2.2.2|exact okks_append ((cellOk).okk _ _ _) (okks_undef _ _ _)|exact Sees.int (succI hklt hl))
 rintro⟨a,i,j⟩ hkept
 simp only at hkept
 have hij:=hkept.ij
 have halen:=hkept.len
 refine Wk ?_
 refine BrK.mk (fun hb=>?_) (fun hb=>?_)<;>try rw[hb]
 ·have hlt:j < l.length:=by simpa using hb
  obtain⟨y,hgy⟩:=getLt hlt
  have hay:=hkept.get hgy
  have hld:=(cellOk).ld (List.replicate (d*5) .undef) hay
  have hft:=(cellOk).fit (l:=a) (List.replicate (d*5) .undef) (k:=j) (by omega)
  have hpy:=hp y (List.mem_of_getElem? hgy)
  repeat((conv=>whnf);first|refine sJ ?_|refine aI (by first|exact⟨by omega,by simp;omega⟩|kernel_rfl) ?_ )
  try(conv=>whnf)
  refine And.intro (show 0+(j:Int).toNat*5+5≤_ by rw[Nat.zero_add,Int.toNat_natCast];exact hft) ?_
  rw[(cellOk).ldr _ hay _ _ (by kernel_rfl) (by kernel_rfl)]
  refine Wk ?_
  refine CallK.box hcb hpy (fz2 rfl (hfz _ _ _ _)) rfl ?_
  have hfi:=(cellOk).fit (l:=a) (List.replicate (d*5) .undef) (k:=i) (by omega)
  refine Wk ?_
  refine BrK.mk (fun h2=>?_) (fun h2=>?_)<;>(try rw[h2])
  ·repeat((conv=>whnf);first|refine sJ ?_|refine aI (by first|exact⟨by omega,by simp;omega⟩|exact(show 0+(i:Int).toNat*5+5≤_ by rw[Nat.zero_add,Int.toNat_natCast];exact hfi)|kernel_rfl) ?_ )
   try(conv=>whnf)
   have hst:=(cellOk).st y (List.replicate (d*5) .undef) (l:=a) (k:=i) (by omega)
   refine⟨(a.set i y,i+1,j+1),hkept.keep hgy (by simpa using h2),by simp only;omega,?_⟩
   refine fN ?_<;>repeat' (first|exact fQ|refine And.intro ?_ ?_|exact SeesO.rfl' _|exact hok.1|exact hok.2.1|exact hok.2.2.1|exact hok.2.2.2.1|exact hok.2.2.2.2.1|exact hok.2.2.2.2.2.1|exact hok.2.2.2.2.2.2.1|exact hok.2.2.2.2.2.2.2.1|exact hok.2.2.2.2.2.2.2.2|exact okks_append ((cellOk).okk _ _ _) (okks_undef _ _ _)|exact Sees.int (succI hlt hl)|exact Sees.int (succI (by omega:i < l.length) hl)|exact SeesL.of_eq (by rw[Nat.zero_add,Int.toNat_natCast];exact hst))
  ·refine Wk ?_
   refine⟨(a,i,j+1),hkept.skip hgy (by simpa using h2),by simp only;omega,?_⟩
   refine fN ?_<;>repeat' (first|exact fQ|refine And.intro ?_ ?_|exact SeesL.rfl' _|exact SeesO.rfl' _|exact hok.1|exact hok.2.1|exact hok.2.2.1|exact hok.2.2.2.1|exact hok.2.2.2.2.1|exact hok.2.2.2.2.2.1|exact hok.2.2.2.2.2.2.1|exact hok.2.2.2.2.2.2.2.1|exact hok.2.2.2.2.2.2.2.2|exact okks_append ((cellOk).okk _ _ _) (okks_undef _ _ _)|exact Sees.int (succI hlt hl))
 ·have hj:j=l.length:=by simp at hb;omega
  subst hj
  have hfin:=hkept.fin
  have hflen:=(cellOk).flen a
  have hcl:0+(i:Int).toNat*5+(l.length-(i:Int).toNat)*5≤(flatE (a.map Cell.av)++List.replicate (d*5) AV.undef).length:=by
   rw[List.length_append,hflen,Int.toNat_natCast,Nat.zero_add,←Nat.add_mul,show i+(l.length-i)=l.length by omega,halen]
   exact Nat.le_add_right _ _
  have hfl:(l.filter fun x=>!p x).length=i:=by rw[←hfin,List.length_take];omega
  repeat((conv=>whnf);first|refine sJ ?_|refine aI (by first|exact(show InC (i:Int) l.length from⟨by omega,by omega⟩)|exact⟨rfl,rfl,Nat.le_of_ble_eq_true rfl,hcl⟩|kernel_rfl) ?_ )
  try(conv=>whnf)
  rw[(cellOk).clr' (l:=a) (k:=i) _ _ _ _ (by kernel_rfl) (by rw[Int.toNat_natCast,halen]) (by omega) rfl]
  repeat((conv=>whnf);first|refine sJ ?_|refine aI (by first|exact⟨(by omega:(0:Int)≤(i:Int)),(cellOk).headLe (k:=i) _ _ rfl (by omega),Nat.le_of_ble_eq_true rfl⟩|kernel_rfl) ?_ )
  try(conv=>whnf)
  have hKK:=hK
  rw[hfl]at hKK
  rw[←hfin]at hKK
  exact hKK _
end
theorem hereL_le (s:Sched)(slot:Int)(j:Nat):(hereL s slot j).length≤(s.cells.filter fun c=>c.slot==slot).length:=by
 unfold hereL
 exact List.Sublist.length_le ((List.take_sublist j s.cells).filter _)
def slG (n:Net)(s:Sched)(v:AV):List AV:=[.int .i64 n.nodes,encRows n.power,.int .i64 n.noise,.int .i64 n.thr,encLinks n.links,encIs n.margin,.int .i64 s.len,.int .i64 s.offs,v]
def slZ:List AV:=[.int .i64 0,.nils,.int .i64 0,.int .i64 0,.nils,.nils,.int .i64 0,.int .i64 0,.nils]
def slBx (n:Net)(s:Sched)(Lp:LoopA):List Ob:=[.cells (slG n s (encCells s.cells)) 96,.dead,.dead,.dead,.cells slZ 96,.cells [.bool false] 4,.loop Lp]
def slS (n:Net)(s:Sched)(Lp:LoopA):List Cell→St
 | []=>⟨slBx n s Lp,[],7,0,fun _=>63⟩
 | c :: cs=>⟨slBx n s Lp,[(1,5),((c :: cs).length,5)],7,0,fun _=>63⟩
def slSl (n:Net)(s:Sched)(l:Link)(id slot:Int):List (Nat×AV):=[(4,.ptr 0 0),(5,.cptr l.av 0),(6,.cptr (.agg [.int .i64 id]) 0),(7,.cptr (.agg [.int .i64 slot]) 0),(8,.ptr 4 0),(9,.ptr 5 0),(23,.fn 96 [.cptr (gridAv n s) 0,.cptr (.agg [.int .i64 slot]) 0,.cptr l.av 0])]
def hereV1:List Cell→AV
 | []=>.nils
 | c :: cs=>.own ((c :: cs).map Cell.av) 1
theorem SemK.gen {P:Program}{L:World→Prop}{nt:Nat}{c:Code}{a:Nat→AV}{S:St}{Q:Exit→(Nat→AV)→St→Prop}(I:St→Prop)(hS:I S)(h:∀S2,I S2→SemK P L nt c a S2 Q):SemK P L nt c a S Q:=h S hS
def slotHalf (n:Net)(s:Sched)(l:Link)(id k:Int)(_hn:n.small)(_hg:GridOk s)(hs:s.cells.length≤1000000)(_hz:1≤s.offs∧s.offs≤16)(_hk:0≤k∧k≤512) :
  {p:Prop×Prop // (Unit→p.1)→(Unit→p.2)→PCall Tryz.prog LW 162 [gridAv n s,l.av,.int .i64 id,.int .i64 k] (.tup [gridAv n (slotM n s l.src l.dst id k).1,.bool (slotM n s l.src l.dst id k).2])}:=by
 refine⟨(?p,?q),fun H1 H2=>?main⟩
 case main=>
  refine PCall.intro mixed [1] (nt:=53) Tryz.func162 rfl rfl (by simp) ?_
  refine Wk ?_
  refine SeqK.sem mixed [] ?_
  refine Wk ?_
  refine SemK.freezeB 1 rfl rfl ?_
  refine SemK.freezeB 2 rfl rfl ?_
  refine SemK.freezeB 3 rfl rfl ?_
  refine twC_sound (ct:=[]) mixed _ _ _ _ ?_
  refine Wk ?_
  refine cD (c_has LW n s l id k (by omega)) ?_
  cases hh:hasF s l.src l.dst id k with
  | true=>
   have hS:slotM n s l.src l.dst id k=(s,true):=by rw[slotM,if_pos hh]
   rw[hS]
   refine Wk ?_
   exact resP.mk rfl (Sees.of_eq rfl)
  | false=>
  refine Wk ?_
  refine cD (c_offsets LW n s l k) ?_
  refine Wk ?_
  refine RangeK.weak (l:=slSl n s l id k) (S1:=⟨[.cells (slG n s (encCells s.cells)) 96,.dead,.dead,.dead,.cells slZ 96,.cells [.bool false] 4],[],0,0,fun _=>63⟩) ?_ ?_
  ·refine fN ?_<;>repeat' (first|exact fQ|refine And.intro ?_ ?_ )
  refine RangeK.named rfl rfl fun Lp hLp=>?_
  have hok:∀k2 m,6≤k2→Ob.okk k2 m (.loop Lp):=fun k2 m hk2=>loop_okk (l:=slSl n s l id k) (by rw[hLp]) (by simp[slSl,okL,AV.okk,okks];omega)
  have hbody:∀(S:St) (o:Nat) (K:AV→St→Prop),fitsM n s ⟨k,o,l.src,l.dst,0⟩=true→S.bx[0]? = some (.cells (slG n s (encCells s.cells)) 96)→S.bx[4]? = some (.cells slZ 96)→S.bx[5]? = some (.cells [.bool false] 4)→S.bx[6]? = some (.loop Lp) →
   (∀S' v,S'.bx[4]? = some (.cells (slG n s v) 96)→S'.bx[5]? = some (.cells [.bool true] 4)→S'.bx[6]? = some (.loop {Lp with st:=.done,pend:=some .ret})→(∀S2:St,(∀id o,id≠6→S'.bx[id]? = some o→S2.bx[id]? = some o)→fzb S2 v=some (encCells (insAt s.cells (posC s ⟨k,o,l.src,l.dst,id⟩) ⟨k,o,l.src,l.dst,id⟩)))→K (.bool false) S') →
   CallK Tryz.prog LW S (.yld 6) [.int .i64 o] K:=by
   clear hok
   revert hLp
   revert Lp
   exact H1 ()
  clear hok
  have hno:hasF s l.src l.dst id k=false:=hh
  clear hh
  revert hno hbody hLp
  revert Lp
  exact H2 ()
end HM
