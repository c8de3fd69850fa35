/- A cell less: slices.Delete; the schedule behind a change. -/
import Derived.Test.YtpdlbjnjdbgpaaaGreatDoorS6
import Derived.Test.YtpdlbjnjdbgpaaaGreatDoorDb
import Derived.Test.YtpdlbjnjdbgpaaaGreatDoorFh
import Derived.Test.YtpdlbjnjdbgpaaaGreatDoorDc
set_option maxHeartbeats 64000000
set_option maxRecDepth 100000
namespace HM
open Go Go.RowKit Go.Proofs
section
variable (L:World→Prop)
end
section
variable (L:World→Prop)
structure Upd (S S1:St)(b:Nat):Prop where
 bx:∀(id:Nat) (o:Ob),id≠b→S.bx[id]? = some o→S1.bx[id]? = some o
 fr:S1.fr=S.fr
 ty:S1.ty=S.ty
theorem Upd.refl (S:St)(b:Nat):Upd S S b:=⟨fun _ _ _ h=>h,rfl,rfl⟩
theorem Upd.setB {S S1:St}{b:Nat}(h:Upd S S1 b)(o:Ob):Upd S (S1.setB b o) b:=⟨fun id o' hne h1=>by rw[St.setB_ne hne.symm];exact h.bx id o' hne h1,h.fr,h.ty⟩
theorem Upd.addB {S S1:St}{b:Nat}(h:Upd S S1 b)(o:Ob):Upd S (S1.addB o) b:=⟨fun id o' hne h1=>St.addB_old (h.bx id o' hne h1),h.fr,h.ty⟩
end
theorem CallK.look {P:Program}{L:World→Prop}{S:St}{fv:AV}{args args':List AV}{K:AV→St→Prop}(h:SeesL args args')(hp:CallK P L S fv args' K):CallK P L S fv args K:=
 ⟨fun ro w0 G w fvv vals hS hf ha=>hp.out ro w0 G w fvv vals hS hf (h.out ha)⟩
def gridAv (n:Net)(s:Sched):AV:=.agg [.int .i64 n.nodes,encRows n.power,.int .i64 n.noise,.int .i64 n.thr,encLinks n.links,encIs n.margin,.int .i64 s.len,.int .i64 s.offs,encCells s.cells]
section
variable (L:World→Prop)
theorem c_touchA (c:Cell)(l:Link):PCall Tryz.prog L 97 [c.av,l.av] (.bool (touL l.src l.dst c)):=by
 refine PCall.intro mixed [] (nt:=31) Tryz.func97 rfl rfl (by simp) ?_
 cases h1:(c.src==l.src)<;>cases h2:(c.src==l.dst)<;>cases h3:(c.dst==l.src)<;>cases h4:(c.dst==l.dst)
 all_goals
  repeat((conv=>whnf);first|refine sT ?_|rw[h1]|rw[h2]|rw[h3]|rw[h4])
  try(conv=>whnf)
  exact resP.mk rfl (Sees.bool (by unfold touL;rw[h1,h2,h3,h4];rfl))
theorem c_off11 (c:Cell)(n:Int):PCall Tryz.prog L 98 [c.av,.cptr (.agg [.int .i64 n]) 0] (.bool (c.off != n)):=by
 refine PCall.intro mixed [] (nt:=8) Tryz.func98 rfl rfl (by simp) ?_
 refine Wk ?_
 exact resP.mk rfl (Sees.bool rfl)
theorem c_offsets (n:Net)(s:Sched)(l:Link)(slot:Int):PCall Tryz.prog L 48 [gridAv n s,l.av,.int .i64 slot] (.fn 96 [.cptr (gridAv n s) 0,.cptr (.agg [.int .i64 slot]) 0,.cptr l.av 0]):=by
 refine PCall.intro mixed [] (nt:=8) Tryz.func48 rfl rfl (by simp) ?_
 refine Wk ?_
 exact resP.mk rfl (Sees.of_eq rfl)
def hasE (a b id slot:Int)(c:Cell):Bool:=c.slot==slot&&(c.src==a&&(c.dst==b&&c.flow==id))
theorem c_has1 (c:Cell)(l:Link)(id slot:Int):PCall Tryz.prog L 216 [c.av,.cptr (.agg [.int .i64 slot]) 0,.cptr l.av 0,.cptr (.agg [.int .i64 id]) 0] (.bool (hasE l.src l.dst id slot c)):=by
 refine PCall.intro mixed [] (nt:=30) Tryz.func216 rfl rfl (by simp) ?_
 cases h1:(c.slot==slot)<;>cases h2:(c.src==l.src)<;>cases h3:(c.dst==l.dst)<;>cases h4:(c.flow==id)
 all_goals
  repeat((conv=>whnf);first|refine sT ?_|rw[h1]|rw[h2]|rw[h3]|rw[h4])
  try(conv=>whnf)
  exact resP.mk rfl (Sees.bool (by unfold hasE;rw[h1,h2,h3,h4];rfl))
theorem c_has (n:Net)(s:Sched)(l:Link)(id slot:Int)(hc:s.cells.length≤281474976710656):PCall Tryz.prog L 195 [gridAv n s,l.av,.int .i64 id,.int .i64 slot] (.bool (hasF s l.src l.dst id slot)):=by
 refine PCall.intro mixed [] (nt:=14) Tryz.func195 rfl rfl (by simp) ?_
 refine Wk ?_
 refine cB (c_ContainsFuncCell L s.cells (hasE l.src l.dst id slot) 216 [.cptr (.agg [.int .i64 slot]) 0,.cptr l.av 0,.cptr (.agg [.int .i64 id]) 0] hc rfl rfl (fun c _=>c_has1 L c l id slot)) ?_
 refine Wk ?_
 exact resP.mk rfl (Sees.bool rfl)
def orI:List Int→Int
 | []=>0
 | x :: l=>if x≠0 then x else orI l
theorem orI_skip:∀{l:List Int} {k:Nat},(∀(j:Nat) x,j < k→l[j]? = some x→x=0)→orI l=orI (l.drop k)
 | [],k,_=>by simp
 | x :: l,0,_=>rfl
 | x :: l,k+1,h=>by
  have h0:=h 0 x (by omega) rfl
  rw[List.drop_succ_cons,←orI_skip (l:=l) (k:=k) fun j y hj hy=>h (j+1) y (by omega) (by simpa using hy),orI,if_neg (by simp[h0])]
theorem c_OrI (l:List Int)(hl:l.length≤281474976710656):PCall Tryz.prog L 60 [encIs l] (.int .i64 (orI l)):=by
 refine PCall.intro mixed [] (nt:=18) Tryz.func60 rfl rfl (by simp) ?_
 refine Wk ?_
 refine LoopK.run mixed [] (fun (k:Nat)=>k≤l.length∧∀(j:Nat) x,j < k→l[j]? = some x→x=0) (fun k=>[(3,.int .i64 0),(6,encIs l),(7,.int .i64 l.length),(8,.int .i64 k)]) (fun k=>St.none) (fun k=>l.length-k) 0 ⟨by simp,by simp⟩ ?_ ?_
 ·refine fN ?_<;>repeat' (first|exact fQ|refine And.intro ?_ ?_|exact Sees.int (by simp))
 rintro k ⟨hk,hinv⟩
 by_cases hkt:k < l.length
 ·obtain⟨x,hgx⟩:=getLt hkt
  have hmx:=getMap (f:=encI) hgx
  have g0:decide ((k:Int) < (l.length:Int))=true:=decide_eq_true (by omega)
  have hor:orI l=orI (l.drop k):=orI_skip hinv
  rw[dropGet hgx]at hor
  by_cases hx:x=0
  ·have g1:(x != 0)=false:=by simp[hx]
   repeat((conv=>whnf);first|refine sJ ?_|refine aI (by first|exact trivial|exact inbMap hkt|kernel_rfl) ?_|rw[g0]|rw[hmx]|rw[g1])
   try(conv=>whnf)
   refine⟨k+1,⟨by omega,fun j y hj hy=>?_⟩,by omega,?_⟩
   ·rcases Nat.lt_succ_iff_lt_or_eq.1 hj with hj|rfl
    ·exact hinv j y hj hy
    ·rw[hgx]at hy;injection hy with hy;rw[←hy];exact hx
   ·refine fN ?_<;>repeat' (first|exact fQ|refine And.intro ?_ ?_|exact Sees.int (succI hkt hl))
  ·have g1:(x != 0)=true:=by simpa using hx
   repeat((conv=>whnf);first|refine sJ ?_|refine aI (by first|exact trivial|exact inbMap hkt|kernel_rfl) ?_|rw[g0]|rw[hmx]|rw[g1])
   try(conv=>whnf)
   exact resP.mk rfl (Sees.int (by rw[hor,orI,if_pos hx]))
 ·have hkn:k=l.length:=by omega
  subst hkn
  have g0:decide ((l.length:Int) < (l.length:Int))=false:=decide_eq_false (by omega)
  have hor:orI l=orI (l.drop l.length):=orI_skip hinv
  rw[List.drop_length]at hor
  repeat((conv=>whnf);first|refine sT ?_|rw[g0])
  try(conv=>whnf)
  exact resP.mk rfl (Sees.int (by rw[hor];rfl))
theorem orI_cmp (a b:Cell):orI [cmpI a.slot b.slot,cmpI a.off b.off,cmpI a.src b.src,cmpI a.dst b.dst,cmpI a.flow b.flow] = a.cmp b:=by
 unfold Cell.cmp Cell.nums
 simp only[orI,cmpL]
 repeat' split
 all_goals first|rfl|omega|(simp_all;done)
theorem c_acompare (a b:Cell):PCall Tryz.prog L 25 [a.av,b.av] (.int .i64 (a.cmp b)):=by
 refine PCall.intro mixed [] (nt:=32) Tryz.func25 rfl rfl (by simp) ?_
 refine Wk ?_
 refine cD (c_cmp L a.slot b.slot) ?_
 refine Wk ?_
 refine cD (c_cmp L a.off b.off) ?_
 refine Wk ?_
 refine cD (c_cmp L a.src b.src) ?_
 refine Wk ?_
 refine cD (c_cmp L a.dst b.dst) ?_
 refine Wk ?_
 refine cD (c_cmp L a.flow b.flow) ?_
 refine Wk ?_
 refine CallP.box rfl (c_OrI L [cmpI a.slot b.slot,cmpI a.off b.off,cmpI a.src b.src,cmpI a.dst b.dst,cmpI a.flow b.flow] (by simp)) rfl rfl ?_
 refine Wk ?_
 exact resP.mk rfl (Sees.int (orI_cmp a b))
end
section
variable (L:World→Prop)
theorem i_DelCell7 (o0 o1 o2 o3 o4 o5 o6:Ob)(x0:Nat×Nat)(n0 m0:Nat)(ty:Nat→TypeId)(l:List Cell)(p:Cell→Bool)(g:Nat)(caps fcaps:List AV)(d:Nat){K:AV→St→Prop}(hl:l.length≤281474976710656)(hcb:callable Tryz.prog g=true)(hc:fzs fcaps=some fcaps)(hok:o0.okk 8 1∧o1.okk 8 1∧o2.okk 8 1∧o3.okk 8 1∧o4.okk 8 1∧o5.okk 8 1∧o6.okk 8 1∧okks 8 1 caps)
  (hfz:∀(x:List Ob) (n m:Nat) (ty':Nat→TypeId),fzbs ⟨o0 :: o1 :: o2 :: o3 :: o4 :: o5 :: o6 :: x,[x0],n,m,ty'⟩ caps=some fcaps) (hp:∀x∈l,PCall Tryz.prog L g (Cell.av x :: fcaps) (.bool (p x)))
  (hK:∀ex:List AV,K (.vsl 7 0 (l.filter fun x=>!p x).length 5) ⟨[o0,o1,o2,o3,o4,o5,o6,.cells (flatE ((l.filter fun x=>!p x).map Cell.av)++ex) 63],[x0],n0,m0,ty⟩) :
  ICall Tryz.prog L 53 [.vsl 7 0 l.length 5,.fn g caps] ⟨[o0,o1,o2,o3,o4,o5,o6,freshO (l.map Cell.av) 5 d 63],[x0],n0,m0,ty⟩ K:=by
 have hall:∀x:Cell,(Cell.av x).cells.length=5:=fun x=>(cellOk).len x
 refine ICall.intro mixed [] (nt:=42) Tryz.func53 rfl rfl (by simp) ?_
 refine Wk ?_
 refine CallK.box rfl (c_IndexFuncCell L l p g fcaps hl hcb hc hp) (fz2 ((cellOk).fzb rfl rfl) (fzf1 (hfz _ _ _ _))) rfl ?_
 refine Wk ?_
 refine BrK.mk (fun h1=>?_) (fun h1=>?_)<;>(try rw[h1])
 ·refine Wk ?_
  have hnone:=idxF_none_iff (p:=p) (l:=l) (by simpa using h1)
  have hfil:(l.filter fun x=>!p x)=l:=List.filter_eq_self.2 fun x hx=>by
   obtain⟨j,hj⟩:=List.getElem?_of_mem hx
   simp[hnone j x hj]
  have:=hK (List.replicate (d*5) .undef)
  rw[hfil]at this
  exact this
 obtain⟨k,x,e1,e2,e3⟩:=idxF_at (p:=p) (l:=l) (by simpa using h1)
 obtain⟨_,_,_,e4⟩:=idxF_first e1
 have hklt:=(List.getElem?_eq_some_iff.1 e2).1
 rw[e1]
 refine Wk ?_
 refine LoopK.run mixed [] (fun s:List Cell×Nat×Nat=>Kept p l s.1 s.2.1 s.2.2) (fun s=>[(0,.vsl 7 0 l.length 5),(1,.fn g caps),(5,.int .i64 s.2.1),(6,.int .i64 s.2.2)]) (fun s=>⟨[o0,o1,o2,o3,o4,o5,o6,.cells (flatE (s.1.map Cell.av)++List.replicate (d*5) .undef) 63],[x0],8,1,ty⟩) (fun s=>l.length-s.2.2) (l,k,k+1) (Kept.start e2 e3 e4) ?_ ?_
 ·refine fN ?_<;>repeat' (first|exact fQ|refine And.intro ?_ ?_|exact SeesL.rfl' _|exact SeesO.rfl' _|exact hok.1|exact hok.2.1|exact hok.2.2.1|exact hok.2.2.2.1|exact hok.2.2.2.2.1|exact hok.2.2.2.2.2.1|exact hok.2.2.2.2.2.2.1|exact hok.2.2.2.2.2.2.2|exact okks_append ((cellOk).okk _ _ _) (okks_undef _ _ _)|exact Sees.int (succI hklt hl))
 rintro⟨a,i,j⟩ hkept
 simp only at hkept
 have hij:=hkept.ij
 have halen:=hkept.len
 refine Wk ?_
 refine BrK.mk (fun hb=>?_) (fun hb=>?_)<;>try rw[hb]
 ·have hlt:j < l.length:=by simpa using hb
  obtain⟨y,hgy⟩:=getLt hlt
  have hay:=hkept.get hgy
  have hld:=(cellOk).ld (List.replicate (d*5) .undef) hay
  have hft:=(cellOk).fit (l:=a) (List.replicate (d*5) .undef) (k:=j) (by omega)
  have hpy:=hp y (List.mem_of_getElem? hgy)
  repeat((conv=>whnf);first|refine sJ ?_|refine aI (by first|exact⟨by omega,by simp;omega⟩|kernel_rfl) ?_ )
  try(conv=>whnf)
  refine And.intro (show 0+(j:Int).toNat*5+5≤_ by rw[Nat.zero_add,Int.toNat_natCast];exact hft) ?_
  rw[(cellOk).ldr _ hay _ _ (by kernel_rfl) (by kernel_rfl)]
  refine Wk ?_
  refine CallK.box hcb hpy (fz2 rfl (hfz _ _ _ _)) rfl ?_
  have hfi:=(cellOk).fit (l:=a) (List.replicate (d*5) .undef) (k:=i) (by omega)
  refine Wk ?_
  refine BrK.mk (fun h2=>?_) (fun h2=>?_)<;>(try rw[h2])
  ·repeat((conv=>whnf);first|refine sJ ?_|refine aI (by first|exact⟨by omega,by simp;omega⟩|exact(show 0+(i:Int).toNat*5+5≤_ by rw[Nat.zero_add,Int.toNat_natCast];exact hfi)|kernel_rfl) ?_ )
   try(conv=>whnf)
   have hst:=(cellOk).st y (List.replicate (d*5) .undef) (l:=a) (k:=i) (by omega)
   refine⟨(a.set i y,i+1,j+1),hkept.keep hgy (by simpa using h2),by simp only;omega,?_⟩
   refine fN ?_<;>repeat' (first|exact fQ|refine And.intro ?_ ?_|exact SeesO.rfl' _|exact hok.1|exact hok.2.1|exact hok.2.2.1|exact hok.2.2.2.1|exact hok.2.2.2.2.1|exact hok.2.2.2.2.2.1|exact hok.2.2.2.2.2.2.1|exact hok.2.2.2.2.2.2.2|exact okks_append ((cellOk).okk _ _ _) (okks_undef _ _ _)|exact Sees.int (succI hlt hl)|exact Sees.int (succI (by omega:i < l.length) hl)|exact SeesL.of_eq (by rw[Nat.zero_add,Int.toNat_natCast];exact hst))
  ·refine Wk ?_
   refine⟨(a,i,j+1),hkept.skip hgy (by simpa using h2),by simp only;omega,?_⟩
   refine fN ?_<;>repeat' (first|exact fQ|refine And.intro ?_ ?_|exact SeesL.rfl' _|exact SeesO.rfl' _|exact hok.1|exact hok.2.1|exact hok.2.2.1|exact hok.2.2.2.1|exact hok.2.2.2.2.1|exact hok.2.2.2.2.2.1|exact hok.2.2.2.2.2.2.1|exact hok.2.2.2.2.2.2.2|exact okks_append ((cellOk).okk _ _ _) (okks_undef _ _ _)|exact Sees.int (succI hlt hl))
 ·have hj:j=l.length:=by simp at hb;omega
  subst hj
  have hfin:=hkept.fin
  have hflen:=(cellOk).flen a
  have hcl:0+(i:Int).toNat*5+(l.length-(i:Int).toNat)*5≤(flatE (a.map Cell.av)++List.replicate (d*5) AV.undef).length:=by
   rw[List.length_append,hflen,Int.toNat_natCast,Nat.zero_add,←Nat.add_mul,show i+(l.length-i)=l.length by omega,halen]
   exact Nat.le_add_right _ _
  have hfl:(l.filter fun x=>!p x).length=i:=by rw[←hfin,List.length_take];omega
  repeat((conv=>whnf);first|refine sJ ?_|refine aI (by first|exact(show InC (i:Int) l.length from⟨by omega,by omega⟩)|exact⟨rfl,rfl,Nat.le_of_ble_eq_true rfl,hcl⟩|kernel_rfl) ?_ )
  try(conv=>whnf)
  rw[(cellOk).clr' (l:=a) (k:=i) _ _ _ _ (by kernel_rfl) (by rw[Int.toNat_natCast,halen]) (by omega) rfl]
  repeat((conv=>whnf);first|refine sJ ?_|refine aI (by first|exact⟨(by omega:(0:Int)≤(i:Int)),(cellOk).headLe (k:=i) _ _ rfl (by omega),Nat.le_of_ble_eq_true rfl⟩|kernel_rfl) ?_ )
  try(conv=>whnf)
  have hKK:=hK
  rw[hfl]at hKK
  rw[←hfin]at hKK
  exact hKK _
end
end HM
