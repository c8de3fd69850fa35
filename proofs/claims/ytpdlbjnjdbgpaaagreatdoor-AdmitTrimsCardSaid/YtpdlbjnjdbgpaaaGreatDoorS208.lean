/- slices.DeleteFunc of cells behind 3 other objects. -/
import Derived.Test.YtpdlbjnjdbgpaaaGreatDoorS6
import Derived.Test.YtpdlbjnjdbgpaaaGreatDoorS92
import Derived.Test.YtpdlbjnjdbgpaaaGreatDoorFh
set_option maxHeartbeats 64000000
set_option maxRecDepth 100000
namespace HM
open Go Go.RowKit Go.Proofs
section
variable (L:World→Prop)
theorem i_DelCell3 (o0 o1 o2:Ob)(n0 m0:Nat)(ty:Nat→TypeId)(l:List Cell)(p:Cell→Bool)(g:Nat)(caps fcaps:List AV)(d:Nat){K:AV→St→Prop}(hl:l.length≤281474976710656)(hcb:callable Tryz.prog g=true)(hc:fzs fcaps=some fcaps)(hok:o0.okk 4 0∧o1.okk 4 0∧o2.okk 4 0∧okks 4 0 caps)
  (hfz:∀(x:List Ob) (n m:Nat) (ty':Nat→TypeId),fzbs ⟨o0 :: o1 :: o2 :: x,[],n,m,ty'⟩ caps=some fcaps) (hp:∀x∈l,PCall Tryz.prog L g (Cell.av x :: fcaps) (.bool (p x)))
  (hK:∀ex:List AV,K (.vsl 3 0 (l.filter fun x=>!p x).length 5) ⟨[o0,o1,o2,.cells (flatE ((l.filter fun x=>!p x).map Cell.av)++ex) 63],[],n0,m0,ty⟩) :
  ICall Tryz.prog L 53 [.vsl 3 0 l.length 5,.fn g caps] ⟨[o0,o1,o2,freshO (l.map Cell.av) 5 d 63],[],n0,m0,ty⟩ K:=by
 have hall:∀x:Cell,(Cell.av x).cells.length=5:=fun x=>(cellOk).len x
 refine ICall.intro mixed [] (nt:=42) Tryz.func53 rfl rfl (by simp) ?_
 refine Wk ?_
 refine CallK.box rfl (c_IndexFuncCell L l p g fcaps hl hcb hc hp) (fz2 ((cellOk).fzb rfl rfl) (fzf1 (hfz _ _ _ _))) rfl ?_
 refine Wk ?_
 refine BrK.mk (fun h1=>?_) (fun h1=>?_)<;>(try rw[h1])
 ·refine Wk ?_
  have hnone:=idxF_none_iff (p:=p) (l:=l) (by simpa using h1)
  have hfil:(l.filter fun x=>!p x)=l:=List.filter_eq_self.2 fun x hx=>by
   obtain⟨j,hj⟩:=List.getElem?_of_mem hx
   simp[hnone j x hj]
  have:=hK (List.replicate (d*5) .undef)
  rw[hfil]at this
  exact this
 obtain⟨k,x,e1,e2,e3⟩:=idxF_at (p:=p) (l:=l) (by simpa using h1)
 obtain⟨_,_,_,e4⟩:=idxF_first e1
 have hklt:=(List.getElem?_eq_some_iff.1 e2).1
 rw[e1]
 refine Wk ?_
 refine LoopK.run mixed [] (fun s:List Cell×Nat×Nat=>Kept p l s.1 s.2.1 s.2.2) (fun s=>[(0,.vsl 3 0 l.length 5),(1,.fn g caps),(5,.int .i64 s.2.1),(6,.int .i64 s.2.2)]) (fun s=>⟨[o0,o1,o2,.cells (flatE (s.1.map Cell.av)++List.replicate (d*5) .undef) 63],[],4,0,ty⟩) (fun s=>l.length-s.2.2) (l,k,k+1) (Kept.start e2 e3 e4) ?_ ?_
 ·refine fN ?_<;>repeat' (first|exact fQ|refine And.intro ?_ ?_|exact SeesL.rfl' _|exact SeesO.rfl' _|exact hok.1|exact hok.2.1|exact hok.2.2.1|exact hok.2.2.2|exact okks_append ((cellOk).okk _ _ _) (okks_undef _ _ _)|exact Sees.int (succI hklt hl))
 rintro⟨a,i,j⟩ hkept
 simp only at hkept
 have hij:=hkept.ij
 have halen:=hkept.len
 refine Wk ?_
 refine BrK.mk (fun hb=>?_) (fun hb=>?_)<;>try rw[hb]
 ·have hlt:j < l.length:=by simpa using hb
  obtain⟨y,hgy⟩:=getLt hlt
  have hay:=hkept.get hgy
  have hld:=(cellOk).ld (List.replicate (d*5) .undef) hay
  have hft:=(cellOk).fit (l:=a) (List.replicate (d*5) .undef) (k:=j) (by omega)
  have hpy:=hp y (List.mem_of_getElem? hgy)
  repeat((conv=>whnf);first|refine sJ ?_|refine aI (by first|exact⟨by omega,by simp;omega⟩|kernel_rfl) ?_ )
  try(conv=>whnf)
  refine And.intro (show 0+(j:Int).toNat*5+5≤_ by rw[Nat.zero_add,Int.toNat_natCast];exact hft) ?_
  rw[(cellOk).ldr _ hay _ _ (by kernel_rfl) (by kernel_rfl)]
  refine Wk ?_
  refine CallK.box hcb hpy (fz2 rfl (hfz _ _ _ _)) rfl ?_
  have hfi:=(cellOk).fit (l:=a) (List.replicate (d*5) .undef) (k:=i) (by omega)
  refine Wk ?_
  refine BrK.mk (fun h2=>?_) (fun h2=>?_)<;>(try rw[h2])
  ·repeat((conv=>whnf);first|refine sJ ?_|refine aI (by first|exact⟨by omega,by simp;omega⟩|exact(show 0+(i:Int).toNat*5+5≤_ by rw[Nat.zero_add,Int.toNat_natCast];exact hfi)|kernel_rfl) ?_ )
   try(conv=>whnf)
   have hst:=(cellOk).st y (List.replicate (d*5) .undef) (l:=a) (k:=i) (by omega)
   refine⟨(a.set i y,i+1,j+1),hkept.keep hgy (by simpa using h2),by simp only;omega,?_⟩
   refine fN ?_<;>repeat' (first|exact fQ|refine And.intro ?_ ?_|exact SeesO.rfl' _|exact hok.1|exact hok.2.1|exact hok.2.2.1|exact hok.2.2.2|exact okks_append ((cellOk).okk _ _ _) (okks_undef _ _ _)|exact Sees.int (succI hlt hl)|exact Sees.int (succI (by omega:i < l.length) hl)|exact SeesL.of_eq (by rw[Nat.zero_add,Int.toNat_natCast];exact hst))
  ·refine Wk ?_
   refine⟨(a,i,j+1),hkept.skip hgy (by simpa using h2),by simp only;omega,?_⟩
   refine fN ?_<;>repeat' (first|exact fQ|refine And.intro ?_ ?_|exact SeesL.rfl' _|exact SeesO.rfl' _|exact hok.1|exact hok.2.1|exact hok.2.2.1|exact hok.2.2.2|exact okks_append ((cellOk).okk _ _ _) (okks_undef _ _ _)|exact Sees.int (succI hlt hl))
 ·have hj:j=l.length:=by simp at hb;omega
  subst hj
  have hfin:=hkept.fin
  have hflen:=(cellOk).flen a
  have hcl:0+(i:Int).toNat*5+(l.length-(i:Int).toNat)*5≤(flatE (a.map Cell.av)++List.replicate (d*5) AV.undef).length:=by
   rw[List.length_append,hflen,Int.toNat_natCast,Nat.zero_add,←Nat.add_mul,show i+(l.length-i)=l.length by omega,halen]
   exact Nat.le_add_right _ _
  have hfl:(l.filter fun x=>!p x).length=i:=by rw[←hfin,List.length_take];omega
  repeat((conv=>whnf);first|refine sJ ?_|refine aI (by first|exact(show InC (i:Int) l.length from⟨by omega,by omega⟩)|exact⟨rfl,rfl,Nat.le_of_ble_eq_true rfl,hcl⟩|kernel_rfl) ?_ )
  try(conv=>whnf)
  rw[(cellOk).clr' (l:=a) (k:=i) _ _ _ _ (by kernel_rfl) (by rw[Int.toNat_natCast,halen]) (by omega) rfl]
  repeat((conv=>whnf);first|refine sJ ?_|refine aI (by first|exact⟨(by omega:(0:Int)≤(i:Int)),(cellOk).headLe (k:=i) _ _ rfl (by omega),Nat.le_of_ble_eq_true rfl⟩|kernel_rfl) ?_ )
  try(conv=>whnf)
  have hKK:=hK
  rw[hfl]at hKK
  rw[←hfin]at hKK
  exact hKK _
end
section
variable (L:World→Prop)
theorem c_drop1 (c:Cell)(n:Int):PCall Tryz.prog L 54 [c.av,.cptr (.agg [.int .i64 n]) 0] (.bool (c.flow==n)):=by
 refine PCall.intro mixed [] (nt:=8) Tryz.func54 rfl rfl (by simp) ?_
 refine Wk ?_
 exact resP.mk rfl (Sees.bool rfl)
end
theorem c_Drop (s:Sched)(id:Int)(hc:s.cells.length≤281474976710656):PCall Tryz.prog LW 19 [s.av,.int .i64 id] (.tup [(dropM s id).1.av,.int .i64 (dropM s id).2]):=by
 refine PCall.intro mixed [] (nt:=23) Tryz.func19 rfl rfl (by simp) ?_
 refine Wk ?_
 refine cD (c_Print s) ?_
 cases hf:formB s with
 | false=>
  refine Wk ?_
  rw[show dropM s id=(⟨0,0,[]⟩,1) from by rw[dropM,if_pos hf]]
  exact resP.mk rfl (Sees.tup ⟨Sees.agg ⟨Sees.of_eq rfl,Sees.of_eq rfl,Sees.elems rfl,trivial⟩,Sees.of_eq rfl,trivial⟩)
 | true=>
 have hcl:=(form_all hf).2.1
 have hD:dropM s id=(⟨s.len,s.offs,s.cells.filter fun c=>!(c.flow==id)⟩,0):=by rw[dropM,if_neg (by simp[hf])];rfl
 rw[hD]
 by_cases hne:s.cells=[]
 ·obtain⟨len,offs,cells⟩:=s
  simp only at hne
  subst hne
  refine Wk ?_
  refine cD (c_Clone0Cell LW) ?_
  refine Wk ?_
  refine CallK.inl rfl (ICall.intro mixed [] (nt:=42) Tryz.func53 rfl rfl (by simp) ?_)
  refine Wk ?_
  refine CallK.box rfl (c_IndexFuncCell LW [] (fun c=>c.flow==id) 54 [.cptr (.agg [.int .i64 id]) 0] (by simp) rfl rfl (fun c _=>c_drop1 LW c id)) (fz2 rfl (fzf1 rfl)) rfl ?_
  refine Wk ?_
  exact resP.mk rfl (Sees.of_eq rfl)
 ·refine Wk ?_
  refine CallK.fresh rfl (c_CloneCell LW s.cells hne (by omega)) (by rfl) (cellOk.els _) (cellOk.scal (fun _=>rfl) _) (fun h=>absurd (by simpa using h) hne) (fun d=>?_)
  refine Wk ?_
  rw[List.length_map]
  refine CallK.inl rfl (i_DelCell3 LW _ _ _ _ _ _ s.cells (fun c=>c.flow==id) _ [.ptr 1 0] [.cptr (.agg [.int .i64 id]) 0] d (by omega) rfl rfl ⟨?_,?_,?_,?_⟩ (fun _ _ _ _=>rfl) (fun c _=>c_drop1 LW c id) fun ex=>?_)
  ·exact⟨trivial,trivial,fzs_okk (es:=[encCells s.cells]) rfl⟩
  ·exact⟨trivial,trivial⟩
  ·exact⟨trivial,trivial,trivial,trivial⟩
  ·exact⟨(by decide:1 < 4),trivial⟩
  refine Wk ?_
  have e1:∀X:St,X.bx[3]? = some (Ob.cells (flatE ((s.cells.filter fun c=>!(c.flow==id)).map Cell.av)++ex) 63)→fzb X (.tup [.agg [.int .i64 s.len,.int .i64 s.offs,.vsl 3 0 (s.cells.filter fun c=>!(c.flow==id)).length 5],.int .i64 0])=some (.tup [.agg [.int .i64 s.len,.int .i64 s.offs,.sl false ((s.cells.filter fun c=>!(c.flow==id)).map Cell.av)],.int .i64 0]):=fun X hX=>fzAdd (cellOk.fzb hX rfl)
  exact resP.mk (e1 _ rfl) (Sees.of_eq rfl)
section
variable (L:World→Prop)
def Emp (S:St)(v:AV):Prop:=v=.nils∨v=.sl true []∨∃ch,v=.own [] ch∧S.fr[ch]? = some (0,5)∧S.ty ch=63
theorem Emp.addF {S:St}{v:AV}(h:Emp S v)(x:Nat×Nat)(e:TypeId):Emp (S.addF x e) v:=by
 rcases h with h|h|⟨ch,h1,h2,h3⟩
 ·exact .inl h
 ·exact .inr (.inl h)
 ·exact .inr (.inr ⟨ch,h1,St.addF_old h2,by rw[St.addF_tyo h2];exact h3⟩)
theorem i_CloneCell0 (S:St){K:AV→St→Prop}(hK:∀(S':St) (v:AV),S'.bx=S.bx→(∀(c:Nat) (x:Nat×Nat),S.fr[c]? = some x→S'.fr[c]? = some x)→Emp S' v→K v S') :
  ICall Tryz.prog L 52 [encCells []] S K:=by
 refine ICall.intro mixed [] (nt:=8) Tryz.func52 rfl rfl (by simp) ?_
 have hA:∀x e,(S.inner.addF x e).fr[S.inner.fr.length]? = some x:=fun x e=>St.addF_get _ _ _
 have hA2:∀x e,(S.inner.addF x e).ty S.inner.fr.length=e:=fun x e=>St.addF_tyn _ _ _
 repeat((conv=>whnf);first|refine sJ ?_|refine aI (by first|exact trivial|exact hA _ _|exact hA2 _ _|exact⟨by decide,by decide⟩|kernel_rfl) ?_|(refine BrK.mk (fun h=>?_) (fun h=>?_))|(intro b;cases b)|rw[hA])
 try(conv=>whnf)
 all_goals
  repeat((conv=>whnf);first|refine sJ ?_|refine aI (by first|exact trivial|exact⟨by decide,by decide⟩|exact hA _ _|exact hA2 _ _|kernel_rfl) ?_|(refine BrK.mk (fun h=>?_) (fun h=>?_))|(intro b;cases b)|rw[hA])
  try(conv=>whnf)
 ·refine hK _ _ rfl (fun c x h=>?_) (.inr (.inr ⟨_,rfl,St.setF_get (hA _ _),hA2 (0,4+1) _⟩))
  have:=(List.getElem?_eq_some_iff.1 h).1
  show((S.fr++[((0:Nat),4+1)]).set S.fr.length _)[c]? = some x
  rw[List.getElem?_set_ne (by omega),List.getElem?_append_left this];exact h
 ·exact hK _ _ rfl (fun _ _ h=>h) (.inl rfl)
theorem i_InsCell0 (S:St)(ch:Nat)(c:Cell){K:AV→St→Prop}(v0:AV)(hv:Emp S v0)(hch:S.fr[ch]? = some (1,5))
  (hK:∀(S':St) (ch2:Nat),S'.bx=S.bx→K (.own [c.av] ch2) S') :
  ICall Tryz.prog L 197 [v0,.int .i64 0,.own [c.av] ch] S K:=by
 refine ICall.intro mixed [] (nt:=95) Tryz.func197 rfl rfl (by simp) ?_
 rcases hv with rfl|rfl|⟨c0,rfl,h0,ht⟩
 all_goals
  have hch':S.inner.fr[ch]? = some (1,5):=hch
  try have h0':S.inner.fr[c0]? = some (0,5):=h0
  try have ht':S.inner.ty c0=63:=ht
  repeat((conv=>whnf);first|refine sJ ?_|refine aI (by first|exact trivial|exact⟨by decide,by decide⟩|exact h0'|exact ht'|kernel_rfl) ?_|(refine BrK.mk (fun h=>?_) (fun h=>?_))|(intro b;cases b))
  try(conv=>whnf)
 all_goals(conv=>whnf)
 all_goals exact hK _ _ rfl
end
end HM
