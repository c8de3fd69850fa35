/- The cells of a flow on a link; the fault of a route. -/
import Derived.Test.YtckcedndijobaaaGreatDoorS6
import Derived.Test.YtckcedndijobaaaGreatDoorS33
import Derived.Test.YtckcedndijobaaaGreatDoorDa
import Derived.Test.YtckcedndijobaaaGreatDoorDb
set_option maxHeartbeats 64000000
set_option maxRecDepth 100000
namespace HM
open Go Go.RowKit Go.Proofs
section
variable (L:World→Prop)
theorem c_Clone0Cell:PCall Tryz.prog L 59 [.sl false (([]:List Cell).map Cell.av)] (.sl false (([]:List Cell).map Cell.av)):=by
 refine PCall.intro mixed [] (nt:=8) Tryz.func59 rfl rfl (by simp) ?_
 refine Wk ?_
 intro b
 cases b
 ·repeat((conv=>whnf);first|refine sJ ?_|refine aI (by first|exact Els.map (f:=Cell.av) (fun x=>⟨(cellOk).len x,(cellOk).cell x⟩)|kernel_rfl) ?_ )
  try(conv=>whnf)
  exact resP.mk rfl (Sees.of_eq rfl)
 ·refine Wk ?_
  exact resP.mk rfl (Sees.of_eq rfl)
theorem c_CloneCell (l:List Cell)(hne:l≠[])(hl:l.length≤1099511627776):FCall Tryz.prog L 59 [.sl false (l.map Cell.av)] (l.map Cell.av) 5 52:=by
 refine FCall.of_ICall (ICall.intro mixed [] (nt:=8) Tryz.func59 rfl rfl (by simp) ?_)
 refine Wk ?_
 refine BrK.mk (fun h=>?_) (fun h=>?_)<;>(try rw[h])
 ·exact absurd (by simpa using h) hne
 ·repeat((conv=>whnf);first|refine sJ ?_|refine aI (by first|exact Els.map (f:=Cell.av) (fun x=>⟨(cellOk).len x,(cellOk).cell x⟩)|exact(show _*40≤_ by simp only[List.length_map,List.length_nil];omega)|exact(by simp only[List.length_map,List.length_nil,maxLen];omega)|kernel_rfl) ?_ )
  try(conv=>whnf)
  exact⟨_,rfl,rfl,rfl⟩
theorem i_DeleteCell (o1 o2:Ob)(n0 m0:Nat)(ty:Nat→TypeId)(l:List Cell)(p:Cell→Bool)(g:Nat)(caps fcaps:List AV)(d:Nat){K:AV→St→Prop}(hl:l.length≤281474976710656)(hcb:callable Tryz.prog g=true)(hc:fzs fcaps=some fcaps)(hok:o1.okk 3 0∧o2.okk 3 0∧okks 3 0 caps)
  (hfz:∀(x:List Ob) (n m:Nat) (ty':Nat→TypeId),fzbs ⟨o1 :: o2 :: x,[],n,m,ty'⟩ caps=some fcaps) (hp:∀x∈l,PCall Tryz.prog L g (Cell.av x :: fcaps) (.bool (p x)))
  (hK:∀ex:List AV,K (.vsl 2 0 (l.filter fun x=>!p x).length 5) ⟨[o1,o2,.cells (flatE ((l.filter fun x=>!p x).map Cell.av)++ex) 52],[],n0,m0,ty⟩) :
  ICall Tryz.prog L 98 [.vsl 2 0 l.length 5,.fn g caps] ⟨[o1,o2,freshO (l.map Cell.av) 5 d 52],[],n0,m0,ty⟩ K:=by
 have hall:∀x:Cell,(Cell.av x).cells.length=5:=fun x=>(cellOk).len x
 refine ICall.intro mixed [] (nt:=42) Tryz.func98 rfl rfl (by simp) ?_
 refine Wk ?_
 refine CallK.box rfl (c_IndexFuncCell L l p g fcaps hl hcb hc hp) (fz2 ((cellOk).fzb rfl rfl) (fzf1 (hfz _ _ _ _))) rfl ?_
 refine Wk ?_
 refine BrK.mk (fun h1=>?_) (fun h1=>?_)<;>(try rw[h1])
 ·refine Wk ?_
  have hnone:=idxF_none_iff (p:=p) (l:=l) (by simpa using h1)
  have hfil:(l.filter fun x=>!p x)=l:=List.filter_eq_self.2 fun x hx=>by
   obtain⟨j,hj⟩:=List.getElem?_of_mem hx
   simp[hnone j x hj]
  have:=hK (List.replicate (d*5) .undef)
  rw[hfil]at this
  exact this
 obtain⟨k,x,e1,e2,e3⟩:=idxF_at (p:=p) (l:=l) (by simpa using h1)
 obtain⟨_,_,_,e4⟩:=idxF_first e1
 have hklt:=(List.getElem?_eq_some_iff.1 e2).1
 rw[e1]
 refine Wk ?_
 refine LoopK.run mixed [] (fun s:List Cell×Nat×Nat=>Kept p l s.1 s.2.1 s.2.2) (fun s=>[(0,.vsl 2 0 l.length 5),(1,.fn g caps),(5,.int .i64 s.2.1),(6,.int .i64 s.2.2)]) (fun s=>⟨[o1,o2,.cells (flatE (s.1.map Cell.av)++List.replicate (d*5) .undef) 52],[],3,0,ty⟩) (fun s=>l.length-s.2.2) (l,k,k+1) (Kept.start e2 e3 e4) ?_ ?_
 ·refine fN ?_<;>repeat' (first|exact fQ|refine And.intro ?_ ?_|exact SeesL.rfl' _|exact SeesO.rfl' _|exact hok.1|exact hok.2.1|exact hok.2.2|exact okks_append ((cellOk).okk _ _ _) (okks_undef _ _ _)|exact Sees.int (succI hklt hl))
 rintro⟨a,i,j⟩ hkept
 simp only at hkept
 have hij:=hkept.ij
 have halen:=hkept.len
 refine Wk ?_
 refine BrK.mk (fun hb=>?_) (fun hb=>?_)<;>try rw[hb]
 ·have hlt:j < l.length:=by simpa using hb
  obtain⟨y,hgy⟩:=getLt hlt
  have hay:=hkept.get hgy
  have hld:=(cellOk).ld (List.replicate (d*5) .undef) hay
  have hft:=(cellOk).fit (l:=a) (List.replicate (d*5) .undef) (k:=j) (by omega)
  have hpy:=hp y (List.mem_of_getElem? hgy)
  repeat((conv=>whnf);first|refine sJ ?_|refine aI (by first|exact⟨by omega,by simp;omega⟩|kernel_rfl) ?_ )
  try(conv=>whnf)
  refine And.intro (show 0+(j:Int).toNat*5+5≤_ by rw[Nat.zero_add,Int.toNat_natCast];exact hft) ?_
  rw[(cellOk).ldr _ hay _ _ (by kernel_rfl) (by kernel_rfl)]
  refine Wk ?_
  refine CallK.box hcb hpy (fz2 rfl (hfz _ _ _ _)) rfl ?_
  have hfi:=(cellOk).fit (l:=a) (List.replicate (d*5) .undef) (k:=i) (by omega)
  refine Wk ?_
  refine BrK.mk (fun h2=>?_) (fun h2=>?_)<;>(try rw[h2])
  ·repeat((conv=>whnf);first|refine sJ ?_|refine aI (by first|exact⟨by omega,by simp;omega⟩|exact(show 0+(i:Int).toNat*5+5≤_ by rw[Nat.zero_add,Int.toNat_natCast];exact hfi)|kernel_rfl) ?_ )
   try(conv=>whnf)
   have hst:=(cellOk).st y (List.replicate (d*5) .undef) (l:=a) (k:=i) (by omega)
   refine⟨(a.set i y,i+1,j+1),hkept.keep hgy (by simpa using h2),by simp only;omega,?_⟩
   refine fN ?_<;>repeat' (first|exact fQ|refine And.intro ?_ ?_|exact SeesO.rfl' _|exact hok.1|exact hok.2.1|exact hok.2.2|exact okks_append ((cellOk).okk _ _ _) (okks_undef _ _ _)|exact Sees.int (succI hlt hl)|exact Sees.int (succI (by omega:i < l.length) hl)|exact SeesL.of_eq (by rw[Nat.zero_add,Int.toNat_natCast];exact hst))
  ·refine Wk ?_
   refine⟨(a,i,j+1),hkept.skip hgy (by simpa using h2),by simp only;omega,?_⟩
   refine fN ?_<;>repeat' (first|exact fQ|refine And.intro ?_ ?_|exact SeesL.rfl' _|exact SeesO.rfl' _|exact hok.1|exact hok.2.1|exact hok.2.2|exact okks_append ((cellOk).okk _ _ _) (okks_undef _ _ _)|exact Sees.int (succI hlt hl))
 ·have hj:j=l.length:=by simp at hb;omega
  subst hj
  have hfin:=hkept.fin
  have hflen:=(cellOk).flen a
  have hcl:0+(i:Int).toNat*5+(l.length-(i:Int).toNat)*5≤(flatE (a.map Cell.av)++List.replicate (d*5) AV.undef).length:=by
   rw[List.length_append,hflen,Int.toNat_natCast,Nat.zero_add,←Nat.add_mul,show i+(l.length-i)=l.length by omega,halen]
   exact Nat.le_add_right _ _
  have hfl:(l.filter fun x=>!p x).length=i:=by rw[←hfin,List.length_take];omega
  repeat((conv=>whnf);first|refine sJ ?_|refine aI (by first|exact(show InC (i:Int) l.length from⟨by omega,by omega⟩)|exact⟨rfl,rfl,Nat.le_of_ble_eq_true rfl,hcl⟩|kernel_rfl) ?_ )
  try(conv=>whnf)
  rw[(cellOk).clr' (l:=a) (k:=i) _ _ _ _ (by kernel_rfl) (by rw[Int.toNat_natCast,halen]) (by omega) rfl]
  repeat((conv=>whnf);first|refine sJ ?_|refine aI (by first|exact⟨(by omega:(0:Int)≤(i:Int)),(cellOk).headLe (k:=i) _ _ rfl (by omega),Nat.le_of_ble_eq_true rfl⟩|kernel_rfl) ?_ )
  try(conv=>whnf)
  have hKK:=hK
  rw[hfl]at hKK
  rw[←hfin]at hKK
  exact hKK _
theorem c_wcells1 (w:Way)(l:Link)(c:Cell):PCall Tryz.prog L 299 [c.av,.cptr w.av 0,.cptr l.av 0] (.bool (offL w.f.id l.src l.dst c)):=by
 refine PCall.intro mixed [] (nt:=25) Tryz.func299 rfl rfl (by simp) ?_
 refine Wk ?_
 refine BrK.mk (fun h1=>?_) (fun h1=>?_)<;>(try rw[h1])
 ·refine Wk ?_
  exact resP.mk rfl (Sees.bool (by unfold offL;rw[h1];rfl))
 ·refine Wk ?_
  refine BrK.mk (fun h2=>?_) (fun h2=>?_)<;>(try rw[h2])
  ·refine Wk ?_
   exact resP.mk rfl (Sees.bool (by unfold offL;rw[h1,h2];rfl))
  ·refine Wk ?_
   exact resP.mk rfl (Sees.bool (by unfold offL;rw[h1,h2];rfl))
theorem c_wcells (w:Way)(l:Link)(hl:w.s.cells.length≤1099511627776):PCall Tryz.prog L 279 [w.av,l.av] (encCells (cellsL w.s w.f l.src l.dst)):=by
 by_cases hne:w.s.cells=[]
 ·obtain⟨n,⟨len,offs,cells⟩,f,r,more⟩:=w
  simp only at hne
  subst hne
  refine PCall.intro mixed [] (nt:=11) Tryz.func279 rfl rfl (by simp) ?_
  refine Wk ?_
  refine cD (c_Clone0Cell L) ?_
  refine Wk ?_
  refine CallK.inl rfl (ICall.intro mixed [] (nt:=42) Tryz.func98 rfl rfl (by simp) ?_)
  refine Wk ?_
  refine CallK.box rfl (c_IndexFuncCell L [] (offL f.id l.src l.dst) 299 [.cptr (Way.av ⟨n,⟨len,offs,[]⟩,f,r,more⟩) 0,.cptr l.av 0] (by simp) rfl rfl (fun c _=>c_wcells1 L _ l c)) (fz2 rfl (fzf1 rfl)) rfl ?_
  refine Wk ?_
  exact resP.mk rfl (Sees.of_eq rfl)
 ·refine PCall.intro mixed [] (nt:=11) Tryz.func279 rfl rfl (by simp) ?_
  refine Wk ?_
  refine CallK.fresh rfl (c_CloneCell L w.s.cells hne hl) (by rfl) (cellOk.els _) (cellOk.scal (fun _=>rfl) _) (fun h=>absurd (by simpa using h) hne) (fun d=>?_)
  refine Wk ?_
  rw[List.length_map]
  refine CallK.inl rfl (i_DeleteCell L _ _ 0 0 _ w.s.cells (offL w.f.id l.src l.dst) _ [.ptr 0 0,.ptr 1 0] [.cptr w.av 0,.cptr l.av 0] d (by omega) rfl rfl ⟨?_,?_,?_⟩ (fun _ _ _ _=>rfl) (fun c _=>c_wcells1 L w l c) fun ex=>?_)
  ·exact fzs_okk (es:=w.av.cells) rfl
  ·exact fzs_okk (es:=l.av.cells) rfl
  ·exact⟨(by decide:0 < 3),(by decide:1 < 3),trivial⟩
  ·refine Wk ?_
   exact⟨_,cellOk.fzb rfl rfl,Sees.rfl' _⟩
theorem flowsE_one {nodes:Int}(h:2≤nodes∧nodes≤32)(f:Flow):(flowsE nodes [f]).2=0↔flowE nodes f=0:=by
 rw[flowsE,if_neg (by omega),if_neg (by simp),firstAt_ok]
 constructor
 ·intro hh
  have:=hh 0 (by simp)
  unfold flowAt at this
  simp only[List.getElem?_cons_zero]at this
  by_cases e:flowE nodes f=0
  ·exact e
  ·rw[if_pos e]at this;exact absurd this e
 ·intro hh j hj
  have:j=0:=by simpa using hj
  subst this
  unfold flowAt
  simp[hh,flowO]
theorem tmod_eq {a b:Int}(h:0≤a):a.tmod b=a % b:=Int.tmod_eq_emod_of_nonneg h
end
theorem c_wcheck (w:Way)(hn:w.n.small)(_hc:w.s.cells.length≤281474976710656)(hr:w.r.length≤281474976710656):PCall Tryz.prog LW 156 [w.av] (.int .i64 (wayE w.n w.s w.f w.r)):=by
 refine PCall.intro mixed [] (nt:=50) Tryz.func156 rfl rfl (by simp) ?_
 refine Wk ?_
 refine cD (c_netCheck LW w.n hn) ?_
 refine Wk ?_
 refine BrK.mk (fun h1=>?_) (fun h1=>?_)<;>(try rw[h1])
 ·refine Wk ?_
  exact resP.mk rfl (Sees.int (by rw[wayE,if_pos (.inl (by simpa using h1))]))
 have h0:netE w.n=0:=by simpa using h1
 have hok:=netE_ok h0
 refine Wk ?_
 refine cD (c_Print w.s) ?_
 refine Wk ?_
 refine BrK.mk (fun h2=>?_) (fun h2=>?_)<;>(try rw[h2])
 ·refine Wk ?_
  exact resP.mk rfl (Sees.int (by rw[wayE,if_pos (.inr (.inl (by cases hf:formB w.s with|false=>rfl|true=>simp[hf]at h2)))]))
 have hf:formB w.s=true:=by cases hf:formB w.s with|true=>rfl|false=>simp[hf]at h2
 have hsb:=sized_bd (form_all hf).1
 refine Wk ?_
 refine cD (c_FCheck LW w.n.nodes [w.f] (by simp)) ?_
 refine Wk ?_
 refine BrK.mk (fun h3=>?_) (fun h3=>?_)<;>(try rw[h3])
 ·refine Wk ?_
  have h3':flowE w.n.nodes w.f≠0:=fun h=>by rw[(flowsE_one hok.nodes w.f).2 h]at h3;cases h3
  exact resP.mk rfl (Sees.int (by rw[wayE,if_pos (.inr (.inr h3'))]))
 have h3':flowE w.n.nodes w.f=0:=(flowsE_one hok.nodes w.f).1 (by simpa using h3)
 have hfb:=flowE_ok h3'
 have e1:¬(netE w.n≠0∨formB w.s=false∨flowE w.n.nodes w.f≠0):=by simp[h0,hf,h3']
 repeat((conv=>whnf);first|refine sJ ?_|refine aI (by first|exact(show w.f.period≠0 by omega)|kernel_rfl) ?_ )
 try(conv=>whnf)
 rw[tmod_eq (by omega)]
 refine BrK.mk (fun h4=>?_) (fun h4=>?_)<;>(try rw[h4])
 ·refine Wk ?_
  exact resP.mk rfl (Sees.int (by rw[wayE,if_neg e1,if_pos (by simpa using h4)]))
 refine Wk ?_
 refine cD (c_RCheck LW w.n hn w.f.src w.f.dst w.r hr) ?_
 refine Wk ?_
 exact resP.mk rfl (Sees.int (by rw[wayE,if_neg e1,if_neg (by simpa using h4)]))
theorem c_wlinks (w:Way):PCall Tryz.prog LW 278 [w.av] (.fn 298 [.cptr w.av 0]):=by
 refine PCall.intro mixed [] (nt:=4) Tryz.func278 rfl rfl (by simp) ?_
 refine Wk ?_
 exact resP.mk rfl (Sees.of_eq rfl)
theorem c_wcounts (w:Way)(rel:Int):PCall Tryz.prog LW 255 [w.av,.int .i64 rel] (.fn 277 [.cptr (.agg [.int .i64 rel]) 0,.cptr w.av 0]):=by
 refine PCall.intro mixed [] (nt:=6) Tryz.func255 rfl rfl (by simp) ?_
 refine Wk ?_
 exact resP.mk rfl (Sees.of_eq rfl)
section
variable (L:World→Prop)
theorem c_BinCell (l:List Cell)(t:Cell)(g:Nat)(c:Cell→Int)(hl:l.length≤281474976710656)(hcb:callable Tryz.prog g=true)(hm:Mono c l)(hp:∀x∈l,PCall Tryz.prog L g [Cell.av x,Cell.av t] (.int .i64 (c x))) :
  PCall Tryz.prog L 165 [.sl false (l.map Cell.av),Cell.av t,.fn g []] (.tup [.int .i64 (posB c l),.bool (hasB c l)]):=by
 refine PCall.intro mixed [] (nt:=49) Tryz.func165 rfl rfl (by simp) ?_
 refine Wk ?_
 refine LoopK.run mixed [] (fun s:Nat×Nat=>s.1≤s.2∧s.2≤l.length∧(∀i x,i < s.1→l[i]? = some x→c x < 0)∧(∀x,l[s.2]? = some x→¬c x < 0)) (fun s=>[(0,.sl false (l.map Cell.av)),(2,.fn g []),(4,.ptr 0 0),(8,.int .i64 l.length),(9,.int .i64 s.1),(10,.int .i64 s.2)]) (fun _=>⟨[.cells (Cell.av t).cells 52],[],0,0,fun _=>0⟩) (fun s=>s.2-s.1) (0,l.length) ⟨by simp,by simp,by simp,by simp⟩ ?_ ?_
 ·refine fN ?_<;>repeat' (first|exact fQ|refine And.intro ?_ ?_|exact Sees.int (by simp))
 rintro⟨i,j⟩ ⟨h1,h2,h3,h4⟩
 simp only at h1 h2 h3 h4
 refine Wk ?_
 refine BrK.mk (fun hb=>?_) (fun hb=>?_)<;>try rw[hb]
 ·have hlt:i < j:=by simpa using hb
  have hw1:IntKind.i64.wrap ((i:Int)+(j:Int))=((i+j:Nat):Int):=by rw[w64]<;>omega
  have hw2:IntKind.i64.wrap ((IntKind.u64.wrap ((i+j:Nat):Int)).fdiv (2 ^ (min (1:Int).toNat IntKind.u64.bits)))=(((i+j) / 2:Nat):Int):=half_ok (by omega)
  obtain⟨m,hmid⟩:∃m,m=(i+j) / 2:=⟨_,rfl⟩
  have hml:m < l.length:=by omega
  obtain⟨x,hgx⟩:=getLt hml
  have hmx:=getMap (f:=Cell.av) hgx
  have hpx:=hp x (List.mem_of_getElem? hgx)
  rw[←hmid]at hw2
  repeat((conv=>whnf);first|refine sJ ?_|refine aI (by first|exact(show(0:Int)≤1 by decide)|exact inbMap hml|kernel_rfl) ?_|rw[hw1]|rw[hw2]|rw[hmx])
  try(conv=>whnf)
  refine CallP.data hcb hpx (by rfl) ?_
  refine Wk ?_
  refine BrK.mk (fun h5=>?_) (fun h5=>?_)<;>(try rw[h5])
  ·refine Wk ?_
   refine⟨(m+1,j),⟨by simp only;omega,by simp only;omega,fun k y hk hy=>?_,h4⟩,by simp only;omega,?_⟩
   ·rcases Nat.lt_succ_iff_lt_or_eq.1 hk with hk|rfl
    ·exact hm k m y x hk hy hgx (by simpa using h5)
    ·rw[hgx]at hy;injection hy with hy;subst hy;simpa using h5
   ·refine fN ?_<;>repeat' (first|exact fQ|refine And.intro ?_ ?_|exact Sees.int (by rw[w64]<;>omega))
  ·refine Wk ?_
   refine⟨(i,m),⟨by simp only;omega,by simp only;omega,h3,fun y hy=>?_⟩,by simp only;omega,?_⟩
   ·rw[hgx]at hy;injection hy with hy;subst hy;simpa using h5
   ·refine fN ?_<;>repeat' (first|exact fQ|refine And.intro ?_ ?_ )
 ·have hij:i=j:=by simp at hb;omega
  subst hij
  have hpos:posB c l=i:=posB_uniq h2 h3 h4
  refine Wk ?_
  refine BrK.mk (fun h6=>?_) (fun h6=>?_)<;>(try rw[h6])
  ·have hlt:i < l.length:=by simpa using h6
   obtain⟨x,hgx⟩:=getLt hlt
   have hmx:=getMap (f:=Cell.av) hgx
   have hpx:=hp x (List.mem_of_getElem? hgx)
   repeat((conv=>whnf);first|refine sJ ?_|refine aI (by first|exact inbMap hlt|kernel_rfl) ?_|rw[hmx])
   try(conv=>whnf)
   refine CallP.data hcb hpx (by rfl) ?_
   refine Wk ?_
   exact resP.mk rfl (Sees.of_eq (by simp only[hasB,hpos,hgx]))
  ·refine Wk ?_
   have:l.length≤i:=by simpa using h6
   exact resP.mk rfl (Sees.of_eq (by simp only[hasB,hpos,List.getElem?_eq_none this]))
theorem ins_cells (l:List Cell)(p:Nat)(c:Cell):flatE ((insAt l p c).map Cell.av)=flatE ((l.take p).map Cell.av)++c.av.cells++flatE ((l.drop p).map Cell.av):=by
 simp only[insAt,List.map_append,List.map_cons,flatE,List.flatMap_append,List.flatMap_cons,List.append_assoc]
theorem cut_cells (l:List Cell)(p:Nat):flatE (l.map Cell.av)=flatE ((l.take p).map Cell.av)++flatE ((l.drop p).map Cell.av):=by
 conv=>lhs;rw[←List.take_append_drop p l]
 simp only[List.map_append,flatE,List.flatMap_append]
theorem splice_len {cs vs:List AV}{off:Nat}(h:off+vs.length≤cs.length):(splice cs off vs).length=cs.length:=by
 rw[splice_eq _ _ _ h];simp;omega
theorem i_InsertCell (o0 o1 o2:Ob)(n0 m0:Nat)(ty:Nat→TypeId)(l:List Cell)(c:Cell)(p d:Nat){K:AV→St→Prop}(hp:p≤l.length)(hl:l.length≤512)(n:Nat)(hn:n=l.length)
  (hK1:∀ex:List AV,K (.vsl 3 0 (l.length+1) 5) ⟨[o0,o1,o2,.cells (flatE ((insAt l p c).map Cell.av)++ex) 52],[(1,5)],n0,m0,ty⟩)
  (hK2:∀(o:Ob) (ex:List AV),K (.vsl 4 0 (l.length+1) 5) ⟨[o0,o1,o2,o,.cells (flatE ((insAt l p c).map Cell.av)++ex) 52],[(1,5)],n0,m0,ty⟩) :
  ICall Tryz.prog L 166 [.vsl 3 0 n 5,.int .i64 p,.own [c.av] 0] ⟨[o0,o1,o2,freshO (l.map Cell.av) 5 d 52],[(1,5)],n0,m0,ty⟩ K:=by
 subst hn
 refine ICall.intro mixed [] (nt:=95) Tryz.func166 rfl rfl (by simp) ?_
 have hF:(flatE (l.map Cell.av)).length=l.length*5:=cellOk.flen l
 have hlen:l.length*5≤(flatE (l.map Cell.av)++List.replicate (d*5) AV.undef).length:=by rw[List.length_append,hF];omega
 repeat((conv=>whnf);first|refine sJ ?_|refine aI (by first|exact(show InC (p:Int) l.length from⟨by omega,by omega⟩)|kernel_rfl) ?_ )
 try(conv=>whnf)
 refine BrK.mk (fun h1=>?_) (fun h1=>?_)<;>(try rw[h1])
 ·have hpn:p=l.length:=by simp at h1;omega
  subst hpn
  have hX:(flatE [c.av]).length=5:=rfl
  repeat((conv=>whnf);first|refine sJ ?_|refine aI (by first|exact⟨rfl,rfl,Els.cons rfl rfl (Els.nil _),Nat.one_pos,(show(l.length+1)*40≤140737488355328 by omega),(show l.length+1≤maxLen by simp only[maxLen];omega),hlen⟩|kernel_rfl) ?_ )
  try(conv=>whnf)
  refine AppK.mk (fun h=>?_) (fun _=>?_)
  ·refine Wk ?_
   have hh:=hK1 ((List.replicate (d*5) AV.undef).drop 5)
   have e:splice (flatE (l.map Cell.av)++List.replicate (d*5) AV.undef) (l.length*5) (flatE [c.av])=flatE ((insAt l l.length c).map Cell.av)++(List.replicate (d*5) AV.undef).drop 5:=by
    have h':(l.length+1)*5≤(flatE (l.map Cell.av)++List.replicate (d*5) AV.undef).length:=h
    rw[List.length_append,hF]at h'
    rw[splice_eq _ _ _ (by rw[List.length_append,hF,hX];omega),ins_cells,List.take_length,List.drop_length,←hF,List.take_left,hX,List.drop_append,List.drop_eq_nil_of_le (by omega),show(flatE (l.map Cell.av)).length+5-(flatE (l.map Cell.av)).length=5 by omega]
    simp[flatE]
   rw[←e]at hh
   exact hh
  ·intro d'
   refine Wk ?_
   have hh:=hK2 (freshO (l.map Cell.av) 5 d 52) (List.replicate (d'*5) AV.undef)
   have e:List.take (l.length*5) (flatE (l.map Cell.av)++List.replicate (d*5) AV.undef)++flatE [c.av] = flatE ((insAt l l.length c).map Cell.av):=by
    rw[ins_cells,List.take_length,List.drop_length,←hF,List.take_left]
    simp[flatE]
   rw[←e]at hh
   exact hh
 ·have hpn:p < l.length:=by simp at h1;omega
  have hd:(flatE (l.map Cell.av)++List.replicate (d*5) AV.undef).length=(l.length+d)*5:=by rw[List.length_append,hF,List.length_replicate];omega
  refine Wk ?_
  intro c0 hc0
  have hc0':c0=l.length+d:=by rw[hd]at hc0;omega
  subst hc0'
  have hw:IntKind.i64.wrap ((l.length:Int)+([c.av].length:Int))=((l.length+1:Nat):Int):=by rw[w64]<;>simp<;>omega
  refine Wk ?_
  rw[hw]
  refine BrK.mk (fun h2=>?_) (fun h2=>?_)<;>(try rw[h2])
  ·have hd0:d=0:=by simp at h2;omega
   subst hd0
   have hw2:IntKind.i64.wrap (((l.length+1:Nat):Int)-(p:Int))=((l.length+1-p:Nat):Int):=by rw[w64]<;>omega
   have hd2:(flatE (l.map Cell.av)++List.replicate (0*5) AV.undef).length=l.length*5:=by rw[hd];omega
   have hmul:p*5≤l.length*5:=Nat.mul_le_mul_right _ hp
   repeat((conv=>whnf);first|refine sJ ?_|refine aI (by first|exact⟨by omega,(show 0+p*5≤(flatE (l.map Cell.av)++List.replicate (0*5) AV.undef).length by rw[hd2];omega),by decide⟩|kernel_rfl) ?_|rw[hw]|rw[hw2])
   try(conv=>whnf)
   refine And.intro ?_ ?_
   ·refine⟨rfl,rfl,(by omega),?_,?_,?_,?_⟩
    ·exact(show(((p:Int).toNat:Int)+((l.length+1-p:Nat):Int))*((40:Nat):Int)≤140737488355328 by rw[Int.toNat_natCast];omega)
    ·rw[Int.toNat_natCast];omega
    ·exact(show p*5≤_ by rw[hd2];exact hmul)
    ·rw[hd2,Int.toNat_natCast,Int.toNat_natCast];exact(show _ < (p+(l.length+1-p))*5 by omega)
   intro d'
   rw[Int.toNat_natCast,Int.toNat_natCast,show p+(l.length+1-p)=l.length+1 by omega]
   repeat((conv=>whnf);first|refine sJ ?_|refine aI (by first|exact(show InC (p:Int) (l.length+1) from⟨by omega,by omega⟩)|kernel_rfl) ?_|rw[hw]|rw[hw2])
   try(conv=>whnf)
   have hmin:min [c.av].length (l.length+1-(p:Int).toNat)=1:=by rw[Int.toNat_natCast];simp;omega
   have hU:flatE (l.map Cell.av)++List.replicate (0*5) AV.undef=flatE (l.map Cell.av):=by simp
   have hA:(flatE ((l.take p).map Cell.av)).length=p*5:=by rw[cellOk.flen,List.length_take,Nat.min_eq_left hp]
   have hB:(flatE ((l.drop p).map Cell.av)).length=(l.length-p)*5:=by rw[cellOk.flen,List.length_drop]
   have hX:c.av.cells.length=5:=rfl
   obtain⟨zs,hzs⟩:∃zs:List AV,zs=[.int .i64 0,.int .i64 0,.int .i64 0,.int .i64 0,.int .i64 0]:=⟨_,rfl⟩
   have hZ:(repL (l.length+1-p) zs).length=(l.length+1-p)*5:=by rw[repL_len,hzs];rfl
   have eA:List.take (p*5) (flatE (l.map Cell.av)++List.replicate (0*5) AV.undef)=flatE ((l.take p).map Cell.av):=by rw[hU,cut_cells l p,←hA,List.take_left]
   have eB:List.take ((l.length-p)*5) (List.drop (p*5) (flatE (l.map Cell.av)++List.replicate (0*5) AV.undef))=flatE ((l.drop p).map Cell.av):=by rw[hU,cut_cells l p,←hA,List.drop_left,←hB,List.take_length]
   have hmin2:min (l.length-p) (l.length+1-(p+1))=l.length-p:=by omega
   have hw3:IntKind.i64.wrap ((p:Int)+([c.av].length:Int))=((p+1:Nat):Int):=by rw[w64]<;>simp<;>omega
   rw[hmin]
   refine And.intro ⟨rfl,rfl,?_⟩ ?_
   ·refine(show 0+p*5+5≤(List.take (p*5) (flatE (l.map Cell.av)++List.replicate (0*5) AV.undef)++repL (l.length+1-p) [.int .i64 0,.int .i64 0,.int .i64 0,.int .i64 0,.int .i64 0]++List.replicate (d'*5) AV.undef).length from ?_)
    rw[eA,←hzs]
    simp only[List.length_append,hA,hZ,List.length_replicate]
    omega
   repeat((conv=>whnf);first|refine sJ ?_|refine aI (by first|exact(show InC ((p+1:Nat):Int) (l.length+1) from⟨by omega,by omega⟩)|exact(show InC (p:Int) l.length from⟨by omega,by omega⟩)|exact trivial|kernel_rfl) ?_|rw[hw3])
   try(conv=>whnf)
   rw[show min (l.length-(p:Int).toNat) (l.length+1-((p+1:Nat):Int).toNat)=l.length-p from hmin2]
   have hT:0+p*5+c.av.cells.length≤(List.take (p*5) (flatE (l.map Cell.av)++List.replicate (0*5) AV.undef)++repL (l.length+1-p) zs++List.replicate (d'*5) AV.undef).length:=by
    rw[eA,hX]
    simp only[List.length_append,hA,hZ,List.length_replicate]
    omega
   refine And.intro ⟨?_,?_,?_⟩ ?_
   ·exact(show(List.take ((l.length-p)*5) (List.drop (0+p*5) (flatE (l.map Cell.av)++List.replicate (0*5) AV.undef))).length=(l.length-p)*5 by rw[Nat.zero_add,eB,hB])
   ·exact(show(List.take ((l.length-p)*5) (List.drop (0+p*5) (flatE (l.map Cell.av)++List.replicate (0*5) AV.undef))).all AV.isCell=true by rw[Nat.zero_add,eB];exact flatE_cell (cellOk.els _))
   ·refine(show 0+(p+1)*5+(List.take ((l.length-p)*5) (List.drop (0+p*5) (flatE (l.map Cell.av)++List.replicate (0*5) AV.undef))).length≤(splice (List.take (p*5) (flatE (l.map Cell.av)++List.replicate (0*5) AV.undef)++repL (l.length+1-p) [.int .i64 0,.int .i64 0,.int .i64 0,.int .i64 0,.int .i64 0]++List.replicate (d'*5) AV.undef) (0+p*5) c.av.cells).length from ?_)
    rw[←hzs,splice_len hT,Nat.zero_add (p*5),eB,hB,eA]
    simp only[List.length_append,hA,hZ,List.length_replicate]
    omega
   refine Wk ?_
   have hh:=hK2 (freshO (l.map Cell.av) 5 0 52) (List.replicate (d'*5) AV.undef)
   have e:splice (splice (List.take (p*5) (flatE (l.map Cell.av)++List.replicate (0*5) AV.undef)++repL (l.length+1-p) [.int .i64 0,.int .i64 0,.int .i64 0,.int .i64 0,.int .i64 0]++List.replicate (d'*5) AV.undef) (0+p*5) c.av.cells) (0+(p+1)*5) (List.take ((l.length-p)*5) (List.drop (0+p*5) (flatE (l.map Cell.av)++List.replicate (0*5) AV.undef)))=flatE ((insAt l p c).map Cell.av)++List.replicate (d'*5) AV.undef:=by
    rw[←hzs,Nat.zero_add,Nat.zero_add,eA,eB,ins_cells,show(p+1)*5=p*5+5 by omega]
    have ig:=ins_grow (A:=flatE ((l.take p).map Cell.av)) (B:=flatE ((l.drop p).map Cell.av)) (Z:=repL (l.length+1-p) zs) (U:=List.replicate (d'*5) AV.undef) (X:=c.av.cells) (by rw[hZ,hX,hB];omega)
    rw[hA,hX]at ig
    exact ig
   rw[←e]at hh
   exact hh
  ·have hd1:1≤d:=by simp at h2;omega
   have hU:5≤(List.replicate (d*5) AV.undef).length:=by rw[List.length_replicate];omega
   have hA:(flatE ((l.take p).map Cell.av)).length=p*5:=by rw[cellOk.flen,List.length_take,Nat.min_eq_left hp]
   have hB:(flatE ((l.drop p).map Cell.av)).length=(l.length-p)*5:=by rw[cellOk.flen,List.length_drop]
   have hX:c.av.cells.length=5:=rfl
   have eB:List.take ((l.length-p)*5) (List.drop (p*5) (flatE (l.map Cell.av)++List.replicate (d*5) AV.undef))=flatE ((l.drop p).map Cell.av):=by rw[cut_cells l p,List.append_assoc,←hA,List.drop_left,←hB,List.take_left]
   have hw3:IntKind.i64.wrap ((p:Int)+([c.av].length:Int))=((p+1:Nat):Int):=by rw[w64]<;>simp<;>omega
   have hmin2:min (l.length+1-p) (l.length+1-(p+1))=l.length-p:=by omega
   repeat((conv=>whnf);first|refine sJ ?_|refine aI (by first|exact⟨by omega,(show 0+(l.length+1)*5≤_ by rw[hd];omega),by decide⟩|kernel_rfl) ?_|rw[hw])
   try(conv=>whnf)
   rw[show(((l.length+1:Nat):Int)).toNat=l.length+1 from rfl]
   repeat((conv=>whnf);first|refine sJ ?_|refine aI (by first|exact(show InC ((p+1:Nat):Int) (l.length+1) from⟨by omega,by omega⟩)|kernel_rfl) ?_|rw[hw3])
   try(conv=>whnf)
   refine CallK.apart (e:=52) (t:=22) (tR:=4) Tryz.func217 (by kernel_rfl) (by kernel_rfl) (by kernel_rfl) (by kernel_rfl) rfl (sz:=5) rfl rfl (by simp) ?_ (by decide) ?_
   ·exact(show 0 < l.length+1-(p+1) by omega)
   repeat((conv=>whnf);first|refine sJ ?_|refine aI (by first|exact(show InC ((p+1:Nat):Int) (l.length+1) from⟨by omega,by omega⟩)|exact(show InC (p:Int) (l.length+1) from⟨by omega,by omega⟩)|exact trivial|kernel_rfl) ?_|rw[hw3])
   try(conv=>whnf)
   have hd3:(flatE (l.map Cell.av)++List.replicate (d*5) AV.undef).length=l.length*5+d*5:=by rw[hd];omega
   have hpl:(l.length-p)*5+p*5=l.length*5:=by rw[←Nat.add_mul,Nat.sub_add_cancel hp]
   rw[show min (l.length+1-(p:Int).toNat) (l.length+1-((p+1:Nat):Int).toNat)=l.length-p from hmin2]
   have hT:0+(p+1)*5+(List.take ((l.length-p)*5) (List.drop (0+p*5) (flatE (l.map Cell.av)++List.replicate (d*5) AV.undef))).length≤(flatE (l.map Cell.av)++List.replicate (d*5) AV.undef).length:=by
    rw[Nat.zero_add (p*5),eB,hB,hd3];omega
   refine And.intro ⟨?_,?_,hT⟩ ?_
   ·exact(show(List.take ((l.length-p)*5) (List.drop (0+p*5) (flatE (l.map Cell.av)++List.replicate (d*5) AV.undef))).length=(l.length-p)*5 by rw[Nat.zero_add,eB,hB])
   ·exact(show(List.take ((l.length-p)*5) (List.drop (0+p*5) (flatE (l.map Cell.av)++List.replicate (d*5) AV.undef))).all AV.isCell=true by rw[Nat.zero_add,eB];exact flatE_cell (cellOk.els _))
   have hmin:min [c.av].length (l.length+1-(p:Int).toNat)=1:=by rw[Int.toNat_natCast];simp;omega
   repeat((conv=>whnf);first|refine sJ ?_|refine aI (by first|exact(show InC (p:Int) (l.length+1) from⟨by omega,by omega⟩)|kernel_rfl) ?_ )
   try(conv=>whnf)
   rw[hmin]
   refine And.intro ⟨rfl,rfl,?_⟩ ?_
   ·refine(show 0+p*5+5≤(splice (flatE (l.map Cell.av)++List.replicate (d*5) AV.undef) (0+(p+1)*5) (List.take ((l.length-p)*5) (List.drop (0+p*5) (flatE (l.map Cell.av)++List.replicate (d*5) AV.undef)))).length from ?_)
    rw[splice_len hT,hd3];omega
   refine Wk ?_
   have hh:=hK1 ((List.replicate (d*5) AV.undef).drop 5)
   have e:splice (splice (flatE (l.map Cell.av)++List.replicate (d*5) AV.undef) (0+(p+1)*5) (List.take ((l.length-p)*5) (List.drop (0+p*5) (flatE (l.map Cell.av)++List.replicate (d*5) AV.undef)))) (0+p*5) c.av.cells=flatE ((insAt l p c).map Cell.av)++(List.replicate (d*5) AV.undef).drop 5:=by
    rw[Nat.zero_add,Nat.zero_add,eB,ins_cells,show(p+1)*5=p*5+5 by omega,cut_cells l p]
    have ig:=ins_room (A:=flatE ((l.take p).map Cell.av)) (B:=flatE ((l.drop p).map Cell.av)) (U:=List.replicate (d*5) AV.undef) (X:=c.av.cells) (by rw[hX];exact hU)
    rw[hA,hX]at ig
    exact ig
   rw[←e]at hh
   exact hh
theorem fzAdd {S:St}{a b:Int}{v:AV}{l:List AV}(h:fzb S v=some (.sl false l)):fzb S (.tup [.agg [.int .i64 a,.int .i64 b,v],.int .i64 0])=some (.tup [.agg [.int .i64 a,.int .i64 b,.sl false l],.int .i64 0]):=by
 simp[fzb,fzbs,h]
theorem c_Add (s:Sched)(c:Cell):PCall Tryz.prog L 101 [s.av,c.av] (.tup [(addM s c).1.av,.int .i64 (addM s c).2]):=by
 refine PCall.intro mixed [11] (nt:=42) Tryz.func101 rfl rfl (by simp) ?_
 refine Wk ?_
 refine cD (c_form L s) ?_
 refine Wk ?_
 refine BrK.mk (fun h1=>?_) (fun h1=>?_)<;>(try rw[h1])
 ·have h1':formB s=false:=by simpa using h1
  refine Wk ?_
  exact resP.mk rfl (Sees.of_eq (by rw[addM,if_pos h1'];rfl))
 have h1':formB s=true:=by simpa using h1
 refine Wk ?_
 refine cD (c_formed L s c) ?_
 refine Wk ?_
 refine BrK.mk (fun h2=>?_) (fun h2=>?_)<;>(try rw[h2])
 ·have h2':formedB s c=false:=by simpa using h2
  refine Wk ?_
  exact resP.mk rfl (Sees.of_eq (by rw[addM,if_neg (by simp[h1']),if_pos h2'];rfl))
 have h2':formedB s c=true:=by simpa using h2
 obtain⟨f1,f2,f3⟩:=form_all h1'
 refine Wk ?_
 refine cD (c_BinCell L s.cells c 107 (cellTo c) (by omega) rfl (formB_mono h1' c) (fun x _=>c_compare L x c)) ?_
 rw[show posB (cellTo c) s.cells=posC s c from rfl,show hasB (cellTo c) s.cells=hasC s c from rfl]
 have hp:posC s c≤s.cells.length:=posB_le _ _
 refine Wk ?_
 refine BrK.mk (fun h3=>?_) (fun h3=>?_)<;>(try rw[h3])
 ·refine Wk ?_
  exact resP.mk rfl (Sees.of_eq (by rw[addM,if_neg (by simp[h1']),if_neg (by simp[h2']),if_pos h3];rfl))
 refine Wk ?_
 refine BrK.mk (fun h4=>?_) (fun h4=>?_)<;>(try rw[h4])
 ·have h4':s.cells.length=512:=by simp at h4;omega
  refine Wk ?_
  exact resP.mk rfl (Sees.of_eq (by rw[addM,if_neg (by simp[h1']),if_neg (by simp[h2']),if_neg (by simp[h3]),if_pos h4'];rfl))
 have h4':¬s.cells.length=512:=by simp at h4;omega
 refine Wk ?_
 have hres:(addM s c)=(⟨s.len,s.offs,insAt s.cells (posC s c) c⟩,0):=by rw[addM,if_neg (by simp[h1']),if_neg (by simp[h2']),if_neg (by simp[h3]),if_neg h4']
 rw[hres]
 clear hres
 by_cases hne:s.cells=[]
 ·obtain⟨len,offs,cells⟩:=s
  simp only at hne
  subst hne
  rw[show posC ⟨len,offs,[]⟩ c=0 from rfl]
  refine SeqK.semk mixed [] (SemK.regionStil mixed [0,3] 7 rfl rfl (by decide) rfl ?_)
  iterate 2
   conv=>whnf
   apply exV
   ·intro S K' hh
    refine Wk ?_
    exact hh
  repeat' ((conv=>whnf);first|exact trivial|refine sJ ?_|refine aI (by first|exact trivial|exact⟨by decide,by decide⟩|kernel_rfl) ?_|refine And.intro ?_ ?_|refine CallK.inl rfl (ICall.intro mixed [] (nt:=8) Tryz.func59 rfl rfl (by simp) ?_)|refine CallK.inl rfl (ICall.intro mixed [] (nt:=95) Tryz.func166 rfl rfl (by simp) ?_)|(refine BrK.mk (fun h=>?_) (fun h=>?_))|(intro b;cases b))
  all_goals first|exact resP.mk (by rfl) (Sees.of_eq rfl)|exact Int.le_refl 0
 refine SeqK.semk mixed [] (SemK.regionStil mixed [0,3] 7 rfl rfl (by decide) rfl ?_)
 iterate 2
  conv=>whnf
  apply exV
  ·intro S K' hh
   refine Wk ?_
   exact hh
 repeat' ((conv=>whnf);first|exact trivial|refine sT ?_|refine And.intro ?_ ?_|refine CallK.fresh rfl (c_CloneCell L s.cells hne (by omega)) (by rfl) (cellOk.els _) (cellOk.scal (fun _=>rfl) _) (fun h=>absurd (by simpa using h) hne) (fun d=>?_)|refine CallK.inl rfl (i_InsertCell L _ _ _ _ _ _ s.cells c (posC s c) _ hp f2 _ (by simp) (fun ex=>?_) (fun o ex=>?_)))
 all_goals exact resP.mk (fzAdd (cellOk.fzb rfl (insAt_len _ _ _))) (Sees.rfl' _)
end
section
variable (L:World→Prop)
theorem del_cells (l:List Cell)(p:Nat)(U:List AV)(hp:p < l.length):splice (flatE (l.map Cell.av)++U) (p*5) (((flatE (l.map Cell.av)++U).drop ((p+1)*5)).take ((l.length-(p+1))*5))=flatE ((delAt l p++l.drop (l.length-1)).map Cell.av)++U:=by
 have hA:∀k,k≤l.length→(flatE ((l.take k).map Cell.av)).length=k*5:=fun k hk=>by rw[cellOk.flen,List.length_take,Nat.min_eq_left hk]
 have hdrop:∀k,k≤l.length→(flatE (l.map Cell.av)++U).drop (k*5)=flatE ((l.drop k).map Cell.av)++U:=fun k hk=>by
  rw[cut_cells l k,List.append_assoc,←hA k hk,List.drop_left]
 have hB:(flatE ((l.drop (p+1)).map Cell.av)).length=(l.length-(p+1))*5:=by rw[cellOk.flen,List.length_drop]
 have hF:(flatE (l.map Cell.av)).length=l.length*5:=cellOk.flen l
 rw[hdrop (p+1) (by omega),←hB,List.take_left]
 rw[splice_eq _ _ _ (by rw[List.length_append,hF,hB];omega),hB,show p*5+(l.length-(p+1))*5=(l.length-1)*5 by omega,hdrop (l.length-1) (by omega)]
 have htake:(flatE (l.map Cell.av)++U).take (p*5)=flatE ((l.take p).map Cell.av):=by
  rw[cut_cells l p,List.append_assoc,←hA p (by omega),List.take_left]
 rw[htake]
 simp only[delAt,List.map_append,flatE_app,List.append_assoc]
theorem i_DelCell (o0 o1 o2:Ob)(n0 m0:Nat)(ty:Nat→TypeId)(l:List Cell)(p d:Nat){K:AV→St→Prop}(hp:p < l.length)(hl:l.length≤512)(n:Nat)(hn:n=l.length)
  (hK:∀ex:List AV,K (.vsl 3 0 (l.length-1) 5) ⟨[o0,o1,o2,.cells (flatE ((delAt l p).map Cell.av)++ex) 52],[],n0,m0,ty⟩) :
  ICall Tryz.prog L 167 [.vsl 3 0 n 5,.int .i64 p,.int .i64 ((p+1:Nat):Int)] ⟨[o0,o1,o2,freshO (l.map Cell.av) 5 d 52],[],n0,m0,ty⟩ K:=by
 subst hn
 refine ICall.intro mixed [] (nt:=33) Tryz.func167 rfl rfl (by simp) ?_
 have hF:(flatE (l.map Cell.av)).length=l.length*5:=cellOk.flen l
 have hd:(flatE (l.map Cell.av)++List.replicate (d*5) AV.undef).length=l.length*5+d*5:=by rw[List.length_append,hF,List.length_replicate]
 have hB:(flatE ((l.drop (p+1)).map Cell.av)).length=(l.length-(p+1))*5:=by rw[cellOk.flen,List.length_drop]
 repeat((conv=>whnf);first|refine sJ ?_|refine aI (by first|exact(show(0:Int)≤(p:Int)∧(p:Int)≤((p+1:Nat):Int)∧((p+1:Nat):Int)≤(l.length:Int)∧(l.length:Int)≤((l.length:Nat):Int) from⟨by omega,by omega,by omega,by omega⟩)|kernel_rfl) ?_ )
 try(conv=>whnf)
 refine BrK.mk (fun h1=>?_) (fun h1=>?_)<;>(try rw[h1])
 ·exfalso
  simp at h1
  omega
 repeat((conv=>whnf);first|refine sJ ?_|refine aI (by first|exact⟨by omega,(show 0+p*5≤(flatE (l.map Cell.av)++List.replicate (d*5) AV.undef).length by rw[hd];omega),by decide⟩|exact(show InC ((p+1:Nat):Int) l.length from⟨by omega,by omega⟩)|kernel_rfl) ?_ )
 try(conv=>whnf)
 have hT:(l.length-((p+1:Nat):Int).toNat)=l.length-(p+1):=rfl
 have hdrop:(flatE (l.map Cell.av)++List.replicate (d*5) AV.undef).drop (0+((p+1:Nat):Int).toNat*5)=flatE ((l.drop (p+1)).map Cell.av)++List.replicate (d*5) AV.undef:=by
  rw[Int.toNat_natCast,Nat.zero_add,cut_cells l (p+1),List.append_assoc,←(show(flatE ((l.take (p+1)).map Cell.av)).length=(p+1)*5 by rw[cellOk.flen,List.length_take,Nat.min_eq_left (by omega)]),List.drop_left]
 have htake:((flatE (l.map Cell.av)++List.replicate (d*5) AV.undef).drop (0+((p+1:Nat):Int).toNat*5)).take ((l.length-((p+1:Nat):Int).toNat)*5)=flatE ((l.drop (p+1)).map Cell.av):=by
  rw[hdrop,hT,←hB,List.take_left]
 refine And.intro ⟨rfl,rfl,by decide,?_,?_,?_⟩ ?_
 ·rw[htake,hT,hB]
 ·rw[htake];exact flatE_cell (cellOk.els _)
 ·rw[hd,hT,Int.toNat_natCast];omega
 have hU:=del_cells l p (List.replicate (d*5) AV.undef) hp
 have hlast:(l.drop (l.length-1)).length=1:=by rw[List.length_drop];omega
 have hal:(delAt l p++l.drop (l.length-1)).length=l.length:=by rw[List.length_append,delAt_len hp,hlast];omega
 have hpl:(p:Int).toNat+(l.length-((p+1:Nat):Int).toNat)=l.length-1:=by rw[hT,Int.toNat_natCast];omega
 rw[hpl]
 rw[show(0+((p+1:Nat):Int).toNat*5)=(p+1)*5 from by rw[Nat.zero_add];rfl,show(l.length-((p+1:Nat):Int).toNat)=l.length-(p+1) from rfl,show(p:Int).toNat*5=p*5 from rfl,hU]
 have hd2:(flatE ((delAt l p++l.drop (l.length-1)).map Cell.av)++List.replicate (d*5) AV.undef).length=l.length*5+d*5:=by rw[List.length_append,cellOk.flen,hal,List.length_replicate]
 have hl1:(l.length:Int).toNat-((l.length-1:Nat):Int).toNat=l.length-(l.length-1):=rfl
 repeat((conv=>whnf);first|refine sJ ?_|refine aI (by first|exact⟨by omega,(show 0+l.length*5≤(flatE ((delAt l p++l.drop (l.length-1)).map Cell.av)++List.replicate (d*5) AV.undef).length by rw[hd2];omega),by decide⟩|exact(show InC ((l.length-1:Nat):Int) l.length from⟨by omega,by omega⟩)|exact⟨rfl,rfl,by decide,(show 0+((l.length-1:Nat):Int).toNat*5+((l.length:Int).toNat-((l.length-1:Nat):Int).toNat)*5≤(flatE ((delAt l p++l.drop (l.length-1)).map Cell.av)++List.replicate (d*5) AV.undef).length by rw[hd2,hl1,Int.toNat_natCast];omega)⟩|kernel_rfl) ?_ )
 try(conv=>whnf)
 rw[cellOk.clr' (l:=delAt l p++l.drop (l.length-1)) (k:=l.length-1) _ _ 5 ((l.length:Int).toNat-((l.length-1:Nat):Int).toNat) rfl (by rw[hal];rfl) (by omega) rfl]
 rw[show(delAt l p++l.drop (l.length-1)).take (l.length-1)=delAt l p from by rw[←delAt_len hp,List.take_left]]
 exact hK _
theorem c_Remove (s:Sched)(c:Cell):PCall Tryz.prog L 102 [s.av,c.av] (.tup [(remM s c).1.av,.int .i64 (remM s c).2]):=by
 refine PCall.intro mixed [] (nt:=31) Tryz.func102 rfl rfl (by simp) ?_
 refine Wk ?_
 refine cD (c_form L s) ?_
 refine Wk ?_
 refine BrK.mk (fun h1=>?_) (fun h1=>?_)<;>(try rw[h1])
 ·have h1':formB s=false:=by simpa using h1
  refine Wk ?_
  exact resP.mk rfl (Sees.of_eq (by rw[remM,if_pos h1'];rfl))
 have h1':formB s=true:=by simpa using h1
 obtain⟨f1,f2,f3⟩:=form_all h1'
 refine Wk ?_
 refine cD (c_BinCell L s.cells c 107 (cellTo c) (by omega) rfl (formB_mono h1' c) (fun x _=>c_compare L x c)) ?_
 rw[show posB (cellTo c) s.cells=posC s c from rfl,show hasB (cellTo c) s.cells=hasC s c from rfl]
 refine Wk ?_
 refine BrK.mk (fun h2=>?_) (fun h2=>?_)<;>(try rw[h2])
 ·have h2':hasC s c=false:=by simpa using h2
  refine Wk ?_
  exact resP.mk rfl (Sees.of_eq (by rw[remM,if_neg (by simp[h1']),if_pos h2'];rfl))
 have h2':hasC s c=true:=by simpa using h2
 have hget:=hasC_at h2'
 have hp:=(List.getElem?_eq_some_iff.1 hget).1
 have hne:s.cells≠[]:=by intro h;rw[h]at hp;simp at hp
 have hres:remM s c=(⟨s.len,s.offs,delAt s.cells (posC s c)⟩,0):=by rw[remM,if_neg (by simp[h1']),if_neg (by simp[h2'])]
 rw[hres]
 clear hres
 refine Wk ?_
 refine CallK.fresh rfl (c_CloneCell L s.cells hne (by omega)) (by rfl) (cellOk.els _) (cellOk.scal (fun _=>rfl) _) (fun h=>absurd (by simpa using h) hne) (fun d=>?_)
 have hw:IntKind.i64.wrap ((posC s c:Int)+1)=((posC s c+1:Nat):Int):=by rw[w64]<;>omega
 refine Wk ?_
 rw[hw]
 refine CallK.inl rfl ?_
 refine i_DelCell L _ _ _ _ _ _ s.cells (posC s c) d hp f2 _ (by simp) (fun ex=>?_)
 refine Wk ?_
 exact resP.mk (fzAdd (cellOk.fzb rfl (delAt_len hp))) (Sees.rfl' _)
theorem c_changed (s:Sched)(c:Chg):PCall Tryz.prog L 160 [s.av,c.av] (.tup [(chgM s c).1.av,.int .i64 (chgM s c).2]):=by
 refine PCall.intro mixed [] (nt:=20) Tryz.func160 rfl rfl (by simp) ?_
 refine Wk ?_
 refine BrK.mk (fun h=>?_) (fun h=>?_)<;>(try rw[h])
 ·refine Wk ?_
  refine cD (c_Add L s c.cell) ?_
  refine Wk ?_
  exact resP.mk rfl (Sees.of_eq (by rw[chgM,if_pos h];rfl))
 ·refine Wk ?_
  refine cD (c_Remove L s c.cell) ?_
  refine Wk ?_
  exact resP.mk rfl (Sees.of_eq (by rw[chgM,if_neg (by simp[h])];rfl))
end
end HM
