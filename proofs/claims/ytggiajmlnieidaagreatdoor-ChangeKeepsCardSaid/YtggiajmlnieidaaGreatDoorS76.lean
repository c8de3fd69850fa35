/- A player: an attempt, once it has something to send. -/
import Derived.Test.YtggiajmlnieidaaGreatDoorS74
import Derived.Test.YtggiajmlnieidaaGreatDoorFh
import Derived.Test.YtggiajmlnieidaaGreatDoorDb
set_option maxHeartbeats 64000000
set_option maxRecDepth 100000
namespace HM
open Go Go.RowKit Go.Proofs
section
variable {kx:KX} {S S':St} {pb ch:Nat} {l:List zf} {s:zc} {x:List zD} {c:zg} {y:AS} {p:PS} {Q:PL}
theorem wO.more (h:wO kx pb ch l s x c y p Q S)(hx:∀(id:Nat) (o:Ob),S.bx[id]? = some o→S'.bx[id]? = some o)(hf:S'.fr[ch]? = S.fr[ch]?)(ht:S'.ty ch=S.ty ch):wO kx pb ch l s x c y p Q S':=
 ⟨h.P.more hx hf ht,hx _ _ h.q,h.gp,h.gf,h.fr,hx _ _ h.cb,hx _ _ h.z7,hx _ _ h.z9⟩
theorem Xi {α:Type}{l:List α}{i:Nat}{a b:α}(h:l[i]? = some a):(l.set i b)[i]? = some b:=by
 have:=(List.getElem?_eq_some_iff.1 h).1
 simp[this]
theorem wO.setM (h:wO kx pb ch l s x c y p Q S)(p':PS)(hfr:p'.frame=p.frame)(hdn:p'.done=p.done){j:Nat}(hj:j < 3)(ho:∀k,k < 3→k≠j→yO p' k=yO p k) :
  wO kx pb ch l s x c y p' ⟨Q.sts.set y.i p',Q.atts,Q.dels⟩ (S.setB (y.g y.i j) (yO p' j)):=by
 have h0:0≤p.frame:=by have:=h.fr;omega
 have hm:=h.P.m y.i p h.gp h0 j hj
 have hP:=h.P.setM h.gp h0 hfr hdn hj ho
 have hil:=(List.getElem?_eq_some_iff.1 h.gp).1
 have est:zA y.g (Q.sts.set y.i p')=zA y.g Q.sts:=by
  rw[←WS]
  refine Xh ?_
  rw[v6 h.gp]
  simp[VL,mpv,hfr,hdn]
 exact⟨by simpa using hP,by rw[St.zi (jN h.q hm).symm,est];exact h.q,Xi h.gp,h.gf,by rw[hfr];exact h.fr,by rw[St.zi (jN h.cb hm).symm];exact h.cb,by rw[St.zi (jN h.z7 hm).symm];exact h.z7,by rw[St.zi (jN h.z9 hm).symm];exact h.z9⟩
theorem wO.setA (h:wO kx pb ch l s x c y p Q S)(al:List y9)(hf:S'.fr[ch]? = some (al.length,8))(ht:S'.ty ch=S.ty ch)(hb:S'.bx=S.bx) :
  wO kx pb ch l s x c y p ⟨Q.sts,al,Q.dels⟩ (S'.setB pb (.cells (X6 l s x (.vsl y.qb 0 Q.sts.length 5) (.own (al.map y9.av) ch) y.dv) 137)):=by
 have hP:=h.P.setP s al hf ht hb
 exact⟨hP,by rw[St.zi (yP h.P.p h.q (by first|decide|exact(show(137:Nat)≠_ by decide)|exact(show _≠(137:Nat) by decide)|exact(show _≠(198:Nat) by decide)|exact(show _≠(161:Nat) by decide))),hb];exact h.q,h.gp,h.gf,h.fr,by rw[St.zi (yP h.P.p h.cb (by first|decide|exact(show(137:Nat)≠_ by decide)|exact(show _≠(137:Nat) by decide)|exact(show _≠(198:Nat) by decide)|exact(show _≠(161:Nat) by decide))),hb];exact h.cb,by rw[St.zi (yP h.P.p h.z7 (by first|decide|exact(show(137:Nat)≠_ by decide)|exact(show _≠(137:Nat) by decide)|exact(show _≠(198:Nat) by decide)|exact(show _≠(161:Nat) by decide))),hb];exact h.z7,by rw[St.zi (yP h.P.p h.z9 (by first|decide|exact(show(137:Nat)≠_ by decide)|exact(show _≠(137:Nat) by decide)|exact(show _≠(198:Nat) by decide)|exact(show _≠(161:Nat) by decide))),hb];exact h.z9⟩
theorem wO.setQ (h:wO kx pb ch l s x c y p Q S)(p':PS)(hfr:p'.frame=p.frame)(ho:∀k,k < 3→yO p' k=yO p k) :
  wO kx pb ch l s x c y p' ⟨Q.sts.set y.i p',Q.atts,Q.dels⟩ (S.setB y.qb (.cells (zd (zA y.g (Q.sts.set y.i p'))++y.ex) 198)):=by
 have hP:=h.P.setQ rfl h.q h.gp hfr ho
 rw[show(.vsl y.qb 0 Q.sts.length 5:AV)=.vsl y.qb 0 (Q.sts.set y.i p').length 5 from by rw[List.length_set]]at hP
 exact⟨hP,St.zw h.q,Xi h.gp,h.gf,by rw[hfr];exact h.fr,by rw[St.zi (yP h.q h.cb (by first|decide|exact(show(137:Nat)≠_ by decide)|exact(show _≠(137:Nat) by decide)|exact(show _≠(198:Nat) by decide)|exact(show _≠(161:Nat) by decide)))];exact h.cb,by rw[St.zi (yP h.q h.z7 (by first|decide|exact(show(137:Nat)≠_ by decide)|exact(show _≠(137:Nat) by decide)|exact(show _≠(198:Nat) by decide)|exact(show _≠(161:Nat) by decide)))];exact h.z7,by rw[St.zi (yP h.q h.z9 (by first|decide|exact(show(137:Nat)≠_ by decide)|exact(show _≠(137:Nat) by decide)|exact(show _≠(198:Nat) by decide)|exact(show _≠(161:Nat) by decide)))];exact h.z9⟩
theorem wO.ld (h:wO kx pb ch l s x c y p Q S)(j:Nat)(hj:j < 5):∀n j':Nat,n=5→j'=j→(zd (zA y.g Q.sts)++y.ex)[0+(y.i:Int).toNat*n+j']? = (VL (y.g y.i) p).cells[j]?:=fun n j' hn hj'=>by
 subst hn;subst hj'
 rw[Nat.zero_add,Int.toNat_natCast]
 exact(x7 y.g Q.sts).ld y.ex (v6 h.gp) hj
theorem wO.m (h:wO kx pb ch l s x c y p Q S)(j:Nat)(hj:j < 3):S.bx[y.g y.i j]? = some (yO p j):=h.P.m y.i p h.gp (by have:=h.fr;omega) j hj
theorem wO.mpv (h:wO kx pb ch l s x c y p Q S)(id:Nat):mpv p id=.mp id:=by rw[HM.mpv,if_neg h.fr]
end
section
theorem wO.app {kx:KX}{S:St}{pb ch:Nat}{l:List zf}{s:zc}{x:List zD}{c:zg}{y:AS}{p:PS}{Q:PL}(h:wO kx pb ch l s x c y p Q S)(a:y9)(y1:Nat×Nat)(e:TypeId)(z:AV)(hz:z=a.av) :
  wO kx pb ch l s x c y p ⟨Q.sts,Q.atts++[a],Q.dels⟩ (((S.addF y1 e).setF ch ((Q.atts.map y9.av++[z]).length,8)).setB pb (.cells (X6 l s x (.vsl y.qb 0 Q.sts.length 5) (.own (Q.atts.map y9.av++[z]) ch) y.dv) 137)):=by
 subst hz
 have hf:=h.P.a
 have h1:wO kx pb ch l s x c y p Q (S.addF y1 e):=h.more (fun _ _ h=>h) ((St.Yb hf).trans hf.symm) (St.X5 hf)
 have h2:=h1.setA (S':=(S.addF y1 e).setF ch ((Q.atts.map y9.av++[a.av]).length,8)) (Q.atts++[a]) (by rw[St.zjh (St.Yb hf)];simp) rfl rfl
 rw[List.map_append]at h2
 exact h2
end
def pT (p:PS)(c:zg):PS:=⟨p.frame,p.since,p.tries.set [c.src,c.dst] ((p.tries.get [c.src,c.dst]).getD 0+1),p.acked,p.done⟩
def pA (p:PS)(c:zg)(slot o:Int):PS:=⟨p.frame,p.since,p.tries,if o=1∧p.acked.get [c.src,c.dst] = none then p.acked.set [c.src,c.dst] slot else p.acked,p.done⟩
def pS (p:PS)(c:zg)(slot o:Int):PS:=⟨p.frame,if o≠3∧p.since.get [c.dst] = none then p.since.set [c.dst] (slot+1) else p.since,p.tries,p.acked,p.done⟩
def pD (f:zf)(p:PS)(c:zg)(o:Int):PS:=⟨p.frame,p.since,p.tries,p.acked,p.done||(decide (o≠3)&&c.dst==f.dst)⟩
theorem Y5 (f:zf)(p:PS)(c:zg)(slot o:Int):VE f p c slot o=pD f (pS (pA (pT p c) c slot o) c slot o) c o:=rfl
theorem IM.zhV {m:IM}{k:List Int}{j:Nat}(h:zV m.ks k=some j)(v:Int):(m.set k v)=⟨m.ks,m.vs.set j v⟩:=by simp[IM.set,yu,h]
theorem IM.zhW {m:IM}{k:List Int}(h:zV m.ks k=Option.none)(v:Int):(m.set k v)=⟨m.ks++[k],m.vs++[v]⟩:=by simp[IM.set,yu,h]
theorem IM.KT {m:IM}{k:List Int}(h:zV m.ks k=Option.none):m.get k=Option.none:=by simp[IM.get,h]
theorem IM.zgg {m:IM}(hk:m.ok){k:List Int}{j:Nat}(h:zV m.ks k=some j):∃v,m.get k=some v∧m.vs[j]? = some v:=by
 have:=(List.getElem?_eq_some_iff.1 (yV h)).1
 have hk:m.ks.length=m.vs.length:=hk
 exact⟨m.vs[j]'(by omega),by simp[IM.get,h,List.getElem?_eq_getElem (show j < m.vs.length by omega)],List.getElem?_eq_getElem (by omega)⟩
def WJ (S S':St):Prop:=∀(id:Nat) (cs:List AV) (t:TypeId),S.bx[id]? = some (.cells cs t)→S'.bx[id]? = some (.cells cs t)
theorem WJ.refl (S:St):WJ S S:=fun _ _ _ h=>h
theorem WJ.setM {S S':St}{m:Nat}{sh:Option Nat}{ks:List (List Int)}{vs:List AV}{o:Ob}(h:WJ S S')(hm:S.bx[m]? = some (.map sh ks vs)):WJ S (S'.setB m o):=fun id cs t hc=>by
 rw[St.zi (zjv hc hm).symm];exact h id cs t hc
def zhR (pb:Nat)(S S':St):Prop:=∀(id:Nat) (cs:List AV) (t:TypeId),id≠pb→S.bx[id]? = some (.cells cs t)→S'.bx[id]? = some (.cells cs t)
theorem zhR.refl (pb:Nat)(S:St):zhR pb S S:=fun _ _ _ _ h=>h
theorem exJ {α:Type}{A B:α→Prop}{v:α}(h1:A v)(h2:B v):∃v,A v∧B v:=⟨v,h1,h2⟩
theorem zf7 {ks:List (List Int)}{vs:List AV}{k:List Int}{z:AV}(h:zV ks k=none)(hl:ks.length=vs.length):assoc (ks++[k]) (vs++[z]) k=some z:=by
 unfold assoc
 rw[V3 h,if_pos rfl]
 simp[hl]
theorem zgw {α:Type}{l:List α}{a b:α}{n:Nat}(h:n=l.length):(l++[a]).set n b=l++[b]:=by subst h;simp
section
variable (L:World→Prop) {kx:KX}
def zhN (S:St)(pb ch:Nat)(l:List zf)(s:zc)(x:List zD)(Q:PL)(g:Nat→Nat→Nat)(sv dv:AV)(c:zg)(slot:Int)(K:AV→St→Prop)
  (hI:xx (jE kx) S pb ch l s x Q g sv dv) (hl:l.length≤16) (hQ:Q.sts.length=l.length)
  (hK0:∀S',Jp (jE kx) S' pb ch l s x (yg l x slot Q c)→K (.tup []) S')
  (hs:(y0 x).2=0) (hok:∀(i:Nat) (p:PS),Q.sts[i]? = some p→p.ok) (ht:∀(i:Nat) (p:PS),Q.sts[i]? = some p→¬p.frame < 0→∀a b,0≤(p.tries.get [a,b]).getD 0∧(p.tries.get [a,b]).getD 0≤1099511627776)
  (_hsl:0≤slot∧slot≤1099511627776) (ha:Q.atts.length≤1073741824) (_hd:Q.dels.length≤1073741824) :
  {p:Prop // (Unit→p)→(zeH L S pb ch l s x Q g sv dv c slot K hI hl hQ hK0).1}:=by
 refine⟨?p,fun H=>?main⟩
 case main=>
 conv=>whnf
 rintro y S2 ⟨hB,hA⟩
 have ht2:Y9 Tryz.prog 196=some (some 2,3):=by kernel_rfl
 have hok0:=hok _ _ hB.gp0
 have htr:=ht _ _ hB.gp0 hA.fr c.src c.dst
 obtain⟨o,ho⟩:∃o,o=wa x y.f y.p0 c:=⟨_,rfl⟩
 have hxl:∀r∈x,r.outs.length≤281474976710656:=fun r hr=>by
  obtain⟨j,hj⟩:=List.getElem?_of_mem hr
  have:=(zgx (zbo ((ke hs).2 j r hj)).1).len
  omega
 refine yF.jf mixed [10007] [8,9,10,12,13,16] (fun y S2=>ZM l x slot Q c y∧wO kx pb ch l s x c y y.p0 Q S2∧wa x y.f y.p0 c=o) (fun y=>(14,.int .i64 o) :: aSl pb slot c y) ?_ ?_
 ·have hp2:=hA.P.p
  have hq2:=hA.q
  have hc2:=hA.cb
  have h72:=hA.z7
  have h92:=hA.z9
  have hd0:∀n j':Nat,n=5→j'=0→(zd (zA y.g Q.sts)++y.ex)[0+(y.i:Int).toNat*n+j']? = some (.int .i64 y.p0.frame):=fun n j' hn hj=>hA.ld 0 (by decide) n j' hn hj
  have hd2:∀n j':Nat,n=5→j'=2→(zd (zA y.g Q.sts)++y.ex)[0+(y.i:Int).toNat*n+j']? = some (.mp (y.g y.i 1)):=fun n j' hn hj=>by rw[hA.ld 2 (by decide) n j' hn hj];show some (mpv y.p0 (y.g y.i 1))=_;rw[hA.mpv]
  have ho2:∀v,v=.mp (y.g y.i 1)→xG S2 (some 2) v=some (y.p0.tries.ks,y.p0.tries.vs.map zM):=fun v hv=>by subst hv;simp[xG,hA.m 1 (by omega),IM.ob,yO]
  refine Wk ?_
  refine zW.Z9 mixed [0,1,2,3,4,5,6,7,8,9,10,11,12,13] 2 rfl rfl (by decide) rfl ?_
  repeat((conv=>whnf);first|refine sT ?_|rw[St.zC]|rw[ht2]|rw[hp2]|rw[hq2]|rw[hc2]|rw[h72]|rw[h92]|(rw[ho2];rotate_left;rfl)|(rw[hd0];rotate_left;rfl;rfl)|(rw[hd2];rotate_left;rfl;rfl))
  try(conv=>whnf)
  rw[IM.assoc]
  have fin:∀k,(y.p0.tries.get [c.src,c.dst]).getD 0=k→vm x y.f.id y.p0.frame c.src c.dst k.toNat=o:=fun k hk=>by rw[ho,wa,hk]
  cases hgt:y.p0.tries.get [c.src,c.dst] with
  | none=>
   have fin0:=fin 0 (by rw[hgt];rfl)
   repeat((conv=>whnf);first|refine sT ?_|rw[St.zC]|rw[ht2]|rw[hp2]|rw[hq2]|rw[hc2]|rw[h72]|rw[h92]|(rw[ho2];rotate_left;rfl)|(rw[hd0];rotate_left;rfl;rfl)|(rw[hd2];rotate_left;rfl;rfl))
   try(conv=>whnf)
   refine And.intro ?_ trivial
   conv=>whnf
   refine zo.inl rfl ?_
   refine Km L _ pb l s x _ _ _ y.f.id y.p0.frame c.src c.dst 0 hs hxl (by omega) hp2 fun tl=>?_
   rw[fin0]
   refine⟨wN.pre rfl rfl,?_⟩
   repeat' ((conv=>whnf);first|exact trivial|refine sJ ?_|refine aI (by first|exact trivial|exact wN.pre rfl rfl|kernel_rfl) ?_|refine And.intro ?_ ?_ )
   all_goals(conv=>whnf)
   exact⟨y,⟨hB,hA.more (fun id o ho=>(List.getElem?_append_left (List.getElem?_eq_some_iff.1 ho).1).trans ho) rfl rfl,ho.symm⟩,za.of_eq rfl,za.of_eq rfl,za.of_eq rfl,za.of_eq rfl,za.of_eq rfl,za.of_eq rfl,za.of_eq rfl,za.of_eq rfl,trivial⟩
  | some k=>
   have fin0:=fin k (by rw[hgt];rfl)
   rw[hgt]at htr
   repeat((conv=>whnf);first|refine sT ?_|rw[St.zC]|rw[ht2]|rw[hp2]|rw[hq2]|rw[hc2]|rw[h72]|rw[h92]|(rw[ho2];rotate_left;rfl)|(rw[hd0];rotate_left;rfl;rfl)|(rw[hd2];rotate_left;rfl;rfl))
   try(conv=>whnf)
   refine And.intro ?_ trivial
   conv=>whnf
   refine zo.inl rfl ?_
   refine Km L _ pb l s x _ _ _ y.f.id y.p0.frame c.src c.dst k hs hxl htr.1 hp2 fun tl=>?_
   rw[fin0]
   refine⟨wN.pre rfl rfl,?_⟩
   repeat' ((conv=>whnf);first|exact trivial|refine sJ ?_|refine aI (by first|exact trivial|exact wN.pre rfl rfl|kernel_rfl) ?_|refine And.intro ?_ ?_ )
   all_goals(conv=>whnf)
   exact⟨y,⟨hB,hA.more (fun id o ho=>(List.getElem?_append_left (List.getElem?_eq_some_iff.1 ho).1).trans ho) rfl rfl,ho.symm⟩,za.of_eq rfl,za.of_eq rfl,za.of_eq rfl,za.of_eq rfl,za.of_eq rfl,za.of_eq rfl,za.of_eq rfl,za.of_eq rfl,trivial⟩
 clear hA hB hok0 htr ho
 rintro y S2 ⟨hB,hA,ho⟩
 have hok0:=hok _ _ hB.gp0
 have htr:=ht _ _ hB.gp0 hA.fr c.src c.dst
 refine yF.jf mixed [10008] [9,10,12,13,16] (fun y S2=>ZM l x slot Q c y∧wO kx pb ch l s x c y (pT y.p0 c) ⟨Q.sts.set y.i (pT y.p0 c),Q.atts,Q.dels⟩ S2∧wa x y.f y.p0 c=o) (fun y=>(14,.int .i64 o) :: aSl pb slot c y) ?_ ?_
 ·have hq2:=hA.q
  have h92:=hA.z9
  have hd2:∀n j':Nat,n=5→j'=2→(zd (zA y.g Q.sts)++y.ex)[0+(y.i:Int).toNat*n+j']? = some (.mp (y.g y.i 1)):=fun n j' hn hj=>by rw[hA.ld 2 (by decide) n j' hn hj];show some (mpv y.p0 (y.g y.i 1))=_;rw[hA.mpv]
  have hm2:S2.bx[y.g y.i 1]? = some (.map (some 2) y.p0.tries.ks (y.p0.tries.vs.map zM)):=hA.m 1 (by omega)
  have hset:=hA.setM (pT y.p0 c) rfl rfl (j:=1) (by omega) (fun k hk hne=>by
   rcases k with _|_|k
   ·rfl
   ·exact absurd rfl hne
   ·rfl)
  have hkl:y.p0.tries.ks.length=y.p0.tries.vs.length:=hok0.2.1
  refine Wk ?_
  refine zW.Ya mixed (WJ S2) [0,1,2,3,4] 5 rfl rfl (by decide) rfl (WJ.refl S2) ?_
  iterate 5
   conv=>whnf
   apply exJ
   ·intro S' K' hI' hh
    repeat((conv=>whnf);first|refine sT ?_|rw[hI' _ _ _ hq2]|rw[hI' _ _ _ h92]|(rw[hd2];rotate_left;rfl;rfl))
    try(conv=>whnf)
    exact hh
  cases hpos:zV y.p0.tries.ks [c.src,c.dst] with
  | none=>
   have hasc:∀k,k=[c.src,c.dst]→assoc y.p0.tries.ks (y.p0.tries.vs.map zM) k=none:=fun k hk=>by subst hk;rw[IM.assoc,IM.KT hpos];rfl
   have hasn:∀k k' z,k=[c.src,c.dst]→k'=[c.src,c.dst]→assoc (y.p0.tries.ks++[k]) (y.p0.tries.vs.map zM++[z]) k'=some z:=fun k k' z hk hk'=>by subst hk;subst hk';exact zf7 hpos (by simpa using hkl)
   have hg0:=IM.KT hpos
   have hw1:IntKind.i64.wrap ((0:Int)+1)=1:=rfl
   have hob:yO (pT y.p0 c) 1=.map (some 2) (y.p0.tries.ks++[[c.src,c.dst]]) ((y.p0.tries.vs.map zM++[AV.int .i64 0]).set y.p0.tries.ks.length (AV.int .i64 (IntKind.i64.wrap (0+1)))):=by
    show Ob.map (some 2) (y.p0.tries.set [c.src,c.dst] ((y.p0.tries.get [c.src,c.dst]).getD 0+1)).ks ((y.p0.tries.set [c.src,c.dst] ((y.p0.tries.get [c.src,c.dst]).getD 0+1)).vs.map zM)=_
    rw[hg0,IM.zhW hpos,zgw (by simpa using hkl)]
    rw[List.map_append]
    rfl
   rw[hob]at hset
   have hz:X7 Tryz.prog 3=some (AV.int .i64 0):=by kernel_rfl
   have hmo:=qa (sh:=some 2) hm2
   have hoL:∀v,v=.mp (y.g y.i 1)→xG S2 (some 2) v=some (y.p0.tries.ks,y.p0.tries.vs.map zM):=fun v hv=>Wi hm2 hv
   have hoE:∀ks' vs' (i n:Nat) v,v=.mp (y.g y.i 1)→xG (S2.setB (y.g y.i 1) (.mapE (some 2) ks' vs' i n)) (some 2) v=some (ks',vs'):=fun ks' vs' i n v hv=>Qe (St.zw hm2) hv
   repeat' ((conv=>whnf);first|exact trivial|refine sJ ?_|refine aI (by first|exact trivial|exact WJ.refl S2|exact(WJ.refl S2).setM hm2|exact((WJ.refl S2).setM hm2).setM hm2|kernel_rfl) ?_|refine And.intro ?_ ?_|rw[ht2]|rw[hmo]|rw[hz]|(intro n)|rw[hpos]|rw[St.zw hm2]|(rw[hoL];rotate_left;rfl)|(rw[hoE];rotate_left;rfl)|(rw[hasc];rotate_left;rfl)|(rw[hasn];rotate_left;rfl;rfl))
   all_goals(conv=>whnf)
   all_goals(refine⟨y,⟨hB,?_,ho⟩,za.of_eq rfl,za.of_eq rfl,za.of_eq rfl,za.of_eq rfl,za.of_eq rfl,za.of_eq rfl,za.of_eq rfl,za.of_eq rfl,trivial⟩)
   all_goals(rw[J4];exact hset)
  | some j=>
   obtain⟨v,hgv,hvj⟩:=IM.zgg hok0.2.1 hpos
   have hvE:(y.p0.tries.vs.map zM)[j]? = some (zM v):=by simp[hvj]
   have hasc:∀k,k=[c.src,c.dst]→assoc y.p0.tries.ks (y.p0.tries.vs.map zM) k=some (zM v):=fun k hk=>by subst hk;rw[IM.assoc,hgv];rfl
   have hz:X7 Tryz.prog 3=some (AV.int .i64 0):=by kernel_rfl
   have hmo:=qa (sh:=some 2) hm2
   have hoL:∀v,v=.mp (y.g y.i 1)→xG S2 (some 2) v=some (y.p0.tries.ks,y.p0.tries.vs.map zM):=fun v hv=>Wi hm2 hv
   have hoE:∀ks' vs' (i n:Nat) v,v=.mp (y.g y.i 1)→xG (S2.setB (y.g y.i 1) (.mapE (some 2) ks' vs' i n)) (some 2) v=some (ks',vs'):=fun ks' vs' i n v hv=>Qe (St.zw hm2) hv
   have hob:yO (pT y.p0 c) 1=.map (some 2) y.p0.tries.ks ((y.p0.tries.vs.map zM).set j (AV.int .i64 (IntKind.i64.wrap (v+1)))):=by
    show Ob.map (some 2) (y.p0.tries.set [c.src,c.dst] ((y.p0.tries.get [c.src,c.dst]).getD 0+1)).ks ((y.p0.tries.set [c.src,c.dst] ((y.p0.tries.get [c.src,c.dst]).getD 0+1)).vs.map zM)=_
    rw[hgv]at htr
    have h1:0≤v:=htr.1
    have h2:v≤1099511627776:=htr.2
    rw[hgv,IM.zhV hpos,xw (by omega) (by omega),List.map_set]
    rfl
   rw[hob]at hset
   repeat' ((conv=>whnf);first|exact trivial|refine sJ ?_|refine aI (by first|exact trivial|exact WJ.refl S2|exact(WJ.refl S2).setM hm2|exact((WJ.refl S2).setM hm2).setM hm2|kernel_rfl) ?_|refine And.intro ?_ ?_|rw[ht2]|rw[hmo]|rw[hz]|(intro n)|rw[hpos]|rw[hvE]|rw[St.zw hm2]|(rw[hoL];rotate_left;rfl)|(rw[hoE];rotate_left;rfl)|(rw[hasc];rotate_left;rfl))
   all_goals(conv=>whnf)
   all_goals(refine⟨y,⟨hB,?_,ho⟩,za.of_eq rfl,za.of_eq rfl,za.of_eq rfl,za.of_eq rfl,za.of_eq rfl,za.of_eq rfl,za.of_eq rfl,za.of_eq rfl,trivial⟩)
   all_goals(rw[J4];exact hset)
 clear hA hB hok0 htr ho
 rintro y S2 ⟨hB,hA,ho⟩
 refine yF.jf mixed [10009] [10,12,13,16] (fun y S2=>ZM l x slot Q c y∧wO kx pb ch l s x c y (pT y.p0 c) ⟨Q.sts.set y.i (pT y.p0 c),Q.atts++[⟨slot,y.p0.frame,c,wa x y.f y.p0 c⟩],Q.dels⟩ S2) (fun y=>(14,.int .i64 (wa x y.f y.p0 c)) :: aSl pb slot c y) ?_ ?_
 ·have hp2:S2.bx[pb]? = some (.cells (X6 l s x (.vsl y.qb 0 (Q.sts.set y.i (pT y.p0 c)).length 5) (.own (Q.atts.map y9.av) ch) y.dv) 137):=hA.P.p
  have hq2:=hA.q
  have hc2:=hA.cb
  have hf2:S2.fr[ch]? = some (Q.atts.length,8):=hA.P.a
  have hty:S2.ty ch=141:=hA.P.ty
  have hd0:∀n j':Nat,n=5→j'=0→(zd (zA y.g (Q.sts.set y.i (pT y.p0 c)))++y.ex)[0+(y.i:Int).toNat*n+j']? = some (.int .i64 y.p0.frame):=fun n j' hn hj=>hA.ld 0 (by decide) n j' hn hj
  have hpA:∀y' e,(S2.addF y' e).bx[pb]? = _:=fun _ _=>hp2
  have hpF:∀y' e c' y2,((S2.addF y' e).setF c' y2).bx[pb]? = _:=fun _ _ _ _=>hp2
  refine Wk ?_
  refine zW.Ya mixed (zhR pb S2) [0,1,2,3,4,6,7,8,9,10,11,12,13,16,17,18] 4 rfl rfl (by decide) rfl (zhR.refl pb S2) ?_
  iterate 16
   conv=>whnf
   apply exJ
   ·intro S' K' hI' hh
    repeat((conv=>whnf);first|refine sT ?_|rw[hI' _ _ _ (by exact fun he=>yP hp2 hq2 (by first|decide|exact(show(137:Nat)≠_ by decide)|exact(show _≠(137:Nat) by decide)|exact(show _≠(198:Nat) by decide)|exact(show _≠(161:Nat) by decide)) he.symm) hq2]|rw[hI' _ _ _ (by exact fun he=>yP hp2 hc2 (by first|decide|exact(show(137:Nat)≠_ by decide)|exact(show _≠(137:Nat) by decide)|exact(show _≠(198:Nat) by decide)|exact(show _≠(161:Nat) by decide)) he.symm) hc2]|(rw[hd0];rotate_left;rfl;rfl))
    try(conv=>whnf)
    exact hh
  repeat' ((conv=>whnf);first|exact trivial|refine sJ ?_|refine aI (by first|exact trivial|exact zhR.refl pb S2|exact xF.map (f:=y9.av) (fun _=>⟨rfl,rfl⟩)|exact(fun id cs t hne h=>by rw[St.zi (fun he=>hne he.symm)];exact h)|exact(by rw[List.length_map];exact St.Yb hf2)|exact(St.X5 hf2).trans hty|exact(show _*64≤_ by simp only[List.length_map,List.length_cons,List.length_nil];omega)|exact(by simp only[List.length_map,List.length_cons,List.length_nil,maxLen];omega)|kernel_rfl) ?_|refine And.intro ?_ ?_|rw[hp2]|rw[hpA]|rw[hpF])
  all_goals(conv=>whnf)
  all_goals(refine⟨y,⟨hB,?_⟩,za.int ho.symm,za.of_eq rfl,za.of_eq rfl,za.of_eq rfl,za.of_eq rfl,za.of_eq rfl,za.of_eq rfl,za.of_eq rfl,trivial⟩)
  all_goals(rw[ho];exact hA.app ⟨slot,y.p0.frame,c,o⟩ _ _ _ rfl)
 ·exact H ()
end
section
variable (L:World→Prop) {kx:KX}
theorem zjc (S:St)(pb ch:Nat)(l:List zf)(s:zc)(x:List zD)(Q:PL)(g:Nat→Nat→Nat)(sv dv:AV)(c:zg)(slot:Int)(K:AV→St→Prop)
  (hI:xx (jE kx) S pb ch l s x Q g sv dv) (hl:l.length≤16) (hQ:Q.sts.length=l.length)
  (hK0:∀S',Jp (jE kx) S' pb ch l s x (yg l x slot Q c)→K (.tup []) S')
  (hs:(y0 x).2=0) (hok:∀(i:Nat) (p:PS),Q.sts[i]? = some p→p.ok) (ht:∀(i:Nat) (p:PS),Q.sts[i]? = some p→¬p.frame < 0→∀a b,0≤(p.tries.get [a,b]).getD 0∧(p.tries.get [a,b]).getD 0≤1099511627776)
  (hsl:0≤slot∧slot≤1099511627776) (ha:Q.atts.length≤1073741824) (hd:Q.dels.length≤1073741824) :
  (zhN L S pb ch l s x Q g sv dv c slot K hI hl hQ hK0 hs hok ht hsl ha hd).1:=by
 conv=>whnf
 rintro y S2 ⟨hB,hA⟩
 have ht2:Y9 Tryz.prog 196=some (some 2,3):=by kernel_rfl
 have ht1:Y9 Tryz.prog 109=some (none,3):=by kernel_rfl
 refine yF.jf mixed [] [12,13,16] (fun y S2=>ZM l x slot Q c y∧wO kx pb ch l s x c y (pA (pT y.p0 c) c slot (wa x y.f y.p0 c)) ⟨Q.sts.set y.i (pA (pT y.p0 c) c slot (wa x y.f y.p0 c)),Q.atts++[⟨slot,y.p0.frame,c,wa x y.f y.p0 c⟩],Q.dels⟩ S2) (fun y=>(14,.int .i64 (wa x y.f y.p0 c)) :: aSl pb slot c y) ?_ ?_
 ·obtain⟨o,ho⟩:∃o,wa x y.f y.p0 c=o:=⟨_,rfl⟩
  rw[ho]at hA ⊢
  have hq2:S2.bx[y.qb]? = some (.cells (zd (zA y.g (Q.sts.set y.i (pT y.p0 c)))++y.ex) 198):=hA.q
  have h92:=hA.z9
  have hd3:∀n j':Nat,n=5→j'=3→(zd (zA y.g (Q.sts.set y.i (pT y.p0 c)))++y.ex)[0+(y.i:Int).toNat*n+j']? = some (.mp (y.g y.i 2)):=fun n j' hn hj=>by rw[show(zd (zA y.g (Q.sts.set y.i (pT y.p0 c)))++y.ex)[0+(y.i:Int).toNat*n+j']? = _ from hA.ld 3 (by decide) n j' hn hj];show some (mpv (pT y.p0 c) (y.g y.i 2))=_;rw[hA.mpv]
  have hm2:S2.bx[y.g y.i 2]? = some (.map (some 2) y.p0.acked.ks (y.p0.acked.vs.map zM)):=hA.m 2 (by omega)
  have hmo:=qa (sh:=some 2) hm2
  have hset:=hA.setM (pA (pT y.p0 c) c slot o) rfl rfl (j:=2) (by omega) (fun k hk hne=>by
   rcases k with _|_|_|k
   ·rfl
   ·rfl
   ·exact absurd rfl hne
   ·omega)
  simp only[List.set_set]at hset
  have hslot:aSl pb slot c y=aSl pb slot c y:=rfl
  by_cases hc:o=1∧y.p0.acked.get [c.src,c.dst] = none
  ·obtain⟨ho1,hga⟩:=hc
   have hob:yO (pA (pT y.p0 c) c slot o) 2=.map (some 2) (yu y.p0.acked.ks [c.src,c.dst]) (setVs y.p0.acked.ks (y.p0.acked.vs.map zM) [c.src,c.dst] (.int .i64 slot)):=by
    show Ob.map (some 2) (if o=1∧y.p0.acked.get [c.src,c.dst] = none then y.p0.acked.set [c.src,c.dst] slot else y.p0.acked).ks ((if o=1∧y.p0.acked.get [c.src,c.dst] = none then y.p0.acked.set [c.src,c.dst] slot else y.p0.acked).vs.map zM)=_
    rw[if_pos ⟨ho1,hga⟩,←IM.setVs]
    rfl
   rw[hob]at hset
   subst ho1
   repeat((conv=>whnf);first|refine sT ?_|rw[hga]|rw[ht2]|rw[hmo]|rw[hq2]|rw[h92]|(rw[hd3];rotate_left;rfl;rfl)|rw[St.zC])
   try(conv=>whnf)
   exact⟨y,⟨hB,by rw[ho];exact hset⟩,za.int ho.symm,za.of_eq rfl,za.of_eq rfl,za.of_eq rfl,za.of_eq rfl,za.of_eq rfl,za.of_eq rfl,za.of_eq rfl,trivial⟩
  ·have hpe:pA (pT y.p0 c) c slot o=pT y.p0 c:=by
    show(⟨_,_,_,if o=1∧y.p0.acked.get [c.src,c.dst] = none then y.p0.acked.set [c.src,c.dst] slot else y.p0.acked,_⟩:PS)=_
    rw[if_neg hc]
    rfl
   rw[←hpe]at hA
   repeat((conv=>whnf);first|refine sT ?_ )
   try(conv=>whnf)
   refine zx.mk (fun h1=>?_) (fun h1=>?_)<;>(try rw[h1])
   ·have h1':o=1:=by simpa using h1
    cases hga:y.p0.acked.get [c.src,c.dst] with
    | none=>exact absurd ⟨h1',hga⟩ hc
    | some a1=>
     repeat((conv=>whnf);first|refine sT ?_|rw[hga])
     try(conv=>whnf)
     exact⟨y,⟨hB,by rw[ho];exact hA⟩,za.int ho.symm,za.of_eq rfl,za.of_eq rfl,za.of_eq rfl,za.of_eq rfl,za.of_eq rfl,za.of_eq rfl,za.bool (by rw[hga]),trivial⟩
   ·repeat((conv=>whnf);first|refine sT ?_ )
    try(conv=>whnf)
    exact⟨y,⟨hB,by rw[ho];exact hA⟩,za.int ho.symm,za.of_eq rfl,za.of_eq rfl,za.of_eq rfl,za.of_eq rfl,za.of_eq rfl,za.of_eq rfl,za.of_eq rfl,trivial⟩
 clear hA hB
 rintro y S2 ⟨hB,hA⟩
 have hout:∀{S3:St} {pk:PS} {at_:List y9} {ds:List xd} {g':Nat→Nat→Nat} {sv' dv':AV},xx (jE kx) S3 pb ch l s x ⟨Q.sts.set y.i pk,at_,ds⟩ g' sv' dv'→(⟨Q.sts.set y.i pk,at_,ds⟩:PL)=WN l x slot Q c y→K (.tup []) (S3.outer S):=fun hP he=>hK0 _ ⟨_,_,_,by
  rw[hB.hat,←he]
  exact hP.more (fun _ _ h=>h) rfl rfl⟩
 refine yF.jf mixed [] [13,16] (fun y S2=>ZM l x slot Q c y∧wO kx pb ch l s x c y (pA (pT y.p0 c) c slot (wa x y.f y.p0 c)) ⟨Q.sts.set y.i (pA (pT y.p0 c) c slot (wa x y.f y.p0 c)),Q.atts++[⟨slot,y.p0.frame,c,wa x y.f y.p0 c⟩],Q.dels⟩ S2∧wa x y.f y.p0 c≠3) (fun y=>(14,.int .i64 (wa x y.f y.p0 c)) :: aSl pb slot c y) ?_ ?_
 ·repeat((conv=>whnf);first|refine sT ?_ )
  try(conv=>whnf)
  refine zx.mk (fun h1=>?_) (fun h1=>?_)<;>(try rw[h1])
  ·have h1':wa x y.f y.p0 c=3:=by simpa using h1
   refine Wk ?_
   refine hout hA.P ?_
   unfold WN
   rw[Y5,h1']
   simp[pD,pS]
  ·have h1':wa x y.f y.p0 c≠3:=by simpa using h1
   refine Wk ?_
   exact⟨y,⟨hB,hA,h1'⟩,za.of_eq rfl,za.of_eq rfl,za.of_eq rfl,za.of_eq rfl,za.of_eq rfl,za.of_eq rfl,za.of_eq rfl,za.of_eq rfl,trivial⟩
 clear hA hB hout
 rintro y S2 ⟨hB,hA,ho3⟩
 refine yF.jf mixed [] [10018,18] (fun y S2=>ZM l x slot Q c y∧wO kx pb ch l s x c y (pS (pA (pT y.p0 c) c slot (wa x y.f y.p0 c)) c slot (wa x y.f y.p0 c)) ⟨Q.sts.set y.i (pS (pA (pT y.p0 c) c slot (wa x y.f y.p0 c)) c slot (wa x y.f y.p0 c)),Q.atts++[⟨slot,y.p0.frame,c,wa x y.f y.p0 c⟩],Q.dels⟩ S2∧wa x y.f y.p0 c≠3) (fun y=>(14,.int .i64 (wa x y.f y.p0 c)) :: aSl pb slot c y) ?_ ?_
 ·obtain⟨o,ho⟩:∃o,wa x y.f y.p0 c=o:=⟨_,rfl⟩
  rw[ho]at hA ho3 ⊢
  have hq2:S2.bx[y.qb]? = some (.cells (zd (zA y.g (Q.sts.set y.i (pA (pT y.p0 c) c slot o)))++y.ex) 198):=hA.q
  have hc2:=hA.cb
  have hd1:∀n j':Nat,n=5→j'=1→(zd (zA y.g (Q.sts.set y.i (pA (pT y.p0 c) c slot o)))++y.ex)[0+(y.i:Int).toNat*n+j']? = some (.mp (y.g y.i 0)):=fun n j' hn hj=>by rw[show(zd (zA y.g (Q.sts.set y.i (pA (pT y.p0 c) c slot o)))++y.ex)[0+(y.i:Int).toNat*n+j']? = _ from hA.ld 1 (by decide) n j' hn hj];show some (mpv (pA (pT y.p0 c) c slot o) (y.g y.i 0))=_;rw[hA.mpv]
  have hm2:S2.bx[y.g y.i 0]? = some (.map none y.p0.since.ks (y.p0.since.vs.map zM)):=hA.m 0 (by omega)
  have hmo:=qa (sh:=none) hm2
  have hoL:∀v,v=.mp (y.g y.i 0)→xG S2 none v=some (y.p0.since.ks,y.p0.since.vs.map zM):=fun v hv=>Wi hm2 hv
  have hset:=hA.setM (pS (pA (pT y.p0 c) c slot o) c slot o) rfl rfl (j:=0) (by omega) (fun k hk hne=>by
   rcases k with _|_|_|k
   ·exact absurd rfl hne
   ·rfl
   ·rfl
   ·omega)
  simp only[List.set_set]at hset
  repeat((conv=>whnf);first|refine sT ?_|rw[ht1]|rw[hc2]|rw[hq2]|(rw[hd1];rotate_left;rfl;rfl)|rw[St.zC]|(rw[hoL];rotate_left;rfl))
  try(conv=>whnf)
  rw[IM.assoc]
  cases hgs:y.p0.since.get [c.dst] with
  | none=>
   have hob:yO (pS (pA (pT y.p0 c) c slot o) c slot o) 0=.map none (yu y.p0.since.ks [c.dst]) (setVs y.p0.since.ks (y.p0.since.vs.map zM) [c.dst] (.int .i64 (IntKind.i64.wrap (slot+1)))):=by
    show Ob.map none (if o≠3∧y.p0.since.get [c.dst] = none then y.p0.since.set [c.dst] (slot+1) else y.p0.since).ks ((if o≠3∧y.p0.since.get [c.dst] = none then y.p0.since.set [c.dst] (slot+1) else y.p0.since).vs.map zM)=_
    rw[if_pos ⟨ho3,hgs⟩,←IM.setVs,xw (by omega) (by omega)]
    rfl
   rw[hob]at hset
   repeat((conv=>whnf);first|refine sT ?_|rw[ht1]|rw[hmo]|rw[hc2]|rw[hq2]|(rw[hd1];rotate_left;rfl;rfl)|rw[St.zC]|(rw[hoL];rotate_left;rfl))
   try(conv=>whnf)
   exact⟨y,⟨hB,by rw[ho];exact hset,by rw[ho];exact ho3⟩,za.int ho.symm,za.of_eq rfl,za.of_eq rfl,za.of_eq rfl,za.of_eq rfl,za.of_eq rfl,za.of_eq rfl,za.of_eq rfl,trivial⟩
  | some a1=>
   have hpe:pS (pA (pT y.p0 c) c slot o) c slot o=pA (pT y.p0 c) c slot o:=by
    show(⟨_,if o≠3∧y.p0.since.get [c.dst] = none then y.p0.since.set [c.dst] (slot+1) else y.p0.since,_,_,_⟩:PS)=_
    rw[if_neg (by rw[hgs];rintro⟨_,hh⟩;cases hh)]
    rfl
   rw[←hpe]at hA
   repeat((conv=>whnf);first|refine sT ?_|rw[ht1]|rw[hmo]|rw[hc2]|rw[hq2]|(rw[hd1];rotate_left;rfl;rfl)|rw[St.zC]|(rw[hoL];rotate_left;rfl))
   try(conv=>whnf)
   exact⟨y,⟨hB,by rw[ho];exact hA,by rw[ho];exact ho3⟩,za.int ho.symm,za.of_eq rfl,za.of_eq rfl,za.of_eq rfl,za.of_eq rfl,za.of_eq rfl,za.of_eq rfl,za.of_eq rfl,trivial⟩
 clear hA hB ho3
 rintro y S2 ⟨hB,hA,ho3⟩
 have hout:∀{S3:St} {pk:PS} {at_:List y9} {ds:List xd} {g':Nat→Nat→Nat} {sv' dv':AV},xx (jE kx) S3 pb ch l s x ⟨Q.sts.set y.i pk,at_,ds⟩ g' sv' dv'→(⟨Q.sts.set y.i pk,at_,ds⟩:PL)=WN l x slot Q c y→K (.tup []) (S3.outer S):=fun hP he=>hK0 _ ⟨_,_,_,by
  rw[hB.hat,←he]
  exact hP.more (fun _ _ h=>h) rfl rfl⟩
 obtain⟨o,ho⟩:∃o,wa x y.f y.p0 c=o:=⟨_,rfl⟩
 rw[ho]at hA ho3 ⊢
 obtain⟨p3,hp3⟩:∃p3,p3=pS (pA (pT y.p0 c) c slot o) c slot o:=⟨_,rfl⟩
 rw[←hp3]at hA
 have hdn:p3.done=y.p0.done:=by rw[hp3];rfl
 have hq2:S2.bx[y.qb]? = some (.cells (zd (zA y.g (Q.sts.set y.i p3))++y.ex) 198):=hA.q
 have hc2:=hA.cb
 have h72:=hA.z7
 have hd4:∀n j':Nat,n=5→j'=4→(zd (zA y.g (Q.sts.set y.i p3))++y.ex)[0+(y.i:Int).toNat*n+j']? = some (.bool p3.done):=fun n j' hn hj=>hA.ld 4 (by decide) n j' hn hj
 repeat((conv=>whnf);first|refine sT ?_|rw[hc2]|rw[h72]|rw[hq2]|(rw[hd4];rotate_left;rfl;rfl)|rw[St.zC])
 try(conv=>whnf)
 refine zx.mk (fun h1=>?_) (fun h1=>?_)<;>(try rw[h1])
 ·have h1':c.dst=y.f.dst:=by simpa using h1
  repeat((conv=>whnf);first|refine sT ?_|rw[hc2]|rw[h72]|rw[hq2]|(rw[hd4];rotate_left;rfl;rfl)|rw[St.zC])
  try(conv=>whnf)
  cases hdd:p3.done with
  | true=>
   repeat((conv=>whnf);first|refine sT ?_|rw[hc2]|rw[h72]|rw[hq2]|(rw[hd4];rotate_left;rfl;rfl)|rw[St.zC])
   try(conv=>whnf)
   refine hout hA.P ?_
   have e1:pD y.f p3 c o=p3:=by
    show(⟨p3.frame,p3.since,p3.tries,p3.acked,p3.done||_⟩:PS)=p3
    rw[hdd]
    show(⟨p3.frame,p3.since,p3.tries,p3.acked,true⟩:PS)=p3
    rw[←hdd]
   unfold WN
   rw[Y5,ho,←hp3,e1,if_neg (by rintro⟨_,_,hh⟩;rw[←hdn,hdd]at hh;cases hh),List.append_nil]
  | false=>
   repeat((conv=>whnf);first|refine sT ?_|rw[hc2]|rw[h72]|rw[hq2]|(rw[hd4];rotate_left;rfl;rfl)|rw[St.zC])
   try(conv=>whnf)
   have hus:WN l x slot Q c y=⟨Q.sts.set y.i (pD y.f p3 c o),Q.atts++[⟨slot,y.p0.frame,c,o⟩],Q.dels++[⟨y.f.id,y.p0.frame,slot⟩]⟩:=by
    unfold WN
    rw[Y5,ho,←hp3,if_pos ⟨ho3,h1',by rw[←hdn,hdd]⟩]
   have hpd:(pD y.f p3 c o).done=true:=by
    show(p3.done||(decide (o≠3)&&c.dst==y.f.dst))=true
    simp[ho3,h1']
   have hset:=hA.setQ (pD y.f p3 c o) rfl (fun k hk=>by
    rcases k with _|_|k<;>rfl)
   simp only[List.set_set]at hset
   have hsp:zR (zd (zA y.g (Q.sts.set y.i p3))++y.ex) (0+(y.i:Int).toNat*5+4) [.bool true] = zd (zA y.g (Q.sts.set y.i (pD y.f p3 c o)))++y.ex:=by
    rw[VN,Nat.zero_add,Int.toNat_natCast,jC.st (.bool true) y.ex (x7 y.g _) (v6 hA.gp) (by decide)]
    congr 2
    rw[show(AV.agg (List.set [.int .i64 p3.frame,mpv p3 (y.g y.i 0),mpv p3 (y.g y.i 1),mpv p3 (y.g y.i 2),.bool p3.done] 4 (.bool true)))=VL (y.g y.i) (pD y.f p3 c o) from by rw[VL,hpd];rfl,WS,List.set_set]
   refine yF.jf mixed [] [10018] (fun (_:Unit) S2=>wO kx pb ch l s x c y (pD y.f p3 c o) ⟨Q.sts.set y.i (pD y.f p3 c o),Q.atts++[⟨slot,y.p0.frame,c,o⟩],Q.dels⟩ S2) (fun _=>(14,.int .i64 o) :: aSl pb slot c y) ?_ ?_
   ·have hle:0+(y.i:Int).toNat*5+4+1≤(zd (zA y.g (Q.sts.set y.i p3))++y.ex).length:=by
     have h5:=(x7 y.g (Q.sts.set y.i p3)).flen
     rw[Zd,List.length_set]at h5
     have h6:=(List.getElem?_eq_some_iff.1 hB.gp0).1
     rw[List.length_append,h5,Int.toNat_natCast]
     omega
    repeat((conv=>whnf);first|refine sJ ?_|refine aI (by first|exact trivial|exact hle|kernel_rfl) ?_|rw[hc2]|rw[h72]|rw[hq2]|(rw[hd4];rotate_left;rfl;rfl)|rw[St.zC])
    try(conv=>whnf)
    exact⟨(),by rw[←hsp]at hset;exact hset,za.of_eq rfl,za.of_eq rfl,za.of_eq rfl,za.of_eq rfl,za.of_eq rfl,za.of_eq rfl,za.of_eq rfl,za.of_eq rfl,trivial⟩
   ·rintro⟨⟩ S3 hA3
    have hp3':S3.bx[pb]? = some (.cells (X6 l s x (.vsl y.qb 0 (Q.sts.set y.i (pD y.f p3 c o)).length 5) (.own ((Q.atts++[(⟨slot,y.p0.frame,c,o⟩:y9)]).map y9.av) ch) y.dv) 137):=hA3.P.p
    have hq3:S3.bx[y.qb]? = some (.cells (zd (zA y.g (Q.sts.set y.i (pD y.f p3 c o)))++y.ex) 198):=hA3.q
    have h73:=hA3.z7
    have hfr:p3.frame=y.p0.frame:=by rw[hp3];rfl
    have hd0:∀n j':Nat,n=5→j'=0→(zd (zA y.g (Q.sts.set y.i (pD y.f p3 c o)))++y.ex)[0+(y.i:Int).toNat*n+j']? = some (.int .i64 y.p0.frame):=fun n j' hn hj=>by rw[←hfr];exact hA3.ld 0 (by decide) n j' hn hj
    have hpA:∀y' e,(S3.addF y' e).bx[pb]? = _:=fun _ _=>hp3'
    refine Wk ?_
    refine zW.Ya mixed (vf (jE kx) S3) [0,1,2,3,4,6,7,8,9,10,11,12,13,16,17,18] 4 rfl rfl (by decide) rfl (vf.refl (jE kx) S3) ?_
    iterate 16
     conv=>whnf
     apply exJ
     ·intro S' K' hI' hh
      repeat((conv=>whnf);first|refine sT ?_|rw[hI' _ _ _ (by first|decide|exact(show(137:Nat)≠_ by decide)|exact(show _≠(137:Nat) by decide)|exact(show _≠(198:Nat) by decide)|exact(show _≠(161:Nat) by decide)) (by first|decide|exact(show(137:Nat)≠_ by decide)|exact(show _≠(137:Nat) by decide)|exact(show _≠(198:Nat) by decide)|exact(show _≠(161:Nat) by decide)) hq3]|rw[hI' _ _ _ (by first|decide|exact(show(137:Nat)≠_ by decide)|exact(show _≠(137:Nat) by decide)|exact(show _≠(198:Nat) by decide)|exact(show _≠(161:Nat) by decide)) (by first|decide|exact(show(137:Nat)≠_ by decide)|exact(show _≠(137:Nat) by decide)|exact(show _≠(198:Nat) by decide)|exact(show _≠(161:Nat) by decide)) h73]|(rw[hd0];rotate_left;rfl;rfl))
      try(conv=>whnf)
      exact hh
    have hml:(1:Nat)≤maxLen:=by simp only[maxLen];omega
    rcases hA3.P.d with ⟨hq0,hdv⟩|⟨db,ex,hdv,hdb⟩
    ·have hP:=fun k y1 e=>hA3.P.delNew hq0 (⟨y.f.id,y.p0.frame,slot⟩:xd) _ rfl y1 e k _ 1 rfl rfl
     rw[hdv]at hp3' hpA
     have hpB:∀y' e o,((S3.addF y' e).addB o).bx[pb]? = _:=fun y' e o=>St.zm (S:=S3.addF y' e) hp3'
     repeat' ((conv=>whnf);first|exact trivial|refine sJ ?_|refine aI (by first|exact trivial|exact vf.refl (jE kx) S3|exact vf.addB (vf.refl (jE kx) S3)|exact vf.setP (vf.addB (vf.refl (jE kx) S3)) hp3'|exact(by simp only[List.length_cons,List.length_nil,maxLen];omega)|kernel_rfl) ?_|refine And.intro ?_ ?_|rw[hp3']|rw[hpA]|rw[hpB]|(intro k)|exact hml)
     all_goals(conv=>whnf)
     all_goals exact hout (hP _ _ _) hus.symm
    ·have hP:=fun k y1 e=>hA3.P.delGrow hdv hdb (⟨y.f.id,y.p0.frame,slot⟩:xd) _ rfl y1 e k _ rfl
     have hP2:=fun y1 e=>hA3.P.delRoom hdv hdb (⟨y.f.id,y.p0.frame,slot⟩:xd) _ rfl y1 e
     have hdv':y.dv=.vsl db 0 Q.dels.length 3:=hdv
     rw[hdv']at hp3' hpA
     have hdb':S3.bx[db]? = some (.cells (zd (Q.dels.map xd.av)++ex) 161):=hdb
     have hdA:∀y' e,(S3.addF y' e).bx[db]? = _:=fun _ _=>hdb'
     have hpB:∀y' e o,((S3.addF y' e).addB o).bx[pb]? = _:=fun y' e o=>St.zm (S:=S3.addF y' e) hp3'
     have hne:db≠pb:=(yP hp3' hdb' (by first|decide|exact(show(137:Nat)≠_ by decide)|exact(show _≠(137:Nat) by decide)|exact(show _≠(198:Nat) by decide)|exact(show _≠(161:Nat) by decide))).symm
     have hpD:∀y' e o,((S3.addF y' e).setB db o).bx[pb]? = _:=fun y' e o=>(St.zi hne).trans hp3'
     have hfl:Q.dels.length*3≤(zd (Q.dels.map xd.av)++ex).length:=by
      have:=(VA Q.dels).flen
      rw[List.length_map]at this
      rw[List.length_append,this];omega
     have hfl3:Q.dels.length*(2+1)≤(zd (Q.dels.map xd.av)++ex).length:=hfl
     repeat' ((conv=>whnf);first|exact trivial|refine sJ ?_|refine aI (by first|exact trivial|exact vf.refl (jE kx) S3|exact vf.addB (vf.refl (jE kx) S3)|exact vf.setD (vf.refl (jE kx) S3) hdb|exact vf.setP (vf.addB (vf.refl (jE kx) S3)) hp3'|exact vf.setP (vf.setD (vf.refl (jE kx) S3) hdb) hp3'|exact(show(_+1)*24≤_ by omega)|exact(show Q.dels.length+1≤maxLen by simp only[maxLen];omega)|exact(by simp only[List.length_cons,List.length_nil,maxLen];omega)|exact hfl|exact hfl3|kernel_rfl) ?_|refine And.intro ?_ ?_|rw[hp3']|rw[hpA]|rw[hpB]|rw[hdA]|rw[hpD]|(intro k)|(refine zdR.mk (fun hr=>?_) (fun hr=>?_))|exact hfl3)
     all_goals(conv=>whnf)
     all_goals first|exact hout (hP _ _ _) hus.symm|exact hout (hP2 _ _ hr) hus.symm
 ·have h1':c.dst≠y.f.dst:=by simpa using h1
  repeat((conv=>whnf);first|refine sT ?_|rw[hc2]|rw[h72]|rw[hq2]|(rw[hd4];rotate_left;rfl;rfl)|rw[St.zC])
  try(conv=>whnf)
  refine hout hA.P ?_
  have e1:pD y.f p3 c o=p3:=by
   show(⟨p3.frame,p3.since,p3.tries,p3.acked,p3.done||(decide (o≠3)&&c.dst==y.f.dst)⟩:PS)=p3
   have h2:(c.dst==y.f.dst)=false:=by simpa using h1'
   rw[h2,Bool.and_false,Bool.or_false]
  unfold WN
  rw[Y5,ho,←hp3,e1,if_neg (by rintro⟨_,hh,_⟩;exact h1' hh),List.append_nil]
theorem zfr (S:St)(pb ch:Nat)(l:List zf)(s:zc)(x:List zD)(Q:PL)(c:zg)(slot:Int){K:AV→St→Prop}(hI:Jp (jE kx) S pb ch l s x Q)(hl:l.length≤16)(hQ:Q.sts.length=l.length)
  (hs:(y0 x).2=0) (hok:∀(i:Nat) (p:PS),Q.sts[i]? = some p→p.ok) (ht:∀(i:Nat) (p:PS),Q.sts[i]? = some p→¬p.frame < 0→∀a b,0≤(p.tries.get [a,b]).getD 0∧(p.tries.get [a,b]).getD 0≤1099511627776)
  (hsl:0≤slot∧slot≤1099511627776) (ha:Q.atts.length≤1073741824) (hd:Q.dels.length≤1073741824) (hK0:∀S',Jp (jE kx) S' pb ch l s x (yg l x slot Q c)→K (.tup []) S') :
  zQ Tryz.prog L 148 [.ptr pb 0,c.av,.int .i64 slot] S K:=by
 obtain⟨g,sv,dv,hI⟩:=hI
 exact(zeH L S pb ch l s x Q g sv dv c slot K hI hl hQ hK0).2 fun _=>(zhN L S pb ch l s x Q g sv dv c slot K hI hl hQ hK0 hs hok ht hsl ha hd).2 fun _=>zjc L S pb ch l s x Q g sv dv c slot K hI hl hQ hK0 hs hok ht hsl ha hd
end
end HM
