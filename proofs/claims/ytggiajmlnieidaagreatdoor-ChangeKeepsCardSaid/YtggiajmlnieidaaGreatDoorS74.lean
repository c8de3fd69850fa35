/- A player: the outcome of an attempt. -/
import Derived.Test.YtggiajmlnieidaaGreatDoorS70
import Derived.Test.YtggiajmlnieidaaGreatDoorFh
import Derived.Test.YtggiajmlnieidaaGreatDoorDb
set_option maxHeartbeats 64000000
set_option maxRecDepth 100000
namespace HM
open Go Go.RowKit Go.Proofs
section
variable (L:World→Prop)
theorem zfZ (l:List zD)(t:zD)(g:Nat)(c:zD→Int)(hl:l.length≤281474976710656)(hcb:zO Tryz.prog g=true)(hm:zge c l)(hp:∀x∈l,zb Tryz.prog L g [zD.av x,zD.av t] (.int .i64 (c x))) :
  zb Tryz.prog L 249 [.sl false (l.map zD.av),zD.av t,.fn g []] (.tup [.int .i64 (wQ c l),.bool (jx c l)]):=by
 refine zb.intro mixed [] (nt:=49) Tryz.func249 rfl rfl (by simp) ?_
 refine Wk ?_
 refine zt.run mixed [] (fun s:Nat×Nat=>s.1≤s.2∧s.2≤l.length∧(∀i x,i < s.1→l[i]? = some x→c x < 0)∧(∀x,l[s.2]? = some x→¬c x < 0)) (fun s=>[(0,.sl false (l.map zD.av)),(2,.fn g []),(4,.ptr 0 0),(8,.int .i64 l.length),(9,.int .i64 s.1),(10,.int .i64 s.2)]) (fun _=>⟨[.cells (zD.av t).cells 245],[],0,0,fun _=>0⟩) (fun s=>s.2-s.1) (0,l.length) ⟨by simp,by simp,by simp,by simp⟩ ?_ ?_
 ·refine fN ?_<;>repeat' (first|exact fQ|refine And.intro ?_ ?_|exact za.int (by simp))
 rintro⟨i,j⟩ ⟨h1,h2,h3,h4⟩
 simp only at h1 h2 h3 h4
 refine Wk ?_
 refine zx.mk (fun hb=>?_) (fun hb=>?_)<;>try rw[hb]
 ·have hlt:i < j:=by simpa using hb
  have hw1:IntKind.i64.wrap ((i:Int)+(j:Int))=((i+j:Nat):Int):=by rw[xw]<;>omega
  have hw2:IntKind.i64.wrap ((IntKind.u64.wrap ((i+j:Nat):Int)).fdiv (2 ^ (min (1:Int).toNat IntKind.u64.bits)))=(((i+j) / 2:Nat):Int):=zau (by omega)
  obtain⟨m,hmid⟩:∃m,m=(i+j) / 2:=⟨_,rfl⟩
  have hml:m < l.length:=by omega
  obtain⟨x,hgx⟩:=zr hml
  have hmx:=zk (f:=zD.av) hgx
  have hpx:=hp x (List.mem_of_getElem? hgx)
  rw[←hmid]at hw2
  repeat((conv=>whnf);first|refine sJ ?_|refine aI (by first|exact(show(0:Int)≤1 by decide)|exact zh hml|kernel_rfl) ?_|rw[hw1]|rw[hw2]|rw[hmx])
  try(conv=>whnf)
  refine xU.data hcb hpx (by rfl) ?_
  refine Wk ?_
  refine zx.mk (fun h5=>?_) (fun h5=>?_)<;>(try rw[h5])
  ·refine Wk ?_
   refine⟨(m+1,j),⟨by simp only;omega,by simp only;omega,fun k y hk hy=>?_,h4⟩,by simp only;omega,?_⟩
   ·rcases Nat.lt_succ_iff_lt_or_eq.1 hk with hk|rfl
    ·exact hm k m y x hk hy hgx (by simpa using h5)
    ·rw[hgx]at hy;injection hy with hy;subst hy;simpa using h5
   ·refine fN ?_<;>repeat' (first|exact fQ|refine And.intro ?_ ?_|exact za.int (by rw[xw]<;>omega))
  ·refine Wk ?_
   refine⟨(i,m),⟨by simp only;omega,by simp only;omega,h3,fun y hy=>?_⟩,by simp only;omega,?_⟩
   ·rw[hgx]at hy;injection hy with hy;subst hy;simpa using h5
   ·refine fN ?_<;>repeat' (first|exact fQ|refine And.intro ?_ ?_ )
 ·have hij:i=j:=by simp at hb;omega
  subst hij
  have hpos:wQ c l=i:=Wf h2 h3 h4
  refine Wk ?_
  refine zx.mk (fun h6=>?_) (fun h6=>?_)<;>(try rw[h6])
  ·have hlt:i < l.length:=by simpa using h6
   obtain⟨x,hgx⟩:=zr hlt
   have hmx:=zk (f:=zD.av) hgx
   have hpx:=hp x (List.mem_of_getElem? hgx)
   repeat((conv=>whnf);first|refine sJ ?_|refine aI (by first|exact zh hlt|kernel_rfl) ?_|rw[hmx])
   try(conv=>whnf)
   refine xU.data hcb hpx (by rfl) ?_
   refine Wk ?_
   exact ze.mk rfl (za.of_eq (by simp only[jx,hpos,hgx]))
  ·refine Wk ?_
   have:l.length≤i:=by simpa using h6
   exact ze.mk rfl (za.of_eq (by simp only[jx,hpos,List.getElem?_eq_none this]))
theorem St.zC (S:St):S.flush [] = S:=rfl
theorem Km (S:St)(p:Nat)(l:List zf)(s:zc)(x:List zD)(sv av dv:AV)(id frame a b k:Int)(hs:(y0 x).2=0)(hx:∀r∈x,r.outs.length≤281474976710656)(hk0:0≤k){K:AV→St→Prop}
  (hp:S.bx[p]? = some (.cells (X6 l s x sv av dv) 137)) (hK:∀tl:List Ob,K (.int .i64 (vm x id frame a b k.toNat)) ⟨S.bx++tl,S.fr,S.n0,S.m0,S.ty⟩) :
  zQ Tryz.prog L 202 [.ptr p 0,.int .i64 id,.int .i64 frame,.agg [.int .i64 a,.int .i64 b],.int .i64 k] S K:=by
 refine zQ.intro mixed [] (nt:=54) Tryz.func202 rfl rfl (by simp) ?_
 have hp':S.inner.bx[p]? = some (.cells (X6 l s x sv av dv) 137):=hp
 repeat((conv=>whnf);first|refine sT ?_|rw[St.zC]|rw[St.zm hp']|rw[St.zP])
 try(conv=>whnf)
 have hxl:x.length≤1024:=(ke hs).1
 obtain⟨t,ht⟩:∃t:zD,t=⟨id,a,b,frame,[]⟩:=⟨_,rfl⟩
 have hC:=zfZ L x t 200 (vk t) (by omega) rfl (zbm hs t) (fun r _=>zhu L r t)
 rw[ht]at hC
 refine cD (hC) ?_
 rw[←ht]
 obtain⟨g1,g2,g3,g4⟩:t.flow=id∧t.frame=frame∧t.src=a∧t.dst=b:=by subst ht;exact⟨rfl,rfl,rfl,rfl⟩
 cases hh:jx (vk t) x with
 | false=>
  have hf:=zae hs hh
  rw[g1,g2,g3,g4]at hf
  have hv:vm x id frame a b k.toNat=1:=by rw[WY,hf]
  rw[hv]at hK
  repeat((conv=>whnf);first|refine sT ?_|rw[St.zC]|rw[St.zm hp']|rw[St.zP])
  try(conv=>whnf)
  exact hK [_]
 | true=>
  obtain⟨r,hr,hf⟩:=zbE hh
  rw[g1,g2,g3,g4]at hf
  have hv:vm x id frame a b k.toNat=(r.outs[k.toNat]?).getD 1:=by rw[WY,hf]
  rw[hv]at hK
  have hmr:=zk (f:=zD.av) hr
  have hpl:=(List.getElem?_eq_some_iff.1 hr).1
  have hrl:=hx r (List.mem_of_getElem? hr)
  repeat((conv=>whnf);first|refine sJ ?_|refine aI (by first|exact trivial|exact zh hpl|kernel_rfl) ?_|rw[St.zC]|rw[St.zm hp']|rw[St.zP]|rw[hmr])
  try(conv=>whnf)
  refine zx.mk (fun h1=>?_) (fun h1=>?_)<;>(try rw[h1])
  ·have h1':r.outs.length≤k.toNat:=by simp at h1;omega
   rw[List.getElem?_eq_none h1']at hK
   repeat((conv=>whnf);first|refine sT ?_|rw[St.zC]|rw[St.zm hp']|rw[St.zP])
   try(conv=>whnf)
   exact hK [_]
  ·have h1':k.toNat < r.outs.length:=by simp at h1;omega
   obtain⟨o,ho⟩:=zr h1'
   have hmo:=Vx (f:=zM) ho
   rw[ho]at hK
   repeat((conv=>whnf);first|refine sJ ?_|refine aI (by first|exact trivial|exact zh hpl|exact zg0 hk0 (by omega)|kernel_rfl) ?_|rw[St.zC]|rw[St.zm hp']|rw[St.zP]|rw[hmr]|rw[hmo])
   try(conv=>whnf)
   exact hK [_]
end
structure KX where
 ks:List (Nat×List AV×TypeId)
 hk:∀e∈ks,e.2.2≠137∧e.2.2≠198∧e.2.2≠161
def jE (kx:KX):jD:=⟨137,198,161,141,by decide,by decide,by decide,kx.ks,kx.hk⟩
structure AS where
 i:Nat
 f:zf
 p0:PS
 z7:Nat
 z9:Nat
 qb:Nat
 cb:Nat
 ex:List AV
 g:Nat→Nat→Nat
 dv:AV
structure wO (kx:KX)(pb ch:Nat)(l:List zf)(s:zc)(x:List zD)(c:zg)(y:AS)(p:PS)(Q:PL)(S:St):Prop where
 P:xx (jE kx) S pb ch l s x Q y.g (.vsl y.qb 0 Q.sts.length 5) y.dv
 q:S.bx[y.qb]? = some (.cells (zd (zA y.g Q.sts)++y.ex) 198)
 gp:Q.sts[y.i]? = some p
 gf:l[y.i]? = some y.f
 fr:¬p.frame < 0
 cb:S.bx[y.cb]? = some (.cells c.av.cells 40)
 z7:S.bx[y.z7]? = some (.cells y.f.av.cells 46)
 z9:S.bx[y.z9]? = some (.cells [.int .i64 c.src,.int .i64 c.dst] 251)
def WN (_l:List zf)(x:List zD)(slot:Int)(Q:PL)(c:zg)(y:AS):PL:=⟨Q.sts.set y.i (VE y.f y.p0 c slot (wa x y.f y.p0 c)),Q.atts++[⟨slot,y.p0.frame,c,wa x y.f y.p0 c⟩],Q.dels++(if wa x y.f y.p0 c≠3∧c.dst=y.f.dst∧y.p0.done=false then [⟨y.f.id,y.p0.frame,slot⟩] else [])⟩
structure ZM (l:List zf)(x:List zD)(slot:Int)(Q:PL)(c:zg)(y:AS):Prop where
 gp0:Q.sts[y.i]? = some y.p0
 hat:yg l x slot Q c=WN l x slot Q c y
def aSl (pb:Nat)(slot:Int)(c:zg)(y:AS):List (Nat×AV):=[(0,.ptr pb 0),(2,.int .i64 slot),(4,.ptr y.cb 0),(7,.ptr y.z7 0),(8,.ptr y.qb (0+(y.i:Int).toNat*5)),(9,.ptr y.z9 0),(13,.bool (y.p0.acked.get [c.src,c.dst]).isSome)]
section
variable (L:World→Prop) {kx:KX}
def zeH (S:St)(pb ch:Nat)(l:List zf)(s:zc)(x:List zD)(Q:PL)(g:Nat→Nat→Nat)(sv dv:AV)(c:zg)(slot:Int)(K:AV→St→Prop)
  (hI:xx (jE kx) S pb ch l s x Q g sv dv) (hl:l.length≤16) (hQ:Q.sts.length=l.length)
  (hK0:∀S',Jp (jE kx) S' pb ch l s x (yg l x slot Q c)→K (.tup []) S') :
  {p:Prop // (Unit→p)→zQ Tryz.prog L 148 [.ptr pb 0,c.av,.int .i64 slot] S K}:=by
 refine⟨?p,fun H=>?main⟩
 case main=>
  have hKi:yg l x slot Q c=Q→∀tl:List Ob,K (.tup []) ⟨S.bx++tl,S.fr,S.n0,S.m0,S.ty⟩:=fun he tl=>hK0 _ (by
   rw[he]
   exact⟨g,sv,dv,hI.more (fun id o ho=>(List.getElem?_append_left (List.getElem?_eq_some_iff.1 ho).1).trans ho) rfl rfl⟩)
  refine zQ.intro mixed [4] (nt:=207) Tryz.func148 rfl rfl (by simp) ?_
  have hp':S.inner.bx[pb]? = some (.cells (X6 l s x sv (.own (Q.atts.map y9.av) ch) dv) 137):=hI.p
  repeat((conv=>whnf);first|refine sT ?_|rw[St.zm hp']|rw[St.zP])
  try(conv=>whnf)
  refine cD (zdI L l c.flow (by omega)) ?_
  refine Wk ?_
  refine zx.mk (fun h1=>?_) (fun h1=>?_)<;>(try rw[h1])
  ·have h1':xm l c.flow < 0:=by simpa using h1
   have hno:yg l x slot Q c=Q:=by rw[yg,if_pos h1']
   refine Wk ?_
   exact hKi hno [_]
  have h1':¬xm l c.flow < 0:=by simpa using h1
  obtain⟨i,f,hfi,hgf,_⟩:=vV (p:=fun f:zf=>f.id==c.flow) (l:=l) (fun hh=>h1' (by unfold xm;rw[hh];decide))
  have hfi':xm l c.flow=(i:Int):=hfi
  have hil:=(List.getElem?_eq_some_iff.1 hgf).1
  obtain⟨p,hgp⟩:=zr (l:=Q.sts) (k:=i) (by omega)
  have hat:yg l x slot Q c=if p.frame < 0∨vz f p c slot=true then Q else ⟨Q.sts.set i (VE f p c slot (wa x f p c)),Q.atts++[⟨slot,p.frame,c,wa x f p c⟩],Q.dels++(if wa x f p c≠3∧c.dst=f.dst∧p.done=false then [⟨f.id,p.frame,slot⟩] else [])⟩:=by
   rw[yg,if_neg h1',hfi',Int.toNat_natCast,hgf,hgp]
  rw[hfi']
  obtain⟨qb,ex,hsv,hqS⟩:∃qb ex,sv=.vsl qb 0 Q.sts.length 5∧S.bx[qb]? = some (.cells (zd (zA g Q.sts)++ex) 198):=by
   rcases hI.q with ⟨hh,_⟩|hh
   ·rw[hh]at hgp;cases hgp
   ·exact hh
  have hI2:=hI
  rw[hsv]at hp' hI2
  have hq':S.inner.bx[qb]? = some (.cells (zd (zA g Q.sts)++ex) 198):=hqS
  have hmf:=zk (f:=zf.av) hgf
  have hW:=x7 g Q.sts
  have hE:=v6 (g:=g) hgp
  have hld:∀j n j':Nat,j < 5→n=5→j'=j→(zd (zA g Q.sts)++ex)[0+(i:Int).toNat*n+j']? = (VL (g i) p).cells[j]?:=fun j n j' hj hn hj'=>by
   subst hn;subst hj'
   rw[Nat.zero_add,Int.toNat_natCast];exact hW.ld ex hE hj
  have hd0:∀n j':Nat,n=5→j'=0→(zd (zA g Q.sts)++ex)[0+(i:Int).toNat*n+j']? = some (.int .i64 p.frame):=fun n j' hn hj=>hld 0 n j' (by decide) hn hj
  repeat((conv=>whnf);first|refine sJ ?_|refine aI (by first|exact trivial|exact(show InB (i:Int) Q.sts.length from⟨by omega,by omega⟩)|kernel_rfl) ?_|rw[St.zC]|rw[St.zm hp']|rw[St.zm hq']|rw[St.zP]|(rw[hd0];rotate_left;rfl;rfl))
  try(conv=>whnf)
  refine zx.mk (fun h2=>?_) (fun h2=>?_)<;>(try rw[h2])
  ·have h2':p.frame < 0:=by simpa using h2
   refine Wk ?_
   exact hKi (by rw[hat,if_pos (.inl h2')]) [_]
  have h2':¬p.frame < 0:=by simpa using h2
  refine Wk ?_
  obtain⟨S0,hS0⟩:∃S0,S0=S.inner.addB (.cells (AV.agg [.int .i64 c.slot,.int .i64 c.off,.int .i64 c.src,.int .i64 c.dst,.int .i64 c.flow]).cells 40):=⟨_,rfl⟩
  have hp0:S0.bx[pb]? = some (.cells (X6 l s x (.vsl qb 0 Q.sts.length 5) (.own (Q.atts.map y9.av) ch) dv) 137):=by rw[hS0];exact St.zm hp'
  have hq0:S0.bx[qb]? = some (.cells (zd (zA g Q.sts)++ex) 198):=by rw[hS0];exact St.zm hq'
  have hc0:S0.bx[S.inner.bx.length]? = some (.cells c.av.cells 40):=by rw[hS0];exact St.zP _ _
  refine yF.jf mixed [10003] [7] (fun (z:Nat×Nat) S1=>∃tl:List Ob,S1=⟨S0.bx++tl,S0.fr,S0.n0,S0.m0,S0.ty⟩∧(S0.bx++tl)[z.1]? = some (.cells f.av.cells 46)∧(S0.bx++tl)[z.2]? = some (.cells [.int .i64 c.src,.int .i64 c.dst] 251)) (fun z=>[(0,.ptr pb 0),(2,.int .i64 slot),(4,.ptr S.inner.bx.length 0),(6,.int .i64 i),(7,.ptr z.1 0),(8,.ptr qb (0+(i:Int).toNat*5)),(9,.ptr z.2 0)]) ?_ ?_
  ·refine Wk ?_
   rw[←hS0]
   refine zW.Z9 mixed [0,1,2,3,4,5,6,7,8,9,10,11,12,13,14,15,16,17,21] 4 rfl rfl (by decide) rfl ?_
   repeat((conv=>whnf);first|refine sJ ?_|refine aI (by first|exact trivial|exact zh hil|exact(show InB (i:Int) Q.sts.length from⟨by omega,by omega⟩)|kernel_rfl) ?_|rw[hp0]|rw[hq0]|rw[hc0]|rw[hmf])
   try(conv=>whnf)
   repeat' ((conv=>whnf);first|exact trivial|refine sJ ?_|refine aI (by first|exact trivial|((repeat' (first|exact wN.zj _|refine wN.zk5 ?_|refine wN.zkY ?_ (by first|exact St.zkB _|exact St.zkA _ _)));done)|kernel_rfl) ?_|refine And.intro ?_ ?_|rw[St.zm (St.zP _ _)]|rw[St.zP]|rw[St.zi St.zjJ]|rw[St.zi St.zjJ.symm])
   all_goals(conv=>whnf)
   ·exact⟨(S0.bx.length,_),⟨[.cells f.av.cells 46,.cells [.int .i64 c.src,.int .i64 c.dst] 251],St.two _ _ _ _ _,St.zjG _ _ _,St.zjF _ _ _ _⟩,za.of_eq rfl,za.of_eq rfl,za.of_eq rfl,za.of_eq rfl,za.of_eq rfl,za.of_eq rfl,za.of_eq rfl,trivial⟩
   ·exact⟨(_,S0.bx.length),⟨[.cells [.int .i64 c.src,.int .i64 c.dst] 251,.cells f.av.cells 46],St.two' _ _ _ _ _,St.zjF _ _ _ _,St.zjG _ _ _⟩,za.of_eq rfl,za.of_eq rfl,za.of_eq rfl,za.of_eq rfl,za.of_eq rfl,za.of_eq rfl,za.of_eq rfl,trivial⟩
  ·rintro⟨z7,z9⟩ S1 ⟨tl,hS1,h7,h9⟩
   simp only at h7 h9
   have e1:∀(id:Nat) (o:Ob),S0.bx[id]? = some o→S1.bx[id]? = some o:=fun id o ho=>by
    subst hS1
    exact(List.getElem?_append_left (List.getElem?_eq_some_iff.1 ho).1).trans ho
   have e2:∀(id:Nat) (o:Ob),S.bx[id]? = some o→S1.bx[id]? = some o:=fun id o ho=>e1 id o (by rw[hS0];exact St.zm (S:=S.inner) ho)
   have hq1:=e1 _ _ hq0
   have hc1:=e1 _ _ hc0
   have h71:S1.bx[z7]? = some (.cells f.av.cells 46):=by subst hS1;exact h7
   have h91:S1.bx[z9]? = some (.cells [.int .i64 c.src,.int .i64 c.dst] 251):=by subst hS1;exact h9
   have hP1:xx (jE kx) S1 pb ch l s x Q g (.vsl qb 0 Q.sts.length 5) dv:=hI2.more e2 (by subst hS1;subst hS0;rfl) (by subst hS1;subst hS0;rfl)
   have hm1:=hP1.m i p hgp (by omega) 0 (by omega)
   have hm3:=hP1.m i p hgp (by omega) 2 (by omega)
   have hd1:∀n j':Nat,n=5→j'=1→(zd (zA g Q.sts)++ex)[0+(i:Int).toNat*n+j']? = some (.mp (g i 0)):=fun n j' hn hj=>by rw[hld 1 n j' (by decide) hn hj];show some (mpv p (g i 0))=_;rw[mpv,if_neg h2']
   have hd3:∀n j':Nat,n=5→j'=3→(zd (zA g Q.sts)++ex)[0+(i:Int).toNat*n+j']? = some (.mp (g i 2)):=fun n j' hn hj=>by rw[hld 3 n j' (by decide) hn hj];show some (mpv p (g i 2))=_;rw[mpv,if_neg h2']
   have ho1:∀v,v=.mp (g i 0)→xG S1 none v=some (p.since.ks,p.since.vs.map zM):=fun v hv=>by subst hv;simp[xG,hm1,IM.ob,yO]
   have ho3:∀v,v=.mp (g i 2)→xG S1 (some 2) v=some (p.acked.ks,p.acked.vs.map zM):=fun v hv=>by subst hv;simp[xG,hm3,IM.ob,yO]
   have ht2:Y9 Tryz.prog 196=some (some 2,3):=by kernel_rfl
   have hend:S1.outer S=⟨S.bx++(.cells (AV.agg [.int .i64 c.slot,.int .i64 c.off,.int .i64 c.src,.int .i64 c.dst,.int .i64 c.flow]).cells 40 :: tl),S.fr,S.n0,S.m0,S.ty⟩:=by
    subst hS1;subst hS0
    simp[St.outer,St.addB,St.inner]
   have hidle:vz f p c slot=true→K (.tup []) (S1.outer S):=fun hi=>by rw[hend];exact hKi (by rw[hat,if_pos (.inr hi)]) _
   repeat((conv=>whnf);first|refine sT ?_|rw[St.zC]|rw[hq1]|rw[hc1]|rw[h71]|rw[h91]|(rw[ho1];rotate_left;rfl)|(rw[ho3];rotate_left;rfl)|(rw[hd1];rotate_left;rfl;rfl)|(rw[hd3];rotate_left;rfl;rfl))
   try(conv=>whnf)
   rw[IM.assoc]
   have hgo:vz f p c slot=false→ZM l x slot Q c ⟨i,f,p,z7,z9,qb,S.inner.bx.length,ex,g,dv⟩:=fun hh=>⟨hgp,by rw[hat,if_neg (by rw[hh];simp[h2'])];rfl⟩
   have hA:wO kx pb ch l s x c ⟨i,f,p,z7,z9,qb,S.inner.bx.length,ex,g,dv⟩ p Q S1:=⟨hP1,hq1,hgp,hgf,h2',hc1,h71,h91⟩
   cases hgs:p.since.get [c.src] with
   | none=>
    repeat((conv=>whnf);first|refine sT ?_|rw[St.zC]|rw[ht2]|rw[hq1]|rw[hc1]|rw[h71]|rw[h91]|(rw[ho1];rotate_left;rfl)|(rw[ho3];rotate_left;rfl)|(rw[hd1];rotate_left;rfl;rfl)|(rw[hd3];rotate_left;rfl;rfl))
    try(conv=>whnf)
    rw[IM.assoc]
    cases hga:p.acked.get [c.src,c.dst] with
    | none=>
     repeat((conv=>whnf);first|refine sT ?_|rw[St.zC]|rw[ht2]|rw[hq1]|rw[hc1]|rw[h71]|rw[h91]|(rw[ho1];rotate_left;rfl)|(rw[ho3];rotate_left;rfl)|(rw[hd1];rotate_left;rfl;rfl)|(rw[hd3];rotate_left;rfl;rfl))
     try(conv=>whnf)
     refine yF.jf mixed [] [10007,8,9,10,12,13,16] (fun y S2=>ZM l x slot Q c y∧wO kx pb ch l s x c y y.p0 Q S2) (aSl pb slot c) ?_ ?_
     rotate_left
     ·exact H ()
     repeat((conv=>whnf);first|refine sT ?_|rw[St.zC]|rw[ht2]|rw[hq1]|rw[hc1]|rw[h71]|rw[h91]|(rw[ho1];rotate_left;rfl)|(rw[ho3];rotate_left;rfl)|(rw[hd1];rotate_left;rfl;rfl)|(rw[hd3];rotate_left;rfl;rfl))
     try(conv=>whnf)
     exact hidle (by simp[vz,hgs])
    | some a1=>
     repeat((conv=>whnf);first|refine sT ?_|rw[St.zC]|rw[ht2]|rw[hq1]|rw[hc1]|rw[h71]|rw[h91]|(rw[ho1];rotate_left;rfl)|(rw[ho3];rotate_left;rfl)|(rw[hd1];rotate_left;rfl;rfl)|(rw[hd3];rotate_left;rfl;rfl))
     try(conv=>whnf)
     refine yF.jf mixed [] [10007,8,9,10,12,13,16] (fun y S2=>ZM l x slot Q c y∧wO kx pb ch l s x c y y.p0 Q S2) (aSl pb slot c) ?_ ?_
     rotate_left
     ·exact H ()
     repeat((conv=>whnf);first|refine sT ?_|rw[St.zC]|rw[ht2]|rw[hq1]|rw[hc1]|rw[h71]|rw[h91]|(rw[ho1];rotate_left;rfl)|(rw[ho3];rotate_left;rfl)|(rw[hd1];rotate_left;rfl;rfl)|(rw[hd3];rotate_left;rfl;rfl))
     try(conv=>whnf)
     exact hidle (by simp[vz,hgs])
   | some a0=>
    repeat((conv=>whnf);first|refine sT ?_|rw[St.zC]|rw[ht2]|rw[hq1]|rw[hc1]|rw[h71]|rw[h91]|(rw[ho1];rotate_left;rfl)|(rw[ho3];rotate_left;rfl)|(rw[hd1];rotate_left;rfl;rfl)|(rw[hd3];rotate_left;rfl;rfl))
    try(conv=>whnf)
    rw[IM.assoc]
    cases hga:p.acked.get [c.src,c.dst] with
    | none=>
     repeat((conv=>whnf);first|refine sT ?_|rw[St.zC]|rw[ht2]|rw[hq1]|rw[hc1]|rw[h71]|rw[h91]|(rw[ho1];rotate_left;rfl)|(rw[ho3];rotate_left;rfl)|(rw[hd1];rotate_left;rfl;rfl)|(rw[hd3];rotate_left;rfl;rfl))
     try(conv=>whnf)
     refine yF.jf mixed [] [10007,8,9,10,12,13,16] (fun y S2=>ZM l x slot Q c y∧wO kx pb ch l s x c y y.p0 Q S2) (aSl pb slot c) ?_ ?_
     rotate_left
     ·exact H ()
     repeat((conv=>whnf);first|refine sT ?_|rw[St.zC]|rw[ht2]|rw[hq1]|rw[hc1]|rw[h71]|rw[h91]|(rw[ho1];rotate_left;rfl)|(rw[ho3];rotate_left;rfl)|(rw[hd1];rotate_left;rfl;rfl)|(rw[hd3];rotate_left;rfl;rfl))
     try(conv=>whnf)
     refine zx.mk (fun h3=>?_) (fun h3=>?_)<;>(try rw[h3])
     ·repeat((conv=>whnf);first|refine sT ?_|rw[St.zC]|rw[ht2]|rw[hq1]|rw[hc1]|rw[h71]|rw[h91]|(rw[ho1];rotate_left;rfl)|(rw[ho3];rotate_left;rfl)|(rw[hd1];rotate_left;rfl;rfl)|(rw[hd3];rotate_left;rfl;rfl))
      try(conv=>whnf)
      exact hidle (by
              have:slot < a0:=by simpa using h3
              simp[vz,hgs,this])
     have h3':¬slot < a0:=by simpa using h3
     repeat((conv=>whnf);first|refine sT ?_|rw[St.zC]|rw[ht2]|rw[hq1]|rw[hc1]|rw[h71]|rw[h91]|(rw[ho1];rotate_left;rfl)|(rw[ho3];rotate_left;rfl)|(rw[hd1];rotate_left;rfl;rfl)|(rw[hd3];rotate_left;rfl;rfl))
     try(conv=>whnf)
     refine zx.mk (fun h4=>?_) (fun h4=>?_)<;>(try rw[h4])
     ·repeat((conv=>whnf);first|refine sT ?_|rw[St.zC]|rw[ht2]|rw[hq1]|rw[hc1]|rw[h71]|rw[h91]|(rw[ho1];rotate_left;rfl)|(rw[ho3];rotate_left;rfl)|(rw[hd1];rotate_left;rfl;rfl)|(rw[hd3];rotate_left;rfl;rfl))
      try(conv=>whnf)
      exact hidle (by
              have:(c.src==f.dst)=true:=h4
              simp only[vz,this,Bool.or_true,Bool.true_or])
     repeat((conv=>whnf);first|refine sT ?_|rw[St.zC]|rw[ht2]|rw[hq1]|rw[hc1]|rw[h71]|rw[h91]|(rw[ho1];rotate_left;rfl)|(rw[ho3];rotate_left;rfl)|(rw[hd1];rotate_left;rfl;rfl)|(rw[hd3];rotate_left;rfl;rfl))
     try(conv=>whnf)
     exact⟨_,⟨hgo (by have:(c.src==f.dst)=false:=h4;simp[vz,hgs,hga,this,h3']),hA⟩,za.of_eq rfl,za.of_eq rfl,za.of_eq rfl,za.of_eq rfl,za.of_eq rfl,za.of_eq rfl,za.bool (by show _=(p.acked.get [c.src,c.dst]).isSome;rw[hga];rfl),trivial⟩
    | some a1=>
     repeat((conv=>whnf);first|refine sT ?_|rw[St.zC]|rw[ht2]|rw[hq1]|rw[hc1]|rw[h71]|rw[h91]|(rw[ho1];rotate_left;rfl)|(rw[ho3];rotate_left;rfl)|(rw[hd1];rotate_left;rfl;rfl)|(rw[hd3];rotate_left;rfl;rfl))
     try(conv=>whnf)
     refine yF.jf mixed [] [10007,8,9,10,12,13,16] (fun y S2=>ZM l x slot Q c y∧wO kx pb ch l s x c y y.p0 Q S2) (aSl pb slot c) ?_ ?_
     rotate_left
     ·exact H ()
     repeat((conv=>whnf);first|refine sT ?_|rw[St.zC]|rw[ht2]|rw[hq1]|rw[hc1]|rw[h71]|rw[h91]|(rw[ho1];rotate_left;rfl)|(rw[ho3];rotate_left;rfl)|(rw[hd1];rotate_left;rfl;rfl)|(rw[hd3];rotate_left;rfl;rfl))
     try(conv=>whnf)
     refine zx.mk (fun h3=>?_) (fun h3=>?_)<;>(try rw[h3])
     ·repeat((conv=>whnf);first|refine sT ?_|rw[St.zC]|rw[ht2]|rw[hq1]|rw[hc1]|rw[h71]|rw[h91]|(rw[ho1];rotate_left;rfl)|(rw[ho3];rotate_left;rfl)|(rw[hd1];rotate_left;rfl;rfl)|(rw[hd3];rotate_left;rfl;rfl))
      try(conv=>whnf)
      exact hidle (by
              have:slot < a0:=by simpa using h3
              simp[vz,hgs,this])
     have h3':¬slot < a0:=by simpa using h3
     repeat((conv=>whnf);first|refine sT ?_|rw[St.zC]|rw[ht2]|rw[hq1]|rw[hc1]|rw[h71]|rw[h91]|(rw[ho1];rotate_left;rfl)|(rw[ho3];rotate_left;rfl)|(rw[hd1];rotate_left;rfl;rfl)|(rw[hd3];rotate_left;rfl;rfl))
     try(conv=>whnf)
     refine zx.mk (fun h4=>?_) (fun h4=>?_)<;>(try rw[h4])
     ·repeat((conv=>whnf);first|refine sT ?_|rw[St.zC]|rw[ht2]|rw[hq1]|rw[hc1]|rw[h71]|rw[h91]|(rw[ho1];rotate_left;rfl)|(rw[ho3];rotate_left;rfl)|(rw[hd1];rotate_left;rfl;rfl)|(rw[hd3];rotate_left;rfl;rfl))
      try(conv=>whnf)
      exact hidle (by
              have:(c.src==f.dst)=true:=h4
              simp only[vz,this,Bool.or_true,Bool.true_or])
     repeat((conv=>whnf);first|refine sT ?_|rw[St.zC]|rw[ht2]|rw[hq1]|rw[hc1]|rw[h71]|rw[h91]|(rw[ho1];rotate_left;rfl)|(rw[ho3];rotate_left;rfl)|(rw[hd1];rotate_left;rfl;rfl)|(rw[hd3];rotate_left;rfl;rfl))
     try(conv=>whnf)
     refine zx.mk (fun h5=>?_) (fun h5=>?_)<;>(try rw[h5])
     ·repeat((conv=>whnf);first|refine sT ?_|rw[St.zC]|rw[ht2]|rw[hq1]|rw[hc1]|rw[h71]|rw[h91]|(rw[ho1];rotate_left;rfl)|(rw[ho3];rotate_left;rfl)|(rw[hd1];rotate_left;rfl;rfl)|(rw[hd3];rotate_left;rfl;rfl))
      try(conv=>whnf)
      exact hidle (by
              have:a1 < slot:=by simpa using h5
              simp[vz,hga,this])
     have h5':¬a1 < slot:=by simpa using h5
     repeat((conv=>whnf);first|refine sT ?_|rw[St.zC]|rw[ht2]|rw[hq1]|rw[hc1]|rw[h71]|rw[h91]|(rw[ho1];rotate_left;rfl)|(rw[ho3];rotate_left;rfl)|(rw[hd1];rotate_left;rfl;rfl)|(rw[hd3];rotate_left;rfl;rfl))
     try(conv=>whnf)
     exact⟨_,⟨hgo (by have:(c.src==f.dst)=false:=h4;simp[vz,hgs,hga,this,h3',h5']),hA⟩,za.of_eq rfl,za.of_eq rfl,za.of_eq rfl,za.of_eq rfl,za.of_eq rfl,za.of_eq rfl,za.bool (by show _=(p.acked.get [c.src,c.dst]).isSome;rw[hga];rfl),trivial⟩
end
end HM
