/- Networks: what Check returns. -/
import Derived.Test.YtggiajmlnieidaaGreatDoorS1
import Derived.Test.YtggiajmlnieidaaGreatDoorDa
set_option maxHeartbeats 64000000
set_option maxRecDepth 100000
namespace HM
open Go Go.RowKit Go.Proofs
section
variable (L:World→Prop)
theorem Vx {α:Type}{f:α→AV}{l:List α}{i:Int}{x:α}(h:l[i.toNat]? = some x):(l.map f)[i.toNat]? = some (f x):=by rw[List.getElem?_map,h];rfl
theorem zg0 {α:Type}{f:α→AV}{l:List α}{i:Int}(h0:0≤i)(h:i < l.length):InB i (l.map f).length:=⟨h0,by simp;omega⟩
theorem zau {n:Nat}(h:n≤562949953421312):IntKind.i64.wrap ((IntKind.u64.wrap (n:Int)).fdiv (2 ^ (min (1:Int).toNat IntKind.u64.bits)))=((n / 2:Nat):Int):=by
 have hb:IntKind.u64.bits=64:=rfl
 have h1:IntKind.u64.wrap (n:Int)=(n:Int):=by
  show(n:Int) % 2 ^ 64=n
  omega
 have h2:min (1:Int).toNat IntKind.u64.bits=1:=by rw[hb];decide
 have h3:(n:Int).fdiv (2 ^ 1)=((n / 2:Nat):Int):=by
  rw[Int.fdiv_eq_ediv_of_nonneg _ (by omega)];omega
 rw[h1,h2,h3,xw (by omega) (by omega)]
def orL:List Int→Int
 | []=>0
 | x :: l=>if x=0 then orL l else x
theorem zkP (l:List Int)(hl:l.length≤281474976710656):zb Tryz.prog L 91 [zp l] (.int .i64 (orL l)):=by
 refine zb.intro mixed [] (nt:=18) Tryz.func91 rfl rfl (by simp) ?_
 refine Wk ?_
 refine zt.run mixed [] (fun (k:Nat)=>k≤l.length∧orL (l.drop k)=orL l) (fun k=>[(3,.int .i64 0),(6,zp l),(7,.int .i64 l.length),(8,.int .i64 k)]) (fun k=>St.none) (fun k=>l.length-k) 0 ⟨by simp,by simp⟩ ?_ ?_
 ·refine fN ?_<;>repeat' (first|exact fQ|refine And.intro ?_ ?_|exact za.int (by simp))
 rintro k ⟨hk,hinv⟩
 refine Wk ?_
 refine zx.mk (fun hb=>?_) (fun hb=>?_)<;>try rw[hb]
 ·have hlt:k < l.length:=by simpa using hb
  obtain⟨x,hgx⟩:=zr hlt
  have hmx:=zk (f:=zM) hgx
  rw[qw hgx]at hinv
  simp only[orL]at hinv
  repeat((conv=>whnf);first|refine sJ ?_|refine aI (by first|exact zh hlt|kernel_rfl) ?_|rw[hmx])
  try(conv=>whnf)
  refine zx.mk (fun h2=>?_) (fun h2=>?_)<;>(try rw[h2])
  ·refine Wk ?_
   exact ze.mk rfl (za.int (by rw[←hinv,if_neg (by simpa using h2)]))
  ·refine Wk ?_
   refine⟨k+1,⟨by omega,by rw[←hinv,if_pos (by simpa using h2)]⟩,by omega,?_⟩
   refine fN ?_<;>repeat' (first|exact fQ|refine And.intro ?_ ?_|exact za.int (zu hlt hl))
 ·have hk':k=l.length:=by simp at hb;omega
  subst hk'
  refine Wk ?_
  exact ze.mk rfl (za.int (by rw[←hinv,List.drop_length];rfl))
theorem KJ (a b:yX):zb Tryz.prog L 185 [a.av,b.av] (.int .i64 (a.cmp b)):=by
 refine zb.intro mixed [] (nt:=17) Tryz.func185 rfl rfl (by simp) ?_
 refine Wk ?_
 refine cD (c_cmp L _ _) ?_
 refine Wk ?_
 refine cD (c_cmp L _ _) ?_
 refine Wk ?_
 refine cD (zkP L [qy a.src b.src,qy a.dst b.dst] (by simp)) ?_
 refine Wk ?_
 exact ze.mk rfl (za.int (by simp only[yX.cmp,yX.key,xt,orL]))
theorem Vk (l:List (List Int))(p:(List Int)→Bool)(g:Nat)(caps:List AV)(hl:l.length≤281474976710656)(hcb:zO Tryz.prog g=true)(hc:xo caps=some caps)(hp:∀x∈l,zb Tryz.prog L g (zp x :: caps) (.bool (p x))) :
  zb Tryz.prog L 241 [.sl false (l.map zp),.fn g caps] (.int .i64 (wu p l)):=by
 refine zb.intro mixed [] (nt:=19) Tryz.func241 rfl rfl (by simp) ?_
 refine Wk ?_
 refine zt.run mixed [] (fun (k:Nat)=>k≤l.length∧∀j x,j < k→l[j]? = some x→p x=false) (fun k=>[(0,.sl false (l.map zp)),(1,.fn g caps),(7,.int .i64 l.length),(8,.int .i64 k)]) (fun k=>St.none) (fun k=>l.length-k) 0 ⟨by simp,by simp⟩ ?_ ?_
 ·refine fN ?_<;>repeat' (first|exact fQ|refine And.intro ?_ ?_|exact za.int (by simp)|exact yz hc)
 rintro k ⟨hk,hinv⟩
 refine Wk ?_
 refine zx.mk (fun hb=>?_) (fun hb=>?_)<;>try rw[hb]
 ·have hlt:k < l.length:=by simpa using hb
  obtain⟨x,hgx⟩:=zr hlt
  have hmx:=zk (f:=zp) hgx
  repeat((conv=>whnf);first|refine sJ ?_|refine aI (by first|exact zh hlt|kernel_rfl) ?_|rw[hmx])
  try(conv=>whnf)
  refine zo.data hcb (hp x (List.mem_of_getElem? hgx)) (by show(match fz _,xo caps with|some a,some b=>some (a :: b)|_,_=>none)=_;rw[hc];rfl) ?_
  refine Wk ?_
  refine zx.mk (fun h2=>?_) (fun h2=>?_)<;>(try rw[h2])
  ·refine Wk ?_
   exact ze.mk rfl (za.int (yI hlt hinv hgx h2).symm)
  ·refine Wk ?_
   refine⟨k+1,⟨by omega,fun j y hj hy=>?_⟩,by omega,?_⟩
   ·rcases Nat.lt_succ_iff_lt_or_eq.1 hj with h|rfl
    ·exact hinv j y h hy
    ·rw[hgx]at hy;injection hy with hy;subst hy;exact h2
   ·refine fN ?_<;>repeat' (first|exact fQ|refine And.intro ?_ ?_|exact za.int (zu hlt hl)|exact yz hc)
 ·have hk':k=l.length:=by simp at hb;omega
  subst hk'
  refine Wk ?_
  exact ze.mk rfl (za.int (yY hinv).symm)
theorem qU (l:List (List Int))(p:(List Int)→Bool)(g:Nat)(caps:List AV)(hl:l.length≤281474976710656)(hcb:zO Tryz.prog g=true)(hc:xo caps=some caps)(hp:∀x∈l,zb Tryz.prog L g (zp x :: caps) (.bool (p x))) :
  zb Tryz.prog L 179 [.sl false (l.map zp),.fn g caps] (.bool (l.any p)):=by
 refine zb.intro mixed [] (nt:=9) Tryz.func179 rfl rfl (by simp) ?_
 refine Wk ?_
 refine zo.data rfl (Vk L l p g caps hl hcb hc hp) (by show(match fz _,xo [AV.fn g caps] with|some a,some b=>some (a :: b)|_,_=>none)=_;rw[show xo [AV.fn g caps] = some [AV.fn g caps] from by simp[fz,xo,hc]];rfl) ?_
 refine Wk ?_
 exact ze.mk rfl (za.bool (wU p l))
theorem Vm (l:List Int)(p:Int→Bool)(g:Nat)(caps:List AV)(hl:l.length≤281474976710656)(hcb:zO Tryz.prog g=true)(hc:xo caps=some caps)(hp:∀x∈l,zb Tryz.prog L g (zM x :: caps) (.bool (p x))) :
  zb Tryz.prog L 242 [.sl false (l.map zM),.fn g caps] (.int .i64 (wu p l)):=by
 refine zb.intro mixed [] (nt:=19) Tryz.func242 rfl rfl (by simp) ?_
 refine Wk ?_
 refine zt.run mixed [] (fun (k:Nat)=>k≤l.length∧∀j x,j < k→l[j]? = some x→p x=false) (fun k=>[(0,.sl false (l.map zM)),(1,.fn g caps),(7,.int .i64 l.length),(8,.int .i64 k)]) (fun k=>St.none) (fun k=>l.length-k) 0 ⟨by simp,by simp⟩ ?_ ?_
 ·refine fN ?_<;>repeat' (first|exact fQ|refine And.intro ?_ ?_|exact za.int (by simp)|exact yz hc)
 rintro k ⟨hk,hinv⟩
 refine Wk ?_
 refine zx.mk (fun hb=>?_) (fun hb=>?_)<;>try rw[hb]
 ·have hlt:k < l.length:=by simpa using hb
  obtain⟨x,hgx⟩:=zr hlt
  have hmx:=zk (f:=zM) hgx
  repeat((conv=>whnf);first|refine sJ ?_|refine aI (by first|exact zh hlt|kernel_rfl) ?_|rw[hmx])
  try(conv=>whnf)
  refine zo.data hcb (hp x (List.mem_of_getElem? hgx)) (by show(match fz _,xo caps with|some a,some b=>some (a :: b)|_,_=>none)=_;rw[hc];rfl) ?_
  refine Wk ?_
  refine zx.mk (fun h2=>?_) (fun h2=>?_)<;>(try rw[h2])
  ·refine Wk ?_
   exact ze.mk rfl (za.int (yI hlt hinv hgx h2).symm)
  ·refine Wk ?_
   refine⟨k+1,⟨by omega,fun j y hj hy=>?_⟩,by omega,?_⟩
   ·rcases Nat.lt_succ_iff_lt_or_eq.1 hj with h|rfl
    ·exact hinv j y h hy
    ·rw[hgx]at hy;injection hy with hy;subst hy;exact h2
   ·refine fN ?_<;>repeat' (first|exact fQ|refine And.intro ?_ ?_|exact za.int (zu hlt hl)|exact yz hc)
 ·have hk':k=l.length:=by simp at hb;omega
  subst hk'
  refine Wk ?_
  exact ze.mk rfl (za.int (yY hinv).symm)
theorem qV (l:List Int)(p:Int→Bool)(g:Nat)(caps:List AV)(hl:l.length≤281474976710656)(hcb:zO Tryz.prog g=true)(hc:xo caps=some caps)(hp:∀x∈l,zb Tryz.prog L g (zM x :: caps) (.bool (p x))) :
  zb Tryz.prog L 183 [.sl false (l.map zM),.fn g caps] (.bool (l.any p)):=by
 refine zb.intro mixed [] (nt:=9) Tryz.func183 rfl rfl (by simp) ?_
 refine Wk ?_
 refine zo.data rfl (Vm L l p g caps hl hcb hc hp) (by show(match fz _,xo [AV.fn g caps] with|some a,some b=>some (a :: b)|_,_=>none)=_;rw[show xo [AV.fn g caps] = some [AV.fn g caps] from by simp[fz,xo,hc]];rfl) ?_
 refine Wk ?_
 exact ze.mk rfl (za.bool (wU p l))
theorem zf0 (l:List yX)(t:yX)(g:Nat)(c:yX→Int)(hl:l.length≤281474976710656)(hcb:zO Tryz.prog g=true)(hm:zge c l)(hp:∀x∈l,zb Tryz.prog L g [yX.av x,yX.av t] (.int .i64 (c x))) :
  zb Tryz.prog L 204 [.sl false (l.map yX.av),yX.av t,.fn g []] (.tup [.int .i64 (wQ c l),.bool (jx c l)]):=by
 refine zb.intro mixed [] (nt:=49) Tryz.func204 rfl rfl (by simp) ?_
 refine Wk ?_
 refine zt.run mixed [] (fun s:Nat×Nat=>s.1≤s.2∧s.2≤l.length∧(∀i x,i < s.1→l[i]? = some x→c x < 0)∧(∀x,l[s.2]? = some x→¬c x < 0)) (fun s=>[(0,.sl false (l.map yX.av)),(2,.fn g []),(4,.ptr 0 0),(8,.int .i64 l.length),(9,.int .i64 s.1),(10,.int .i64 s.2)]) (fun _=>⟨[.cells (yX.av t).cells 146],[],0,0,fun _=>0⟩) (fun s=>s.2-s.1) (0,l.length) ⟨by simp,by simp,by simp,by simp⟩ ?_ ?_
 ·refine fN ?_<;>repeat' (first|exact fQ|refine And.intro ?_ ?_|exact za.int (by simp))
 rintro⟨i,j⟩ ⟨h1,h2,h3,h4⟩
 simp only at h1 h2 h3 h4
 refine Wk ?_
 refine zx.mk (fun hb=>?_) (fun hb=>?_)<;>try rw[hb]
 ·have hlt:i < j:=by simpa using hb
  have hw1:IntKind.i64.wrap ((i:Int)+(j:Int))=((i+j:Nat):Int):=by rw[xw]<;>omega
  have hw2:IntKind.i64.wrap ((IntKind.u64.wrap ((i+j:Nat):Int)).fdiv (2 ^ (min (1:Int).toNat IntKind.u64.bits)))=(((i+j) / 2:Nat):Int):=zau (by omega)
  obtain⟨m,hmid⟩:∃m,m=(i+j) / 2:=⟨_,rfl⟩
  have hml:m < l.length:=by omega
  obtain⟨x,hgx⟩:=zr hml
  have hmx:=zk (f:=yX.av) hgx
  have hpx:=hp x (List.mem_of_getElem? hgx)
  rw[←hmid]at hw2
  repeat((conv=>whnf);first|refine sJ ?_|refine aI (by first|exact(show(0:Int)≤1 by decide)|exact zh hml|kernel_rfl) ?_|rw[hw1]|rw[hw2]|rw[hmx])
  try(conv=>whnf)
  refine xU.data hcb hpx (by rfl) ?_
  refine Wk ?_
  refine zx.mk (fun h5=>?_) (fun h5=>?_)<;>(try rw[h5])
  ·refine Wk ?_
   refine⟨(m+1,j),⟨by simp only;omega,by simp only;omega,fun k y hk hy=>?_,h4⟩,by simp only;omega,?_⟩
   ·rcases Nat.lt_succ_iff_lt_or_eq.1 hk with hk|rfl
    ·exact hm k m y x hk hy hgx (by simpa using h5)
    ·rw[hgx]at hy;injection hy with hy;subst hy;simpa using h5
   ·refine fN ?_<;>repeat' (first|exact fQ|refine And.intro ?_ ?_|exact za.int (by rw[xw]<;>omega))
  ·refine Wk ?_
   refine⟨(i,m),⟨by simp only;omega,by simp only;omega,h3,fun y hy=>?_⟩,by simp only;omega,?_⟩
   ·rw[hgx]at hy;injection hy with hy;subst hy;simpa using h5
   ·refine fN ?_<;>repeat' (first|exact fQ|refine And.intro ?_ ?_ )
 ·have hij:i=j:=by simp at hb;omega
  subst hij
  have hpos:wQ c l=i:=Wf h2 h3 h4
  refine Wk ?_
  refine zx.mk (fun h6=>?_) (fun h6=>?_)<;>(try rw[h6])
  ·have hlt:i < l.length:=by simpa using h6
   obtain⟨x,hgx⟩:=zr hlt
   have hmx:=zk (f:=yX.av) hgx
   have hpx:=hp x (List.mem_of_getElem? hgx)
   repeat((conv=>whnf);first|refine sJ ?_|refine aI (by first|exact zh hlt|kernel_rfl) ?_|rw[hmx])
   try(conv=>whnf)
   refine xU.data hcb hpx (by rfl) ?_
   refine Wk ?_
   exact ze.mk rfl (za.of_eq (by simp only[jx,hpos,hgx]))
  ·refine Wk ?_
   have:l.length≤i:=by simpa using h6
   exact ze.mk rfl (za.of_eq (by simp only[jx,hpos,List.getElem?_eq_none this]))
theorem zi3 (n:zF)(r:List Int):zb Tryz.prog L 180 [zp r,.cptr n.av 0] (.bool ((r.length:Int) != n.nodes)):=by
 refine zb.intro mixed [] (nt:=9) Tryz.func180 rfl rfl (by simp) ?_
 refine Wk ?_
 exact ze.mk rfl (za.bool (by simp))
theorem zi2 (x:Int):zb Tryz.prog L 181 [.int .i64 x] (.bool (zcM x)):=by
 refine zb.intro mixed [] (nt:=9) Tryz.func181 rfl rfl (by simp) ?_
 refine Wk ?_
 refine zx.mk (fun h=>?_) (fun h=>?_)<;>(try rw[h])
 ·refine Wk ?_
  exact ze.mk rfl (za.bool (by simp[zcM];simp at h;omega))
 ·refine Wk ?_
  exact ze.mk rfl (za.bool (by simp[zcM];simp at h;omega))
theorem zi1 (r:List Int)(hr:r.length≤281474976710656):zb Tryz.prog L 182 [zp r,.cptr (.agg [.fn 181 []]) 0] (.bool (r.any zcM)):=by
 refine zb.intro mixed [] (nt:=7) Tryz.func182 rfl rfl (by simp) ?_
 refine Wk ?_
 refine cD (qV L r zcM 181 [] hr rfl rfl (fun x _=>zi2 L x)) ?_
 refine Wk ?_
 exact ze.mk rfl (za.bool rfl)
def zF.small (n:zF):Prop:=n.power.length≤281474976710656∧(∀r∈n.power,r.length≤281474976710656)∧n.links.length≤281474976710656∧n.margin.length≤281474976710656
theorem zaI (n:zF)(hn:n.small):zb Tryz.prog L 135 [n.av] (.int .i64 (qL n)):=by
 refine zb.intro mixed [] (nt:=20) Tryz.func135 rfl rfl (by simp) ?_
 refine Wk ?_
 refine zx.mk (fun h1=>?_) (fun h1=>?_)<;>(try rw[h1])
 ·refine Wk ?_
  exact ze.mk rfl (za.int (by rw[qL,if_pos (.inl (by simpa using h1))]))
 ·refine Wk ?_
  refine cB (qU L n.power (fun r=>(r.length:Int) != n.nodes) 180 [.cptr n.av 0] hn.1 rfl rfl (fun r _=>zi3 L n r)) ?_
  refine Wk ?_
  refine zx.mk (fun h2=>?_) (fun h2=>?_)<;>(try rw[h2])
  ·refine Wk ?_
   exact ze.mk rfl (za.int (by rw[qL,if_pos (.inr h2)]))
  ·refine Wk ?_
   have h12:¬((n.power.length:Int)≠n.nodes∨n.power.any (fun r=>(r.length:Int) != n.nodes)=true):=by
    simp only[h2,Bool.false_eq_true,or_false,ne_eq,Decidable.not_not];simpa using h1
   refine cB (qU L n.power (fun r=>r.any zcM) 182 [.cptr (.agg [.fn 181 []]) 0] hn.1 rfl rfl (fun r hr=>zi1 L r (hn.2.1 r hr))) ?_
   refine Wk ?_
   refine zx.mk (fun h3=>?_) (fun h3=>?_)<;>(try rw[h3])
   ·refine Wk ?_
    exact ze.mk rfl (za.int (by rw[qL,if_neg h12,if_pos h3]))
   ·refine Wk ?_
    exact ze.mk rfl (za.int (by rw[qL,if_neg h12,if_neg (by simp[h3])]))
end
section
variable (L:World→Prop)
theorem zhu (a b:zD):zb Tryz.prog L 200 [a.av,b.av] (.int .i64 (a.cmp b)):=by
 refine zb.intro mixed [] (nt:=27) Tryz.func200 rfl rfl (by simp) ?_
 refine Wk ?_
 refine cD (c_cmp L _ _) ?_
 refine Wk ?_
 refine cD (c_cmp L _ _) ?_
 refine Wk ?_
 refine cD (c_cmp L _ _) ?_
 refine Wk ?_
 refine cD (c_cmp L _ _) ?_
 refine Wk ?_
 refine cD (zkP L [qy a.flow b.flow,qy a.frame b.frame,qy a.src b.src,qy a.dst b.dst] (by simp)) ?_
 refine Wk ?_
 exact ze.mk rfl (za.int (by simp only[zD.cmp,zD.key,xt,orL]))
theorem Z6 (x m:Int):zb Tryz.prog L 247 [.int .i64 x,.int .i64 m] (.bool (wP x m)):=by
 refine zb.intro mixed [] (nt:=12) Tryz.func247 rfl rfl (by simp) ?_
 refine Wk ?_
 refine zx.mk (fun h=>?_) (fun h=>?_)<;>(try rw[h])
 ·refine Wk ?_
  exact ze.mk rfl (za.bool (by simp[wP,of_decide_eq_true h]))
 ·refine Wk ?_
  exact ze.mk rfl (za.bool (by simp[wP,of_decide_eq_false h]))
theorem zfO (x:Int):zb Tryz.prog L 248 [.int .i64 x] (.bool (zf5 x)):=by
 refine zb.intro mixed [] (nt:=9) Tryz.func248 rfl rfl (by simp) ?_
 refine Wk ?_
 refine zx.mk (fun h=>?_) (fun h=>?_)<;>(try rw[h])
 ·refine Wk ?_
  exact ze.mk rfl (za.bool (by simp[zf5,of_decide_eq_true h]))
 ·refine Wk ?_
  exact ze.mk rfl (za.bool (by simp[zf5,of_decide_eq_false h]))
theorem zhv (r:zD)(hr:r.outs.length≤281474976710656):zb Tryz.prog L 199 [r.av] (.bool (jh r)):=by
 refine zb.intro mixed [] (nt:=46) Tryz.func199 rfl rfl (by simp) ?_
 refine Wk ?_
 refine cD (Z6 L r.flow 255) ?_
 refine Wk ?_
 refine zx.mk (fun h1=>?_) (fun h1=>?_)<;>(try rw[h1])
 ·refine Wk ?_
  exact ze.mk rfl (za.bool (by simp only[jh,(by simpa using h1:wP r.flow 255=false),Bool.false_and]))
 have h1':wP r.flow 255=true:=by simpa using h1
 refine Wk ?_
 refine cD (Z6 L r.frame 1048576) ?_
 refine Wk ?_
 refine zx.mk (fun h2=>?_) (fun h2=>?_)<;>(try rw[h2])
 ·refine Wk ?_
  exact ze.mk rfl (za.bool (by simp only[jh,(by simpa using h2:wP r.frame 1048576=false),Bool.false_and,Bool.and_false]))
 have h2':wP r.frame 1048576=true:=by simpa using h2
 refine Wk ?_
 refine cD (Z6 L r.src 31) ?_
 refine Wk ?_
 refine zx.mk (fun h3=>?_) (fun h3=>?_)<;>(try rw[h3])
 ·refine Wk ?_
  exact ze.mk rfl (za.bool (by simp only[jh,(by simpa using h3:wP r.src 31=false),Bool.false_and,Bool.and_false]))
 have h3':wP r.src 31=true:=by simpa using h3
 refine Wk ?_
 refine cD (Z6 L r.dst 31) ?_
 refine Wk ?_
 refine zx.mk (fun h4=>?_) (fun h4=>?_)<;>(try rw[h4])
 ·refine Wk ?_
  exact ze.mk rfl (za.bool (by simp only[jh,(by simpa using h4:wP r.dst 31=false),Bool.false_and,Bool.and_false]))
 have h4':wP r.dst 31=true:=by simpa using h4
 refine Wk ?_
 refine zx.mk (fun h5=>?_) (fun h5=>?_)<;>(try rw[h5])
 ·refine Wk ?_
  have h5':decide ((1:Int)≤r.outs.length)=false:=by simp at h5 ⊢;omega
  exact ze.mk rfl (za.bool (by simp only[jh,h5',Bool.false_and,Bool.and_false]))
 have h5':decide ((1:Int)≤r.outs.length)=true:=by simp at h5 ⊢;omega
 refine Wk ?_
 refine zx.mk (fun h6=>?_) (fun h6=>?_)<;>(try rw[h6])
 ·refine Wk ?_
  have h6':decide ((r.outs.length:Int)≤16)=false:=by simp at h6 ⊢;omega
  exact ze.mk rfl (za.bool (by simp only[jh,h6',Bool.false_and,Bool.and_false]))
 have h6':decide ((r.outs.length:Int)≤16)=true:=by simp at h6 ⊢;omega
 refine Wk ?_
 refine zo.data rfl (qV L r.outs zf5 248 [] hr rfl rfl (fun x _=>zfO L x)) rfl ?_
 refine Wk ?_
 exact ze.mk rfl (za.bool (by rw[jh,h1',h2',h3',h4',h5',h6'];rfl))
theorem zhC (x:List zD)(hx:∀r∈x,r.outs.length≤281474976710656)(hl:x.length≤281474976710656):zb Tryz.prog L 146 [xn x] (.tup [.int .i64 (y0 x).1,.int .i64 (y0 x).2]):=by
 refine zb.intro mixed [] (nt:=34) Tryz.func146 rfl rfl (by simp) ?_
 refine Wk ?_
 refine zx.mk (fun h0=>?_) (fun h0=>?_)<;>(try rw[h0])
 ·refine Wk ?_
  exact ze.mk rfl (za.of_eq (by rw[y0,if_pos (by simp at h0;omega)]))
 have h0':¬1024 < x.length:=by simp at h0;omega
 refine Wk ?_
 refine zt.run mixed [] (fun (k:Nat)=>k≤x.length∧∀j y,j < k→x[j]? = some y→wg x j y=0) (fun k=>[(0,xn x),(9,xn x),(10,.int .i64 x.length),(11,.int .i64 k)]) (fun k=>St.none) (fun k=>x.length-k) 0 ⟨by simp,by simp⟩ ?_ ?_
 ·refine fN ?_<;>repeat' (first|exact fQ|refine And.intro ?_ ?_|exact za.int (by simp))
 rintro k ⟨hk,hinv⟩
 refine Wk ?_
 refine zx.mk (fun hb=>?_) (fun hb=>?_)<;>try rw[hb]
 ·have hlt:k < x.length:=by simpa using hb
  obtain⟨r,hgx⟩:=zr hlt
  have hmx:=zk (f:=zD.av) hgx
  have hstep:wg x k r=0→∀j y,j < k+1→x[j]? = some y→wg x j y=0:=fun h0 j y hj hy=>by
   rcases Nat.lt_succ_iff_lt_or_eq.1 hj with h|rfl
   ·exact hinv j y h hy
   ·rw[hgx]at hy;injection hy with hy;subst hy;exact h0
  repeat((conv=>whnf);first|refine sJ ?_|refine aI (by first|exact zh hlt|kernel_rfl) ?_|rw[hmx])
  try(conv=>whnf)
  refine cD (zhv L r (hx r (List.mem_of_getElem? hgx))) ?_
  refine Wk ?_
  refine zx.mk (fun h1=>?_) (fun h1=>?_)<;>(try rw[h1])
  ·have h1':jh r=false:=by simpa using h1
   have hf:wg x k r=2:=by rw[wg,if_pos h1']
   refine Wk ?_
   exact ze.mk rfl (za.of_eq (by rw[Zg h0' hgx hinv (by rw[hf];decide),hf]))
  have h1':jh r=true:=by simpa using h1
  refine Wk ?_
  refine zx.mk (fun h2=>?_) (fun h2=>?_)<;>(try rw[h2])
  ·have hk0:0 < k:=by simpa using h2
   obtain⟨j,rfl⟩:∃j,k=j+1:=⟨k-1,by omega⟩
   obtain⟨p,hgp⟩:=zr (l:=x) (k:=j) (by omega)
   have hmp:=zk (f:=zD.av) hgp
   have hw:IntKind.i64.wrap (((j+1:Nat):Int)-1)=(j:Int):=by rw[xw]<;>omega
   repeat((conv=>whnf);first|refine sJ ?_|refine aI (by first|(rw[hw];exact zh (by omega))|kernel_rfl) ?_|rw[hw]|rw[hmp])
   try(conv=>whnf)
   refine cD (zhu L p r) ?_
   refine Wk ?_
   refine zx.mk (fun h3=>?_) (fun h3=>?_)<;>(try rw[h3])
   ·have hf:wg x (j+1) r=5:=by
     rw[wg,if_neg (by simp[h1']),if_pos]
     simp only[J6,hgp]
     simp at h3 ⊢;omega
    refine Wk ?_
    exact ze.mk rfl (za.of_eq (by rw[Zg h0' hgx hinv (by rw[hf];decide),hf]))
   ·have hf:wg x (j+1) r=0:=by
     rw[wg,if_neg (by simp[h1']),if_neg]
     simp only[J6,hgp]
     simp at h3 ⊢;omega
    refine Wk ?_
    refine⟨j+1+1,⟨by omega,hstep hf⟩,by omega,?_⟩
    refine fN ?_<;>repeat' (first|exact fQ|refine And.intro ?_ ?_|exact za.int (zu hlt hl))
  ·have hk0:k=0:=by simp at h2;omega
   subst hk0
   have hf:wg x 0 r=0:=by
    rw[wg,if_neg (by simp[h1']),if_neg]
    simp[J6]
   refine Wk ?_
   refine⟨0+1,⟨by omega,hstep hf⟩,by omega,?_⟩
   refine fN ?_<;>repeat' (first|exact fQ|refine And.intro ?_ ?_|exact za.int (zu hlt hl))
 ·have hk':k=x.length:=by simp at hb;omega
  subst hk'
  refine Wk ?_
  exact ze.mk rfl (za.of_eq (by rw[zc9 h0' fun j y hy=>hinv j y (List.getElem?_eq_some_iff.1 hy).1 hy]))
end
end HM
