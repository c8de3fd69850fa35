/- Networks: Check, Index, Usable. -/
import Derived.Test.YtggiajmlnieidaaGreatDoorS30
set_option maxRecDepth 100000
namespace HM
open Go Go.RowKit Go.Proofs
section
variable (L:World→Prop)
theorem zcv (n:zF)(a:Int):zb Tryz.prog L 184 [.int .i64 a,.cptr n.av 0] (.bool (yE a n.nodes)):=by
 refine zb.intro mixed [] (nt:=12) Tryz.func184 rfl rfl (by simp) ?_
 refine Wk ?_
 refine zx.mk (fun h=>?_) (fun h=>?_)<;>(try rw[h])
 ·refine Wk ?_
  exact ze.mk rfl (za.bool (by simp[yE];simp at h;omega))
 ·refine Wk ?_
  exact ze.mk rfl (za.bool (by simp[yE];simp at h;omega))
theorem zcw (n:zF)(i:Nat)(l:yX)(hl:n.links[i]? = some l)(hm:n.margin.length=n.links.length)(hb:n.links.length≤128)(hp1:(n.power.length:Int)=n.nodes)(hp2:∀r∈n.power,(r.length:Int)=n.nodes) :
  zb Tryz.prog L 136 [n.av,.int .i64 i] (.int .i64 (Ql n i)):=by
 have hlt:=(List.getElem?_eq_some_iff.1 hl).1
 have hmx:=zk (f:=yX.av) hl
 obtain⟨m,hgm⟩:=zr (l:=n.margin) (k:=i) (by omega)
 have hmm:=zk (f:=zM) hgm
 have hgd:n.margin.getD i 0=m:=by rw[List.getD_eq_getElem?_getD,hgm];rfl
 have hE:Ql n i=if kP n l=false then 2 else if Qj n i l=false then 5 else if n.margin.getD i 0 < 0∨Zj n l.src l.dst < n.margin.getD i 0 then 2 else 0:=by rw[Ql,hl]
 rw[hE,hgd]
 refine zb.intro mixed [] (nt:=82) Tryz.func136 rfl rfl (by simp) ?_
 repeat((conv=>whnf);first|refine sJ ?_|refine aI (by first|exact zh hlt|kernel_rfl) ?_|rw[hmx])
 try(conv=>whnf)
 refine cB (zcv L n l.src) ?_
 refine Wk ?_
 refine zx.mk (fun h1=>?_) (fun h1=>?_)<;>(try rw[h1])
 ·refine Wk ?_
  exact ze.mk rfl (za.int (by rw[if_pos (by simp at h1;simp[kP,h1])]))
 refine Wk ?_
 refine cB (zcv L n l.dst) ?_
 refine Wk ?_
 refine zx.mk (fun h2=>?_) (fun h2=>?_)<;>(try rw[h2])
 ·refine Wk ?_
  exact ze.mk rfl (za.int (by rw[if_pos (by simp at h2;simp[kP,h2])]))
 refine Wk ?_
 refine zx.mk (fun h3=>?_) (fun h3=>?_)<;>(try rw[h3])
 ·refine Wk ?_
  exact ze.mk rfl (za.int (by rw[if_pos (by simp at h3;simp[kP,h3])]))
 refine Wk ?_
 refine zx.mk (fun h4=>?_) (fun h4=>?_)<;>(try rw[h4])
 ·refine Wk ?_
  exact ze.mk rfl (za.int (by rw[if_pos (by simp at h4;simp[kP];omega)]))
 refine Wk ?_
 refine zx.mk (fun h5=>?_) (fun h5=>?_)<;>(try rw[h5])
 ·refine Wk ?_
  exact ze.mk rfl (za.int (by rw[if_pos (by simp at h5;simp[kP];omega)]))
 have hR:kP n l=true:=by simp at h1 h2 h3 h4 h5;simp[kP,h1,h2,h3];omega
 have hbd:=Xx hR
 rw[if_neg (by simp[hR])]
 obtain⟨r,hgr⟩:=zr (l:=n.power) (k:=l.src.toNat) (by omega)
 have hmr:=Vx (f:=zp) hgr
 have hrl:=hp2 r (List.mem_of_getElem? hgr)
 obtain⟨x,hgx⟩:=zr (l:=r) (k:=l.dst.toNat) (by omega)
 have hmp:=Vx (f:=zM) hgx
 have hpow:Zj n l.src l.dst=x:=by
  unfold Zj
  rw[List.getD_eq_getElem?_getD,List.getD_eq_getElem?_getD,hgr]
  simp[hgx]
 rw[hpow]
 refine Wk ?_
 refine zx.mk (fun h6=>?_) (fun h6=>?_)<;>(try rw[h6])
 ·have hpos:0 < i:=by simpa using h6
  obtain⟨j,rfl⟩:∃j,i=j+1:=⟨i-1,by omega⟩
  obtain⟨p,hgp⟩:=zr (l:=n.links) (k:=j) (by omega)
  have hmp':=zk (f:=yX.av) hgp
  have hw:IntKind.i64.wrap (((j+1:Nat):Int)-1)=(j:Int):=by rw[xw]<;>omega
  have hO:Qj n (j+1) l=decide (p.cmp l < 0):=by simp only[Qj,hgp]
  rw[hO]
  repeat((conv=>whnf);first|refine sJ ?_|refine aI (by first|(rw[hw];exact zh (by omega))|kernel_rfl) ?_|rw[hw]|rw[hmp'])
  try(conv=>whnf)
  refine cD (KJ L p l) ?_
  refine Wk ?_
  refine zx.mk (fun h7=>?_) (fun h7=>?_)<;>(try rw[h7])
  ·refine Wk ?_
   exact ze.mk rfl (za.int (by rw[if_pos (by simpa using h7)]))
  rw[if_neg (by simp at h7;simp;omega)]
  repeat((conv=>whnf);first|refine sJ ?_|refine aI (by first|exact zh hlt|exact zh (by omega)|exact zg0 (by omega) (by omega)|kernel_rfl) ?_|rw[hmm]|rw[hmr]|rw[hmp])
  try(conv=>whnf)
  refine zx.mk (fun h8=>?_) (fun h8=>?_)<;>(try rw[h8])
  ·refine Wk ?_
   exact ze.mk rfl (za.int (by rw[if_pos (.inl (by simpa using h8))]))
  repeat((conv=>whnf);first|refine sJ ?_|refine aI (by first|exact zh hlt|exact zh (by omega)|exact zg0 (by omega) (by omega)|kernel_rfl) ?_|rw[hmm]|rw[hmr]|rw[hmp])
  try(conv=>whnf)
  refine zx.mk (fun h9=>?_) (fun h9=>?_)<;>(try rw[h9])
  ·refine Wk ?_
   exact ze.mk rfl (za.int (by rw[if_pos (.inr (by simpa using h9))]))
  refine Wk ?_
  exact ze.mk rfl (za.int (by rw[if_neg (by simp at h8 h9;omega)]))
 ·have hz:i=0:=by simp at h6;omega
  subst hz
  rw[if_neg (by simp[Qj])]
  repeat((conv=>whnf);first|refine sJ ?_|refine aI (by first|exact zh (k:=0) hlt|exact zh (k:=0) (by omega)|exact zg0 (by omega) (by omega)|kernel_rfl) ?_|rw[hmm]|rw[hmr]|rw[hmp])
  try(conv=>whnf)
  refine zx.mk (fun h8=>?_) (fun h8=>?_)<;>(try rw[h8])
  ·refine Wk ?_
   exact ze.mk rfl (za.int (by rw[if_pos (.inl (by simpa using h8))]))
  repeat((conv=>whnf);first|refine sJ ?_|refine aI (by first|exact zh (k:=0) hlt|exact zh (k:=0) (by omega)|exact zg0 (by omega) (by omega)|kernel_rfl) ?_|rw[hmm]|rw[hmr]|rw[hmp])
  try(conv=>whnf)
  refine zx.mk (fun h9=>?_) (fun h9=>?_)<;>(try rw[h9])
  ·refine Wk ?_
   exact ze.mk rfl (za.int (by rw[if_pos (.inr (by simpa using h9))]))
  refine Wk ?_
  exact ze.mk rfl (za.int (by rw[if_neg (by simp at h8 h9;omega)]))
theorem we (n:zF)(hn:n.small):zb Tryz.prog L 71 [n.av] (.int .i64 (yS n)):=by
 refine zb.intro mixed [] (nt:=64) Tryz.func71 rfl rfl (by simp) ?_
 refine Wk ?_
 refine zx.mk (fun h1=>?_) (fun h1=>?_)<;>(try rw[h1])
 ·refine Wk ?_
  exact ze.mk rfl (za.int (by rw[yS,if_pos (.inl (by simpa using h1))]))
 refine Wk ?_
 refine zx.mk (fun h2=>?_) (fun h2=>?_)<;>(try rw[h2])
 ·refine Wk ?_
  exact ze.mk rfl (za.int (by rw[yS,if_pos (.inr (by simpa using h2))]))
 have h12:¬(n.nodes < 2∨32 < n.nodes):=by simp at h1 h2;omega
 refine Wk ?_
 refine cD (zaI L n hn) ?_
 refine Wk ?_
 refine zx.mk (fun h3=>?_) (fun h3=>?_)<;>(try rw[h3])
 ·refine Wk ?_
  exact ze.mk rfl (za.int (by rw[yS,if_neg h12,if_pos (by simpa using h3)]))
 have hpe:qL n=0:=by simpa using h3
 obtain⟨p1,p2,p3⟩:=J9 hpe
 have e3:¬(qL n≠0):=by simp[hpe]
 refine Wk ?_
 refine zx.mk (fun h4=>?_) (fun h4=>?_)<;>(try rw[h4])
 ·refine Wk ?_
  exact ze.mk rfl (za.int (by rw[yS,if_neg h12,if_neg e3,if_pos (by simp at h4;omega)]))
 refine Wk ?_
 refine zx.mk (fun h5=>?_) (fun h5=>?_)<;>(try rw[h5])
 ·refine Wk ?_
  exact ze.mk rfl (za.int (by rw[yS,if_neg h12,if_neg e3,if_pos (by simp at h5;omega)]))
 refine Wk ?_
 refine zx.mk (fun h6=>?_) (fun h6=>?_)<;>(try rw[h6])
 ·refine Wk ?_
  exact ze.mk rfl (za.int (by rw[yS,if_neg h12,if_neg e3,if_pos (by simp at h6;omega)]))
 refine Wk ?_
 refine zx.mk (fun h7=>?_) (fun h7=>?_)<;>(try rw[h7])
 ·refine Wk ?_
  exact ze.mk rfl (za.int (by rw[yS,if_neg h12,if_neg e3,if_pos (by simp at h7;omega)]))
 have e4:¬(n.noise < 0∨68719476736 < n.noise∨n.thr < 1000∨100000 < n.thr):=by simp at h4 h5 h6 h7;omega
 refine Wk ?_
 refine zx.mk (fun h8=>?_) (fun h8=>?_)<;>(try rw[h8])
 ·refine Wk ?_
  exact ze.mk rfl (za.int (by rw[yS,if_neg h12,if_neg e3,if_neg e4,if_pos (by simp at h8;omega)]))
 have e5:¬(128 < n.links.length):=by simp at h8;omega
 refine Wk ?_
 refine zx.mk (fun h9=>?_) (fun h9=>?_)<;>(try rw[h9])
 ·refine Wk ?_
  exact ze.mk rfl (za.int (by rw[yS,if_neg h12,if_neg e3,if_neg e4,if_neg e5,if_pos (by simp at h9;omega)]))
 have e6:n.margin.length=n.links.length:=by simp at h9;omega
 have hE:yS n=qi (Ql n) n.links.length:=by rw[yS,if_neg h12,if_neg e3,if_neg e4,if_neg e5,if_neg (by omega)]
 rw[hE]
 refine Wk ?_
 refine zt.run mixed [] (fun (k:Nat)=>k≤n.links.length∧∀j,j < k→Ql n j=0) (fun k=>[(1,.ptr 0 0),(53,.int .i64 n.links.length),(54,.int .i64 k)]) (fun k=>⟨[.cells n.cs 26],[],0,0,fun _=>0⟩) (fun k=>n.links.length-k) 0 ⟨by simp,by simp⟩ ?_ ?_
 ·refine fN ?_<;>repeat' (first|exact fQ|refine And.intro ?_ ?_|exact za.int (by simp))
 rintro k ⟨hk,hinv⟩
 refine Wk ?_
 refine zx.mk (fun hb=>?_) (fun hb=>?_)<;>try rw[hb]
 ·have hlt:k < n.links.length:=by simpa using hb
  obtain⟨l,hgl⟩:=zr hlt
  refine Wk ?_
  refine cD (zcw L n k l hgl e6 (by omega) p1 p2) ?_
  refine Wk ?_
  refine zx.mk (fun hc=>?_) (fun hc=>?_)<;>(try rw[hc])
  ·refine Wk ?_
   exact ze.mk rfl (za.int (by rw[QN hinv (by simpa using hc) hlt]))
  ·refine Wk ?_
   refine⟨k+1,⟨by omega,fun j hj=>?_⟩,by omega,?_⟩
   ·rcases Nat.lt_succ_iff_lt_or_eq.1 hj with h|rfl
    ·exact hinv j h
    ·simpa using hc
   ·refine fN ?_<;>repeat' (first|exact fQ|refine And.intro ?_ ?_|exact za.int (zu hlt (by omega)))
 ·have hk':k=n.links.length:=by simp at hb;omega
  subst hk'
  refine Wk ?_
  exact ze.mk rfl (za.int (by rw[Zw hinv]))
theorem zhA (n:zF)(h:xT n)(a b:Int):zb Tryz.prog L 151 [n.av,.int .i64 a,.int .i64 b] (.int .i64 (xf n a b)):=by
 rw[←zfx h a b]
 have hc:∀x:yX,x.cmp ⟨a,b,0⟩=kR a b x:=fun x=>rfl
 refine zb.intro mixed [] (nt:=21) Tryz.func151 rfl rfl (by simp) ?_
 refine Wk ?_
 refine cD (zf0 L n.links ⟨a,b,0⟩ 185 (kR a b) (by have:=h.many;omega) rfl (h.mono a b) (fun x _=>KJ L x ⟨a,b,0⟩)) ?_
 refine Wk ?_
 refine zx.mk (fun h1=>?_) (fun h1=>?_)<;>(try rw[h1])
 ·refine Wk ?_
  exact ze.mk rfl (za.int (by rw[if_neg (by simpa using h1)]))
 ·refine Wk ?_
  exact ze.mk rfl (za.int (by rw[if_pos (by simpa using h1)]))
theorem jn (n:zF)(hn:n.small)(a b:Int):zb Tryz.prog L 88 [n.av,.int .i64 a,.int .i64 b] (.int .i64 (wb n a b)):=by
 refine zb.intro mixed [] (nt:=14) Tryz.func88 rfl rfl (by simp) ?_
 refine Wk ?_
 refine cD (we L n hn) ?_
 refine Wk ?_
 refine zx.mk (fun h1=>?_) (fun h1=>?_)<;>(try rw[h1])
 ·refine Wk ?_
  exact ze.mk rfl (za.int (by rw[wb,if_neg (by simpa using h1)]))
 ·have h0:yS n=0:=by simpa using h1
  refine Wk ?_
  refine cD (zhA L n (vo h0) a b) ?_
  refine Wk ?_
  exact ze.mk rfl (za.int (by rw[wb,if_pos h0]))
theorem ziB (n:zF)(h:xT n){s d:Int}(hs:0≤s∧s≤8796093022208)(hd:0≤d∧d≤8796093022208) :
  decide (IntKind.i64.wrap (n.thr*IntKind.i64.wrap (n.noise+d))≤IntKind.i64.wrap (s*1000))=xQ n s d:=by
 have h1:=h.noise
 have h2:=h.thr
 have h3:0≤n.thr*(n.noise+d):=Int.mul_nonneg (by omega) (by omega)
 have h4:n.thr*(n.noise+d)≤100000*8864812498944:=Int.mul_le_mul (by omega) (by omega) (by omega) (by omega)
 rw[xw (x:=n.noise+d) (by omega) (by omega),xw (by omega) (by omega),xw (by omega) (by omega)]
 rfl
theorem zaH (n:zF)(h:xT n)(s d:Int)(hs:0≤s∧s≤8796093022208)(hd:0≤d∧d≤8796093022208):zb Tryz.prog L 190 [n.av,.int .i64 s,.int .i64 d] (.bool (xQ n s d)):=by
 refine zb.intro mixed [] (nt:=17) Tryz.func190 rfl rfl (by simp) ?_
 refine Wk ?_
 exact ze.mk rfl (za.bool (ziB n h hs hd))
theorem xT.marginB {n:zF}(h:xT n){k:Nat}(hk:k < n.links.length):∃m,n.margin[k]? = some m∧0≤m∧m≤8796093022208:=by
 obtain⟨m,hm⟩:=zr (l:=n.margin) (k:=k) (by rw[h.mar];exact hk)
 obtain⟨l,hl⟩:=zr hk
 have:=(h.link k l hl).2.2
 rw[List.getD_eq_getElem?_getD,hm]at this
 have hp:=V2 h.pow l.src l.dst
 simp only[Option.getD_some]at this
 exact⟨m,hm,by omega,by omega⟩
theorem zhr (n:zF)(h:xT n)(i:Int)(h0:0≤i)(h1:i < n.links.length):zb Tryz.prog L 187 [n.av,.int .i64 i] (.bool (Y7 n i)):=by
 obtain⟨k,rfl⟩:∃k:Nat,i=k:=⟨i.toNat,by omega⟩
 have hlt:k < n.links.length:=by omega
 obtain⟨l,hgl⟩:=zr hlt
 have hml:=zk (f:=yX.av) hgl
 obtain⟨m,hgm,hm0,hm1⟩:=h.marginB hlt
 have hmm:=zk (f:=zM) hgm
 have hU:Y7 n k=(decide (0≤xf n l.dst l.src)&&vW n k&&vW n (xf n l.dst l.src)):=by unfold Y7;rw[Int.toNat_natCast,hgl]
 have hA:vW n k=xQ n m 0:=by unfold vW;rw[Int.toNat_natCast,List.getD_eq_getElem?_getD,hgm];rfl
 rw[hU,hA]
 refine zb.intro mixed [] (nt:=40) Tryz.func187 rfl rfl (by simp) ?_
 repeat((conv=>whnf);first|refine sJ ?_|refine aI (by first|exact zh hlt|kernel_rfl) ?_|rw[hml])
 try(conv=>whnf)
 refine cD (zhA L n h l.dst l.src) ?_
 refine Wk ?_
 refine zx.mk (fun g1=>?_) (fun g1=>?_)<;>(try rw[g1])
 ·have g1':0≤xf n l.dst l.src:=by simpa using g1
  obtain⟨k2,l2,e1,e2,_,_⟩:=jT g1'
  have hlt2:=(List.getElem?_eq_some_iff.1 e2).1
  obtain⟨m2,hgm2,hm20,hm21⟩:=h.marginB hlt2
  have hmm2:=zk (f:=zM) hgm2
  have hA2:vW n (xf n l.dst l.src)=xQ n m2 0:=by unfold vW;rw[e1,Int.toNat_natCast,List.getD_eq_getElem?_getD,hgm2];rfl
  rw[hA2]
  rw[e1]
  repeat((conv=>whnf);first|refine sJ ?_|refine aI (by first|exact zh (by rw[h.mar];exact hlt)|kernel_rfl) ?_|rw[hmm])
  try(conv=>whnf)
  refine cD (zaH L n h m 0 ⟨hm0,hm1⟩ (by omega)) ?_
  refine Wk ?_
  refine zx.mk (fun g2=>?_) (fun g2=>?_)<;>(try rw[g2])
  ·repeat((conv=>whnf);first|refine sJ ?_|refine aI (by first|exact zh (by rw[h.mar];exact hlt2)|kernel_rfl) ?_|rw[hmm2])
   try(conv=>whnf)
   refine cD (zaH L n h m2 0 ⟨hm20,hm21⟩ (by omega)) ?_
   refine Wk ?_
   exact ze.mk rfl (za.bool (by simp))
  ·refine Wk ?_
   exact ze.mk rfl (za.bool (by simp))
 ·refine Wk ?_
  exact ze.mk rfl (za.bool (by simp))
theorem zcy (n:zF)(hn:n.small)(i:Int):zb Tryz.prog L 138 [n.av,.int .i64 i] (.bool (j6 n i)):=by
 refine zb.intro mixed [] (nt:=24) Tryz.func138 rfl rfl (by simp) ?_
 refine Wk ?_
 refine cD (we L n hn) ?_
 refine Wk ?_
 refine zx.mk (fun h1=>?_) (fun h1=>?_)<;>(try rw[h1])
 ·have h0:yS n=0:=by simpa using h1
  refine Wk ?_
  refine zx.mk (fun h2=>?_) (fun h2=>?_)<;>(try rw[h2])
  ·refine Wk ?_
   refine zx.mk (fun h3=>?_) (fun h3=>?_)<;>(try rw[h3])
   ·refine Wk ?_
    refine cD (zhr L n (vo h0) i (by simpa using h2) (by simpa using h3)) ?_
    refine Wk ?_
    exact ze.mk rfl (za.bool (by simp at h2 h3;simp[j6,h0,yE,h2,h3]))
   ·refine Wk ?_
    exact ze.mk rfl (za.bool (by simp at h2 h3;simp[j6,yE];omega))
  ·refine Wk ?_
   exact ze.mk rfl (za.bool (by simp at h2;simp[j6,yE];omega))
 ·refine Wk ?_
  exact ze.mk rfl (za.bool (by simp at h1;simp[j6,h1]))
end
section
variable (L:World→Prop)
theorem slHi {α:Type}(f:α→AV)(l:List α)(k:Nat):((l.map f).take (k:Int).toNat).drop 0=(l.take k).map f:=by simp
theorem slLo {α:Type}(f:α→AV)(l:List α)(k:Int):((l.map f).take (l.map f).length).drop k.toNat=(l.drop k.toNat).map f:=by rw[List.take_of_length_le (by simp),List.map_drop]
theorem zev (nodes a:Int):zb Tryz.prog L 174 [.int .i64 a,.cptr (.agg [.int .i64 nodes]) 0] (.bool (yE a nodes)):=by
 refine zb.intro mixed [] (nt:=11) Tryz.func174 rfl rfl (by simp) ?_
 refine Wk ?_
 refine zx.mk (fun h=>?_) (fun h=>?_)<;>(try rw[h])
 ·refine Wk ?_
  exact ze.mk rfl (za.bool (by simp[yE];simp at h;omega))
 ·refine Wk ?_
  exact ze.mk rfl (za.bool (by simp[yE];simp at h;omega))
theorem zct (nodes:Int)(f:zf):zb Tryz.prog L 124 [.int .i64 nodes,f.av] (.int .i64 (yo nodes f)):=by
 refine zb.intro mixed [] (nt:=69) Tryz.func124 rfl rfl (by simp) ?_
 refine Wk ?_
 refine zx.mk (fun h1=>?_) (fun h1=>?_)<;>(try rw[h1])
 ·refine Wk ?_
  exact ze.mk rfl (za.int (by rw[yo,if_pos (.inl (by simpa using h1))]))
 refine Wk ?_
 refine zx.mk (fun h2=>?_) (fun h2=>?_)<;>(try rw[h2])
 ·refine Wk ?_
  exact ze.mk rfl (za.int (by rw[yo,if_pos (.inr (.inl (by simpa using h2)))]))
 refine Wk ?_
 refine cB (zev L nodes f.src) ?_
 refine Wk ?_
 refine zx.mk (fun h3=>?_) (fun h3=>?_)<;>(try rw[h3])
 ·refine Wk ?_
  exact ze.mk rfl (za.int (by rw[yo,if_pos (.inr (.inr (.inl (by simpa using h3))))]))
 refine Wk ?_
 refine cB (zev L nodes f.dst) ?_
 refine Wk ?_
 refine zx.mk (fun h4=>?_) (fun h4=>?_)<;>(try rw[h4])
 ·refine Wk ?_
  exact ze.mk rfl (za.int (by rw[yo,if_pos (.inr (.inr (.inr (by simpa using h4))))]))
 have e1:¬(f.id < 0∨255 < f.id∨yE f.src nodes=false∨yE f.dst nodes=false):=by simp at h1 h2 h3 h4;simp[h3,h4];omega
 refine Wk ?_
 refine zx.mk (fun g1=>?_) (fun g1=>?_)<;>(try rw[g1])
 ·refine Wk ?_
  exact ze.mk rfl (za.int (by rw[yo,if_neg e1,if_pos (by simp at g1;omega)]))
 refine Wk ?_
 refine zx.mk (fun g2=>?_) (fun g2=>?_)<;>(try rw[g2])
 ·refine Wk ?_
  exact ze.mk rfl (za.int (by rw[yo,if_neg e1,if_pos (by simp at g2;omega)]))
 refine Wk ?_
 refine zx.mk (fun g3=>?_) (fun g3=>?_)<;>(try rw[g3])
 ·refine Wk ?_
  exact ze.mk rfl (za.int (by rw[yo,if_neg e1,if_pos (by simp at g3;omega)]))
 refine Wk ?_
 refine zx.mk (fun g4=>?_) (fun g4=>?_)<;>(try rw[g4])
 ·refine Wk ?_
  exact ze.mk rfl (za.int (by rw[yo,if_neg e1,if_pos (by simp at g4;omega)]))
 refine Wk ?_
 refine zx.mk (fun g5=>?_) (fun g5=>?_)<;>(try rw[g5])
 ·refine Wk ?_
  exact ze.mk rfl (za.int (by rw[yo,if_neg e1,if_pos (by simp at g5;omega)]))
 refine Wk ?_
 refine zx.mk (fun g6=>?_) (fun g6=>?_)<;>(try rw[g6])
 ·refine Wk ?_
  exact ze.mk rfl (za.int (by rw[yo,if_neg e1,if_pos (by simp at g6;omega)]))
 have e2:¬(f.period < 1∨512 < f.period∨f.phase < 0∨f.period≤f.phase∨f.dead < 1∨f.period < f.dead):=by simp at g1 g2 g3 g4 g5 g6;omega
 refine Wk ?_
 refine zx.mk (fun g7=>?_) (fun g7=>?_)<;>(try rw[g7])
 ·refine Wk ?_
  exact ze.mk rfl (za.int (by rw[yo,if_neg e1,if_neg e2,if_pos (by simpa using g7)]))
 refine Wk ?_
 exact ze.mk rfl (za.int (by rw[yo,if_neg e1,if_neg e2,if_neg (by simpa using g7)]))
theorem ZE (nodes:Int)(l:List zf)(hl:l.length≤281474976710656):zb Tryz.prog L 60 [.int .i64 nodes,zN l] (.tup [.int .i64 (yd nodes l).1,.int .i64 (yd nodes l).2]):=by
 refine zb.intro mixed [] (nt:=47) Tryz.func60 rfl rfl (by simp) ?_
 refine Wk ?_
 refine zx.mk (fun h1=>?_) (fun h1=>?_)<;>(try rw[h1])
 ·refine Wk ?_
  exact ze.mk rfl (za.of_eq (by rw[yd,if_pos (.inl (by simpa using h1))]))
 refine Wk ?_
 refine zx.mk (fun h2=>?_) (fun h2=>?_)<;>(try rw[h2])
 ·refine Wk ?_
  exact ze.mk rfl (za.of_eq (by rw[yd,if_pos (.inr (by simpa using h2))]))
 have e1:¬(nodes < 2∨32 < nodes):=by simp at h1 h2;omega
 refine Wk ?_
 refine zx.mk (fun h3=>?_) (fun h3=>?_)<;>(try rw[h3])
 ·refine Wk ?_
  exact ze.mk rfl (za.of_eq (by rw[yd,if_neg e1,if_pos (by simp at h3;omega)]))
 have e2:¬(16 < l.length):=by simp at h3;omega
 rw[show yd nodes l=zS (wv nodes l) l.length by rw[yd,if_neg e1,if_neg e2]]
 refine Wk ?_
 refine zt.run mixed [] (fun (k:Nat)=>k≤l.length∧∀j,j < k→wv nodes l j=0) (fun k=>[(0,.int .i64 nodes),(1,zN l),(18,zN l),(19,.int .i64 l.length),(20,.int .i64 k)]) (fun k=>St.none) (fun k=>l.length-k) 0 ⟨by simp,by simp⟩ ?_ ?_
 ·refine fN ?_<;>repeat' (first|exact fQ|refine And.intro ?_ ?_|exact za.int (by simp))
 rintro k ⟨hk,hinv⟩
 refine Wk ?_
 refine zx.mk (fun hb=>?_) (fun hb=>?_)<;>try rw[hb]
 ·have hlt:k < l.length:=by simpa using hb
  obtain⟨f,hgf⟩:=zr hlt
  have hmf:=zk (f:=zf.av) hgf
  have hE:wv nodes l k=if yo nodes f≠0 then yo nodes f else if Yz l k f=false then 5 else 0:=by unfold wv;rw[hgf]
  have next:wv nodes l k=0→∀j,j < k+1→wv nodes l j=0:=fun h0 j hj=>by
   rcases Nat.lt_succ_iff_lt_or_eq.1 hj with h|rfl
   ·exact hinv j h
   ·exact h0
  repeat((conv=>whnf);first|refine sJ ?_|refine aI (by first|exact zh hlt|kernel_rfl) ?_|rw[hmf])
  try(conv=>whnf)
  refine cD (zct L nodes f) ?_
  refine Wk ?_
  refine zx.mk (fun hc=>?_) (fun hc=>?_)<;>(try rw[hc])
  ·refine Wk ?_
   have hc':yo nodes f≠0:=by simpa using hc
   have hv:wv nodes l k=yo nodes f:=by rw[hE,if_pos hc']
   exact ze.mk rfl (za.of_eq (by rw[xD hinv (by rw[hv];exact hc') hlt,hv]))
  have hc':¬yo nodes f≠0:=by simpa using hc
  rw[if_neg hc']at hE
  refine Wk ?_
  refine zx.mk (fun hp=>?_) (fun hp=>?_)<;>(try rw[hp])
  ·have hpos:0 < k:=by simpa using hp
   obtain⟨j,rfl⟩:∃j,k=j+1:=⟨k-1,by omega⟩
   obtain⟨p,hgp⟩:=zr (l:=l) (k:=j) (by omega)
   have hmp:=zk (f:=zf.av) hgp
   have hw:IntKind.i64.wrap (((j+1:Nat):Int)-1)=(j:Int):=by rw[xw]<;>omega
   have hO:Yz l (j+1) f=decide (p.id < f.id):=by simp only[Yz,hgp]
   rw[hO]at hE
   repeat((conv=>whnf);first|refine sJ ?_|refine aI (by first|(rw[hw];exact zh (by omega))|kernel_rfl) ?_|rw[hw]|rw[hmp])
   try(conv=>whnf)
   refine zx.mk (fun hq=>?_) (fun hq=>?_)<;>(try rw[hq])
   ·refine Wk ?_
    have hv:wv nodes l (j+1)=5:=by rw[hE,if_pos (by simpa using hq)]
    exact ze.mk rfl (za.of_eq (by rw[xD hinv (by rw[hv];decide) hlt,hv]))
   ·refine Wk ?_
    refine⟨j+2,⟨by omega,next (by rw[hE,if_neg (by simp at hq;simp;omega)])⟩,by omega,?_⟩
    refine fN ?_<;>repeat' (first|exact fQ|refine And.intro ?_ ?_|exact za.int (zu hlt (by omega)))
  ·have hz:k=0:=by simp at hp;omega
   subst hz
   refine Wk ?_
   refine⟨1,⟨by omega,next (by rw[hE,if_neg (by simp[Yz])])⟩,by omega,?_⟩
   refine fN ?_<;>repeat' (first|exact fQ|refine And.intro ?_ ?_|exact za.int (zu hlt (by omega)))
 ·have hk':k=l.length:=by simp at hb;omega
  subst hk'
  refine Wk ?_
  exact ze.mk rfl (za.of_eq (by rw[xk hinv]))
theorem WE (l:List Int)(p:Int→Bool)(g:Nat)(caps:List AV)(hl:l.length≤281474976710656)(hcb:zO Tryz.prog g=true)(hc:xo caps=some caps)(hp:∀x∈l,zb Tryz.prog L g (zM x :: caps) (.bool (p x))) :
  zb Tryz.prog L 294 [.sl false (l.map zM),.fn g caps] (.int .i64 (wu p l)):=by
 refine zb.intro mixed [] (nt:=19) Tryz.func294 rfl rfl (by simp) ?_
 refine Wk ?_
 refine zt.run mixed [] (fun (k:Nat)=>k≤l.length∧∀j x,j < k→l[j]? = some x→p x=false) (fun k=>[(0,.sl false (l.map zM)),(1,.fn g caps),(7,.int .i64 l.length),(8,.int .i64 k)]) (fun k=>St.none) (fun k=>l.length-k) 0 ⟨by simp,by simp⟩ ?_ ?_
 ·refine fN ?_<;>repeat' (first|exact fQ|refine And.intro ?_ ?_|exact za.int (by simp)|exact yz hc)
 rintro k ⟨hk,hinv⟩
 refine Wk ?_
 refine zx.mk (fun hb=>?_) (fun hb=>?_)<;>try rw[hb]
 ·have hlt:k < l.length:=by simpa using hb
  obtain⟨x,hgx⟩:=zr hlt
  have hmx:=zk (f:=zM) hgx
  repeat((conv=>whnf);first|refine sJ ?_|refine aI (by first|exact zh hlt|kernel_rfl) ?_|rw[hmx])
  try(conv=>whnf)
  refine zo.data hcb (hp x (List.mem_of_getElem? hgx)) (by show(match fz _,xo caps with|some a,some b=>some (a :: b)|_,_=>none)=_;rw[hc];rfl) ?_
  refine Wk ?_
  refine zx.mk (fun h2=>?_) (fun h2=>?_)<;>(try rw[h2])
  ·refine Wk ?_
   exact ze.mk rfl (za.int (yI hlt hinv hgx h2).symm)
  ·refine Wk ?_
   refine⟨k+1,⟨by omega,fun j y hj hy=>?_⟩,by omega,?_⟩
   ·rcases Nat.lt_succ_iff_lt_or_eq.1 hj with h|rfl
    ·exact hinv j y h hy
    ·rw[hgx]at hy;injection hy with hy;subst hy;exact h2
   ·refine fN ?_<;>repeat' (first|exact fQ|refine And.intro ?_ ?_|exact za.int (zu hlt hl)|exact yz hc)
 ·have hk':k=l.length:=by simp at hb;omega
  subst hk'
  refine Wk ?_
  exact ze.mk rfl (za.int (yY hinv).symm)
theorem Yf (l:List Int)(p:Int→Bool)(g:Nat)(caps:List AV)(hl:l.length≤281474976710656)(hcb:zO Tryz.prog g=true)(hc:xo caps=some caps)(hp:∀x∈l,zb Tryz.prog L g (zM x :: caps) (.bool (p x))) :
  zb Tryz.prog L 284 [.sl false (l.map zM),.fn g caps] (.bool (l.any p)):=by
 refine zb.intro mixed [] (nt:=9) Tryz.func284 rfl rfl (by simp) ?_
 refine Wk ?_
 refine zo.data rfl (WE L l p g caps hl hcb hc hp) (by show(match fz _,xo [AV.fn g caps] with|some a,some b=>some (a :: b)|_,_=>none)=_;rw[show xo [AV.fn g caps] = some [AV.fn g caps] from by simp[fz,xo,hc]];rfl) ?_
 refine Wk ?_
 exact ze.mk rfl (za.bool (wU p l))
theorem XO (l:List Int)(x:Int)(hl:l.length≤281474976710656):zb Tryz.prog L 43 [.sl false (l.map zM),zM x] (.int .i64 (wu (fun y=>decide (x=y)) l)):=by
 refine zb.intro mixed [] (nt:=19) Tryz.func43 rfl rfl (by simp) ?_
 refine Wk ?_
 refine zt.run mixed [] (fun (k:Nat)=>k≤l.length∧∀j y,j < k→l[j]? = some y→decide (x=y)=false) (fun k=>[(0,.sl false (l.map zM)),(1,zM x),(7,.int .i64 l.length),(8,.int .i64 k)]) (fun k=>St.none) (fun k=>l.length-k) 0 ⟨by simp,by simp⟩ ?_ ?_
 ·refine fN ?_<;>repeat' (first|exact fQ|refine And.intro ?_ ?_|exact za.int (by simp))
 rintro k ⟨hk,hinv⟩
 refine Wk ?_
 refine zx.mk (fun hb=>?_) (fun hb=>?_)<;>try rw[hb]
 ·have hlt:k < l.length:=by simpa using hb
  obtain⟨y,hgx⟩:=zr hlt
  have hmx:=zk (f:=zM) hgx
  repeat((conv=>whnf);first|refine sJ ?_|refine aI (by first|exact zh hlt|kernel_rfl) ?_|rw[hmx])
  try(conv=>whnf)
  refine zx.mk (fun h2=>?_) (fun h2=>?_)<;>(try rw[h2])
  ·refine Wk ?_
   exact ze.mk rfl (za.int (yI hlt hinv hgx (by simpa using h2)).symm)
  ·refine Wk ?_
   refine⟨k+1,⟨by omega,fun j z hj hz=>?_⟩,by omega,?_⟩
   ·rcases Nat.lt_succ_iff_lt_or_eq.1 hj with h|rfl
    ·exact hinv j z h hz
    ·rw[hgx]at hz;injection hz with hz;subst hz;simpa using h2
   ·refine fN ?_<;>repeat' (first|exact fQ|refine And.intro ?_ ?_|exact za.int (zu hlt hl))
 ·have hk':k=l.length:=by simp at hb;omega
  subst hk'
  refine Wk ?_
  exact ze.mk rfl (za.int (yY hinv).symm)
theorem Vo (l:List Int)(x:Int)(hl:l.length≤281474976710656):zb Tryz.prog L 286 [.sl false (l.map zM),zM x] (.bool (decide (x∈l))):=by
 refine zb.intro mixed [] (nt:=9) Tryz.func286 rfl rfl (by simp) ?_
 refine Wk ?_
 refine cD (XO L l x hl) ?_
 refine Wk ?_
 exact ze.mk rfl (za.bool (by rw[wU,List.any_eq,←decide_eq_decide.2 (show(∃y,y∈l∧decide (x=y)=true)↔x∈l by simp)]))
theorem ziG {a b:Int}(h:(if b < a then b else a) < 0):a < 0∨b < 0:=by split at h<;>omega
theorem zhh {a b:Int}(h:¬(if b < a then b else a) < 0):0≤a∧0≤b:=by split at h<;>omega
theorem ziH {a b n:Int}(h:n≤(if a < b then b else a)):n≤a∨n≤b:=by split at h<;>omega
theorem zhj {a b n:Int}(h:¬n≤(if a < b then b else a)):a < n∧b < n:=by split at h<;>omega
theorem zkj (n:zF)(hn:n.small)(a b:Int):zb Tryz.prog L 266 [n.av,.int .i64 a,.int .i64 b] (.int .i64 (kQ n a b)):=by
 refine zb.intro mixed [] (nt:=27) Tryz.func266 rfl rfl (by simp) ?_
 refine Wk ?_
 refine cD (we L n hn) ?_
 refine Wk ?_
 refine zx.mk (fun h1=>?_) (fun h1=>?_)<;>(try rw[h1])
 ·refine Wk ?_
  exact ze.mk rfl (za.int (by rw[kQ,if_pos (by simpa using h1)]))
 have e1:¬yS n≠0:=by simpa using h1
 refine Wk ?_
 refine zx.mk (fun h2=>?_) (fun h2=>?_)<;>(try rw[h2])
 ·refine Wk ?_
  exact ze.mk rfl (za.int (by rw[kQ,if_neg e1,if_pos (by have h:=ziG (of_decide_eq_true h2);simp[yE];omega)]))
 refine Wk ?_
 refine zx.mk (fun h3=>?_) (fun h3=>?_)<;>(try rw[h3])
 ·refine Wk ?_
  exact ze.mk rfl (za.int (by rw[kQ,if_neg e1,if_pos (by have h:=ziH (of_decide_eq_true h3);simp[yE];omega)]))
 refine Wk ?_
 refine zx.mk (fun h4=>?_) (fun h4=>?_)<;>(try rw[h4])
 ·refine Wk ?_
  exact ze.mk rfl (za.int (by rw[kQ,if_neg e1,if_pos (.inr (.inr (by simpa using h4)))]))
 refine Wk ?_
 exact ze.mk rfl (za.int (by rw[kQ,if_neg e1,if_neg (by have h:=zhh (of_decide_eq_false h2);have h':=zhj (of_decide_eq_false h3);simp at h4;simp[yE,h4];omega)]))
theorem ziW (n:zF)(a:Int):zb Tryz.prog L 285 [.int .i64 a,.cptr n.av 0] (.bool (!yE a n.nodes)):=by
 refine zb.intro mixed [] (nt:=12) Tryz.func285 rfl rfl (by simp) ?_
 refine Wk ?_
 refine zx.mk (fun h=>?_) (fun h=>?_)<;>(try rw[h])
 ·refine Wk ?_
  exact ze.mk rfl (za.bool (by have h':=of_decide_eq_true h;have:yE a n.nodes=false:=by {simp[yE];omega};rw[this];rfl))
 ·refine Wk ?_
  exact ze.mk rfl (za.bool (by have h':=of_decide_eq_false h;rw[Bool.eq_iff_iff];simp[yE];omega))
theorem ziJ {r:List Int}{k:Nat}{a:Int}(h:r[k]? = some a):ZB r k=decide (a∈r.take k):=by
 unfold ZB
 rw[h]
 simp only
 rw[Bool.eq_iff_iff]
 simp
theorem zht (n:zF)(hn:n.small)(h0:yS n=0)(a b:Int)(r:List Int)(hr:r.length≤281474976710656):zb Tryz.prog L 267 [n.av,.int .i64 a,.int .i64 b,zp r] (.int .i64 (vC n a b r)):=by
 refine zb.intro mixed [] (nt:=73) Tryz.func267 rfl rfl (by simp) ?_
 refine Wk ?_
 refine zx.mk (fun h1=>?_) (fun h1=>?_)<;>(try rw[h1])
 ·refine Wk ?_
  exact ze.mk rfl (za.int (by rw[vC,if_pos (by simp at h1;omega)]))
 have e1:¬r.length < 2:=by simp at h1;omega
 refine Wk ?_
 refine zx.mk (fun h2=>?_) (fun h2=>?_)<;>(try rw[h2])
 ·refine Wk ?_
  exact ze.mk rfl (za.int (by rw[vC,if_neg e1,if_pos (by simp at h2;omega)]))
 have e2:¬9 < r.length:=by simp at h2;omega
 refine Wk ?_
 refine cB (Yf L r (fun x=>!yE x n.nodes) 285 [.cptr n.av 0] hr rfl rfl (fun x _=>ziW L n x)) ?_
 refine Wk ?_
 refine zx.mk (fun h3=>?_) (fun h3=>?_)<;>(try rw[h3])
 ·refine Wk ?_
  exact ze.mk rfl (za.int (by rw[vC,if_neg e1,if_neg e2,if_pos h3]))
 obtain⟨x0,hg0⟩:=zr (l:=r) (k:=0) (by omega)
 have hm0:(r.map zM)[Int.toNat 0]? = some (zM x0):=Vx (i:=0) hg0
 obtain⟨x1,hg1⟩:=zr (l:=r) (k:=r.length-1) (by omega)
 have hm1:=zk (f:=zM) hg1
 have hd0:r.getD 0 0=x0:=by rw[List.getD_eq_getElem?_getD,hg0];rfl
 have hd1:r.getD (r.length-1) 0=x1:=by rw[List.getD_eq_getElem?_getD,hg1];rfl
 have hw:IntKind.i64.wrap (((r.map zM).length:Int)-1)=((r.length-1:Nat):Int):=by rw[List.length_map,xw]<;>omega
 have hF:vC n a b r=if x0≠a∨x1≠b then 11 else if (List.range r.length).any (ZB r) then 6 else if (List.range (r.length-1)).all (zb1 n r) then 0 else 17:=by
  rw[vC,if_neg e1,if_neg e2,if_neg (by simp only[h3];simp),hd0,hd1]
 rw[hF]
 repeat((conv=>whnf);first|refine sJ ?_|refine aI (by first|exact zh (k:=0) (by omega)|kernel_rfl) ?_|rw[hm0])
 try(conv=>whnf)
 refine zx.mk (fun h4=>?_) (fun h4=>?_)<;>(try rw[h4])
 ·refine Wk ?_
  exact ze.mk rfl (za.int (by rw[if_pos (.inl (by simpa using h4))]))
 repeat((conv=>whnf);first|refine sJ ?_|refine aI (by first|(rw[hw];exact zh (by omega))|kernel_rfl) ?_|rw[hw]|rw[hm1])
 try(conv=>whnf)
 refine zx.mk (fun h5=>?_) (fun h5=>?_)<;>(try rw[h5])
 ·refine Wk ?_
  exact ze.mk rfl (za.int (by rw[if_pos (.inr (by simpa using h5))]))
 rw[if_neg (by simp at h4 h5;simp[h4,h5])]
 clear hw hm0 hm1
 refine Wk ?_
 refine zt.run mixed [] (fun (k:Nat)=>k≤r.length∧∀j,j < k→ZB r j=false) (fun k=>[(3,zp r),(4,.ptr 0 0),(41,zp r),(42,.int .i64 r.length),(43,.int .i64 k)]) (fun k=>⟨[.cells n.cs 26],[],0,0,fun _=>0⟩) (fun k=>r.length-k) 0 ⟨by simp,by simp⟩ ?_ ?_
 ·refine fN ?_<;>repeat' (first|exact fQ|refine And.intro ?_ ?_|exact za.int (by simp))
 rintro k ⟨hk,hinv⟩
 refine Wk ?_
 refine zx.mk (fun hb=>?_) (fun hb=>?_)<;>try rw[hb]
 ·have hlt:k < r.length:=by simpa using hb
  obtain⟨x,hgx⟩:=zr hlt
  have hmx:=zk (f:=zM) hgx
  have hdup:=ziJ hgx
  repeat((conv=>whnf);first|refine sJ ?_|refine aI (by first|exact zh hlt|(show JB _ _;exact⟨by omega,by simp;omega⟩)|exact xF.map (f:=zM) (fun _=>⟨rfl,rfl⟩)|kernel_rfl) ?_|rw[hmx]|rw[slHi])
  try(conv=>whnf)
  refine cD (Vo L (r.take k) x (by simp;omega)) ?_
  refine Wk ?_
  refine zx.mk (fun hc=>?_) (fun hc=>?_)<;>(try rw[hc])
  ·refine Wk ?_
   exact ze.mk rfl (za.int (by rw[if_pos];rw[List.any_eq_true];exact⟨k,by simpa using hlt,by rw[hdup];exact hc⟩))
  ·refine Wk ?_
   refine⟨k+1,⟨by omega,fun j hj=>?_⟩,by omega,?_⟩
   ·rcases Nat.lt_succ_iff_lt_or_eq.1 hj with h|rfl
    ·exact hinv j h
    ·rw[hdup];exact hc
   ·refine fN ?_<;>repeat' (first|exact fQ|refine And.intro ?_ ?_|exact za.int (zu hlt (by omega)))
 ·have hk':k=r.length:=by simp at hb;omega
  subst hk'
  rw[if_neg (by simp only[Bool.not_eq_true,List.any_eq_false,List.mem_range];exact fun j hj=>by simp[hinv j hj])]
  have hdl:(r.drop 1).length=r.length-1:=by simp
  repeat((conv=>whnf);first|refine sJ ?_|refine aI (by first|(show JB _ _;exact⟨by omega,by simp;omega⟩)|exact xF.map (f:=zM) (fun _=>⟨rfl,rfl⟩)|kernel_rfl) ?_|rw[slLo])
  try(conv=>whnf)
  refine zt.run mixed [] (fun (k:Nat)=>k≤r.length-1∧∀j,j < k→zb1 n r j=true) (fun k=>[(3,zp r),(4,.ptr 0 0),(55,zp (r.drop 1)),(56,.int .i64 (r.drop 1).length),(57,.int .i64 k)]) (fun k=>⟨[.cells n.cs 26],[],0,0,fun _=>0⟩) (fun k=>r.length-1-k) 0 ⟨by omega,by simp⟩ ?_ ?_
  ·refine fN ?_<;>repeat' (first|exact fQ|refine And.intro ?_ ?_|exact za.int (by simp))
  rintro k ⟨hk,hinv2⟩
  refine Wk ?_
  refine zx.mk (fun hd=>?_) (fun hd=>?_)<;>(try rw[hd])
  ·have hlt:k < (r.drop 1).length:=by simpa using hd
   obtain⟨x,hgx⟩:=zr hlt
   have hmx:=zk (f:=zM) hgx
   obtain⟨y,hgy⟩:=zr (l:=r) (k:=k) (by omega)
   have hmy:=zk (f:=zM) hgy
   have hx2:r[k+1]? = some x:=by rw[←hgx,List.getElem?_drop,Nat.add_comm]
   have hhop:zb1 n r k=vb n y x:=by unfold zb1;rw[List.getD_eq_getElem?_getD,List.getD_eq_getElem?_getD,hgy,hx2];rfl
   repeat((conv=>whnf);first|refine sJ ?_|refine aI (by first|exact zh hlt|exact zh (by omega)|kernel_rfl) ?_|rw[hmx]|rw[hmy])
   try(conv=>whnf)
   refine cD (jn L n hn y x) ?_
   refine Wk ?_
   refine cD (zcy L n hn (wb n y x)) ?_
   rw[Y6 h0]
   refine Wk ?_
   refine zx.mk (fun he=>?_) (fun he=>?_)<;>(try rw[he])
   ·refine Wk ?_
    exact ze.mk rfl (za.int (by rw[if_neg];rw[List.all_eq_true];exact fun h=>by have:=h k (by simp;omega);rw[hhop]at this;rw[this]at he;cases he))
   ·refine Wk ?_
    refine⟨k+1,⟨by omega,fun j hj=>?_⟩,by omega,?_⟩
    ·rcases Nat.lt_succ_iff_lt_or_eq.1 hj with h|rfl
     ·exact hinv2 j h
     ·rw[hhop];simpa using he
    ·refine fN ?_<;>repeat' (first|exact fQ|refine And.intro ?_ ?_|exact za.int (zu hlt (by omega)))
  ·have hk':k=r.length-1:=by simp at hd;omega
   subst hk'
   refine Wk ?_
   exact ze.mk rfl (za.int (by rw[if_pos (ZV hinv2)]))
theorem zcC (n:zF)(hn:n.small)(a b:Int)(r:List Int)(hr:r.length≤281474976710656):zb Tryz.prog L 226 [n.av,.int .i64 a,.int .i64 b,zp r] (.int .i64 (kf n a b r)):=by
 refine zb.intro mixed [] (nt:=22) Tryz.func226 rfl rfl (by simp) ?_
 refine Wk ?_
 refine cD (zkj L n hn a b) ?_
 refine Wk ?_
 refine zx.mk (fun h1=>?_) (fun h1=>?_)<;>(try rw[h1])
 ·refine Wk ?_
  exact ze.mk rfl (za.int (by rw[kf,if_pos (by simpa using h1)]))
 have e1:¬kQ n a b≠0:=by simpa using h1
 have h0:yS n=0:=by
  cases Decidable.em (yS n=0) with
  | inl h=>exact h
  | inr h=>unfold kQ at e1;rw[if_pos h]at e1;simp at e1
 refine Wk ?_
 refine cD (zht L n hn h0 a b r hr) ?_
 refine Wk ?_
 exact ze.mk rfl (za.int (by rw[kf,if_neg e1]))
end
end HM
