/- Which links can be together: the program. -/
import Derived.Test.YtggiajmlnieidaaGreatDoorS31
import Derived.Test.YtggiajmlnieidaaGreatDoorDc
import Derived.Test.YtggiajmlnieidaaGreatDoorS70
import Derived.Test.YtggiajmlnieidaaGreatDoorDd
import Derived.Test.YtggiajmlnieidaaGreatDoorS170
set_option maxHeartbeats 64000000
set_option maxRecDepth 100000
namespace HM
open Go Go.RowKit Go.Proofs
section
variable (L:World→Prop)
theorem XN (n:zF)(a:Int):zb Tryz.prog L 192 [n.av,.int .i64 a] (.bool (yE a n.nodes)):=by
 refine zb.intro mixed [] (nt:=13) Tryz.func192 rfl rfl (by simp) ?_
 repeat' ((conv=>whnf);first|refine sI ?_  | (refine zx.mk (fun hb=>?_) (fun hb=>?_)<;>try rw[hb]))
 all_goals try(conv=>whnf)
 all_goals exact ze.mk rfl (za.of_eq (by first|(simp_all[yE];done)|(simp_all[yE];omega)))
theorem zi5 (n:zF)(h:xT n)(cs:List zg)(hc:cs.length≤4096)(i:Nat)(node:Int)(hn:yE node n.nodes=true):zb Tryz.prog L 194 [n.av,zy cs,.int .i64 i,.int .i64 node] (.int .i64 (jV n cs i node)):=by
 refine zb.intro mixed [] (nt:=50) Tryz.func194 rfl rfl (by simp) ?_
 refine Wk ?_
 refine zt.run mixed [] (fun (k:Nat)=>k≤cs.length) (fun k=>[(2,.int .i64 i),(3,.int .i64 node),(4,.ptr 0 0),(9,.int .i64 (YB n cs i node k)),(14,zy cs),(15,.int .i64 cs.length),(16,.int .i64 k)]) (fun k=>⟨[.cells n.cs 26],[],0,0,fun _=>0⟩) (fun k=>cs.length-k) 0 (by simp) ?_ ?_
 ·refine fN ?_<;>repeat' (first|exact fQ|refine And.intro ?_ ?_|exact zn.zj _|exact za.int (by simp))
 rintro k hk
 have hb1:=QZ h cs i node k
 have hst:=QX n cs i node k
 refine Wk ?_
 refine zx.mk (fun hb=>?_) (fun hb=>?_)<;>try rw[hb]
 ·have hlt:k < cs.length:=by simpa using hb
  obtain⟨c,hgc⟩:=zr hlt
  have hmc:=zk (f:=zg.av) hgc
  have hda:kA n cs i node k=if k=i then 0 else jb n c.src node+jb n c.dst node:=by unfold kA;rw[hgc]
  repeat((conv=>whnf);first|refine sJ ?_|refine aI (by first|exact zh hlt|kernel_rfl) ?_|rw[hmc])
  try(conv=>whnf)
  refine zx.mk (fun h1=>?_) (fun h1=>?_)<;>(try rw[h1])
  ·have h1':k=i:=by simp at h1;omega
   rw[if_pos h1']at hda
   refine Wk ?_
   refine⟨k+1,by omega,by omega,?_⟩
   refine fN ?_<;>repeat' (first|exact fQ|refine And.intro ?_ ?_|exact zn.zj _|exact za.int (by rw[xw]<;>omega)|exact za.int (by rw[hst,hda,Int.add_zero]))
  ·have h1':k≠i:=by simp at h1;omega
   rw[if_neg h1']at hda
   obtain⟨es,hes⟩:∃es,es=[c.src,c.dst]:=⟨_,rfl⟩
   have hel:es.length=2:=by rw[hes];rfl
   have hsum:qq (fun e=>jb n e node) es=jb n c.src node+jb n c.dst node:=by rw[hes];simp[qq]
   refine Wk ?_
   refine zt.run mixed [] (fun (j:Nat)=>j≤es.length) (fun j=>[(2,.int .i64 i),(3,.int .i64 node),(4,.ptr 0 0),(9,.int .i64 (YB n cs i node k+qq (fun e=>jb n e node) (es.take j))),(14,zy cs),(15,.int .i64 cs.length),(16,.int .i64 k),(28,zp es),(29,.int .i64 es.length),(30,.int .i64 j)]) (fun j=>⟨[.cells n.cs 26],[],0,0,fun _=>0⟩) (fun j=>es.length-j) 0 (by simp) ?_ ?_
   ·refine fN ?_<;>repeat' (first|exact fQ|refine And.intro ?_ ?_|exact zn.zj _|exact za.int (by rw[hel];rfl)|exact za.int (by simp[qq])|exact za.elems (by rw[hes];rfl))
   rintro j hj
   refine Wk ?_
   refine zx.mk (fun hd=>?_) (fun hd=>?_)<;>(try rw[hd])
   ·have hjt:j < es.length:=by simpa using hd
    obtain⟨e,hge⟩:=zr hjt
    have hme:=zk (f:=zM) hge
    have hst2:=zeV (fun e=>jb n e node) hge
    have hsb:=Vs (f:=fun e=>jb n e node) (m:=68719476736) (by omega) (l:=es.take (j+1)) fun e _=>kg h e node
    have hsb0:=Vs (f:=fun e=>jb n e node) (m:=68719476736) (by omega) (l:=es.take j) fun e _=>kg h e node
    have hpe:=kg h e node
    rw[List.length_take]at hsb hsb0
    repeat((conv=>whnf);first|refine sJ ?_|refine aI (by first|exact zh hjt|kernel_rfl) ?_|rw[hme])
    try(conv=>whnf)
    refine cD (XN L n e) ?_
    cases hi:yE e n.nodes with
    | true=>
     obtain⟨a,b,r,x,rfl,rfl,hgr,hgx,hpx⟩:=zjY h hi hn
     have hmr:=zk (f:=zp) hgr
     have hmx:=zk (f:=zM) hgx
     have hal:=(List.getElem?_eq_some_iff.1 hgr).1
     have hbl:=(List.getElem?_eq_some_iff.1 hgx).1
     have hpn:jb n a b=x:=by unfold jb;rw[if_pos hi,hpx]
     rw[hpn]at hst2 hpe
     repeat((conv=>whnf);first|refine sJ ?_|refine aI (by first|exact zh hal|exact zh hbl|kernel_rfl) ?_|rw[hmr]|rw[hmx])
     try(conv=>whnf)
     refine⟨j+1,by omega,by omega,?_⟩
     refine fN ?_<;>repeat' (first|exact fQ|refine And.intro ?_ ?_|exact zn.zj _|exact za.int (by rw[xw]<;>omega)|exact za.int (by rw[hst2,xw]<;>omega))
    | false=>
     have hpn:jb n e node=0:=by unfold jb;rw[if_neg (by simp[hi])]
     rw[hpn]at hst2
     refine Wk ?_
     refine⟨j+1,by omega,by omega,?_⟩
     refine fN ?_<;>repeat' (first|exact fQ|refine And.intro ?_ ?_|exact zn.zj _|exact za.int (by rw[xw]<;>omega)|exact za.int (by rw[hst2,Int.add_zero]))
   ·have hjl:j=es.length:=by simp at hd;omega
    subst hjl
    rw[List.take_length,hsum,←hda,←hst]
    refine Wk ?_
    refine⟨k+1,by omega,by omega,?_⟩
    refine fN ?_<;>repeat' (first|exact fQ|refine And.intro ?_ ?_|exact zn.zj _|exact za.int (by rw[xw]<;>omega))
 ·have hkn:k=cs.length:=by simp at hb;omega
  subst hkn
  refine Wk ?_
  exact ze.mk rfl (za.int rfl)
def kn (n:zF)(s d:Int):Bool:=decide (yS n=0)&&decide (0≤s)&&decide (0≤d)&&decide (s≤8796093022208)&&decide (d≤8796093022208)&&xQ n s d
theorem zeA (n:zF)(hn:n.small)(s d:Int):zb Tryz.prog L 140 [n.av,.int .i64 s,.int .i64 d] (.bool (kn n s d)):=by
 refine zb.intro mixed [] (nt:=26) Tryz.func140 rfl rfl (by simp) ?_
 refine Wk ?_
 refine cD (we L n hn) ?_
 by_cases h0:yS n=0
 rotate_left
 ·have g0:(yS n != 0)=true:=by simpa using h0
  repeat((conv=>whnf);first|refine sT ?_|rw[g0])
  try(conv=>whnf)
  exact ze.mk rfl (za.bool (by unfold kn;rw[decide_eq_false h0];rfl))
 have g0:(yS n != 0)=false:=by simpa using h0
 by_cases h1:0≤s∧0≤d
 rotate_left
 ·have g1:decide ((if d < s then d else s) < 0)=true:=by rw[decide_eq_true_eq];split<;>omega
  repeat((conv=>whnf);first|refine sT ?_|rw[g0]|rw[g1])
  try(conv=>whnf)
  exact ze.mk rfl (za.bool (by unfold kn;rw[decide_eq_true h0];rcases Decidable.em (0≤s) with h|h<;>simp[h]<;>omega))
 have g1:decide ((if d < s then d else s) < 0)=false:=by rw[decide_eq_false_iff_not];split<;>omega
 by_cases h2:s≤8796093022208∧d≤8796093022208
 rotate_left
 ·have g2:decide (8796093022208 < (if s < d then d else s))=true:=by rw[decide_eq_true_eq];split<;>omega
  repeat((conv=>whnf);first|refine sT ?_|rw[g0]|rw[g1]|rw[g2])
  try(conv=>whnf)
  exact ze.mk rfl (za.bool (by unfold kn;rw[decide_eq_true h0,decide_eq_true h1.1,decide_eq_true h1.2];rcases Decidable.em (s≤8796093022208) with h|h<;>simp[h]<;>omega))
 have g2:decide (8796093022208 < (if s < d then d else s))=false:=by rw[decide_eq_false_iff_not];split<;>omega
 repeat((conv=>whnf);first|refine sT ?_|rw[g0]|rw[g1]|rw[g2])
 try(conv=>whnf)
 refine cD (zaH L n (vo h0) s d ⟨h1.1,h2.1⟩ ⟨h1.2,h2.2⟩) ?_
 refine Wk ?_
 exact ze.mk rfl (za.bool (by unfold kn;rw[decide_eq_true h0,decide_eq_true h1.1,decide_eq_true h1.2,decide_eq_true h2.1,decide_eq_true h2.2];simp))
theorem zfu {n:zF}(h0:yS n=0){s d:Int}(h1:0≤s)(h2:s≤8796093022208)(h3:0≤d)(h4:d≤8796093022208):kn n s d=xQ n s d:=by
 unfold kn
 rw[decide_eq_true h0,decide_eq_true h1,decide_eq_true h2,decide_eq_true h3,decide_eq_true h4];simp
end
section
variable (L:World→Prop)
theorem VC {m k:Nat}{f:Nat→Bool}(hk:k < m)(h:f k=true):(List.range m).any f=true:=List.any_eq_true.2 ⟨k,by simpa using hk,h⟩
theorem zkm {m:Nat}{f:Nat→Bool}(h:∀j,j < m→f j=false):(List.range m).any f=false:=by
 rw[List.any_eq_false];intro j hj;simp[h j (by simpa using hj)]
end
theorem zhe (l:List zf)(id:Int):decide (xm l id < 0)=!Wr l id:=by
 have:=wU (fun f:zf=>f.id==id) l
 unfold Wr
 rw[←this]
 show decide (wu _ l < 0)=_
 by_cases h:(0:Int)≤wu (fun f:zf=>f.id==id) l
 ·rw[decide_eq_true h,decide_eq_false (by omega)];rfl
 ·rw[decide_eq_false h,decide_eq_true (by omega)];rfl
section
variable (L:World→Prop)
theorem zaJ (n:zF)(hn:n.small)(h0:yS n=0)(l:List zf)(hl:l.length≤281474976710656)(s:zc)(hc:s.cells.length≤512):zb Tryz.prog L 75 [n.av,zN l,s.av] (.tup [.int .i64 (zS (qT n l s) s.cells.length).1,.int .i64 (zS (qT n l s) s.cells.length).2]):=by
 refine zb.intro mixed [] (nt:=58) Tryz.func75 rfl rfl (by simp) ?_
 refine Wk ?_
 refine zt.run mixed [] (fun (k:Nat)=>k≤s.cells.length∧∀j,j < k→qT n l s j=0) (fun k=>[(1,zN l),(3,.ptr 0 0),(5,.ptr 1 0),(11,zy s.cells),(12,.int .i64 s.cells.length),(13,.int .i64 k)]) (fun k=>⟨[.cells n.cs 26,.cells [.int .i64 s.len,.int .i64 s.offs,zy s.cells] 30],[],0,0,fun _=>0⟩) (fun k=>s.cells.length-k) 0 ⟨by simp,by simp⟩ ?_ ?_
 ·refine fN ?_<;>repeat' (first|exact fQ|refine And.intro ?_ ?_|exact zn.zj _|exact za.int (by simp))
 rintro k ⟨hk,hinv⟩
 refine Wk ?_
 refine zx.mk (fun hb=>?_) (fun hb=>?_)<;>try rw[hb]
 ·have hlt:k < s.cells.length:=by simpa using hb
  obtain⟨c,hgc⟩:=zr hlt
  have hmc:=zk (f:=zg.av) hgc
  have hF:qT n l s k=if wy s c=false then 2 else if vb n c.src c.dst=false∨Wr l c.flow=false then 7 else if V7 s.cells k c=false then 5 else 0:=by unfold qT;rw[hgc]
  have hit:=xD hinv (k:=k) (n:=s.cells.length)
  repeat((conv=>whnf);first|refine sJ ?_|refine aI (by first|exact zh hlt|kernel_rfl) ?_|rw[hmc])
  try(conv=>whnf)
  refine cD (c_placed L s c) ?_
  cases h1:wy s c with
  | false=>
   rw[if_pos h1]at hF
   refine Wk ?_
   exact ze.mk rfl (za.of_eq (by rw[hit (by rw[hF];decide) hlt,hF]))
  | true=>
   rw[if_neg (by simp[h1])]at hF
   refine Wk ?_
   refine cD (jn L n hn c.src c.dst) ?_
   refine Wk ?_
   refine cD (zcy L n hn (wb n c.src c.dst)) ?_
   rw[Y6 h0]
   cases h2:vb n c.src c.dst with
   | false=>
    rw[if_pos (.inl h2)]at hF
    refine Wk ?_
    exact ze.mk rfl (za.of_eq (by rw[hit (by rw[hF];decide) hlt,hF]))
   | true=>
    refine Wk ?_
    refine cD (zdI L l c.flow hl) ?_
    refine Wk ?_
    rw[zhe]
    cases h3:Wr l c.flow with
    | false=>
     rw[if_pos (.inr h3)]at hF
     refine Wk ?_
     exact ze.mk rfl (za.of_eq (by rw[hit (by rw[hF];decide) hlt,hF]))
    | true=>
     rw[if_neg (by simp[h2,h3])]at hF
     by_cases hk0:k=0
     ·subst hk0
      rw[if_neg (by simp[V7])]at hF
      refine Wk ?_
      refine⟨0+1,⟨by omega,fun j hj=>?_⟩,by omega,?_⟩
      ·obtain rfl:j=0:=by omega
       exact hF
      ·refine fN ?_<;>repeat' (first|exact fQ|refine And.intro ?_ ?_|exact zn.zj _|exact za.int (by rw[xw]<;>omega))
     ·obtain⟨i,rfl⟩:∃i,k=i+1:=⟨k-1,by omega⟩
      obtain⟨p,hgp⟩:=zr (l:=s.cells) (k:=i) (by omega)
      have hmp:=zk (f:=zg.av) hgp
      have hw:IntKind.i64.wrap (((i+1:Nat):Int)-1)=(i:Int):=by rw[xw]<;>omega
      have hg:decide ((0:Int) < ((i+1:Nat):Int))=true:=decide_eq_true (by omega)
      have hO:V7 s.cells (i+1) c=decide (p.cmp c < 0):=by simp only[V7,hgp]
      rw[hO]at hF
      repeat((conv=>whnf);first|refine sJ ?_|refine aI (by first|exact trivial|(rw[hw];exact zh (by omega))|kernel_rfl) ?_|rw[hg]|rw[hw]|rw[hmp])
      try(conv=>whnf)
      refine cD (c_compare L p c) ?_
      refine Wk ?_
      refine zx.mk (fun h4=>?_) (fun h4=>?_)<;>(try rw[h4])
      ·rw[if_pos (by simp at h4;simp;omega)]at hF
       refine Wk ?_
       exact ze.mk rfl (za.of_eq (by rw[hit (by rw[hF];decide) hlt,hF]))
      ·rw[if_neg (by simp at h4;simp;omega)]at hF
       refine Wk ?_
       refine⟨i+2,⟨by omega,fun j hj=>?_⟩,by omega,?_⟩
       ·rcases Nat.lt_succ_iff_lt_or_eq.1 hj with h|rfl
        ·exact hinv j h
        ·exact hF
       ·refine fN ?_<;>repeat' (first|exact fQ|refine And.intro ?_ ?_|exact zn.zj _|exact za.int (by rw[xw]<;>omega))
 ·have hkn:k=s.cells.length:=by simp at hb;omega
  subst hkn
  refine Wk ?_
  exact ze.mk rfl (za.of_eq (by rw[xk hinv]))
theorem zfM (f:zf)(s:zc)(h1:0≤s.len)(_h3:s.len≤512)(h2:1≤f.period)(h4:f.period≤512):zb Tryz.prog L 74 [f.av,.cptr s.av 0] (.bool (zgM s f)):=by
 refine zb.intro mixed [] (nt:=10) Tryz.func74 rfl rfl (by simp) ?_
 have hm:s.len.tmod f.period=s.len % f.period:=Int.tmod_eq_emod_of_nonneg h1
 have hm1:=Int.emod_nonneg s.len (show f.period≠0 by omega)
 have hm2:=Int.emod_lt_of_pos s.len (show 0 < f.period by omega)
 have hw:IntKind.i64.wrap (s.len % f.period)=s.len % f.period:=by rw[xw]<;>omega
 repeat((conv=>whnf);first|refine sJ ?_|refine aI (by first|exact(show f.period≠0 by omega)|kernel_rfl) ?_|rw[hm]|rw[hw])
 try(conv=>whnf)
 exact ze.mk rfl (za.bool rfl)
theorem YU (l:List zf)(p:zf→Bool)(g:Nat)(caps:List AV)(hl:l.length≤281474976710656)(hcb:zO Tryz.prog g=true)(hc:xo caps=some caps)(hp:∀x∈l,zb Tryz.prog L g (zf.av x :: caps) (.bool (p x))) :
  zb Tryz.prog L 73 [.sl false (l.map zf.av),.fn g caps] (.bool (l.any p)):=by
 refine zb.intro mixed [] (nt:=9) Tryz.func73 rfl rfl (by simp) ?_
 refine Wk ?_
 refine zo.data rfl (kS L l p g caps hl hcb hc hp) (by show(match fz _,xo [AV.fn g caps] with|some a,some b=>some (a :: b)|_,_=>none)=_;rw[show xo [AV.fn g caps] = some [AV.fn g caps] from by simp[fz,xo,hc]];rfl) ?_
 refine Wk ?_
 exact ze.mk rfl (za.bool (wU p l))
theorem WD (l:List zg)(p:zg→Bool)(g:Nat)(caps:List AV)(hl:l.length≤281474976710656)(hcb:zO Tryz.prog g=true)(hc:xo caps=some caps)(hp:∀x∈l,zb Tryz.prog L g (zg.av x :: caps) (.bool (p x))) :
  zb Tryz.prog L 164 [.sl false (l.map zg.av),.fn g caps] (.int .i64 (wu p l)):=by
 refine zb.intro mixed [] (nt:=19) Tryz.func164 rfl rfl (by simp) ?_
 refine Wk ?_
 refine zt.run mixed [] (fun (k:Nat)=>k≤l.length∧∀j x,j < k→l[j]? = some x→p x=false) (fun k=>[(0,.sl false (l.map zg.av)),(1,.fn g caps),(7,.int .i64 l.length),(8,.int .i64 k)]) (fun k=>St.none) (fun k=>l.length-k) 0 ⟨by simp,by simp⟩ ?_ ?_
 ·refine fN ?_<;>repeat' (first|exact fQ|refine And.intro ?_ ?_|exact za.int (by simp)|exact yz hc)
 rintro k ⟨hk,hinv⟩
 refine Wk ?_
 refine zx.mk (fun hb=>?_) (fun hb=>?_)<;>try rw[hb]
 ·have hlt:k < l.length:=by simpa using hb
  obtain⟨x,hgx⟩:=zr hlt
  have hmx:=zk (f:=zg.av) hgx
  repeat((conv=>whnf);first|refine sJ ?_|refine aI (by first|exact zh hlt|kernel_rfl) ?_|rw[hmx])
  try(conv=>whnf)
  refine zo.data hcb (hp x (List.mem_of_getElem? hgx)) (by show(match fz _,xo caps with|some a,some b=>some (a :: b)|_,_=>none)=_;rw[hc];rfl) ?_
  refine Wk ?_
  refine zx.mk (fun h2=>?_) (fun h2=>?_)<;>(try rw[h2])
  ·refine Wk ?_
   exact ze.mk rfl (za.int (yI hlt hinv hgx h2).symm)
  ·refine Wk ?_
   refine⟨k+1,⟨by omega,fun j y hj hy=>?_⟩,by omega,?_⟩
   ·rcases Nat.lt_succ_iff_lt_or_eq.1 hj with h|rfl
    ·exact hinv j y h hy
    ·rw[hgx]at hy;injection hy with hy;subst hy;exact h2
   ·refine fN ?_<;>repeat' (first|exact fQ|refine And.intro ?_ ?_|exact za.int (zu hlt hl)|exact yz hc)
 ·have hk':k=l.length:=by simp at hb;omega
  subst hk'
  refine Wk ?_
  exact ze.mk rfl (za.int (yY hinv).symm)
theorem Ye (l:List zg)(p:zg→Bool)(g:Nat)(caps:List AV)(hl:l.length≤281474976710656)(hcb:zO Tryz.prog g=true)(hc:xo caps=some caps)(hp:∀x∈l,zb Tryz.prog L g (zg.av x :: caps) (.bool (p x))) :
  zb Tryz.prog L 193 [.sl false (l.map zg.av),.fn g caps] (.bool (l.any p)):=by
 refine zb.intro mixed [] (nt:=9) Tryz.func193 rfl rfl (by simp) ?_
 refine Wk ?_
 refine zo.data rfl (WD L l p g caps hl hcb hc hp) (by show(match fz _,xo [AV.fn g caps] with|some a,some b=>some (a :: b)|_,_=>none)=_;rw[show xo [AV.fn g caps] = some [AV.fn g caps] from by simp[fz,xo,hc]];rfl) ?_
 refine Wk ?_
 exact ze.mk rfl (za.bool (wU p l))
def Wg (n:zF)(c:zg):Bool:=!yE c.src n.nodes||!yE c.dst n.nodes
theorem zi9 (n:zF)(c:zg):zb Tryz.prog L 191 [c.av,.cptr n.av 0] (.bool (Wg n c)):=by
 refine zb.intro mixed [] (nt:=16) Tryz.func191 rfl rfl (by simp) ?_
 refine Wk ?_
 refine cD (XN L n c.src) ?_
 cases h1:yE c.src n.nodes with
 | false=>
  refine Wk ?_
  exact ze.mk rfl (za.bool (by simp[Wg,h1]))
 | true=>
  refine Wk ?_
  refine cD (XN L n c.dst) ?_
  refine Wk ?_
  exact ze.mk rfl (za.bool (by simp[Wg,h1]))
theorem zhF (n:zF)(hn:n.small)(h0:yS n=0)(cs:List zg)(hc:cs.length≤4096)(i:Nat)(hi:i < cs.length)(node:Int)(hnd:yE node n.nodes=true)(hin:∀c∈cs,yE c.src n.nodes=true∧yE c.dst n.nodes=true):zb Tryz.prog L 141 [n.av,zy cs,.int .i64 i,.int .i64 node] (.int .i64 (jV n cs i node)):=by
 have hany:cs.any (Wg n)=false:=by
  rw[List.any_eq_false]
  intro c hc
  have:=hin c hc
  simp[Wg,this]
 have hlt:decide ((((cs.map zg.av).length:Nat):Int)≤(i:Int))=false:=by simp;omega
 have h1:decide ((i:Int) < 0)=false:=by simp
 refine zb.intro mixed [] (nt:=40) Tryz.func141 rfl rfl (by simp) ?_
 refine Wk ?_
 refine cD (we L n hn) ?_
 rw[h0]
 repeat((conv=>whnf);first|refine sT ?_|rw[h1]|rw[hlt])
 try(conv=>whnf)
 refine cD (XN L n node) ?_
 rw[hnd]
 refine Wk ?_
 refine cB (Ye L cs (Wg n) 191 [.cptr n.av 0] (by omega) rfl rfl (fun c _=>zi9 L n c)) ?_
 rw[hany]
 refine Wk ?_
 refine cD (zi5 L n (vo h0) cs hc i node hnd) ?_
 refine Wk ?_
 exact ze.mk rfl (za.int rfl)
end
def zjO (s:zc)(c:zg):List (Nat×AV):=[(2,.ptr 0 0),(3,.ptr 1 0),(4,.ptr 2 0),(5,.ptr 3 0),(16,.fn 143 [.cptr s.av 0,.cptr (.agg [.int .i64 c.slot]) 0])]
def zkE (s:zc)(i:Nat)(c:zg):List Ob:=[.cells [.int .i64 s.len,.int .i64 s.offs,zy s.cells] 30,.cells [.int .i64 i] 3,.cells [.bool false] 4,.cells [.int .i64 c.slot,.int .i64 c.off,.int .i64 c.src,.int .i64 c.dst,.int .i64 c.flow] 40]
section
variable (L:World→Prop)
theorem ziV (s:zc)(hc:s.cells.length≤512)(i:Nat)(hi:i < s.cells.length):zb Tryz.prog L 76 [s.av,.int .i64 i] (.bool (kZ s.cells i)):=by
 obtain⟨c,hgc⟩:=zr hi
 have hmc:=zk (f:=zg.av) hgc
 have hF:kZ s.cells i=(List.range i).any (KW s.cells c):=by unfold kZ;rw[hgc]
 refine zb.intro mixed [] (nt:=54) Tryz.func76 rfl rfl (by simp) ?_
 repeat((conv=>whnf);first|refine sJ ?_|refine aI (by first|exact zh hi|kernel_rfl) ?_|rw[hmc])
 try(conv=>whnf)
 refine cD (zhs L s c.slot) ?_
 refine Wk ?_
 refine yW.weak (l:=zjO s c) (S1:=⟨zkE s i c,[],0,0,fun _=>0⟩) ?_ ?_
 ·refine fN ?_<;>repeat' (first|exact fQ|refine And.intro ?_ ?_|exact zn.zj _)
 refine yW.Jx rfl rfl fun Lp hLp=>?_
 have hok:∀k m,4≤k→Ob.okk k m (.loop Lp):=fun k m hk=>vp (l:=zjO s c) (by rw[hLp]) (by simp[zjO,okL,AV.okk,wr];omega)
 refine zQ.intro mixed [] (nt:=25) Tryz.func143 rfl rfl (by simp) ?_
 refine Wk ?_
 refine zt.run mixed [] (fun (k:Nat)=>k≤s.cells.length∧∀j,j < k→j < i→KW s.cells c j=false) (fun k=>[(0,.yld 4),(1,.cptr s.av 0),(2,.cptr (.agg [.int .i64 c.slot]) 0),(7,zy s.cells),(8,.int .i64 s.cells.length),(9,.int .i64 k)]) (fun k=>⟨zkE s i c++[.loop Lp],[],5,0,fun _=>0⟩) (fun k=>s.cells.length-k) 0 ⟨by omega,fun j hj=>by omega⟩ ?_ ?_
 ·refine fN ?_<;>repeat' (first|exact fQ|refine And.intro ?_ ?_|exact hok _ _ (y6 rfl)|exact zn.zj _|exact yh.zj _|exact za.int (by simp))
 rintro k ⟨hk,hinv⟩
 refine Wk ?_
 refine zx.mk (fun hb=>?_) (fun hb=>?_)<;>try rw[hb]
 ·have hlt:k < s.cells.length:=by simpa using hb
  obtain⟨d,hgd⟩:=zr hlt
  have hmd:=zk (f:=zg.av) hgd
  have hT:KW s.cells c k=(d.slot==c.slot&&vh c d):=by unfold KW;rw[hgd]
  have nxt:(k < i→KW s.cells c k=false)→∀j,j < k+1→j < i→KW s.cells c j=false:=fun h j hj hji=>by
   rcases Nat.lt_succ_iff_lt_or_eq.1 hj with h'|rfl
   ·exact hinv j h' hji
   ·exact h hji
  repeat((conv=>whnf);first|refine sJ ?_|refine aI (by first|exact zh hlt|kernel_rfl) ?_|rw[hmd])
  try(conv=>whnf)
  cases h3:d.slot==c.slot with
  | false=>
   refine Wk ?_
   refine⟨k+1,⟨by omega,nxt (fun _=>by rw[hT,h3];rfl)⟩,by omega,?_⟩
   refine fN ?_<;>repeat' (first|exact fQ|refine And.intro ?_ ?_|exact hok _ _ (y6 rfl)|exact za.int (zu hlt (by omega))|exact zn.zj _)
  | true=>
   rw[h3,Bool.true_and]at hT
   refine Wk ?_
   refine zo.round mixed [] hLp rfl rfl rfl ?_
   clear hLp
   by_cases hki:k < i
   rotate_left
   ·have g:decide ((k:Int) < (i:Int))=false:=decide_eq_false (by omega)
    repeat((conv=>whnf);first|refine sJ ?_|refine aI (by first|exact zh hlt|kernel_rfl) ?_|rw[hmd]|rw[g])
    try(conv=>whnf)
    refine Wk ?_
    refine⟨k+1,⟨by omega,nxt (fun h=>absurd h hki)⟩,by omega,?_⟩
    refine fN ?_<;>repeat' (first|exact fQ|refine And.intro ?_ ?_|exact hok _ _ (y6 rfl)|exact za.int (zu hlt (by omega))|exact zn.zj _)
   have g:decide ((k:Int) < (i:Int))=true:=decide_eq_true (by omega)
   repeat((conv=>whnf);first|refine sJ ?_|refine aI (by first|exact zh hlt|kernel_rfl) ?_|rw[hmd]|rw[g])
   try(conv=>whnf)
   cases e1:c.src==d.src with
   | true=>
    refine Wk ?_
    exact ze.mk rfl (za.bool (by rw[hF,VC hki (by rw[hT];simp[vh,e1])]))
   | false=>
    refine Wk ?_
    cases e2:c.src==d.dst with
    | true=>
     refine Wk ?_
     exact ze.mk rfl (za.bool (by rw[hF,VC hki (by rw[hT];simp[vh,e2])]))
    | false=>
     refine Wk ?_
     cases e3:c.dst==d.src with
     | true=>
      refine Wk ?_
      exact ze.mk rfl (za.bool (by rw[hF,VC hki (by rw[hT];simp[vh,e3])]))
     | false=>
      refine Wk ?_
      cases e4:c.dst==d.dst with
      | true=>
       refine Wk ?_
       exact ze.mk rfl (za.bool (by rw[hF,VC hki (by rw[hT];simp[vh,e4])]))
      | false=>
       refine Wk ?_
       refine⟨k+1,⟨by omega,nxt (fun _=>by rw[hT];simp[vh,e1,e2,e3,e4])⟩,by omega,?_⟩
       refine fN ?_<;>repeat' (first|exact fQ|refine And.intro ?_ ?_|exact hok _ _ (y6 rfl)|exact za.int (zu hlt (by omega))|exact zn.zj _)
 ·have hkn:k=s.cells.length:=by simp at hb;omega
  subst hkn
  refine Wk ?_
  rw[show Lp.st=.ready from by rw[hLp],show Lp.pend=none from by rw[hLp]]
  refine Wk ?_
  exact ze.mk rfl (za.bool (by rw[hF,zkm fun j hj=>hinv j (by omega) hj]))
def zkc (s:zc)(c:zg):List (Nat×AV):=[(3,.ptr 0 0),(4,.ptr 1 0),(5,.ptr 2 0),(7,.ptr 3 0),(8,.ptr 4 0),(20,.fn 143 [.cptr s.av 0,.cptr (.agg [.int .i64 c.slot]) 0])]
def zkN (n:zF)(s:zc)(i:Nat)(v:AV)(a:Nat):List Ob:=[.cells n.cs 26,.cells [.int .i64 s.len,.int .i64 s.offs,zy s.cells] 30,.cells [.int .i64 i] 3,.cells [v] 28,.cells [.int .i64 a] 3]
theorem Kn {n:zF}(h0:yS n=0){m d:Int}(h1:0≤m)(h2:m≤68719476736)(h3:0≤d):kn n m d=xQ n m d:=by
 rcases Int.lt_or_le 8796093022208 d with h|h
 ·have hok:=vo h0
  have h4:n.thr*8796093022208≤n.thr*(n.noise+d):=Int.mul_le_mul_of_nonneg_left (by have:=hok.noise;omega) (by have:=hok.thr;omega)
  have h5:=hok.thr
  have e1:xQ n m d=false:=by unfold xQ;rw[decide_eq_false_iff_not];omega
  rw[e1]
  unfold kn
  rw[decide_eq_false (by omega:¬d≤8796093022208)];simp
 ·exact zfu h0 h1 (by omega) h3 h
def zch (cs:List zg)(c:zg)(i k:Nat):Nat:=if i < k then kc cs c i else 0
theorem zc8 {cs:List zg}{c d:zg}{k:Nat}(h:cs[k]? = some d):x8 (cs.take (k+1)) c=if wB c d then x8 (cs.take k) c++[d] else x8 (cs.take k) c:=zcf (wB c) h
theorem zcu (n:zF)(hn:n.small)(h0:yS n=0)(s:zc)(hc:s.cells.length≤512)(hg:∀c∈s.cells,vb n c.src c.dst=true)(i:Nat)(hi:i < s.cells.length):zb Tryz.prog L 77 [n.av,s.av,.int .i64 i] (.bool (qe n s.cells i)):=by
 have hok:=vo h0
 obtain⟨c,hgc⟩:=zr hi
 have hmc:=zk (f:=zg.av) hgc
 have hcm:=List.mem_of_getElem? hgc
 have hF:qe n s.cells i=(!xQ n (v8 n c.src c.dst) (jV n (x8 s.cells c) (kc s.cells c i) c.dst)||!xQ n (v8 n c.dst c.src) (jV n (x8 s.cells c) (kc s.cells c i) c.src)):=by unfold qe;rw[hgc]
 obtain⟨p,m,e1,e2,e3,e4,e5,e6,e7,e8⟩:=zav hok (hg c hcm)
 obtain⟨p',m',f1,f2,f3,f4,f5,f6,f7,f8⟩:=zav hok e8
 have hi1:wb n c.src c.dst=(p:Int):=by rw[wb,if_pos h0,e1]
 have hi2:wb n c.dst c.src=(p':Int):=by rw[wb,if_pos h0,f1]
 have hpl:=(List.getElem?_eq_some_iff.1 e2).1
 have hpl':=(List.getElem?_eq_some_iff.1 f2).1
 have hmm:=zk (f:=zM) e2
 have hmm':=zk (f:=zM) f2
 rw[e3,f3]at hF
 obtain⟨S,hS⟩:∃S,S=x8 s.cells c:=⟨_,rfl⟩
 have hsub:∀x∈S,x∈s.cells:=fun x hx=>by rw[hS]at hx;exact(List.mem_filter.1 hx).1
 have hSl:S.length≤512:=by rw[hS];exact Nat.le_trans (List.length_filter_le _ _) hc
 obtain⟨a,ha⟩:∃a,a=kc s.cells c i:=⟨_,rfl⟩
 have hSa:S[a]? = some c:=by rw[hS,ha];exact(XH hgc (show wB c c=true by unfold wB;simp)).2
 have hal:=(List.getElem?_eq_some_iff.1 hSa).1
 have hmS:=zk (f:=zg.av) hSa
 have hin:∀c∈S,yE c.src n.nodes=true∧yE c.dst n.nodes=true:=fun x hx=>by
  obtain⟨_,_,_,_,_,_,_,q1,q2,_⟩:=zav hok (hg x (hsub x hx))
  exact⟨q1,q2⟩
 have hd1:0≤jV n S a c.dst:=(QZ hok S a c.dst S.length).1
 have hd2:0≤jV n S a c.src:=(QZ hok S a c.src S.length).1
 rw[←hS,←ha]at hF
 refine zb.intro mixed [] (nt:=94) Tryz.func77 rfl rfl (by simp) ?_
 repeat((conv=>whnf);first|refine sJ ?_|refine aI (by first|exact zh hi|kernel_rfl) ?_|rw[hmc])
 try(conv=>whnf)
 refine cD (zhs L s c.slot) ?_
 refine Wk ?_
 refine yW.zc0 3 5 40 _ rfl ?_
 refine yW.weak (l:=zkc s c) (S1:=⟨zkN n s i (.own [] 0) 0,[(0,5)],0,0,fun _=>40⟩) ?_ ?_
 ·refine fN ?_<;>repeat' (first|exact fQ|refine And.intro ?_ ?_|exact zn.zj _)
 refine yW.Jx rfl rfl fun Lp hLp=>?_
 have hok2:∀k m,5≤k→Ob.okk k m (.loop Lp):=fun k m hk=>vp (l:=zkc s c) (by rw[hLp]) (by simp[zkc,okL,AV.okk,wr];omega)
 refine zQ.intro mixed [] (nt:=25) Tryz.func143 rfl rfl (by simp) ?_
 refine Wk ?_
 refine zt.run mixed [] (fun (k:Nat)=>k≤s.cells.length) (fun k=>[(0,.yld 5),(1,.cptr s.av 0),(2,.cptr (.agg [.int .i64 c.slot]) 0),(7,zy s.cells),(8,.int .i64 s.cells.length),(9,.int .i64 k)]) (fun k=>⟨zkN n s i (.own ((x8 (s.cells.take k) c).map zg.av) 0) (zch s.cells c i k)++[.loop Lp],[((x8 (s.cells.take k) c).length,5)],6,1,fun _=>40⟩) (fun k=>s.cells.length-k) 0 (by omega) ?_ ?_
 ·refine fN ?_<;>repeat' (first|exact fQ|refine And.intro ?_ ?_|exact hok2 _ _ (y6 rfl)|exact zn.zj _|exact yh.zj _|exact za.int (by simp))
 rintro k hk
 have hfl:(x8 (s.cells.take k) c).length≤512:=Nat.le_trans (List.length_filter_le _ _) (by rw[List.length_take];omega)
 refine Wk ?_
 refine zx.mk (fun hb=>?_) (fun hb=>?_)<;>try rw[hb]
 ·have hlt:k < s.cells.length:=by simpa using hb
  obtain⟨d,hgd⟩:=zr hlt
  have hmd:=zk (f:=zg.av) hgd
  have hst:=zc8 (c:=c) hgd
  have hki:k=i→d=c:=fun h=>by subst h;rw[hgd]at hgc;injection hgc
  have hdn:k≠i→zch s.cells c i (k+1)=zch s.cells c i k:=fun h=>by unfold zch;split<;>split<;>first|rfl|omega
  have hdi:k=i→zch s.cells c i (k+1)=(x8 (s.cells.take k) c).length:=by rintro rfl;unfold zch;rw[if_pos (by omega)];rfl
  repeat((conv=>whnf);first|refine sJ ?_|refine aI (by first|exact zh hlt|kernel_rfl) ?_|rw[hmd])
  try(conv=>whnf)
  cases h3:d.slot==c.slot with
  | false=>
   have hne:wB c d=false:=by unfold wB;rw[h3];rfl
   have hst2:x8 (s.cells.take (k+1)) c=x8 (s.cells.take k) c:=by rw[hst,if_neg (by simp[hne])]
   have hdn:=hdn fun h=>by rw[hki h]at h3;simp at h3
   refine Wk ?_
   rw[←hst2,←hdn]
   refine⟨k+1,by omega,by omega,?_⟩
   refine fN ?_<;>repeat' (first|exact fQ|refine And.intro ?_ ?_|exact hok2 _ _ (y6 rfl)|exact zn.zj _|exact yh.zj _|exact za.int (zu hlt (by omega)))
  | true=>
   refine Wk ?_
   refine zo.round mixed [] hLp rfl rfl rfl ?_
   clear hLp
   repeat((conv=>whnf);first|refine sJ ?_|refine aI (by first|exact zh hlt|exact zh hi|kernel_rfl) ?_|rw[hmd]|rw[hmc])
   try(conv=>whnf)
   cases h4:d.off != c.off with
   | true=>
    have hne:wB c d=false:=by unfold wB;rw[h3];simpa using h4
    have hst2:x8 (s.cells.take (k+1)) c=x8 (s.cells.take k) c:=by rw[hst,if_neg (by simp[hne])]
    have hdn:=hdn fun h=>by rw[hki h]at h4;simp at h4
    refine Wk ?_
    rw[←hst2,←hdn]
    refine⟨k+1,by omega,by omega,?_⟩
    refine fN ?_<;>repeat' (first|exact fQ|refine And.intro ?_ ?_|exact hok2 _ _ (y6 rfl)|exact zn.zj _|exact yh.zj _|exact za.int (zu hlt (by omega)))
   | false=>
    have hsh:wB c d=true:=by unfold wB;rw[h3];simpa using h4
    have hst2:x8 (s.cells.take (k+1)) c=x8 (s.cells.take k) c++[d]:=by rw[hst,if_pos hsh]
    refine Wk ?_
    refine zx.mk (fun h5=>?_) (fun h5=>?_)<;>(try rw[h5])
    ·have hk5:k=i:=by simp at h5;omega
     have hdi:=hdi hk5
     repeat((conv=>whnf);first|refine sJ ?_|refine aI (by first|exact zh hlt|exact xF.map (f:=zg.av) (fun x=>⟨rfl,rfl⟩)|exact(show _*40≤_ by simp only[List.length_map,List.length_cons,List.length_nil];omega)|exact(by simp only[List.length_map,List.length_cons,List.length_nil,maxLen];omega)|exact(by rw[List.length_map];rfl)|kernel_rfl) ?_|rw[hmd])
     try(conv=>whnf)
     refine⟨k+1,by omega,by omega,?_⟩
     refine fN ?_<;>repeat' (first|exact fQ|refine And.intro ?_ ?_|exact hok2 _ _ (y6 rfl)|exact zn.zj _|exact yh.zj _|exact za.int (zu hlt (by omega))|exact za.own (by rw[hst2,List.map_append];rfl)|exact za.int (by rw[hdi];simp)|(show(_,_)=(_,_);rw[hst2];simp only[List.length_append,List.length_map];rfl))
    ·have hk5:k≠i:=by simp at h5;omega
     have hdn:=hdn hk5
     repeat((conv=>whnf);first|refine sJ ?_|refine aI (by first|exact zh hlt|exact xF.map (f:=zg.av) (fun x=>⟨rfl,rfl⟩)|exact(show _*40≤_ by simp only[List.length_map,List.length_cons,List.length_nil];omega)|exact(by simp only[List.length_map,List.length_cons,List.length_nil,maxLen];omega)|exact(by rw[List.length_map];rfl)|kernel_rfl) ?_|rw[hmd])
     try(conv=>whnf)
     refine⟨k+1,by omega,by omega,?_⟩
     refine fN ?_<;>repeat' (first|exact fQ|refine And.intro ?_ ?_|exact hok2 _ _ (y6 rfl)|exact zn.zj _|exact yh.zj _|exact za.int (zu hlt (by omega))|exact za.own (by rw[hst2,List.map_append];rfl)|exact za.int (by rw[hdn])|(show(_,_)=(_,_);rw[hst2];simp only[List.length_append,List.length_map];rfl))
 ·have hkn:k=s.cells.length:=by simp at hb;omega
  subst hkn
  have hda:zch s.cells c i s.cells.length=a:=by unfold zch;rw[if_pos hi,ha]
  rw[List.take_length,←hS,hda]
  refine Wk ?_
  rw[show Lp.st=.ready from by rw[hLp],show Lp.pend=none from by rw[hLp]]
  repeat((conv=>whnf);first|refine sJ ?_|refine aI (by first|exact zh hal|kernel_rfl) ?_|rw[hmS])
  try(conv=>whnf)
  refine cD (jn L n hn c.src c.dst) ?_
  rw[hi1]
  refine Wk ?_
  refine cD (jn L n hn c.dst c.src) ?_
  rw[hi2]
  repeat((conv=>whnf);first|refine sJ ?_|refine aI (by first|exact zh hpl|kernel_rfl) ?_|rw[hmm])
  try(conv=>whnf)
  refine cD (zhF L n hn h0 S (by omega) a hal c.dst e7 hin) ?_
  refine Wk ?_
  refine cD (zeA L n hn m (jV n S a c.dst)) ?_
  rw[Kn h0 e4 e5 hd1]
  cases hh1:xQ n m (jV n S a c.dst) with
  | false=>
   refine Wk ?_
   exact ze.mk rfl (za.bool (by rw[hF,hh1];rfl))
  | true=>
   repeat((conv=>whnf);first|refine sJ ?_|refine aI (by first|exact zh hpl'|kernel_rfl) ?_|rw[hmm'])
   try(conv=>whnf)
   refine cD (zhF L n hn h0 S (by omega) a hal c.src f7 hin) ?_
   refine Wk ?_
   refine cD (zeA L n hn m' (jV n S a c.src)) ?_
   rw[Kn h0 f4 f5 hd2]
   refine Wk ?_
   exact ze.mk rfl (za.bool (by rw[hF,hh1];rfl))
end
section
variable (L:World→Prop)
theorem zcA (n:zF)(hn:n.small)(l:List zf)(hl:l.length≤281474976710656)(s:zc)(hc:s.cells.length≤281474976710656):zb Tryz.prog L 27 [n.av,zN l,s.av] (.tup [.int .i64 (yU n l s).1,.int .i64 (yU n l s).2]):=by
 refine zb.intro mixed [] (nt:=73) Tryz.func27 rfl rfl (by simp) ?_
 refine Wk ?_
 refine cD (we L n hn) ?_
 refine Wk ?_
 refine zx.mk (fun h1=>?_) (fun h1=>?_)<;>(try rw[h1])
 ·refine Wk ?_
  exact ze.mk rfl (za.of_eq (by unfold yU;rw[if_pos (.inl (by simpa using h1))]))
 have h0:yS n=0:=by simpa using h1
 refine Wk ?_
 refine cD (ZE L n.nodes l hl) ?_
 refine Wk ?_
 refine zx.mk (fun h2=>?_) (fun h2=>?_)<;>(try rw[h2])
 ·refine Wk ?_
  exact ze.mk rfl (za.of_eq (by unfold yU;rw[if_pos (.inr (by simpa using h2))]))
 have h2':(yd n.nodes l).2=0:=by simpa using h2
 have hper:=zdp h2'
 have e1:¬(yS n≠0∨(yd n.nodes l).2≠0):=by simp[h0,h2']
 refine Wk ?_
 refine cD (c_sized L s) ?_
 refine Wk ?_
 refine zx.mk (fun h3=>?_) (fun h3=>?_)<;>(try rw[h3])
 ·refine Wk ?_
  exact ze.mk rfl (za.of_eq (by unfold yU;rw[if_neg e1,if_pos (by simpa using h3)]))
 have h3':wA s=true:=by simpa using h3
 have hsb:=vj h3'
 refine Wk ?_
 refine cB (YU L l (zgM s) 74 [.cptr s.av 0] hl rfl rfl (fun f hf=>zfM L f s (by omega) (by omega) (hper f hf).1 (hper f hf).2)) ?_
 refine Wk ?_
 refine zx.mk (fun h4=>?_) (fun h4=>?_)<;>(try rw[h4])
 ·refine Wk ?_
  exact ze.mk rfl (za.of_eq (by unfold yU;rw[if_neg e1,if_neg (by simp[h3']),if_pos h4]))
 refine Wk ?_
 refine zx.mk (fun h5=>?_) (fun h5=>?_)<;>(try rw[h5])
 ·refine Wk ?_
  exact ze.mk rfl (za.of_eq (by unfold yU;rw[if_neg e1,if_neg (by simp[h3']),if_neg (by simp[h4]),if_pos (by simp at h5;omega)]))
 have hc5:¬512 < s.cells.length:=by simp at h5;omega
 have hE:yU n l s=if (zS (qT n l s) s.cells.length).2≠0 then zS (qT n l s) s.cells.length
  else if (zS (twI s.cells) s.cells.length).2≠0 then zS (twI s.cells) s.cells.length
  else zS (dsI n s.cells) s.cells.length:=by unfold yU;rw[if_neg e1,if_neg (by simp[h3']),if_neg (by simp[h4]),if_neg hc5]
 rw[hE]
 refine Wk ?_
 refine cD (zaJ L n hn h0 l hl s (by omega)) ?_
 refine Wk ?_
 refine zx.mk (fun h6=>?_) (fun h6=>?_)<;>(try rw[h6])
 ·rw[if_pos (by simpa using h6)]
  refine Wk ?_
  exact ze.mk rfl (za.of_eq rfl)
 have h6':(zS (qT n l s) s.cells.length).2=0:=by simpa using h6
 have hcell:∀c∈s.cells,vb n c.src c.dst=true:=fun c hcm=>by
  obtain⟨k,hk⟩:=List.getElem?_of_mem hcm
  have:=yw.1 h6' k (List.getElem?_eq_some_iff.1 hk).1
  unfold qT at this
  rw[hk]at this
  simp only at this
  split at this
  ·cases this
  split at this
  ·cases this
  rename_i g
  simp only[not_or,Bool.not_eq_false]at g
  exact g.1
 rw[if_neg (by simp[h6'])]
 refine Wk ?_
 refine zt.run mixed [] (fun (k:Nat)=>k≤s.cells.length∧∀j,j < k→twI s.cells j=0) (fun k=>[(3,.ptr 0 0),(5,.ptr 1 0),(52,.int .i64 s.cells.length),(53,.int .i64 k)]) (fun k=>⟨[.cells n.cs 26,.cells [.int .i64 s.len,.int .i64 s.offs,zy s.cells] 30],[],0,0,fun _=>0⟩) (fun k=>s.cells.length-k) 0 ⟨by simp,by simp⟩ ?_ ?_
 ·refine fN ?_<;>repeat' (first|exact fQ|refine And.intro ?_ ?_|exact zn.zj _|exact za.int (by simp))
 rintro k ⟨hk,hinv⟩
 refine Wk ?_
 refine zx.mk (fun hb=>?_) (fun hb=>?_)<;>try rw[hb]
 ·have hlt:k < s.cells.length:=by simpa using hb
  have hit:=xD hinv (k:=k) (n:=s.cells.length)
  refine Wk ?_
  refine cD (ziV L s (by omega) k hlt) ?_
  cases ht:kZ s.cells k with
  | true=>
   have hv:twI s.cells k=6:=by rw[twI,if_pos ht]
   have hf:=hit (by rw[hv];decide) hlt
   rw[hv]at hf
   rw[hf,if_pos (show(6:Int)≠0 by decide)]
   refine Wk ?_
   exact ze.mk rfl (za.of_eq rfl)
  | false=>
   have hv:twI s.cells k=0:=by rw[twI,if_neg (by simp[ht])]
   refine Wk ?_
   refine⟨k+1,⟨by omega,fun j hj=>?_⟩,by omega,?_⟩
   ·rcases Nat.lt_succ_iff_lt_or_eq.1 hj with h|rfl
    ·exact hinv j h
    ·exact hv
   ·refine fN ?_<;>repeat' (first|exact fQ|refine And.intro ?_ ?_|exact zn.zj _|exact za.int (by rw[xw]<;>omega))
 have hkn:k=s.cells.length:=by simp at hb;omega
 have hf0:=xk (hkn▸hinv)
 rw[hf0,if_neg (by decide)]
 clear hkn hinv hb hk hf0
 refine Wk ?_
 refine zt.run mixed [] (fun (k:Nat)=>k≤s.cells.length∧∀j,j < k→dsI n s.cells j=0) (fun k=>[(3,.ptr 0 0),(5,.ptr 1 0),(63,.int .i64 s.cells.length),(64,.int .i64 k)]) (fun k=>⟨[.cells n.cs 26,.cells [.int .i64 s.len,.int .i64 s.offs,zy s.cells] 30],[],0,0,fun _=>0⟩) (fun k=>s.cells.length-k) 0 ⟨by simp,by simp⟩ ?_ ?_
 ·refine fN ?_<;>repeat' (first|exact fQ|refine And.intro ?_ ?_|exact zn.zj _|exact za.int (by simp))
 rintro k ⟨hk,hinv⟩
 refine Wk ?_
 refine zx.mk (fun hb=>?_) (fun hb=>?_)<;>try rw[hb]
 ·have hlt:k < s.cells.length:=by simpa using hb
  have hit:=xD hinv (k:=k) (n:=s.cells.length)
  refine Wk ?_
  refine cD (zcu L n hn h0 s (by omega) hcell k hlt) ?_
  cases ht:qe n s.cells k with
  | true=>
   have hv:dsI n s.cells k=16:=by rw[dsI,if_pos ht]
   have hf:=hit (by rw[hv];decide) hlt
   rw[hv]at hf
   rw[hf]
   refine Wk ?_
   exact ze.mk rfl (za.of_eq rfl)
  | false=>
   have hv:dsI n s.cells k=0:=by rw[dsI,if_neg (by simp[ht])]
   refine Wk ?_
   refine⟨k+1,⟨by omega,fun j hj=>?_⟩,by omega,?_⟩
   ·rcases Nat.lt_succ_iff_lt_or_eq.1 hj with h|rfl
    ·exact hinv j h
    ·exact hv
   ·refine fN ?_<;>repeat' (first|exact fQ|refine And.intro ?_ ?_|exact zn.zj _|exact za.int (by rw[xw]<;>omega))
 ·have hkn:k=s.cells.length:=by simp at hb;omega
  have hf0:=xk (hkn▸hinv)
  rw[hf0]
  refine Wk ?_
  exact ze.mk rfl (za.of_eq rfl)
end
end HM
