/- Which slots count for a release. -/
import Derived.Test.YtggiajmlnieidaaGreatDoorS51
import Derived.Test.YtggiajmlnieidaaGreatDoorS52
import Derived.Test.YtggiajmlnieidaaGreatDoorDa
import Derived.Test.YtggiajmlnieidaaGreatDoorS33
set_option maxHeartbeats 64000000
set_option maxRecDepth 100000
namespace HM
open Go Go.RowKit Go.Proofs
theorem zfN (w:JU)(rel:Int)(hn:w.n.small)(h:xS w.n w.s w.f w.r)(h0:yS w.n=0)(hm0:0≤w.more)(hm1:w.more≤8)(hr0:0≤rel)(hr1:rel≤1048576) :
  zb Tryz.prog LW 227 [w.av,.int .i64 rel] (zjs (vD w.n w.s w.f w.r w.more rel)):=(zaa w rel h hr0 hr1).2 (fun _=>zgC w rel hn h h0 hm0 hm1 hr0 hr1) (fun _=>ze6 w rel hn h h0 hm0 hm1 hr0 hr1)
theorem zex (w:JU)(hn:w.n.small)(h:xS w.n w.s w.f w.r)(h0:yS w.n=0)(hm0:0≤w.more)(hm1:w.more≤8) :
  zb Tryz.prog LW 163 [w.av] (zkQ (xl w.n w.s w.f w.r w.more)):=by
 have hfl:=h.flow
 obtain⟨hsz,hcl,hfm⟩:=xC h.form
 have hsb:=vj hsz
 refine zb.intro mixed [] (nt:=44) Tryz.func163 rfl rfl (by simp) ?_
 refine Wk ?_
 refine zt.run mixed [] (fun s:Nat×Bnd=>s.1≤WV w.s w.f∧yM w.n w.s w.f w.r w.more s.1=some s.2) (fun s=>[(1,.ptr 0 0),(6,.int .i64 s.2.b),(7,.int .i64 s.2.w),(8,zp s.2.l),(9,.int .i64 (w.f.phase+s.1*w.f.period))]) (fun _=>⟨[.cells w.cs 210],[],0,0,fun _=>0⟩) (fun s=>WV w.s w.f-s.1) (0,⟨0,0,[]⟩) ⟨by simp,rfl⟩ ?_ ?_
 ·refine fN ?_<;>repeat' (first|exact fQ|refine And.intro ?_ ?_|exact za.int (by simp)|exact za.elems rfl)
 rintro⟨k,x⟩ ⟨hk,hup⟩
 simp only at hk hup
 have hlt:=zbw (s:=w.s) (f:=w.f) (k:=k) (by omega)
 have hms:((k+1:Nat):Int)*w.f.period=k*w.f.period+w.f.period:=by rw[Int.natCast_add,Int.add_mul];simp
 have hp0:0≤(k:Int)*w.f.period:=Int.mul_nonneg (by omega) (by omega)
 refine Wk ?_
 refine zx.mk (fun hb=>?_) (fun hb=>?_)<;>try rw[hb]
 ·have hb':w.f.phase+k*w.f.period < w.s.len:=by simpa using hb
  have hkl:=hlt.2 hb'
  refine Wk ?_
  refine cD (zfN w (w.f.phase+k*w.f.period) hn h h0 hm0 hm1 (by omega) (by omega)) ?_
  cases hR:vD w.n w.s w.f w.r w.more (w.f.phase+k*w.f.period) with
  | none=>
   refine Wk ?_
   exact ze.mk rfl (za.of_eq (by rw[xl,XV (zaN hR) hkl];rfl))
  | some bl=>
   obtain⟨b,l⟩:=bl
   have hnx:=kG hup hR
   refine Wk ?_
   refine zx.mk (fun h1=>?_) (fun h1=>?_)<;>(try rw[h1])
   ·rw[if_pos (by simpa using h1)]at hnx
    refine Wk ?_
    refine⟨(k+1,_),⟨hkl,hnx⟩,by simp only;omega,?_⟩
    refine fN ?_<;>repeat' (first|exact fQ|refine And.intro ?_ ?_|exact za.int (by simp only[hms];rw[xw]<;>omega))
   ·rw[if_neg (by simpa using h1)]at hnx
    refine Wk ?_
    refine⟨(k+1,_),⟨hkl,hnx⟩,by simp only;omega,?_⟩
    refine fN ?_<;>repeat' (first|exact fQ|refine And.intro ?_ ?_|exact za.int (by simp only[hms];rw[xw]<;>omega))
 ·have hk':k=WV w.s w.f:=by
   rcases Nat.lt_or_ge k (WV w.s w.f) with hh|hh
   ·have:=hlt.1 hh
    simp at hb;omega
   ·omega
  subst hk'
  refine Wk ?_
  exact ze.mk rfl (za.of_eq (by rw[xl,hup];rfl))
theorem zcG (n:zF)(s:zc)(f:zf)(r:List Int)(hn:n.small)(hc:s.cells.length≤281474976710656)(hr:r.length≤281474976710656) :
  zb Tryz.prog LW 216 [n.av,s.av,f.av,zp r] (.tup [.int .i64 (yv n s f r).1,.int .i64 (yv n s f r).2.1,zp (yv n s f r).2.2.1,.int .i64 (yv n s f r).2.2.2]):=by
 refine zb.intro mixed [] (nt:=40) Tryz.func216 rfl rfl (by simp) ?_
 refine Wk ?_
 refine cD (zcr ⟨n,s,f,r,0⟩ hn hc hr) ?_
 refine Wk ?_
 refine zx.mk (fun h1=>?_) (fun h1=>?_)<;>(try rw[h1])
 ·refine Wk ?_
  exact ze.mk rfl (za.of_eq (by rw[yv,if_pos (by simpa using h1)];rfl))
 have h1':vx n s f r=0:=by simpa using h1
 have hn0:=za9 h1'
 have e1:¬vx n s f r≠0:=by simpa using h1'
 refine Wk ?_
 refine cD (zex ⟨n,s,f,r,0⟩ hn (Y4 h1') hn0 (Int.le_refl _) (by show(0:Int)≤8;omega)) ?_
 cases hB:xl n s f r 0 with
 | none=>
  refine Wk ?_
  exact ze.mk rfl (za.of_eq (by rw[yv,if_neg e1,hB];rfl))
 | some x=>
  refine Wk ?_
  exact ze.mk rfl (za.of_eq (by rw[yv,if_neg e1,hB];rfl))
section
variable (L:World→Prop)
end
section
variable (L:World→Prop)
def zkF (n:zF)(s:zc)(f:zf):List Ob:=[.cells [.int .i64 n.nodes,zZ n.power,.int .i64 n.noise,.int .i64 n.thr,wl n.links,zp n.margin] 26,.cells [.int .i64 s.len,.int .i64 s.offs,zy s.cells] 30,.cells [.int .i64 f.id,.int .i64 f.src,.int .i64 f.dst,.int .i64 f.period,.int .i64 f.phase,.int .i64 f.dead] 46]
end
section
variable (L:World→Prop)
end
section
variable (L:World→Prop)
end
section
variable (L:World→Prop)
end
section
variable (L:World→Prop)
def zcg (n:zF):Bool:=!(n.power.any fun r=>decide ((40:Int) < r.length))&&decide ((n.power.length:Int)≤8)&&decide ((n.links.length:Int)≤60)&&decide ((n.margin.length:Int)≤60)
theorem zeC (n:zF)(hn:n.small):zb Tryz.prog L 107 [n.av] (.bool (zcg n)):=by
 have hn1:=hn.1
 refine zb.intro mixed [] (nt:=34) Tryz.func107 rfl rfl (by simp) ?_
 refine Wk ?_
 refine zt.run mixed [] (fun (k:Nat)=>k≤n.power.length∧∀j x,j < k→n.power[j]? = some x→¬(40:Int) < x.length) (fun k=>[(1,.ptr 0 0),(3,.int .i64 k)]) (fun k=>⟨[.cells [.int .i64 n.nodes,zZ n.power,.int .i64 n.noise,.int .i64 n.thr,wl n.links,zp n.margin] 26],[],0,0,fun _=>0⟩) (fun k=>n.power.length-k) 0 ⟨by simp,by simp⟩ ?_ ?_
 ·refine fN ?_<;>repeat' (first|exact fQ|refine And.intro ?_ ?_|exact zn.zj _)
 rintro k ⟨hk,hinv⟩
 refine Wk ?_
 refine zx.mk (fun h1=>?_) (fun h1=>?_)<;>(try rw[h1])
 ·have hlt:k < n.power.length:=by simpa using h1
  obtain⟨r,hgr⟩:=zr hlt
  have hmr:=zk (f:=fun r:List Int=>zp r) hgr
  repeat((conv=>whnf);first|refine sJ ?_|refine aI (by first|exact zh hlt|kernel_rfl) ?_|rw[hmr])
  try(conv=>whnf)
  refine zx.mk (fun h2=>?_) (fun h2=>?_)<;>(try rw[h2])
  ·have h2':(40:Int) < r.length:=by simpa using h2
   refine Wk ?_
   exact ze.mk rfl (za.bool (by rw[zcg,show(n.power.any fun r=>decide ((40:Int) < r.length))=true from List.any_eq_true.2 ⟨r,List.mem_of_getElem? hgr,by simpa using h2'⟩];rfl))
  ·have h2':¬(40:Int) < r.length:=by simpa using h2
   refine Wk ?_
   refine⟨k+1,⟨by omega,fun j x hj hx=>?_⟩,by omega,?_⟩
   ·rcases Nat.lt_succ_iff_lt_or_eq.1 hj with hj|rfl
    ·exact hinv j x hj hx
    ·rw[hgr]at hx;injection hx with hx;subst hx;exact h2'
   ·refine fN ?_<;>repeat' (first|exact fQ|refine And.intro ?_ ?_|exact zn.zj _|exact za.int (zu hlt (by omega)))
 ·have hkl:k=n.power.length:=by simp at h1;omega
  have hany:(n.power.any fun r=>decide ((40:Int) < r.length))=false:=by
   rw[List.any_eq_false]
   intro x hx
   obtain⟨j,hj⟩:=List.getElem?_of_mem hx
   simpa using hinv j x (by have:=(List.getElem?_eq_some_iff.1 hj).1;omega) hj
  refine Wk ?_
  repeat' ((conv=>whnf);first|refine sI ?_  | (refine zx.mk (fun hb=>?_) (fun hb=>?_)<;>try rw[hb]))
  all_goals try(conv=>whnf)
  all_goals exact ze.mk rfl (za.bool (by rw[zcg,hany];simp_all<;>omega))
def XI (n:zF)(s:zc)(l:List (List Int)):Bool:=!(l.any fun r=>decide ((12:Int) < r.length))&&(zcg n&&decide ((s.cells.length:Int)≤24)&&decide ((l.length:Int)≤3))
theorem zi8 (n:zF)(s:zc)(l:List (List Int))(hn:n.small)(hl:l.length≤281474976710656):zb Tryz.prog L 106 [n.av,s.av,zZ l] (.bool (XI n s l)):=by
 refine zb.intro mixed [] (nt:=33) Tryz.func106 rfl rfl (by simp) ?_
 refine Wk ?_
 refine zt.run mixed [] (fun (k:Nat)=>k≤l.length∧∀j x,j < k→l[j]? = some x→¬(12:Int) < x.length) (fun k=>[(2,zZ l),(3,.ptr 0 0),(4,.ptr 1 0),(7,.int .i64 k)]) (fun k=>⟨[.cells [.int .i64 n.nodes,zZ n.power,.int .i64 n.noise,.int .i64 n.thr,wl n.links,zp n.margin] 26,.cells [.int .i64 s.len,.int .i64 s.offs,zy s.cells] 30],[],0,0,fun _=>0⟩) (fun k=>l.length-k) 0 ⟨by simp,by simp⟩ ?_ ?_
 ·refine fN ?_<;>repeat' (first|exact fQ|refine And.intro ?_ ?_|exact zn.zj _)
 rintro k ⟨hk,hinv⟩
 refine Wk ?_
 refine zx.mk (fun h1=>?_) (fun h1=>?_)<;>(try rw[h1])
 ·have hlt:k < l.length:=by simpa using h1
  obtain⟨r,hgr⟩:=zr hlt
  have hmr:=zk (f:=fun r:List Int=>zp r) hgr
  repeat((conv=>whnf);first|refine sJ ?_|refine aI (by first|exact zh hlt|kernel_rfl) ?_|rw[hmr])
  try(conv=>whnf)
  refine zx.mk (fun h2=>?_) (fun h2=>?_)<;>(try rw[h2])
  ·have h2':(12:Int) < r.length:=by simpa using h2
   refine Wk ?_
   exact ze.mk rfl (za.bool (by rw[XI,show(l.any fun r=>decide ((12:Int) < r.length))=true from List.any_eq_true.2 ⟨r,List.mem_of_getElem? hgr,by simpa using h2'⟩];rfl))
  ·have h2':¬(12:Int) < r.length:=by simpa using h2
   refine Wk ?_
   refine⟨k+1,⟨by omega,fun j x hj hx=>?_⟩,by omega,?_⟩
   ·rcases Nat.lt_succ_iff_lt_or_eq.1 hj with hj|rfl
    ·exact hinv j x hj hx
    ·rw[hgr]at hx;injection hx with hx;subst hx;exact h2'
   ·refine fN ?_<;>repeat' (first|exact fQ|refine And.intro ?_ ?_|exact zn.zj _|exact za.int (zu hlt (by omega)))
 ·have hkl:k=l.length:=by simp at h1;omega
  have hany:(l.any fun r=>decide ((12:Int) < r.length))=false:=by
   rw[List.any_eq_false]
   intro x hx
   obtain⟨j,hj⟩:=List.getElem?_of_mem hx
   simpa using hinv j x (by have:=(List.getElem?_eq_some_iff.1 hj).1;omega) hj
  refine Wk ?_
  refine cD (zeC L n hn) ?_
  repeat' ((conv=>whnf);first|refine sI ?_  | (refine zx.mk (fun hb=>?_) (fun hb=>?_)<;>try rw[hb]))
  all_goals try(conv=>whnf)
  all_goals exact ze.mk rfl (za.bool (by rw[XI,hany];simp_all<;>omega))
end
section
variable (L:World→Prop)
end
theorem zhH (n:zF)(s:zc)(f:zf)(l:List (List Int))(hn:n.small)(hc:s.cells.length≤281474976710656)(hr:∀r∈l,r.length≤281474976710656)(hl0:l.length≤281474976710656) :
  zb Tryz.prog LW 114 [n.av,s.av,f.av,zZ l] (.tup [.int .i64 (xP n s f l).1,.int .i64 (xP n s f l).2]):=by
 refine zb.intro mixed [] (nt:=71) Tryz.func114 rfl rfl (by simp) ?_
 refine Wk ?_
 refine zx.mk (fun h0=>?_) (fun h0=>?_)<;>(try rw[h0])
 ·have h0':l.length=0:=by simpa using h0
  refine Wk ?_
  exact ze.mk rfl (za.of_eq (by rw[xP,if_pos h0']))
 have h0':¬l.length=0:=by simpa using h0
 refine Wk ?_
 refine zt.run mixed [] (fun (k:Nat)=>k≤l.length∧∀j x,j < k→l[j]? = some x→vx n s f x=0) (fun k=>[(3,zZ l),(4,.ptr 0 0),(5,.ptr 1 0),(6,.ptr 2 0),(23,zZ l),(24,.int .i64 l.length),(25,.int .i64 k)]) (fun k=>⟨zkF n s f,[],0,0,fun _=>0⟩) (fun k=>l.length-k) 0 ⟨by simp,by simp⟩ ?_ ?_
 ·refine fN ?_<;>repeat' (first|exact fQ|refine And.intro ?_ ?_|exact zn.zj _|exact za.int (by simp))
 rintro k ⟨hk,hinv⟩
 refine Wk ?_
 refine zx.mk (fun h1=>?_) (fun h1=>?_)<;>(try rw[h1])
 ·have hlt:k < l.length:=by simpa using h1
  obtain⟨r,hgr⟩:=zr hlt
  have hmr:=zk (f:=fun r:List Int=>zp r) hgr
  have hrm:=hr r (List.mem_of_getElem? hgr)
  repeat((conv=>whnf);first|refine sJ ?_|refine aI (by first|exact zh hlt|kernel_rfl) ?_|rw[hmr])
  try(conv=>whnf)
  refine cD (zcr ⟨n,s,f,r,0⟩ hn hc hrm) ?_
  refine Wk ?_
  refine zx.mk (fun h2=>?_) (fun h2=>?_)<;>(try rw[h2])
  ·have hw:vx n s f r≠0:=by simpa using h2
   have hfw:=Ky hgr hinv hw
   refine Wk ?_
   exact ze.mk rfl (za.of_eq (by rw[xP,if_neg h0',if_pos (by rw[hfw];exact hw),hfw]))
  ·have hw:vx n s f r=0:=by simpa using h2
   refine Wk ?_
   refine⟨k+1,⟨by omega,fun j x hj hx=>?_⟩,by omega,?_⟩
   ·rcases Nat.lt_succ_iff_lt_or_eq.1 hj with hj|rfl
    ·exact hinv j x hj hx
    ·rw[hgr]at hx;injection hx with hx;subst hx;exact hw
   ·refine fN ?_<;>repeat' (first|exact fQ|refine And.intro ?_ ?_|exact zn.zj _|exact za.int (zu hlt (by omega)))
 ·have hkl:k=l.length:=by simp at h1;omega
  subst hkl
  have hall:∀j x,l[j]? = some x→vx n s f x=0:=fun j x hx=>hinv j x (List.getElem?_eq_some_iff.1 hx).1 hx
  have hfw:jA n s f l=0:=Zv hall
  clear hinv
  refine Wk ?_
  refine zt.run mixed [] (fun (j:Nat)=>j≤l.length) (fun j=>[(4,.ptr 0 0),(5,.ptr 1 0),(6,.ptr 2 0),(13,.int .i64 (ws n s f (l.take j))),(39,zZ l),(40,.int .i64 l.length),(41,.int .i64 j)]) (fun j=>⟨zkF n s f,[],0,0,fun _=>0⟩) (fun j=>l.length-j) 0 (by simp) ?_ ?_
  ·refine fN ?_<;>repeat' (first|exact fQ|refine And.intro ?_ ?_|exact zn.zj _|exact za.int (by simp))
  rintro k hk
  refine Wk ?_
  refine zx.mk (fun h1=>?_) (fun h1=>?_)<;>(try rw[h1])
  ·have hlt:k < l.length:=by simpa using h1
   obtain⟨r,hgr⟩:=zr hlt
   have hmr:=zk (f:=fun r:List Int=>zp r) hgr
   have hw:=hall k r hgr
   have hF:=zbS (n:=n) (s:=s) (f:=f) hgr
   repeat((conv=>whnf);first|refine sJ ?_|refine aI (by first|exact zh hlt|kernel_rfl) ?_|rw[hmr])
   try(conv=>whnf)
   refine cD (zex ⟨n,s,f,r,0⟩ hn (Y4 hw) (za9 hw) (Int.le_refl _) (by show(0:Int)≤8;omega)) ?_
   cases hB:xl n s f r 0 with
   | none=>
    have hS:wR n s f (ws n s f (l.take k)) r=ws n s f (l.take k):=by rw[wR,hB]
    refine Wk ?_
    refine⟨k+1,by omega,by omega,?_⟩
    refine fN ?_<;>repeat' (first|exact fQ|refine And.intro ?_ ?_|exact zn.zj _|exact za.int (zu hlt (by omega))|exact za.int (by rw[hF,hS]))
   | some x=>
    have hS:wR n s f (ws n s f (l.take k)) r=if ws n s f (l.take k)=0∨x.b < ws n s f (l.take k) then x.b else ws n s f (l.take k):=by rw[wR,hB]
    refine Wk ?_
    refine zx.mk (fun h2=>?_) (fun h2=>?_)<;>(try rw[h2])
    ·rw[if_pos (.inl (by simpa using h2))]at hS
     refine Wk ?_
     refine⟨k+1,by omega,by omega,?_⟩
     refine fN ?_<;>repeat' (first|exact fQ|refine And.intro ?_ ?_|exact zn.zj _|exact za.int (zu hlt (by omega))|exact za.int (by rw[hF,hS]))
    ·refine Wk ?_
     refine zx.mk (fun h3=>?_) (fun h3=>?_)<;>(try rw[h3])
     ·rw[if_pos (.inr (by simpa using h3))]at hS
      refine Wk ?_
      refine⟨k+1,by omega,by omega,?_⟩
      refine fN ?_<;>repeat' (first|exact fQ|refine And.intro ?_ ?_|exact zn.zj _|exact za.int (zu hlt (by omega))|exact za.int (by rw[hF,hS]))
     ·rw[if_neg (by simp at h2 h3;omega)]at hS
      refine Wk ?_
      refine⟨k+1,by omega,by omega,?_⟩
      refine fN ?_<;>repeat' (first|exact fQ|refine And.intro ?_ ?_|exact zn.zj _|exact za.int (zu hlt (by omega))|exact za.int (by rw[hF,hS]))
  ·have hkl:k=l.length:=by simp at h1;omega
   subst hkl
   rw[List.take_length]
   refine Wk ?_
   refine zx.mk (fun h2=>?_) (fun h2=>?_)<;>(try rw[h2])
   ·have h2':ws n s f l=0:=by simpa using h2
    refine Wk ?_
    exact ze.mk rfl (za.of_eq (by rw[xP,if_neg h0',if_neg (by simpa using hfw),if_pos h2']))
   ·have h2':ws n s f l≠0:=by simpa using h2
    refine Wk ?_
    exact ze.mk rfl (za.of_eq (by rw[xP,if_neg h0',if_neg (by simpa using hfw),if_neg h2']))
end HM
