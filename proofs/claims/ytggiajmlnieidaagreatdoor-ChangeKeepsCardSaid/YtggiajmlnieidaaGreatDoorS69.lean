/- Scripts: the definition of Check; the guard. -/
import Derived.Test.YtggiajmlnieidaaGreatDoorS30
import Derived.Test.YtggiajmlnieidaaGreatDoorS70
import Derived.Test.YtggiajmlnieidaaGreatDoorFh
import Derived.Test.YtggiajmlnieidaaGreatDoorDa
import Derived.Test.YtggiajmlnieidaaGreatDoorS79
import Derived.Test.YtggiajmlnieidaaGreatDoorS93
import Derived.Test.YtggiajmlnieidaaGreatDoorDb
import Derived.Shelf.Small.Wraps
import Derived.Handy
import Derived.Deep.RegionHeld3
set_option maxHeartbeats 64000000
set_option maxRecDepth 100000
namespace HM
open Go Go.RowKit Go.Proofs
section
variable (L:World→Prop)
end
section
variable (L:World→Prop)
end
section
variable (L:World→Prop)
theorem zhD (f:zf)(frame:Int):zb Tryz.prog L 37 [f.av,.int .i64 frame] (.tup [.int .i64 (zc2 f frame).1.1,.int .i64 (zc2 f frame).1.2,.int .i64 (zc2 f frame).2]):=by
 refine zb.intro mixed [] (nt:=24) Tryz.func37 rfl rfl (by simp) ?_
 refine Wk ?_
 refine cD (zkh L f frame) ?_
 refine Wk ?_
 refine zx.mk (fun h1=>?_) (fun h1=>?_)<;>(try rw[h1])
 ·refine Wk ?_
  exact ze.mk rfl (za.of_eq (by rw[zc2,if_pos (by simpa using h1)]))
 have h1':(jt f frame).2=0:=by simpa using h1
 have hb:0≤(jt f frame).1∧(jt f frame).1≤1099511627776∧yo 32 f=0:=by
  unfold jt at h1' ⊢
  split at h1'
  ·cases h1'
  split at h1'
  ·cases h1'
  rename_i g1 g2
  rw[if_neg g1,if_neg g2]
  have hf:yo 32 f=0:=by simpa using g1
  obtain⟨q1,q2,q3,q4,q5,q6,q7,q8,q9,q10,q11,q12,q13⟩:=yB hf
  have hm0:0≤frame*f.period:=Int.mul_nonneg (by omega) (by omega)
  exact⟨by simp only;omega,by simp only;omega,hf⟩
 obtain⟨b1,b2,b3⟩:=hb
 obtain⟨q1,q2,q3,q4,q5,q6,q7,q8,q9,q10,q11,q12,q13⟩:=yB b3
 have hw1:IntKind.i64.wrap ((jt f frame).1+f.period)=(jt f frame).1+f.period:=xw (by omega) (by omega)
 have hw2:IntKind.i64.wrap ((jt f frame).1+f.period-1)=(jt f frame).1+f.period-1:=xw (by omega) (by omega)
 repeat((conv=>whnf);first|refine sT ?_|rw[hw1]|rw[hw2])
 try(conv=>whnf)
 exact ze.mk rfl (za.of_eq (by rw[zc2,if_neg (by omega)]))
end
structure RB where
 a:Int
 b:Int
 c:Int
 d:Int
 p:Option Addr
 n:Nat
 m:Nat
instance:Inhabited RB:=⟨⟨0,0,0,0,none,0,0⟩⟩
def RB.enc (x:RB):List Value:=[.int .i64 x.a,.int .i64 x.b,.int .i64 x.c,.int .i64 x.d,.slice x.p x.n x.m]
def or4 (a b c d:Int):Int:=if a≠0 then a else if b≠0 then b else if c≠0 then c else d
def cfB (x y:RB):Int:=or4 (Lib.compareInt x.a y.a) (Lib.compareInt x.b y.b) (Lib.compareInt x.c y.c) (Lib.compareInt x.d y.d)
theorem zkK (p q:Nat)(a b c d:Int)(w:World)(h0:w.cell? ⟨p,q,none⟩=some (.int .i64 a))(h1:w.cell? ⟨p,q+1,none⟩=some (.int .i64 b))(h2:w.cell? ⟨p,q+2,none⟩=some (.int .i64 c))(h3:w.cell? ⟨p,q+3,none⟩=some (.int .i64 d)) :
  Calls Tryz.prog 91 #[.slice (some ⟨p,q,none⟩) 4 4] w fun e w'=>e=.returned (.int .i64 (or4 a b c d))∧w'=w:=by
 go_enter Tryz.func91,Tryz.ntmps91
 go_wp2
 go_rounds 5
 all_goals go_returns
 all_goals exact⟨by show Ending.returned (.int .i64 _)=_;simp_all[or4],rfl⟩
theorem kC (w:World)(arr:Array Value)(t:TypeId)(b j:Nat)(v:Value)(hb:b=w.heap.size)(h:arr[j]? = some v):(w.alloc (.cells arr t (0,0))).drew.cell? ⟨b,j,none⟩=some v:=by
 subst hb
 unfold World.cell? World.drew
 simp only
 rw[heap_alloc_new]
 exact h
theorem zd5 (W:World)(o1 o2:Obj): W.heap.size+1+1=((W.alloc o1).alloc o2).heap.size:=by
 unfold World.alloc
 rw[Array.size_push,Array.size_push]
theorem zj3 (W:World)(o1 o2:Obj)(a b c d:Int)(t:TypeId):Calls Tryz.prog 91 #[.slice (some ⟨W.heap.size+1+1,0,none⟩) 4 4] (((W.alloc o1).alloc o2).alloc (.cells #[.int .i64 a,.int .i64 b,.int .i64 c,.int .i64 d] t (0,0))).drew fun e w'=>e=.returned (.int .i64 (or4 a b c d))∧w'=(((W.alloc o1).alloc o2).alloc (.cells #[.int .i64 a,.int .i64 b,.int .i64 c,.int .i64 d] t (0,0))).drew:=
 zkK _ 0 a b c d _ (kC _ _ _ _ _ _ (zd5 _ _ _) rfl) (kC _ _ _ _ _ _ (zd5 _ _ _) rfl) (kC _ _ _ _ _ _ (zd5 _ _ _) rfl) (kC _ _ _ _ _ _ (zd5 _ _ _) rfl)
theorem zj5 (x y:RB)(W:World):Calls Tryz.prog 90 #[.agg x.enc.toArray,.agg y.enc.toArray] W fun e w'=>e=.returned (.int .i64 (cfB x y))∧∃q os',w'=Go.Sort.grow (W.drewN q) os':=by
 unfold cfB RB.enc
 go_enter Tryz.func90,Tryz.ntmps90
 go_wp2
 go_region_held3 (fun w'=>w'.cell? ⟨W.heap.size,0,none⟩=some (.int .i64 x.a)∧w'.cell? ⟨W.heap.size,1,none⟩=some (.int .i64 x.b)∧w'.cell? ⟨W.heap.size,2,none⟩=some (.int .i64 x.c)∧w'.cell? ⟨W.heap.size,3,none⟩=some (.int .i64 x.d)∧w'.cell? ⟨W.heap.size+1,0,none⟩=some (.int .i64 y.a)∧w'.cell? ⟨W.heap.size+1,1,none⟩=some (.int .i64 y.b)∧w'.cell? ⟨W.heap.size+1,2,none⟩=some (.int .i64 y.c)∧w'.cell? ⟨W.heap.size+1,3,none⟩=some (.int .i64 y.d)) (go_keep)
  (first
   | (go_at_call 92;refine(Tryz.cmp_Compare_int _ _ _).mono ?_;rintro e w' ⟨rfl,rfl⟩)
   | (go_at_call 91;refine(zj3 W _ _ _ _ _ _ _).mono ?_;rintro e w' ⟨rfl,rfl⟩))
 go_wp2
 go_ret
 exact⟨rfl,1,_,by rw[Go.Sort.alloc_eq_grow,Go.Sort.alloc_eq_grow,Go.Sort.alloc_eq_grow,Go.Sort.grow_grow,Go.Sort.grow_grow];rfl⟩
def RB.key (x:RB):List Int:=[x.a,x.b,x.c,x.d]
theorem zhn (x y:Int):Lib.compareInt x y=qy x y:=rfl
theorem ziR (x y:RB):cfB x y=xt x.key y.key:=by
 unfold cfB RB.key or4
 simp only[xt,zhn]
 by_cases h1:qy x.a y.a=0
 ·by_cases h2:qy x.b y.b=0
  ·by_cases h3:qy x.c y.c=0
   ·by_cases h4:qy x.d y.d=0<;>simp[h1,h2,h3,h4]
   ·simp[h1,h2,h3]
  ·simp[h1,h2]
 ·simp[h1]
theorem Vw (p q:xL×RB):ltOf (fun p q:xL×RB=>cfB p.2 q.2) p q=decide (xt p.2.key q.2.key < 0):=by
 unfold ltOf
 simp only[ziR]
theorem swoB:Go.Sort.SWO (ltOf fun p q:xL×RB=>cfB p.2 q.2) where
 irrefl x:=by rw[Vw,vt.2 rfl];rfl
 trans x y z h1 h2:=by
  rw[Vw]at *
  simp only[decide_eq_true_eq]at *
  exact y7 h1 h2
 ntrans x y z h1 h2:=by
  rw[Vw]at *
  simp only[decide_eq_false_iff_not]at *
  intro h3
  rcases Int.lt_trichotomy (xt x.2.key y.2.key) 0 with h|h|h
  ·exact h1 h
  ·rw[vt.1 h]at h3;exact h2 h3
  ·exact h2 (y7 (Z5.2 h) h3)
def zkT (p:xL×RB):Prop:=p.2.key=p.1.key
theorem xL.JA (G:Gh)(fr:yC)(w:World)(x:xL)(vs:List Value)(h:zI G fr w x.av.cells vs):∃y:RB,vs=RB.enc y∧zkT (x,y):=by
 simp only[xL.av,AV.cells,zI,VR,zp]at h
 obtain⟨u,us,rfl,rfl,u2,us2,rfl,rfl,u3,us3,rfl,rfl,u4,us4,rfl,rfl,u5,us5,rfl,⟨A,c,rfl,_⟩,rfl⟩:=h
 exact⟨⟨x.flow,x.frame,x.src,x.dst,A,_,c⟩,rfl,rfl⟩
instance:Inhabited xL:=⟨⟨0,0,0,0,[]⟩⟩
theorem zit (blk off cap:Nat)(d:Array (xL×RB))(w:World)(hH:Go.Sort.HoldsK (fun p:xL×RB=>p.2.enc) 5 w blk off d)(hblk:blk < w.heap.size)(hsz:d.size < 4611686018427387904) :
  Calls Tryz.prog 89 #[.slice (some ⟨blk,off,none⟩) d.size cap,.func (.func 90) #[] #[]] w fun e w'=>e=.returned (.tuple #[])∧∃d' n os,Go.Sort.PermIn 0 d.size d d'∧Go.Sort.SortedIn (ltOf fun p q:xL×RB=>cfB p.2 q.2) 0 d.size d'∧w'=sortWorldK (fun p:xL×RB=>p.2.enc) 5 w blk off n d' os:=
 AnyQ.slices_SortFunc Tryz.zhT 5 Tryz.isAgg86 Tryz.sizeOf86 (fun p:xL×RB=>p.2.enc) (fun _=>rfl) (fun x v hv=>by simp[RB.enc]at hv;rcases hv with rfl|rfl|rfl|rfl|rfl<;>rfl) (fun p q:xL×RB=>cfB p.2 q.2) swoB 90 #[] blk off cap d w
  (enters_of Tryz.func90 (by kernel_rfl) rfl) (fun _ _ _ _ x y=>zj5 x.2 y.2 _) hH hblk hsz
theorem zbW (p:Option Addr)(cap:Nat)(fv:Value)(w:World):Calls Tryz.prog 89 #[.slice p 0 cap,fv] w fun e w'=>e=.returned (.tuple #[])∧w'=w:=
 AnyF.slices_SortFunc_none Tryz.zhT p cap fv w
theorem ziA {L:World→Prop}{S:St}{id:Nat}{ex:List AV}{ds:List xL}{ty:TypeId}(hb:S.bx[id]? = some (.cells (zd (ds.map xL.av)++ex) ty))(hl:ds.length < 4611686018427387904){K:AV→St→Prop}
  (hK:∀ds':List xL,ds'.Perm ds→(ds'.Pairwise fun a b=>¬Kh b a)→K (.tup []) (S.setB id (.cells (zd (ds'.map xL.av)++ex) ty))):zQ Tryz.prog L 89 [.vsl id 0 ds.length 5,.fn 90 []] S K:=
 zQ.zjH (k:=5) (α:=xL) (β:=RB) (av:=xL.av) (enc:=fun p=>p.2.enc) (lt:=ltOf fun p q:xL×RB=>cfB p.2 q.2) (R:=zkT) (ltA:=fun a b=>decide (xt a.key b.key < 0)) (pre:=[]) (by decide) (fun _=>rfl) xL.JA (fun p q hp hq=>by rw[Vw,hp,hq]) zit zbW (by simpa using hb) hl rfl rfl fun ds' h1 h2=>by
  have:=hK ds' h1 (h2.imp fun h=>by simpa[Kh] using h)
  simpa using this
end HM
