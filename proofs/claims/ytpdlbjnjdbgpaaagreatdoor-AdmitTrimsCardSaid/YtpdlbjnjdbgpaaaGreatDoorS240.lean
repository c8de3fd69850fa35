/- Sorting cells. -/
import Derived.Test.YtpdlbjnjdbgpaaaGreatDoorS92
import Derived.Test.YtpdlbjnjdbgpaaaGreatDoorDd
import Derived.Test.YtpdlbjnjdbgpaaaGreatDoorSh
import Derived.Test.YtpdlbjnjdbgpaaaGreatDoorFh
import Derived.Shelf.Small.Wraps
import Derived.Handy
import Derived.Deep.RegionHeld3
import Derived.Test.YtpdlbjnjdbgpaaaGreatDoorS217
import Derived.Test.YtpdlbjnjdbgpaaaGreatDoorS64
set_option maxHeartbeats 64000000
set_option maxRecDepth 100000
namespace HM
open Go Go.RowKit Go.Proofs
instance:Inhabited Cell:=⟨⟨0,0,0,0,0⟩⟩
def Cell.enc (x:Cell):List Value:=[.int .i64 x.slot,.int .i64 x.off,.int .i64 x.src,.int .i64 x.dst,.int .i64 x.flow]
theorem Cell.enc_ok (G:Gh)(fr:Frs)(w:World)(x:Cell)(vs:List Value):VRs G fr w x.av.cells vs↔vs=x.enc:=by
 simp only[Cell.av,AV.cells,VRs,VR,Cell.enc]
 constructor
 ·rintro⟨u,us,rfl,rfl,u2,us2,rfl,rfl,u3,us3,rfl,rfl,u4,us4,rfl,rfl,u5,us5,rfl,rfl,rfl⟩;rfl
 ·rintro rfl
  exact⟨_,_,rfl,rfl,_,_,rfl,rfl,_,_,rfl,rfl,_,_,rfl,rfl,_,_,rfl,rfl,rfl⟩
def or5 (a b c d e:Int):Int:=if a≠0 then a else if b≠0 then b else if c≠0 then c else if d≠0 then d else e
def cfE (x y:Cell):Int:=or5 (Lib.compareInt x.slot y.slot) (Lib.compareInt x.off y.off) (Lib.compareInt x.src y.src) (Lib.compareInt x.dst y.dst) (Lib.compareInt x.flow y.flow)
theorem cmpI_libE (x y:Int):Lib.compareInt x y=cmpI x y:=rfl
theorem cfE_cmp (x y:Cell):cfE x y=x.cmp y:=by
 rw[←orI_cmp]
 unfold cfE or5
 simp only[cmpI_libE,orI]
 repeat' split
 all_goals first|rfl|omega|(simp_all;done)
theorem ltE_cmp (x y:Cell):ltOf cfE x y=decide (x.cmp y < 0):=by
 unfold ltOf
 rw[cfE_cmp]
theorem swoE:Go.Sort.SWO (ltOf cfE) where
 irrefl x:=by rw[ltE_cmp];unfold Cell.cmp;rw[cmpL_eq.2 rfl];rfl
 trans x y z h1 h2:=by
  rw[ltE_cmp]at *
  simp only[decide_eq_true_eq]at *
  exact cmpL_trans h1 h2
 ntrans x y z h1 h2:=by
  rw[ltE_cmp]at *
  simp only[decide_eq_false_iff_not]at *
  intro h3
  rcases Int.lt_trichotomy (x.cmp y) 0 with h|h|h
  ·exact h1 h
  ·unfold Cell.cmp at *
   rw[cmpL_eq.1 h]at h3;exact h2 h3
  ·exact h2 (cmpL_trans (cmpL_anti.2 h) h3)
theorem k_or5 (p q:Nat)(a b c d e:Int)(w:World)(h0:w.cell? ⟨p,q,none⟩=some (.int .i64 a))(h1:w.cell? ⟨p,q+1,none⟩=some (.int .i64 b))(h2:w.cell? ⟨p,q+2,none⟩=some (.int .i64 c))(h3:w.cell? ⟨p,q+3,none⟩=some (.int .i64 d))(h4:w.cell? ⟨p,q+4,none⟩=some (.int .i64 e)) :
  Calls Tryz.prog 60 #[.slice (some ⟨p,q,none⟩) 5 5] w fun r w'=>r=.returned (.int .i64 (or5 a b c d e))∧w'=w:=by
 go_enter Tryz.func60,Tryz.ntmps60
 go_wp2
 go_rounds 6
 all_goals go_returns
 all_goals exact⟨by show Ending.returned (.int .i64 _)=_;simp_all[or5],rfl⟩
theorem cell_newE (w:World)(arr:Array Value)(t:TypeId)(b j:Nat)(v:Value)(hb:b=w.heap.size)(h:arr[j]? = some v):(w.alloc (.cells arr t (0,0))).drew.cell? ⟨b,j,none⟩=some v:=by
 subst hb
 unfold World.cell? World.drew
 simp only
 rw[heap_alloc_new]
 exact h
theorem sizeE2 (W:World)(o1 o2:Obj): W.heap.size+1+1=((W.alloc o1).alloc o2).heap.size:=by
 unfold World.alloc
 rw[Array.size_push,Array.size_push]
theorem k_or5n (W:World)(o1 o2:Obj)(a b c d e:Int)(t:TypeId):Calls Tryz.prog 60 #[.slice (some ⟨W.heap.size+1+1,0,none⟩) 5 5] (((W.alloc o1).alloc o2).alloc (.cells #[.int .i64 a,.int .i64 b,.int .i64 c,.int .i64 d,.int .i64 e] t (0,0))).drew fun r w'=>r=.returned (.int .i64 (or5 a b c d e))∧w'=(((W.alloc o1).alloc o2).alloc (.cells #[.int .i64 a,.int .i64 b,.int .i64 c,.int .i64 d,.int .i64 e] t (0,0))).drew:=
 k_or5 _ 0 a b c d e _ (cell_newE _ _ _ _ _ _ (sizeE2 _ _ _) rfl) (cell_newE _ _ _ _ _ _ (sizeE2 _ _ _) rfl) (cell_newE _ _ _ _ _ _ (sizeE2 _ _ _) rfl) (cell_newE _ _ _ _ _ _ (sizeE2 _ _ _) rfl) (cell_newE _ _ _ _ _ _ (sizeE2 _ _ _) rfl)
theorem k_cmpCe (x y:Cell)(W:World):Calls Tryz.prog 25 #[.agg x.enc.toArray,.agg y.enc.toArray] W fun e w'=>e=.returned (.int .i64 (cfE x y))∧∃q os',w'=Go.Sort.grow (W.drewN q) os':=by
 unfold cfE Cell.enc
 go_enter Tryz.func25,Tryz.ntmps25
 go_wp2
 go_region_held3 (fun w'=>w'.cell? ⟨W.heap.size,0,none⟩=some (.int .i64 x.slot)∧w'.cell? ⟨W.heap.size,1,none⟩=some (.int .i64 x.off)∧w'.cell? ⟨W.heap.size,2,none⟩=some (.int .i64 x.src)∧w'.cell? ⟨W.heap.size,3,none⟩=some (.int .i64 x.dst)∧w'.cell? ⟨W.heap.size,4,none⟩=some (.int .i64 x.flow)∧w'.cell? ⟨W.heap.size+1,0,none⟩=some (.int .i64 y.slot)∧w'.cell? ⟨W.heap.size+1,1,none⟩=some (.int .i64 y.off)∧w'.cell? ⟨W.heap.size+1,2,none⟩=some (.int .i64 y.src)∧w'.cell? ⟨W.heap.size+1,3,none⟩=some (.int .i64 y.dst)∧w'.cell? ⟨W.heap.size+1,4,none⟩=some (.int .i64 y.flow)) (go_keep)
  (first
   | (go_at_call 61;refine(Tryz.cmp_Compare_int _ _ _).mono ?_;rintro e w' ⟨rfl,rfl⟩)
   | (go_at_call 60;refine(k_or5n W _ _ _ _ _ _ _ _).mono ?_;rintro e w' ⟨rfl,rfl⟩))
 go_wp2
 go_ret
 exact⟨rfl,1,_,by rw[Go.Sort.alloc_eq_grow,Go.Sort.alloc_eq_grow,Go.Sort.alloc_eq_grow,Go.Sort.grow_grow,Go.Sort.grow_grow];rfl⟩
theorem k_sortCe (blk off cap:Nat)(d:Array (Cell×Unit))(w:World)(hH:Go.Sort.HoldsK (fun p:Cell×Unit=>p.1.enc) 5 w blk off d)(hblk:blk < w.heap.size)(hsz:d.size < 4611686018427387904) :
  Calls Tryz.prog 24 #[.slice (some ⟨blk,off,none⟩) d.size cap,.func (.func 25) #[] #[]] w fun e w'=>e=.returned (.tuple #[])∧∃d' n os,Go.Sort.PermIn 0 d.size d d'∧Go.Sort.SortedIn (fun p q:Cell×Unit=>ltOf cfE p.1 q.1) 0 d.size d'∧w'=sortWorldK (fun p:Cell×Unit=>p.1.enc) 5 w blk off n d' os:=
 AnyQ.slices_SortFunc Tryz.sort24 5 Tryz.isAgg63 Tryz.sizeOf63 (fun p:Cell×Unit=>p.1.enc) (fun _=>rfl) (fun x v hv=>by simp[Cell.enc]at hv;rcases hv with rfl|rfl|rfl|rfl|rfl<;>rfl) (fun p q:Cell×Unit=>cfE p.1 q.1) ⟨fun x=>swoE.irrefl x.1,fun x y z=>swoE.trans x.1 y.1 z.1,fun x y z=>swoE.ntrans x.1 y.1 z.1⟩ 25 #[] blk off cap d w
  (enters_of Tryz.func25 (by kernel_rfl) rfl) (fun _ _ _ _ x y=>k_cmpCe x.1 y.1 _) hH hblk hsz
theorem k_sortCe0 (p:Option Addr)(cap:Nat)(fv:Value)(w:World):Calls Tryz.prog 24 #[.slice p 0 cap,fv] w fun e w'=>e=.returned (.tuple #[])∧w'=w:=
 AnyF.slices_SortFunc_none Tryz.sort24 p cap fv w
theorem i_sortCe {L:World→Prop}{S:St}{id:Nat}{ex:List AV}{ds:List Cell}{ty:TypeId}(hb:S.bx[id]? = some (.cells (flatE (ds.map Cell.av)++ex) ty))(hl:ds.length < 4611686018427387904){n:Nat}(hn:n=ds.length){K:AV→St→Prop}
  (hK:∀ds':List Cell,ds'.Perm ds→(ds'.Pairwise fun a b=>¬b.cmp a < 0)→K (.tup []) (S.setB id (.cells (flatE (ds'.map Cell.av)++ex) ty))):ICall Tryz.prog L 24 [.vsl id 0 n 5,.fn 25 []] S K:=
 ICall.sort (k:=5) (α:=Cell) (av:=Cell.av) (enc:=Cell.enc) (lt:=ltOf cfE) (pre:=[]) (by decide) (fun _=>rfl) Cell.enc_ok k_sortCe k_sortCe0 (by simpa using hb) hl rfl hn fun ds' h1 h2=>by
  have:=hK ds' h1 (h2.imp fun {a b} h=>by rw[ltE_cmp]at h;simpa using h)
  simpa using this
section
variable (L:World→Prop)
theorem i_CompactCe (S:St)(b:Nat)(l:List Cell)(ex:List AV){K:AV→St→Prop}(hl:l.length≤281474976710656)(hb:S.bx[b]? = some (.cells (flatE (l.map Cell.av)++ex) 63))
  (hK:∀S' ex',(∀(j:Nat) (o:Ob),j≠b→S.bx[j]? = some o→S'.bx[j]? = some o)→S'.bx[b]? = some (.cells (flatE ((compact l).map Cell.av)++ex') 63)→K (.vsl b 0 (compact l).length 5) S') :
  ICall Tryz.prog L 26 [.vsl b 0 l.length 5] S K:=by
 refine ICall.intro mixed [] (nt:=61) Tryz.func26 rfl rfl (by simp) ?_
 refine Wk ?_
 refine BrK.mk (fun h1=>?_) (fun h1=>?_)<;>(try rw[h1])
 ·have h1':l.length < 2:=by simp at h1;omega
  refine Wk ?_
  have:=hK S ex (fun _ _ _ h=>h) (by rw[compact_short h1'];exact hb)
  rw[compact_short h1']at this
  exact this
 have h1':¬l.length < 2:=by simp at h1;omega
 refine Wk ?_
 refine LoopK.runS mixed [] (fun (k:Nat) (S1:St)=>1≤k∧k≤l.length∧compact (l.take k)=l.take k∧∀(j:Nat) (o:Ob),S.bx[j]? = some o→S1.bx[j]? = some o) (fun k=>[(0,.vsl b 0 l.length 5),(3,.int .i64 k)]) (fun k=>l.length-k) 1 ⟨by omega,by omega,?_,fun _ _ h=>h⟩ ?_ ?_
 ·obtain⟨x,hx⟩:=getLt (l:=l) (k:=0) (by omega)
  exact compact_one hx
 ·exact⟨Sees.of_eq rfl,Sees.of_eq rfl,trivial⟩
 rintro k S1 ⟨hk1,hk2,hc,hS1⟩
 have hb1:=hS1 _ _ hb
 obtain⟨m,rfl⟩:∃m,k=m+1:=⟨k-1,by omega⟩
 have hw:IntKind.i64.wrap (((m+1:Nat):Int)-1)=(m:Int):=by rw[w64]<;>omega
 refine Wk ?_
 refine BrK.mk (fun h2=>?_) (fun h2=>?_)<;>(try rw[h2])
 ·have hlt:m+1 < l.length:=by simp at h2;omega
  obtain⟨y,hgy⟩:=getLt hlt
  obtain⟨x,hgx⟩:=getLt (l:=l) (k:=m) (by omega)
  repeat((conv=>whnf);first|refine sJ ?_|refine aI (by first|exact⟨by omega,by omega⟩|(rw[hw];exact⟨by omega,by omega⟩)|kernel_rfl) ?_|rw[hw]|rw[hb1])
  try(conv=>whnf)
  refine And.intro (show 0+((m+1:Nat):Int).toNat*5+5≤_ from cellOk.fit1 ex hlt) ?_
  rw[cellOk.ldr _ hgy _ _ (by kernel_rfl) (by kernel_rfl)]
  repeat((conv=>whnf);first|refine sJ ?_|refine aI (by first|(rw[hw];exact⟨by omega,by omega⟩)|kernel_rfl) ?_|rw[hw]|rw[hb1])
  try(conv=>whnf)
  refine And.intro (show 0+(m:Int).toNat*5+5≤_ from cellOk.fit1 ex (by omega)) ?_
  rw[cellOk.ldr _ hgx _ _ (by kernel_rfl) (by kernel_rfl)]
  have hdec:(y.slot==x.slot&&(y.off==x.off&&(y.src==x.src&&(y.dst==x.dst&&(y.flow==x.flow&&true)))))=decide (y=x):=by
   rw[Bool.eq_iff_iff]
   simp only[Bool.and_eq_true,beq_iff_eq,and_true,decide_eq_true_eq]
   constructor
   ·rintro⟨h1,h2,h3,h4,h5⟩
    cases x;cases y
    simp only at h1 h2 h3 h4 h5
    subst h1;subst h2;subst h3;subst h4;subst h5;rfl
   ·rintro rfl;exact⟨rfl,rfl,rfl,rfl,rfl⟩
  refine Wk ?_
  refine BrK.mk (fun h3=>?_) (fun h3=>?_)<;>(try rw[h3])
  ·have h3':y=x:=by rw[hdec]at h3;simpa using h3
   repeat((conv=>whnf);first|refine sJ ?_|refine aI (by first|(show InC _ _;exact⟨by omega,by omega⟩)|kernel_rfl) ?_|rw[hb1])
   try(conv=>whnf)
   refine LoopK.runS mixed [] (fun (s:List Cell×Nat×Nat) (S2:St)=>1≤s.2.2∧Cpt l s.1 s.2.1 (m+1+s.2.2)∧(∀(j:Nat) (o:Ob),j≠b→S.bx[j]? = some o→S2.bx[j]? = some o)∧S2.bx[b]? = some (.cells (flatE (s.1.map Cell.av)++ex) 63)) (fun s=>[(0,.vsl b 0 l.length 5),(3,.int .i64 s.2.1),(4,.vsl b (0+((m+1:Nat):Int).toNat*5) (l.length-((m+1:Nat):Int).toNat) 5),(5,.int .i64 s.2.2)]) (fun s=>l.length-s.2.2) (l,m+1,1) ⟨by simp,Cpt.start hgx hgy h3' hc,fun _ _ _ h=>hS1 _ _ h,hb1⟩ ?_ ?_
   ·exact⟨Sees.of_eq rfl,Sees.of_eq rfl,Sees.of_eq rfl,Sees.of_eq rfl,trivial⟩
   rintro⟨a,i,t⟩ S2 ⟨ht,hcp,hu,hb2⟩
   simp only at ht hcp hb2
   have hij:=hcp.ij
   have hjl:=hcp.jl
   have hal:=hcp.len
   refine Wk ?_
   refine BrK.mk (fun h4=>?_) (fun h4=>?_)<;>(try rw[h4])
   ·have h4':m+1+t < l.length:=by simp at h4;omega
    obtain⟨t,rfl⟩:∃u,t=u+1:=⟨t-1,by omega⟩
    have hw2:IntKind.i64.wrap (((t+1:Nat):Int)-1)=(t:Int):=by rw[w64]<;>omega
    obtain⟨v,hgv⟩:=getLt h4'
    obtain⟨u,hgu⟩:=getLt (l:=l) (k:=m+1+t) (by omega)
    have hav:a[m+1+(t+1)]? = some v:=by rw[hcp.get (by omega)];exact hgv
    have hau:a[m+1+t]? = some u:=by rw[hcp.get (by omega)];exact hgu
    repeat((conv=>whnf);first|refine sJ ?_|refine aI (by first|exact(show InB ((t+1:Nat):Int) (l.length-(m+1)) from⟨by omega,by omega⟩)|kernel_rfl) ?_|rw[hw2]|rw[hb2]|rw[show(S2.flush []).bx[b]? = _ from hb2])
    try(conv=>whnf)
    refine And.intro (show 0+((m+1:Nat):Int).toNat*5+((t+1:Nat):Int).toNat*5+5≤_ from cellOk.fit2 ex (by omega)) ?_
    rw[cellOk.ldr2 _ hav _ _ _ (by kernel_rfl) (by kernel_rfl) (by kernel_rfl)]
    repeat((conv=>whnf);first|refine sJ ?_|refine aI (by first|(rw[hw2];exact(show InB (t:Int) (l.length-(m+1)) from⟨by omega,by omega⟩))|kernel_rfl) ?_|rw[hw2]|rw[hb2]|rw[show(S2.flush []).bx[b]? = _ from hb2])
    try(conv=>whnf)
    refine And.intro (show 0+((m+1:Nat):Int).toNat*5+(t:Int).toNat*5+5≤_ from cellOk.fit2 ex (by omega)) ?_
    rw[cellOk.ldr2 _ hau _ _ _ (by kernel_rfl) (by kernel_rfl) (by kernel_rfl)]
    have hdec2:(!(v.slot==u.slot&&(v.off==u.off&&(v.src==u.src&&(v.dst==u.dst&&(v.flow==u.flow&&true))))))=!decide (v=u):=by
     congr 1
     rw[Bool.eq_iff_iff]
     simp only[Bool.and_eq_true,beq_iff_eq,and_true,decide_eq_true_eq]
     constructor
     ·rintro⟨h1,h2,h3,h4,h5⟩
      cases v;cases u
      simp only at h1 h2 h3 h4 h5
      subst h1;subst h2;subst h3;subst h4;subst h5;rfl
     ·rintro rfl;exact⟨rfl,rfl,rfl,rfl,rfl⟩
    refine Wk ?_
    refine BrK.mk (fun h5=>?_) (fun h5=>?_)<;>(try rw[h5])
    ·have h5':v≠u:=by rw[hdec2]at h5;simpa using h5
     have hk2:=hcp.keep (x:=u) (y:=v) hgu hgv h5'
     have hst:=cellOk.st v ex (l:=a) (k:=i) (by omega)
     repeat((conv=>whnf);first|refine sJ ?_|refine aI (by first|exact(show InB ((t+1:Nat):Int) (l.length-(m+1)) from⟨by omega,by omega⟩)|exact(show InB (i:Int) l.length from⟨by omega,by omega⟩)|kernel_rfl) ?_|rw[hb2]|rw[show(S2.flush []).bx[b]? = _ from hb2])
     try(conv=>whnf)
     refine And.intro (show 0+((m+1:Nat):Int).toNat*5+((t+1:Nat):Int).toNat*5+5≤_ from cellOk.fit2 ex (by omega)) ?_
     rw[cellOk.ldr2 _ hav _ _ _ (by kernel_rfl) (by kernel_rfl) (by kernel_rfl)]
     repeat((conv=>whnf);first|refine sJ ?_|refine aI (by first|exact(show InB (i:Int) l.length from⟨by omega,by omega⟩)|kernel_rfl) ?_|rw[hb2]|rw[show(S2.flush []).bx[b]? = _ from hb2])
     try(conv=>whnf)
     refine And.intro (show 0+(i:Int).toNat*5+5≤_ from cellOk.fit1 ex (by omega)) ?_
     refine Wk ?_
     refine⟨(a.set i v,i+1,t+2),⟨by simp only;omega,hk2,fun j o hne h=>?_,?_⟩,by simp only;omega,Sees.of_eq rfl,Sees.int (by simp only;rw[w64]<;>omega),Sees.of_eq rfl,Sees.int (by simp only;rw[w64]<;>omega),trivial⟩
     ·rw[St.setB_ne hne.symm];exact hu j o hne h
     ·rw[St.setB_get (show(S2.flush []).bx[b]? = _ from hb2)]
      rw[←hst,Nat.zero_add,Int.toNat_natCast]
      rfl
    ·have h5':v=u:=by rw[hdec2]at h5;simpa using h5
     refine Wk ?_
     refine⟨(a,i,t+2),⟨by simp only;omega,hcp.drop (x:=u) (y:=v) hgu hgv h5',hu,hb2⟩,by simp only;omega,Sees.of_eq rfl,Sees.of_eq rfl,Sees.of_eq rfl,Sees.int (by simp only;rw[w64]<;>omega),trivial⟩
   ·have hjn:m+1+t=l.length:=by simp at h4;omega
    rw[hjn]at hcp
    have hfin:=hcp.fin
    have hflen:=cellOk.flen a
    have hcl:0+(i:Int).toNat*5+(l.length-(i:Int).toNat)*5≤(flatE (a.map Cell.av)++ex).length:=by
     rw[List.length_append,hflen,Int.toNat_natCast,Nat.zero_add,←Nat.add_mul,show i+(l.length-i)=l.length by omega,hal]
     exact Nat.le_add_right _ _
    have hfl:(compact l).length=i:=by rw[←hfin,List.length_take];omega
    repeat((conv=>whnf);first|refine sJ ?_|refine aI (by first|exact(show InC (i:Int) l.length from⟨by omega,by omega⟩)|exact⟨rfl,rfl,Nat.le_of_ble_eq_true rfl,hcl⟩|kernel_rfl) ?_|rw[hb2]|rw[St.setB_get hb2])
    try(conv=>whnf)
    rw[cellOk.clr' (l:=a) (k:=i) _ _ _ _ (by kernel_rfl) (by rw[Int.toNat_natCast,hal]) (by omega) rfl]
    refine And.intro ⟨by omega,?_⟩ ?_
    ·unfold upTo?
     rw[St.setB_get hb2]
     exact⟨cellOk.headLe (k:=i) _ _ rfl (by omega),by decide⟩
    refine Wk ?_
    have hK2:=hK
    rw[hfl]at hK2
    refine hK2 _ (repL (l.length-(i:Int).toNat) [.int .i64 0,.int .i64 0,.int .i64 0,.int .i64 0,.int .i64 0]++ex) (fun j o hne h=>?_) ?_
    ·show(S2.setB b _).bx[j]? = _
     rw[St.setB_ne hne.symm];exact hu j o hne h
    ·show(S2.setB b _).bx[b]? = _
     rw[St.setB_get hb2,←hfin]
     rfl
  ·have h3':¬y=x:=by rw[hdec]at h3;simpa using h3
   refine Wk ?_
   refine⟨m+2,⟨by omega,by omega,?_,hS1⟩,by omega,Sees.of_eq rfl,Sees.int (by rw[w64]<;>omega),trivial⟩
   rw[compact_new hgx hgy h3',hc,←take_succ hgy]
 ·have hm:m+1=l.length:=by simp at h2;omega
  rw[hm,List.take_length]at hc
  refine Wk ?_
  have:=hK (S1.outer S) ex (fun _ _ _ h=>hS1 _ _ h) (by rw[hc];exact hb1)
  rw[hc]at this
  exact this
end
def GVc (S:St)(v:AV)(l:List Cell):Prop:=(v=.grown .nils 0∧l=[])∨∃id d,3≤id∧v=.vsl id 0 l.length 5∧S.bx[id]? = some (.cells (flatE (l.map Cell.av)++List.replicate (d*5) .undef) 63)
def GNc (S:St)(v:AV)(l:List Cell):Prop:=(v=.nils∧l=[])∨∃id d,3≤id∧v=.vsl id 0 l.length 5∧S.bx[id]? = some (.cells (flatE (l.map Cell.av)++List.replicate (d*5) .undef) 63)
def trB1 (s:Sched):Ob:=.cells [.int .i64 s.len,.int .i64 s.offs,encCells s.cells] 30
def trB2:Ob:=.cells [.int .i64 0,.int .i64 0,.nils] 30
def trI (s:Sched)(S:St):Prop:=S.bx[1]? = some (trB1 s)∧S.bx[2]? = some trB2
theorem c_Trim (n:Net)(hn:n.small)(q:List Req)(hq:q.length≤1099511627776)(hx:∀x∈q,x.small)(s:Sched)(hc:s.cells.length≤281474976710656) :
  PCall Tryz.prog LW 7 [n.av,encReqs q,s.av] (.tup [(trimM n q s).1.av,.int .i64 (trimM n q s).2]):=by
 refine PCall.intro mixed [1,12] (nt:=48) Tryz.func7 rfl rfl (by simp) ?_
 refine Wk ?_
 refine SeqK.sem mixed [] ?_
 refine Wk ?_
 refine SemK.freezeB 0 rfl rfl ?_
 refine twC_sound (ct:=[12]) mixed _ _ _ _ ?_
 refine Wk ?_
 refine cD (c_servesA n hn q hq hx s hc) ?_
 cases g1:((makeM n q s).2.2==0) with
 | false=>
  have e1:trimM n q s=(⟨0,0,[]⟩,1):=by unfold trimM;rw[if_pos (by simpa using g1)]
  rw[e1]
  refine Wk ?_
  exact resP.mk rfl (Sees.of_eq rfl)
 | true=>
 have g1':(makeM n q s).2.2=0:=by simpa using g1
 have e1:trimM n q s=(⟨s.len,s.offs,s.cells.filter (trimB n q s)⟩,0):=by unfold trimM trimS;rw[if_neg (by omega)]
 rw[e1]
 obtain⟨hrq,hv,_,_⟩:=make_parts g1'
 obtain⟨hok,hq16,hreq,hfl⟩:=reqE_ok hrq
 have h512:=hv.many
 have hjl:∀k,k≤q.length→(joinL n (q.take k) s).length≤8192:=fun k hk=>by
  have h1:=join_len n (q.take k) s
  have h2:(q.take k).length*s.cells.length≤16*512:=Nat.mul_le_mul (by rw[List.length_take];omega) h512
  omega
 refine Wk ?_
 refine SeqK.cutN mixed [] [] (fun (v:AV) (S1:St)=>GNc S1 v (joinL n q s)∧trI s S1) (fun v=>[(5,.ptr 1 0),(6,.ptr 2 0),(8,v)]) ?_ ?_
 ·refine Wk ?_
  refine LoopK.runS mixed [] (fun (t:Nat×AV) (S1:St)=>t.1≤q.length∧GVc S1 t.2 (joinL n (q.take t.1) s)∧trI s S1) (fun t=>[(3,.cptr n.av 0),(5,.ptr 1 0),(6,.ptr 2 0),(8,t.2),(19,encReqs q),(20,.int .i64 q.length),(21,.int .i64 t.1)]) (fun t=>q.length-t.1) (0,.grown .nils 0) ⟨by simp,.inl ⟨rfl,by simp[joinL]⟩,rfl,rfl⟩ ?_ ?_
  ·exact⟨Sees.of_eq rfl,Sees.of_eq rfl,Sees.of_eq rfl,Sees.nilG,Sees.of_eq rfl,Sees.int (by simp),Sees.of_eq rfl,trivial⟩
  rintro⟨k,v⟩ S1 ⟨hk,hgv,hB1,hB2⟩
  simp only at hk hgv
  have hfl:=hjl k hk
  refine Wk ?_
  refine BrK.mk (fun hb=>?_) (fun hb=>?_)<;>try rw[hb]
  ·have hlt:k < q.length:=by simpa using hb
   obtain⟨x,hgx⟩:=getLt hlt
   have hmx:=getMap (f:=Req.av) hgx
   have hxm:=List.mem_of_getElem? hgx
   have hsm:=hx x hxm
   have hF:=join_take (n:=n) (s:=s) hgx
   have hnl:=hjl (k+1) (by omega)
   have hcl:=c_Needed n s x.flow x.routes hn hc hsm.2 hsm.1
   rw[need_srv g1' hxm]at hcl
   dsimp only at hcl
   have hne:needL n s x.flow x.routes≠[]:=(needs_law (need_srv g1' hxm)).2.1
   obtain⟨ls,hls⟩:∃ls,ls=needL n s x.flow x.routes:=⟨_,rfl⟩
   rw[←hls]at hF hcl hne
   have hlp:0 < ls.length:=List.length_pos_iff.2 hne
   obtain⟨out,hout⟩:∃out,out=joinL n (q.take k) s:=⟨_,rfl⟩
   rw[hF]at hnl
   rw[←hout]at hF hgv hfl hnl
   rw[List.length_append]at hnl
   have hA:∀(S:St) o,(S.addB o).bx[S.bx.length]? = some o:=fun S o=>St.addB_get S o
   have hA2:∀(S:St) o o',((S.addB o).setB S.bx.length o').bx[S.bx.length]? = some o':=fun S o o'=>St.setB_get (St.addB_get S o)
   have hi1:=(List.getElem?_eq_some_iff.1 hB1).1
   have hi2:=(List.getElem?_eq_some_iff.1 hB2).1
   have hC1:∀o o':Ob,((S1.addB o).setB S1.bx.length o').bx[1]? = some (trB1 s):=fun o o'=>by rw[St.setB_ne (by omega)];exact St.addB_old hB1
   have hC2:∀o o':Ob,((S1.addB o).setB S1.bx.length o').bx[2]? = some trB2:=fun o o'=>by rw[St.setB_ne (by omega)];exact St.addB_old hB2
   have hlen:∀o o':Ob,S1.bx.length+1=((S1.addB o).setB S1.bx.length o').bx.length:=fun o o'=>by rw[St.setB_len,St.addB_len]
   have hEl:Els (4+1) (ls.map Cell.av):=cellOk.els ls
   rcases hgv with ⟨rfl,ho⟩|⟨id,d,hid,rfl,hbx⟩
   ·have hn1:joinL n (q.take (k+1)) s=ls:=by rw[hF,ho];rfl
    repeat((conv=>whnf);first|refine sJ ?_|refine aI (by first|exact inbMap hlt|exact trivial|kernel_rfl) ?_|rw[hmx]|rw[hA]|rw[hA2]|rw[hC1])
    try(conv=>whnf)
    refine cD (hcl) ?_
    repeat((conv=>whnf);first|refine sT ?_|refine And.intro ⟨rfl,hEl,(by rw[List.length_map];exact hlp),(show _*40≤_ by rw[List.length_map];omega),(show _≤maxLen by rw[List.length_map];simp only[maxLen];omega)⟩ ?_)
    try(conv=>whnf)
    intro d2
    refine Wk ?_
    refine⟨(k+1,.vsl (S1.bx.length+1) 0 ls.length 5),⟨by simp only;omega,.inr ⟨S1.bx.length+1,d2,by omega,by simp only[hn1],?_⟩,?_,?_⟩,by simp only;omega,Sees.of_eq rfl,Sees.of_eq rfl,Sees.of_eq rfl,Sees.of_eq (by show AV.vsl _ 0 (List.length (ls.map Cell.av)) 5=_;rw[List.length_map,hlen]),Sees.of_eq rfl,Sees.of_eq rfl,Sees.int (by simp only;rw[w64]<;>omega),trivial⟩
    ·simp only[hn1]
     rw[hlen]
     show(St.addB _ _).bx[_]? = _
     rw[St.addB_get]
    ·exact St.addB_old (hC1 _ _)
    ·exact St.addB_old (hC2 _ _)
   ·have hfl5:=cellOk.flen out
    have hil:=(List.getElem?_eq_some_iff.1 hbx).1
    have hBx:∀o o':Ob,((S1.addB o).setB S1.bx.length o').bx[id]? = some (.cells (flatE (out.map Cell.av)++List.replicate (d*5) .undef) 63):=fun o o'=>by rw[St.setB_ne (by omega)];exact St.addB_old hbx
    repeat((conv=>whnf);first|refine sJ ?_|refine aI (by first|exact inbMap hlt|exact trivial|kernel_rfl) ?_|rw[hmx]|rw[hA]|rw[hA2]|rw[hC1])
    try(conv=>whnf)
    refine cD (hcl) ?_
    repeat((conv=>whnf);first|refine sT ?_|rw[hBx])
    try(conv=>whnf)
    refine And.intro ⟨rfl,rfl,hEl,(by rw[List.length_map];exact hlp),(show(_+_)*40≤_ by rw[List.length_map];omega),(show _+_≤maxLen by rw[List.length_map];simp only[maxLen];omega),(by rw[List.length_append,hfl5];exact Nat.le_add_right _ _)⟩ ?_
    have hcut:=cellOk.cut out (List.replicate (d*5) .undef)
    have hml:(ls.map Cell.av).length=ls.length:=List.length_map ..
    refine AppK.mk (fun hroom=>?_) (fun _=>?_)
    ·rw[hml]at hroom
     refine Wk ?_
     refine⟨(k+1,.vsl id 0 (out.length+ls.length) 5),⟨by simp only;omega,.inr ⟨id,d-ls.length,hid,by simp only[hF,List.length_append],?_⟩,?_,?_⟩,by simp only;omega,Sees.of_eq rfl,Sees.of_eq rfl,Sees.of_eq rfl,Sees.of_eq (by show AV.vsl id 0 (out.length+(ls.map Cell.av).length) 5=_;rw[hml]),Sees.of_eq rfl,Sees.of_eq rfl,Sees.int (by simp only;rw[w64]<;>omega),trivial⟩
     ·show(St.setB _ id _).bx[id]? = _
      rw[St.setB_get (hBx _ _)]
      simp only[hF]
      rw[←cellOk.pushL out ls d hroom]
     ·show(St.setB _ id _).bx[1]? = _
      rw[St.setB_ne (by omega)];exact hC1 _ _
     ·show(St.setB _ id _).bx[2]? = _
      rw[St.setB_ne (by omega)];exact hC2 _ _
    ·intro d2
     refine Wk ?_
     refine⟨(k+1,.vsl (S1.bx.length+1) 0 (out.length+ls.length) 5),⟨by simp only;omega,.inr ⟨S1.bx.length+1,d2,by omega,by simp only[hF,List.length_append],?_⟩,?_,?_⟩,by simp only;omega,Sees.of_eq rfl,Sees.of_eq rfl,Sees.of_eq rfl,Sees.of_eq (by show AV.vsl _ 0 (out.length+(ls.map Cell.av).length) 5=_;rw[hml,hlen]),Sees.of_eq rfl,Sees.of_eq rfl,Sees.int (by simp only;rw[w64]<;>omega),trivial⟩
     ·rw[hlen]
      show(St.addB _ _).bx[_]? = _
      rw[St.addB_get]
      simp only[hF]
      rw[←flatE_pushL]
      show some (Ob.cells (List.take (out.length*5) _++_++_) _)=_
      rw[hcut]
     ·exact St.addB_old (hC1 _ _)
     ·exact St.addB_old (hC2 _ _)
  ·have hkl:k=q.length:=by simp at hb;omega
   subst hkl
   rw[List.take_length]at hgv
   refine Wk ?_
   rcases hgv with ⟨rfl,ho⟩|hgv
   ·exact⟨.nils,⟨.inl ⟨rfl,ho⟩,hB1,hB2⟩,Sees.of_eq rfl,Sees.of_eq rfl,Sees.gNil,trivial⟩
   ·exact⟨v,⟨.inr hgv,hB1,hB2⟩,Sees.of_eq rfl,Sees.of_eq rfl,Sees.of_eq rfl,trivial⟩
 ·rintro v S1 ⟨hgv,hB1,hB2⟩
  have hfl:=hjl q.length (Nat.le_refl _)
  rw[List.take_length]at hfl
  rcases hgv with ⟨rfl,ho⟩|⟨id,d,hid,rfl,hbx⟩
  ·have hfin:=trim_eq hv (ds:=[]) (by rw[ho]) List.Pairwise.nil
   have hfin2:s.cells.filter (trimB n q s)=[]:=by rw[←hfin];rfl
   refine Wk ?_
   refine CallK.inl rfl (ICall.sort0 k_sortCe0 ?_)
   refine Wk ?_
   refine CallK.inl rfl (ICall.intro mixed [] (nt:=61) Tryz.func26 rfl rfl (by simp) ?_)
   have hD1:(S1.inner.outer S1).bx[1]? = some (trB1 s):=hB1
   have hE1:∀o,((S1.inner.outer S1).setB 1 o).bx[1]? = some o:=fun o=>St.setB_get hD1
   have hE2:∀o,((S1.inner.outer S1).setB 1 o).bx[2]? = some trB2:=fun o=>by rw[St.setB_ne (by decide)];exact hB2
   have hE3:∀o o',(((S1.inner.outer S1).setB 1 o).setB 2 o').bx[2]? = some o':=fun o o'=>St.setB_get (hE2 o)
   repeat((conv=>whnf);first|refine sT ?_|rw[hD1]|rw[hE1]|rw[hE2]|rw[hE3])
   try(conv=>whnf)
   exact resP.mk rfl (Sees.of_eq (by rw[hfin2];rfl))
  ·refine Wk ?_
   refine CallK.inl rfl (i_sortCe hbx (by omega) rfl fun ds hp hs=>?_)
   have hds:=hp.length_eq
   have hfin:=trim_eq hv hp hs
   refine Wk ?_
   rw[show(joinL n q s).length=ds.length from hds.symm]
   refine CallK.inl rfl (i_CompactCe LW _ id ds _ (by omega) (St.setB_get hbx) fun S3 ex hk3 h3=>?_)
   have hD1:=hk3 1 _ (by omega) (by rw[St.setB_ne (by omega)];exact hB1)
   have hD2:=hk3 2 _ (by omega) (by rw[St.setB_ne (by omega)];exact hB2)
   have hE1:∀o,(S3.setB 1 o).bx[1]? = some o:=fun o=>St.setB_get hD1
   have hE2:∀o,(S3.setB 1 o).bx[2]? = some trB2:=fun o=>by rw[St.setB_ne (by decide)];exact hD2
   have hE3:∀o o',((S3.setB 1 o).setB 2 o').bx[2]? = some o':=fun o o'=>St.setB_get (hE2 o)
   have hE4:∀o o',((S3.setB 1 o).setB 2 o').bx[id]? = some (.cells (flatE ((compact ds).map Cell.av)++ex) 63):=fun o o'=>by rw[St.setB_ne (by omega),St.setB_ne (by omega)];exact h3
   have e9:∀X:St,X.bx[id]? = some (Ob.cells (flatE ((compact ds).map Cell.av)++ex) 63)→fzb X (.tup [.agg [.int .i64 s.len,.int .i64 s.offs,.vsl id 0 (compact ds).length 5],.int .i64 0])=some (.tup [.agg [.int .i64 s.len,.int .i64 s.offs,.sl false ((compact ds).map Cell.av)],.int .i64 0]):=fun X hX=>fzAdd (cellOk.fzb hX rfl)
   repeat((conv=>whnf);first|refine sT ?_|rw[hD1]|rw[hE1]|rw[hE2]|rw[hE3])
   try(conv=>whnf)
   exact resP.mk (e9 _ (hE4 _ _)) (Sees.of_eq (by rw[hfin];rfl))
end HM
