/- The faults of changes, by run.Change as a whole (in the place of S250 where S94 is there). -/
import Derived.Test.YtggiajmlnieidaaGreatDoorS93
import Derived.Test.YtggiajmlnieidaaGreatDoorS54
import Derived.Test.YtggiajmlnieidaaGreatDoorDb
import Derived.Test.YtggiajmlnieidaaGreatDoorDd
import Derived.Test.YtggiajmlnieidaaGreatDoorFh
import Derived.Test.YtggiajmlnieidaaGreatDoorS164
import Derived.Test.YtggiajmlnieidaaGreatDoorSh
import Derived.Shelf.Small.Wraps
set_option maxHeartbeats 64000000
set_option maxRecDepth 100000
namespace HM
open Go Go.RowKit Go.Proofs
theorem yF.zjL {P:Program}{L:World→Prop}{nt:Nat}(hm:P.follows .mixedOrders=true)(ct:List Nat){c d:Code}{a:Nat→AV}{S:St}{Q:Exit→(Nat→AV)→St→Prop}{σ:Type}(I:σ→St→Prop)(sl:σ→List (Nat×AV))
  (hc:WP P L nt ct c a S (Wb (fun a' S'=>∃s,I s S'∧Js a' (sl s)) Q)) (hd:∀s S,I s S→zW P L nt d (Xs (sl s)) S Q):yF P L nt c d a S Q:=by
 refine⟨⟨fun w0 G act w hR=>?_⟩⟩
 refine wpIn_seq (Go.wpIn_mono ((zE hm c a S _ hc).out w0 G act w hR) fun e a' w' ⟨G',a1,S',hR',hq⟩=>?_)
 cases e with
 | normal=>
  obtain⟨s,hI,hfit⟩:=hq
  exact(hd s S' hI).out w0 _ a' w' (hR'.slots hfit)
 | _=>exact⟨G',a1,S',hR',hq⟩
theorem zhp (s:zc)(cs:List zJ)(hcs:cs.length≤281474976710656):zb Tryz.prog LW 65 [s.av,zT cs] (.int .i64 (qg s cs)):=by
 refine zb.intro mixed [] (nt:=14) Tryz.func65 rfl rfl (by simp) ?_
 refine Wk ?_
 refine cD (zcF [] s cs [] 0 (by simp) hcs (by simp) (by simp)) ?_
 rw[zgm]
 refine Wk ?_
 exact ze.mk rfl (za.int rfl)
instance:Inhabited zf:=⟨⟨0,0,0,0,0,0⟩⟩
def zf.enc (x:zf):List Value:=[.int .i64 x.id,.int .i64 x.src,.int .i64 x.dst,.int .i64 x.period,.int .i64 x.phase,.int .i64 x.dead]
theorem zf.JA (G:Gh)(fr:yC)(w:World)(x:zf)(vs:List Value):zI G fr w x.av.cells vs↔vs=x.enc:=by
 simp only[zf.av,AV.cells,zI,VR,zf.enc]
 constructor
 ·rintro⟨u,us,rfl,rfl,u2,us2,rfl,rfl,u3,us3,rfl,rfl,u4,us4,rfl,rfl,u5,us5,rfl,rfl,u6,us6,rfl,rfl,rfl⟩;rfl
 ·rintro rfl
  exact⟨_,_,rfl,rfl,_,_,rfl,rfl,_,_,rfl,rfl,_,_,rfl,rfl,_,_,rfl,rfl,_,_,rfl,rfl,rfl⟩
theorem Z3:yH zf.av 6:=⟨fun _=>rfl,fun _=>rfl,fun _=>rfl,fun _=>rfl,by decide⟩
def zcp (a b:zf):Int:=Lib.compareInt a.id b.id
theorem zin (a b:zf):ltOf zcp a b=decide (a.id < b.id):=by
 unfold ltOf zcp Lib.compareInt
 by_cases h1:a.id < b.id
 ·simp[h1]
 ·by_cases h2:b.id < a.id<;>simp[h1,h2]
theorem zgq:Go.Sort.SWO (ltOf zcp) where
 irrefl x:=by rw[zin];simp
 trans x y z h1 h2:=by rw[zin]at *;simp at *;omega
 ntrans x y z h1 h2:=by rw[zin]at *;simp at *;omega
theorem ziu (x y:zf)(W:World):Calls Tryz.prog 111 #[.agg x.enc.toArray,.agg y.enc.toArray] W fun e w'=>e=.returned (.int .i64 (zcp x y))∧∃q os',w'=Go.Sort.grow (W.drewN q) os':=by
 have hcon:=fun W'=>Tryz.cmp_Compare_int x.id y.id W'
 unfold zcp
 generalize Lib.compareInt x.id y.id=r at hcon ⊢
 unfold zf.enc
 go_enter Tryz.func111,Tryz.ntmps111
 go_wp2_with (go_at_call 92;refine(hcon _).mono ?_;rintro e w' ⟨rfl,rfl⟩)
 go_ret
 exact⟨rfl,0,_,by rw[Go.Sort.alloc_eq_grow,Go.Sort.alloc_eq_grow,Go.Sort.grow_grow];rfl⟩
theorem zgT (blk off cap:Nat)(d:Array (zf×Unit))(w:World)(hH:Go.Sort.HoldsK (fun p:zf×Unit=>p.1.enc) 6 w blk off d)(hblk:blk < w.heap.size)(hsz:d.size < 4611686018427387904) :
  Calls Tryz.prog 110 #[.slice (some ⟨blk,off,none⟩) d.size cap,.func (.func 111) #[] #[]] w fun e w'=>e=.returned (.tuple #[])∧∃d' n os,Go.Sort.PermIn 0 d.size d d'∧Go.Sort.SortedIn (fun p q:zf×Unit=>ltOf zcp p.1 q.1) 0 d.size d'∧w'=sortWorldK (fun p:zf×Unit=>p.1.enc) 6 w blk off n d' os:=
 AnyQ.slices_SortFunc Tryz.zeO 6 Tryz.isAgg46 Tryz.sizeOf46 (fun p:zf×Unit=>p.1.enc) (fun _=>rfl) (fun x v hv=>by simp[zf.enc]at hv;rcases hv with rfl|rfl|rfl|rfl|rfl|rfl<;>rfl) (fun p q:zf×Unit=>zcp p.1 q.1) ⟨fun x=>zgq.irrefl x.1,fun x y z=>zgq.trans x.1 y.1 z.1,fun x y z=>zgq.ntrans x.1 y.1 z.1⟩ 111 #[] blk off cap d w
  (enters_of Tryz.func111 (by kernel_rfl) rfl) (fun _ _ _ _ x y=>ziu x.1 y.1 _) hH hblk hsz
theorem Kj (p:Option Addr)(cap:Nat)(fv:Value)(w:World):Calls Tryz.prog 110 #[.slice p 0 cap,fv] w fun e w'=>e=.returned (.tuple #[])∧w'=w:=
 AnyF.slices_SortFunc_none Tryz.zeO p cap fv w
theorem zg2 {L:World→Prop}{S:St}{id:Nat}{ex:List AV}{ds:List zf}{ty:TypeId}(hb:S.bx[id]? = some (.cells (zd (ds.map zf.av)++ex) ty))(hl:ds.length < 4611686018427387904){n:Nat}(hn:n=ds.length){K:AV→St→Prop}
  (hK:∀ds':List zf,ds'.Perm ds→(ds'.Pairwise fun a b=>¬b.id < a.id)→K (.tup []) (S.setB id (.cells (zd (ds'.map zf.av)++ex) ty))):zQ Tryz.prog L 110 [.vsl id 0 n 6,.fn 111 []] S K:=
 zQ.zkX (k:=6) (α:=zf) (av:=zf.av) (enc:=zf.enc) (lt:=ltOf zcp) (pre:=[]) (by decide) (fun _=>rfl) zf.JA zgT Kj (by simpa using hb) hl rfl hn fun ds' h1 h2=>by
  have:=hK ds' h1 (h2.imp fun {a b} h=>by rw[zin]at h;simpa using h)
  simpa using this
end HM
