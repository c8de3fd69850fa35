/- Sorting flows. -/
import Derived.Test.YtggiajmlnieidaaGreatDoorS43
import Derived.Test.YtggiajmlnieidaaGreatDoorSh
import Derived.Test.YtggiajmlnieidaaGreatDoorFh
import Derived.Shelf.Small.Wraps
set_option maxHeartbeats 64000000
set_option maxRecDepth 100000
namespace HM
open Go Go.RowKit Go.Proofs
instance:Inhabited Flow:=⟨⟨0,0,0,0,0,0⟩⟩
def Flow.enc (x:Flow):List Value:=[.int .i64 x.id,.int .i64 x.src,.int .i64 x.dst,.int .i64 x.period,.int .i64 x.phase,.int .i64 x.dead]
theorem Flow.enc_ok (G:Gh)(fr:Frs)(w:World)(x:Flow)(vs:List Value):VRs G fr w x.av.cells vs↔vs=x.enc:=by
 simp only[Flow.av,AV.cells,VRs,VR,Flow.enc]
 constructor
 ·rintro⟨u,us,rfl,rfl,u2,us2,rfl,rfl,u3,us3,rfl,rfl,u4,us4,rfl,rfl,u5,us5,rfl,rfl,u6,us6,rfl,rfl,rfl⟩;rfl
 ·rintro rfl
  exact⟨_,_,rfl,rfl,_,_,rfl,rfl,_,_,rfl,rfl,_,_,rfl,rfl,_,_,rfl,rfl,_,_,rfl,rfl,rfl⟩
theorem flowEnc:EncOk Flow.av 6:=⟨fun _=>rfl,fun _=>rfl,fun _=>rfl,fun _=>rfl,by decide⟩
def cfFl (a b:Flow):Int:=Lib.compareInt a.id b.id
theorem ltFl (a b:Flow):ltOf cfFl a b=decide (a.id < b.id):=by
 unfold ltOf cfFl Lib.compareInt
 by_cases h1:a.id < b.id
 ·simp[h1]
 ·by_cases h2:b.id < a.id<;>simp[h1,h2]
theorem swoFl:Go.Sort.SWO (ltOf cfFl) where
 irrefl x:=by rw[ltFl];simp
 trans x y z h1 h2:=by rw[ltFl]at *;simp at *;omega
 ntrans x y z h1 h2:=by rw[ltFl]at *;simp at *;omega
theorem k_cmpFl (x y:Flow)(W:World):Calls Tryz.prog 111 #[.agg x.enc.toArray,.agg y.enc.toArray] W fun e w'=>e=.returned (.int .i64 (cfFl x y))∧∃q os',w'=Go.Sort.grow (W.drewN q) os':=by
 have hcon:=fun W'=>Tryz.cmp_Compare_int x.id y.id W'
 unfold cfFl
 generalize Lib.compareInt x.id y.id=r at hcon ⊢
 unfold Flow.enc
 go_enter Tryz.func111,Tryz.ntmps111
 go_wp2_with (go_at_call 92;refine(hcon _).mono ?_;rintro e w' ⟨rfl,rfl⟩)
 go_ret
 exact⟨rfl,0,_,by rw[Go.Sort.alloc_eq_grow,Go.Sort.alloc_eq_grow,Go.Sort.grow_grow];rfl⟩
theorem k_sortFl (blk off cap:Nat)(d:Array (Flow×Unit))(w:World)(hH:Go.Sort.HoldsK (fun p:Flow×Unit=>p.1.enc) 6 w blk off d)(hblk:blk < w.heap.size)(hsz:d.size < 4611686018427387904) :
  Calls Tryz.prog 110 #[.slice (some ⟨blk,off,none⟩) d.size cap,.func (.func 111) #[] #[]] w fun e w'=>e=.returned (.tuple #[])∧∃d' n os,Go.Sort.PermIn 0 d.size d d'∧Go.Sort.SortedIn (fun p q:Flow×Unit=>ltOf cfFl p.1 q.1) 0 d.size d'∧w'=sortWorldK (fun p:Flow×Unit=>p.1.enc) 6 w blk off n d' os:=
 AnyQ.slices_SortFunc Tryz.sort110 6 Tryz.isAgg46 Tryz.sizeOf46 (fun p:Flow×Unit=>p.1.enc) (fun _=>rfl) (fun x v hv=>by simp[Flow.enc]at hv;rcases hv with rfl|rfl|rfl|rfl|rfl|rfl<;>rfl) (fun p q:Flow×Unit=>cfFl p.1 q.1) ⟨fun x=>swoFl.irrefl x.1,fun x y z=>swoFl.trans x.1 y.1 z.1,fun x y z=>swoFl.ntrans x.1 y.1 z.1⟩ 111 #[] blk off cap d w
  (enters_of Tryz.func111 (by kernel_rfl) rfl) (fun _ _ _ _ x y=>k_cmpFl x.1 y.1 _) hH hblk hsz
theorem k_sortFl0 (p:Option Addr)(cap:Nat)(fv:Value)(w:World):Calls Tryz.prog 110 #[.slice p 0 cap,fv] w fun e w'=>e=.returned (.tuple #[])∧w'=w:=
 AnyF.slices_SortFunc_none Tryz.sort110 p cap fv w
theorem i_sortFl {L:World→Prop}{S:St}{id:Nat}{ex:List AV}{ds:List Flow}{ty:TypeId}(hb:S.bx[id]? = some (.cells (flatE (ds.map Flow.av)++ex) ty))(hl:ds.length < 4611686018427387904){n:Nat}(hn:n=ds.length){K:AV→St→Prop}
  (hK:∀ds':List Flow,ds'.Perm ds→(ds'.Pairwise fun a b=>¬b.id < a.id)→K (.tup []) (S.setB id (.cells (flatE (ds'.map Flow.av)++ex) ty))):ICall Tryz.prog L 110 [.vsl id 0 n 6,.fn 111 []] S K:=
 ICall.sort (k:=6) (α:=Flow) (av:=Flow.av) (enc:=Flow.enc) (lt:=ltOf cfFl) (pre:=[]) (by decide) (fun _=>rfl) Flow.enc_ok k_sortFl k_sortFl0 (by simpa using hb) hl rfl hn fun ds' h1 h2=>by
  have:=hK ds' h1 (h2.imp fun {a b} h=>by rw[ltFl]at h;simpa using h)
  simpa using this
end HM
