/- Sorting links. -/
import Derived.Test.YtdjglaoahmaljaaGreatDoorS120
import Derived.Test.YtdjglaoahmaljaaGreatDoorShelf
import Derived.Test.YtdjglaoahmaljaaGreatDoorFh
import Derived.Shelf.Small.Wraps
import Derived.Handy
import Derived.Deep.RegionHeld3

set_option maxRecDepth 100000
namespace HM
open Go Go.RowKit Go.Proofs

instance : Inhabited Link := ⟨⟨0, 0, 0⟩⟩
def Link.enc (x : Link) : List Value := [.int .i64 x.src, .int .i64 x.dst, .int .i64 x.loss]
theorem Link.enc_ok (G : Gh) (fr : Frs) (w : World) (x : Link) (vs : List Value) : VRs G fr w x.av.cells vs ↔ vs = x.enc := by
  simp only [Link.av, AV.cells, VRs, VR, Link.enc]
  constructor
  · rintro ⟨u, us, rfl, rfl, u2, us2, rfl, rfl, u3, us3, rfl, rfl, rfl⟩; rfl
  · rintro rfl
    exact ⟨_, _, rfl, rfl, _, _, rfl, rfl, _, _, rfl, rfl, rfl⟩
def or2 (a b : Int) : Int := if a ≠ 0 then a else b
def cfL (x y : Link) : Int := or2 (Lib.compareInt x.src y.src) (Lib.compareInt x.dst y.dst)
theorem cfL_cmp (x y : Link) : cfL x y = x.cmp y := by
  unfold cfL or2 Link.cmp Link.key
  simp only [cmpL]
  have h1 : ∀ a b : Int, Lib.compareInt a b = cmpI a b := fun _ _ => rfl
  rw [h1, h1]
  by_cases h1 : cmpI x.src y.src = 0 <;> by_cases h2 : cmpI x.dst y.dst = 0 <;> simp [h1, h2]
theorem ltL_cmp (x y : Link) : ltOf cfL x y = decide (x.cmp y < 0) := by
  unfold ltOf
  rw [cfL_cmp]
theorem swoL : Go.Sort.SWO (ltOf cfL) where
  irrefl x := by rw [ltL_cmp]; unfold Link.cmp; rw [cmpL_eq.2 rfl]; rfl
  trans x y z h1 h2 := by
    rw [ltL_cmp] at *
    simp only [decide_eq_true_eq] at *
    exact cmpL_trans h1 h2
  ntrans x y z h1 h2 := by
    rw [ltL_cmp] at *
    simp only [decide_eq_false_iff_not] at *
    intro h3
    rcases Int.lt_trichotomy (x.cmp y) 0 with h | h | h
    · exact h1 h
    · unfold Link.cmp at *
      rw [cmpL_eq.1 h] at h3; exact h2 h3
    · exact h2 (cmpL_trans (cmpL_anti.2 h) h3)
set_option maxHeartbeats 4000000 in
theorem k_or2 (p q : Nat) (a b : Int) (w : World) (h0 : w.cell? ⟨p, q, none⟩ = some (.int .i64 a)) (h1 : w.cell? ⟨p, q + 1, none⟩ = some (.int .i64 b)) :
    Calls Tryz.prog 123 #[.slice (some ⟨p, q, none⟩) 2 2] w fun e w' => e = .returned (.int .i64 (or2 a b)) ∧ w' = w := by
  go_enter Tryz.func123, Tryz.ntmps123
  go_wp2
  go_rounds 3
  all_goals go_returns
  all_goals exact ⟨by show Ending.returned (.int .i64 _) = _; simp_all [or2], rfl⟩
theorem cell_newL (w : World) (arr : Array Value) (t : TypeId) (b j : Nat) (v : Value) (hb : b = w.heap.size) (h : arr[j]? = some v) : (w.alloc (.cells arr t (0, 0))).drew.cell? ⟨b, j, none⟩ = some v := by
  subst hb
  unfold World.cell? World.drew
  simp only
  rw [heap_alloc_new]
  exact h
theorem sizeL2 (W : World) (o1 o2 : Obj): W.heap.size + 1 + 1 = ((W.alloc o1).alloc o2).heap.size := by
  unfold World.alloc
  rw [Array.size_push, Array.size_push]
theorem k_or2n (W : World) (o1 o2 : Obj) (a b : Int) (t : TypeId) : Calls Tryz.prog 123 #[.slice (some ⟨W.heap.size + 1 + 1, 0, none⟩) 2 2] (((W.alloc o1).alloc o2).alloc (.cells #[.int .i64 a, .int .i64 b] t (0, 0))).drew fun e w' => e = .returned (.int .i64 (or2 a b)) ∧ w' = (((W.alloc o1).alloc o2).alloc (.cells #[.int .i64 a, .int .i64 b] t (0, 0))).drew :=
  k_or2 _ 0 a b _ (cell_newL _ _ _ _ _ _ (sizeL2 _ _ _) rfl) (cell_newL _ _ _ _ _ _ (sizeL2 _ _ _) rfl)
set_option maxHeartbeats 8000000 in
theorem k_cmpLk (x y : Link) (W : World) : Calls Tryz.prog 87 #[.agg x.enc.toArray, .agg y.enc.toArray] W fun e w' => e = .returned (.int .i64 (cfL x y)) ∧ ∃ q os', w' = Go.Sort.grow (W.drewN q) os' := by
  unfold cfL Link.enc
  go_enter Tryz.func87, Tryz.ntmps87
  go_wp2
  go_region_held3 (fun w' => w'.cell? ⟨W.heap.size, 0, none⟩ = some (.int .i64 x.src) ∧ w'.cell? ⟨W.heap.size, 1, none⟩ = some (.int .i64 x.dst) ∧ w'.cell? ⟨W.heap.size + 1, 0, none⟩ = some (.int .i64 y.src) ∧ w'.cell? ⟨W.heap.size + 1, 1, none⟩ = some (.int .i64 y.dst)) (go_keep)
    (first
      | (go_at_call 124; refine (Tryz.cmp_Compare_int _ _ _).mono ?_; rintro e w' ⟨rfl, rfl⟩)
      | (go_at_call 123; refine (k_or2n W _ _ _ _ _).mono ?_; rintro e w' ⟨rfl, rfl⟩))
  go_wp2
  go_ret
  exact ⟨rfl, 1, _, by rw [Go.Sort.alloc_eq_grow, Go.Sort.alloc_eq_grow, Go.Sort.alloc_eq_grow, Go.Sort.grow_grow, Go.Sort.grow_grow]; rfl⟩
theorem k_sortLk (blk off cap : Nat) (d : Array (Link × Unit)) (w : World) (hH : Go.Sort.HoldsK (fun p : Link × Unit => p.1.enc) 3 w blk off d) (hblk : blk < w.heap.size) (hsz : d.size < 4611686018427387904) :
    Calls Tryz.prog 116 #[.slice (some ⟨blk, off, none⟩) d.size cap, .func (.func 87) #[] #[]] w fun e w' => e = .returned (.tuple #[]) ∧ ∃ d' n os, Go.Sort.PermIn 0 d.size d d' ∧ Go.Sort.SortedIn (fun p q : Link × Unit => ltOf cfL p.1 q.1) 0 d.size d' ∧ w' = sortWorldK (fun p : Link × Unit => p.1.enc) 3 w blk off n d' os :=
  AnyQ.slices_SortFunc Tryz.sort116 3 Tryz.isAgg56 Tryz.sizeOf56 (fun p : Link × Unit => p.1.enc) (fun _ => rfl) (fun x v hv => by simp [Link.enc] at hv; rcases hv with rfl | rfl | rfl <;> rfl) (fun p q : Link × Unit => cfL p.1 q.1) ⟨fun x => swoL.irrefl x.1, fun x y z => swoL.trans x.1 y.1 z.1, fun x y z => swoL.ntrans x.1 y.1 z.1⟩ 87 #[] blk off cap d w
    (enters_of Tryz.func87 (by kernel_rfl) rfl) (fun _ _ _ _ x y => k_cmpLk x.1 y.1 _) hH hblk hsz
theorem k_sortLk0 (p : Option Addr) (cap : Nat) (fv : Value) (w : World) : Calls Tryz.prog 116 #[.slice p 0 cap, fv] w fun e w' => e = .returned (.tuple #[]) ∧ w' = w :=
  AnyF.slices_SortFunc_none Tryz.sort116 p cap fv w
theorem i_sortLk {L : World → Prop} {S : St} {id : Nat} {ex : List AV} {ds : List Link} {ty : TypeId} (hb : S.bx[id]? = some (.cells (flatE (ds.map Link.av) ++ ex) ty)) (hl : ds.length < 4611686018427387904) {n : Nat} (hn : n = ds.length) {K : AV → St → Prop}
    (hK : ∀ ds' : List Link, ds'.Perm ds → (ds'.Pairwise fun a b => ¬ b.cmp a < 0) → K (.tup []) (S.setB id (.cells (flatE (ds'.map Link.av) ++ ex) ty))) : ICall Tryz.prog L 116 [.vsl id 0 n 3, .fn 87 []] S K :=
  ICall.sort (k := 3) (α := Link) (av := Link.av) (enc := Link.enc) (lt := ltOf cfL) (pre := []) (by decide) (fun _ => rfl) Link.enc_ok k_sortLk k_sortLk0 (by simpa using hb) hl rfl hn fun ds' h1 h2 => by
    have := hK ds' h1 (h2.imp fun {a b} h => by rw [ltL_cmp] at h; simpa using h)
    simpa using this
end HM
