/- Sorting breaches. -/
import Derived.Test.YtcbpgfmedemibaaGreatDoorS79
import Derived.Test.YtcbpgfmedemibaaGreatDoorDb
import Derived.Shelf.Small.Wraps
import Derived.Handy
import Derived.Deep.RegionHeld3

set_option maxRecDepth 100000
namespace HM
open Go Go.RowKit Go.Proofs

/-- a breach as the program has it: the slots are a slice somewhere -/
structure RB where
  a : Int
  b : Int
  c : Int
  d : Int
  p : Option Addr
  n : Nat
  m : Nat
instance : Inhabited RB := ⟨⟨0, 0, 0, 0, none, 0, 0⟩⟩
def RB.enc (x : RB) : List Value := [.int .i64 x.a, .int .i64 x.b, .int .i64 x.c, .int .i64 x.d, .slice x.p x.n x.m]
def or4 (a b c d : Int) : Int := if a ≠ 0 then a else if b ≠ 0 then b else if c ≠ 0 then c else d
def cfB (x y : RB) : Int := or4 (Lib.compareInt x.a y.a) (Lib.compareInt x.b y.b) (Lib.compareInt x.c y.c) (Lib.compareInt x.d y.d)
set_option maxHeartbeats 4000000 in
theorem k_or4 (p q : Nat) (a b c d : Int) (w : World) (h0 : w.cell? ⟨p, q, none⟩ = some (.int .i64 a)) (h1 : w.cell? ⟨p, q + 1, none⟩ = some (.int .i64 b)) (h2 : w.cell? ⟨p, q + 2, none⟩ = some (.int .i64 c)) (h3 : w.cell? ⟨p, q + 3, none⟩ = some (.int .i64 d)) :
    Calls Tryz.prog 42 #[.slice (some ⟨p, q, none⟩) 4 4] w fun e w' => e = .returned (.int .i64 (or4 a b c d)) ∧ w' = w := by
  go_enter Tryz.func42, Tryz.ntmps42
  go_wp2
  go_rounds 5
  all_goals go_returns
  all_goals exact ⟨by show Ending.returned (.int .i64 _) = _; simp_all [or4], rfl⟩
theorem cell_newAt (w : World) (arr : Array Value) (t : TypeId) (b j : Nat) (v : Value) (hb : b = w.heap.size) (h : arr[j]? = some v) : (w.alloc (.cells arr t (0, 0))).drew.cell? ⟨b, j, none⟩ = some v := by
  subst hb
  unfold World.cell? World.drew
  simp only
  rw [heap_alloc_new]
  exact h
theorem size2 (W : World) (o1 o2 : Obj): W.heap.size + 1 + 1 = ((W.alloc o1).alloc o2).heap.size := by
  unfold World.alloc
  rw [Array.size_push, Array.size_push]
theorem k_or4n (W : World) (o1 o2 : Obj) (a b c d : Int) (t : TypeId) : Calls Tryz.prog 42 #[.slice (some ⟨W.heap.size + 1 + 1, 0, none⟩) 4 4] (((W.alloc o1).alloc o2).alloc (.cells #[.int .i64 a, .int .i64 b, .int .i64 c, .int .i64 d] t (0, 0))).drew fun e w' => e = .returned (.int .i64 (or4 a b c d)) ∧ w' = (((W.alloc o1).alloc o2).alloc (.cells #[.int .i64 a, .int .i64 b, .int .i64 c, .int .i64 d] t (0, 0))).drew :=
  k_or4 _ 0 a b c d _ (cell_newAt _ _ _ _ _ _ (size2 _ _ _) rfl) (cell_newAt _ _ _ _ _ _ (size2 _ _ _) rfl) (cell_newAt _ _ _ _ _ _ (size2 _ _ _) rfl) (cell_newAt _ _ _ _ _ _ (size2 _ _ _) rfl)
set_option maxHeartbeats 8000000 in
theorem k_cmpB (x y : RB) (W : World) : Calls Tryz.prog 85 #[.agg x.enc.toArray, .agg y.enc.toArray] W fun e w' => e = .returned (.int .i64 (cfB x y)) ∧ ∃ q os', w' = Go.Sort.grow (W.drewN q) os' := by
  unfold cfB RB.enc
  go_enter Tryz.func85, Tryz.ntmps85
  go_wp2
  go_region_held3 (fun w' => w'.cell? ⟨W.heap.size, 0, none⟩ = some (.int .i64 x.a) ∧ w'.cell? ⟨W.heap.size, 1, none⟩ = some (.int .i64 x.b) ∧ w'.cell? ⟨W.heap.size, 2, none⟩ = some (.int .i64 x.c) ∧ w'.cell? ⟨W.heap.size, 3, none⟩ = some (.int .i64 x.d) ∧ w'.cell? ⟨W.heap.size + 1, 0, none⟩ = some (.int .i64 y.a) ∧ w'.cell? ⟨W.heap.size + 1, 1, none⟩ = some (.int .i64 y.b) ∧ w'.cell? ⟨W.heap.size + 1, 2, none⟩ = some (.int .i64 y.c) ∧ w'.cell? ⟨W.heap.size + 1, 3, none⟩ = some (.int .i64 y.d)) (go_keep)
    (first
      | (go_at_call 43; refine (Tryz.cmp_Compare_int _ _ _).mono ?_; rintro e w' ⟨rfl, rfl⟩)
      | (go_at_call 42; refine (k_or4n W _ _ _ _ _ _ _).mono ?_; rintro e w' ⟨rfl, rfl⟩))
  go_wp2
  go_ret
  exact ⟨rfl, 1, _, by rw [Go.Sort.alloc_eq_grow, Go.Sort.alloc_eq_grow, Go.Sort.alloc_eq_grow, Go.Sort.grow_grow, Go.Sort.grow_grow]; rfl⟩
def RB.key (x : RB) : List Int := [x.a, x.b, x.c, x.d]
theorem cmpI_lib (x y : Int) : Lib.compareInt x y = cmpI x y := rfl
theorem cfB_key (x y : RB) : cfB x y = cmpL x.key y.key := by
  unfold cfB RB.key or4
  simp only [cmpL, cmpI_lib]
  by_cases h1 : cmpI x.a y.a = 0
  · by_cases h2 : cmpI x.b y.b = 0
    · by_cases h3 : cmpI x.c y.c = 0
      · by_cases h4 : cmpI x.d y.d = 0 <;> simp [h1, h2, h3, h4]
      · simp [h1, h2, h3]
    · simp [h1, h2]
  · simp [h1]
theorem ltB_key (p q : Brc × RB) : ltOf (fun p q : Brc × RB => cfB p.2 q.2) p q = decide (cmpL p.2.key q.2.key < 0) := by
  unfold ltOf
  simp only [cfB_key]
theorem swoB : Go.Sort.SWO (ltOf fun p q : Brc × RB => cfB p.2 q.2) where
  irrefl x := by rw [ltB_key, cmpL_eq.2 rfl]; rfl
  trans x y z h1 h2 := by
    rw [ltB_key] at *
    simp only [decide_eq_true_eq] at *
    exact cmpL_trans h1 h2
  ntrans x y z h1 h2 := by
    rw [ltB_key] at *
    simp only [decide_eq_false_iff_not] at *
    intro h3
    rcases Int.lt_trichotomy (cmpL x.2.key y.2.key) 0 with h | h | h
    · exact h1 h
    · rw [cmpL_eq.1 h] at h3; exact h2 h3
    · exact h2 (cmpL_trans (cmpL_anti.2 h) h3)
/-- the row holds the breach's numbers -/
def IsRB (p : Brc × RB) : Prop := p.2.key = p.1.key
theorem Brc.enc_ok (G : Gh) (fr : Frs) (w : World) (x : Brc) (vs : List Value) (h : VRs G fr w x.av.cells vs) : ∃ y : RB, vs = RB.enc y ∧ IsRB (x, y) := by
  simp only [Brc.av, AV.cells, VRs, VR, encIs] at h
  obtain ⟨u, us, rfl, rfl, u2, us2, rfl, rfl, u3, us3, rfl, rfl, u4, us4, rfl, rfl, u5, us5, rfl, ⟨A, c, rfl, _⟩, rfl⟩ := h
  exact ⟨⟨x.flow, x.frame, x.src, x.dst, A, _, c⟩, rfl, rfl⟩
instance : Inhabited Brc := ⟨⟨0, 0, 0, 0, []⟩⟩
theorem k_sortB (blk off cap : Nat) (d : Array (Brc × RB)) (w : World) (hH : Go.Sort.HoldsK (fun p : Brc × RB => p.2.enc) 5 w blk off d) (hblk : blk < w.heap.size) (hsz : d.size < 4611686018427387904) :
    Calls Tryz.prog 84 #[.slice (some ⟨blk, off, none⟩) d.size cap, .func (.func 85) #[] #[]] w fun e w' => e = .returned (.tuple #[]) ∧ ∃ d' n os, Go.Sort.PermIn 0 d.size d d' ∧ Go.Sort.SortedIn (ltOf fun p q : Brc × RB => cfB p.2 q.2) 0 d.size d' ∧ w' = sortWorldK (fun p : Brc × RB => p.2.enc) 5 w blk off n d' os :=
  AnyQ.slices_SortFunc Tryz.sort84 5 Tryz.isAgg154 Tryz.sizeOf154 (fun p : Brc × RB => p.2.enc) (fun _ => rfl) (fun x v hv => by simp [RB.enc] at hv; rcases hv with rfl | rfl | rfl | rfl | rfl <;> rfl) (fun p q : Brc × RB => cfB p.2 q.2) swoB 85 #[] blk off cap d w
    (enters_of Tryz.func85 (by kernel_rfl) rfl) (fun _ _ _ _ x y => k_cmpB x.2 y.2 _) hH hblk hsz
theorem k_sortB0 (p : Option Addr) (cap : Nat) (fv : Value) (w : World) : Calls Tryz.prog 84 #[.slice p 0 cap, fv] w fun e w' => e = .returned (.tuple #[]) ∧ w' = w :=
  AnyF.slices_SortFunc_none Tryz.sort84 p cap fv w
theorem i_sortB {L : World → Prop} {S : St} {id : Nat} {ex : List AV} {ds : List Brc} {ty : TypeId} (hb : S.bx[id]? = some (.cells (flatE (ds.map Brc.av) ++ ex) ty)) (hl : ds.length < 4611686018427387904) {K : AV → St → Prop}
    (hK : ∀ ds' : List Brc, ds'.Perm ds → (ds'.Pairwise fun a b => ¬ ltB b a) → K (.tup []) (S.setB id (.cells (flatE (ds'.map Brc.av) ++ ex) ty))) : ICall Tryz.prog L 84 [.vsl id 0 ds.length 5, .fn 85 []] S K :=
  ICall.sortR (k := 5) (α := Brc) (β := RB) (av := Brc.av) (enc := fun p => p.2.enc) (lt := ltOf fun p q : Brc × RB => cfB p.2 q.2) (R := IsRB) (ltA := fun a b => decide (cmpL a.key b.key < 0)) (pre := []) (by decide) (fun _ => rfl) Brc.enc_ok (fun p q hp hq => by rw [ltB_key, hp, hq]) k_sortB k_sortB0 (by simpa using hb) hl rfl rfl fun ds' h1 h2 => by
    have := hK ds' h1 (h2.imp fun h => by simpa [ltB] using h)
    simpa using this
end HM
