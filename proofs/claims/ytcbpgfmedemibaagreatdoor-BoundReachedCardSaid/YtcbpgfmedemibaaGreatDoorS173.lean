/- Sorting rules: slices.SortFunc at a named slice type: the inner function by the kit, the outer one by hand. -/
import Derived.Test.YtcbpgfmedemibaaGreatDoorS33
import Derived.Test.YtcbpgfmedemibaaGreatDoorDc
import Derived.Test.YtcbpgfmedemibaaGreatDoorFh
import Derived.Shelf.Small.Wraps
import Derived.Handy
import Derived.Deep.RegionHeld3

set_option maxRecDepth 100000
namespace HM
open Go Go.RowKit Go.Proofs

/-- a rule as the program has it: the outcomes are a slice somewhere -/
structure RW where
  a : Int
  b : Int
  c : Int
  d : Int
  p : Option Addr
  n : Nat
  m : Nat
instance : Inhabited RW := ⟨⟨0, 0, 0, 0, none, 0, 0⟩⟩
def RW.enc (x : RW) : List Value := [.int .i64 x.a, .int .i64 x.b, .int .i64 x.c, .int .i64 x.d, .slice x.p x.n x.m]
def or2 (a b : Int) : Int := if a ≠ 0 then a else b
def cfW (x y : RW) : Int := or2 (Lib.compareInt x.b y.b) (Lib.compareInt x.c y.c)
set_option maxHeartbeats 4000000 in
theorem k_or2 (p q : Nat) (a b : Int) (w : World) (h0 : w.cell? ⟨p, q, none⟩ = some (.int .i64 a)) (h1 : w.cell? ⟨p, q + 1, none⟩ = some (.int .i64 b)) :
    Calls Tryz.prog 42 #[.slice (some ⟨p, q, none⟩) 2 2] w fun e w' => e = .returned (.int .i64 (or2 a b)) ∧ w' = w := by
  go_enter Tryz.func42, Tryz.ntmps42
  go_wp2
  go_rounds 3
  all_goals go_returns
  all_goals exact ⟨by show Ending.returned (.int .i64 _) = _; simp_all [or2], rfl⟩
theorem cell_newAt (w : World) (arr : Array Value) (t : TypeId) (b j : Nat) (v : Value) (hb : b = w.heap.size) (h : arr[j]? = some v) : (w.alloc (.cells arr t (0, 0))).drew.cell? ⟨b, j, none⟩ = some v := by
  subst hb
  unfold World.cell? World.drew
  simp only
  rw [heap_alloc_new]
  exact h
theorem size2 (W : World) (o1 o2 : Obj): W.heap.size + 1 + 1 = ((W.alloc o1).alloc o2).heap.size := by
  unfold World.alloc
  rw [Array.size_push, Array.size_push]
theorem k_or2n (W : World) (o1 o2 : Obj) (a b : Int) (t : TypeId) : Calls Tryz.prog 42 #[.slice (some ⟨W.heap.size + 1 + 1, 0, none⟩) 2 2] (((W.alloc o1).alloc o2).alloc (.cells #[.int .i64 a, .int .i64 b] t (0, 0))).drew fun e w' => e = .returned (.int .i64 (or2 a b)) ∧ w' = (((W.alloc o1).alloc o2).alloc (.cells #[.int .i64 a, .int .i64 b] t (0, 0))).drew :=
  k_or2 _ 0 a b _ (cell_newAt _ _ _ _ _ _ (size2 _ _ _) rfl) (cell_newAt _ _ _ _ _ _ (size2 _ _ _) rfl)
set_option maxHeartbeats 8000000 in
theorem k_cmpW (x y : RW) (W : World) : Calls Tryz.prog 41 #[.agg x.enc.toArray, .agg y.enc.toArray] W fun e w' => e = .returned (.int .i64 (cfW x y)) ∧ ∃ q os', w' = Go.Sort.grow (W.drewN q) os' := by
  unfold cfW RW.enc
  go_enter Tryz.func41, Tryz.ntmps41
  go_wp2
  go_region_held3 (fun w' => w'.cell? ⟨W.heap.size, 1, none⟩ = some (.int .i64 x.b) ∧ w'.cell? ⟨W.heap.size, 2, none⟩ = some (.int .i64 x.c) ∧ w'.cell? ⟨W.heap.size + 1, 1, none⟩ = some (.int .i64 y.b) ∧ w'.cell? ⟨W.heap.size + 1, 2, none⟩ = some (.int .i64 y.c)) (go_keep)
    (first
      | (go_at_call 43; refine (Tryz.cmp_Compare_int _ _ _).mono ?_; rintro e w' ⟨rfl, rfl⟩)
      | (go_at_call 42; refine (k_or2n W _ _ _ _ _).mono ?_; rintro e w' ⟨rfl, rfl⟩))
  go_wp2
  go_ret
  exact ⟨rfl, 1, _, by rw [Go.Sort.alloc_eq_grow, Go.Sort.alloc_eq_grow, Go.Sort.alloc_eq_grow, Go.Sort.grow_grow, Go.Sort.grow_grow]; rfl⟩
def RW.key (x : RW) : List Int := [x.b, x.c]
def Rule.key2 (x : Rule) : List Int := [x.src, x.dst]
theorem cmpI_lib (x y : Int) : Lib.compareInt x y = cmpI x y := rfl
theorem cfW_key (x y : RW) : cfW x y = cmpL x.key y.key := by
  unfold cfW RW.key or2
  simp only [cmpL, cmpI_lib]
  by_cases h1 : cmpI x.b y.b = 0
  · by_cases h2 : cmpI x.c y.c = 0 <;> simp [h1, h2]
  · simp [h1]
theorem ltW_key (p q : Rule × RW) : ltOf (fun p q : Rule × RW => cfW p.2 q.2) p q = decide (cmpL p.2.key q.2.key < 0) := by
  unfold ltOf
  simp only [cfW_key]
theorem swoW : Go.Sort.SWO (ltOf fun p q : Rule × RW => cfW p.2 q.2) where
  irrefl x := by rw [ltW_key, cmpL_eq.2 rfl]; rfl
  trans x y z h1 h2 := by
    rw [ltW_key] at *
    simp only [decide_eq_true_eq] at *
    exact cmpL_trans h1 h2
  ntrans x y z h1 h2 := by
    rw [ltW_key] at *
    simp only [decide_eq_false_iff_not] at *
    intro h3
    rcases Int.lt_trichotomy (cmpL x.2.key y.2.key) 0 with h | h | h
    · exact h1 h
    · rw [cmpL_eq.1 h] at h3; exact h2 h3
    · exact h2 (cmpL_trans (cmpL_anti.2 h) h3)
/-- the row holds the breach's numbers -/
def IsRW (p : Rule × RW) : Prop := p.2.key = p.1.key2
theorem Rule.enc_ok (G : Gh) (fr : Frs) (w : World) (x : Rule) (vs : List Value) (h : VRs G fr w x.av.cells vs) : ∃ y : RW, vs = RW.enc y ∧ IsRW (x, y) := by
  simp only [Rule.av, AV.cells, VRs, VR, encIs] at h
  obtain ⟨u, us, rfl, rfl, u2, us2, rfl, rfl, u3, us3, rfl, rfl, u4, us4, rfl, rfl, u5, us5, rfl, ⟨A, c, rfl, _⟩, rfl⟩ := h
  exact ⟨⟨x.flow, x.src, x.dst, x.frame, A, _, c⟩, rfl, rfl⟩
instance : Inhabited Rule := ⟨⟨0, 0, 0, 0, []⟩⟩
set_option maxHeartbeats 4000000 in
set_option maxRecDepth 100000 in
theorem k_sortW (blk off cap : Nat) (d : Array (Rule × RW)) (w : World) (hH : Go.Sort.HoldsK (fun p : Rule × RW => p.2.enc) 5 w blk off d) (hblk : blk < w.heap.size) (hsz : d.size < 4611686018427387904) :
    Calls Tryz.prog 40 #[.slice (some ⟨blk, off, none⟩) d.size cap, .func (.func 41) #[] #[]] w fun e w' => e = .returned (.tuple #[]) ∧ ∃ d' n os, Go.Sort.PermIn 0 d.size d d' ∧ Go.Sort.SortedIn (ltOf fun p q : Rule × RW => cfW p.2 q.2) 0 d.size d' ∧ w' = sortWorldK (fun p : Rule × RW => p.2.enc) 5 w blk off n d' os := by
  have hlim : Lib.bitLen d.size < 4611686018427387904 := Nat.lt_of_le_of_lt (Lib.bitLen_le d.size 62 (by omega) (by omega)) (by omega)
  have hp := AnyQ.pdqsortCmpFunc_all Tryz.pdq92 5 Tryz.isAgg95 Tryz.sizeOf95 (fun p : Rule × RW => p.2.enc) (fun p q : Rule × RW => cfW p.2 q.2) 41 #[] swoW blk off cap d w
    (enters_of Tryz.func41 (by kernel_rfl) rfl) (fun _ _ _ _ x y => k_cmpW x.2 y.2 _) ⟨fun _ => rfl, fun x v hv => by simp [RW.enc] at hv; rcases hv with rfl | rfl | rfl | rfl | rfl <;> rfl, hH, hblk⟩ (d.size + 1) 0 d.size (Lib.bitLen d.size) d w (by omega) rfl (SWK.start hH) (Nat.zero_le _) (Nat.le_refl _) hsz hlim (Or.inl rfl)
  have hs := Go.Sort.pdq_sorts (ltOf fun p q : Rule × RW => cfW p.2 q.2) swoW d 0 d.size (Lib.bitLen d.size) true true (Nat.zero_le _) (Nat.le_refl _) (Or.inl rfl)
  have hl : Calls Tryz.prog 93 #[.int .u64 (d.size : Int)] w fun e w' => e = .returned (.int .i64 (Lib.bitLen d.size : Nat)) ∧ w' = w := by
    have h := Tryz.bits_Len (d.size : Int) w (by omega) (by omega)
    rwa [Int.toNat_natCast] at h
  have wr : IntKind.u64.wrap (d.size : Int) = d.size := by simp [IntKind.wrap, IntKind.bits, IntKind.signed]; omega
  change Calls Tryz.prog 92 _ _ _ at hp
  clear hH
  go_enter Tryz.func40, Tryz.ntmps40
  go_wp2_with (first | (go_at_call 93; refine hl.mono ?_; rintro e w' ⟨rfl, rfl⟩) | (go_at_call 92; refine hp.mono ?_; rintro e w' ⟨rfl, n, os, rfl⟩))
  go_end0
  exact ⟨rfl, _, n, os, hs.1, hs.2, rfl⟩
set_option maxHeartbeats 4000000 in
set_option maxRecDepth 100000 in
theorem k_sortW0 (p : Option Addr) (cap : Nat) (fv : Value) (w : World) : Calls Tryz.prog 40 #[.slice p 0 cap, fv] w fun e w' => e = .returned (.tuple #[]) ∧ w' = w := by
  have hp := fun lim W => AnyF.pdqsortCmpFunc_none Tryz.pdq92 p cap lim fv W
  have hl : ∀ W, Calls Tryz.prog 93 #[.int .u64 0] W fun e w' => e = .returned (.int .i64 (Lib.bitLen 0 : Nat)) ∧ w' = W := fun W => by
    have h := Tryz.bits_Len 0 W (by omega) (by omega)
    exact h
  change ∀ lim W, Calls Tryz.prog 92 _ _ _ at hp
  go_enter Tryz.func40, Tryz.ntmps40
  go_wp2_with (first | (go_at_call 93; refine (hl _).mono ?_; rintro e w' ⟨rfl, rfl⟩) | (go_at_call 92; refine (hp _ _).mono ?_; rintro e w' ⟨rfl, rfl⟩))
  go_end0
  exact ⟨rfl, rfl⟩
theorem i_sortW {L : World → Prop} {S : St} {id : Nat} {ex : List AV} {ds : List Rule} {ty : TypeId} (hb : S.bx[id]? = some (.cells (flatE (ds.map Rule.av) ++ ex) ty)) (hl : ds.length < 4611686018427387904) {K : AV → St → Prop}
    (hK : ∀ ds' : List Rule, ds'.Perm ds → (ds'.Pairwise fun a b => ¬ cmpL b.key2 a.key2 < 0) → K (.tup []) (S.setB id (.cells (flatE (ds'.map Rule.av) ++ ex) ty))) : ICall Tryz.prog L 40 [.vsl id 0 ds.length 5, .fn 41 []] S K :=
  ICall.sortR (k := 5) (α := Rule) (β := RW) (av := Rule.av) (enc := fun p => p.2.enc) (lt := ltOf fun p q : Rule × RW => cfW p.2 q.2) (R := IsRW) (ltA := fun a b => decide (cmpL a.key2 b.key2 < 0)) (pre := []) (by decide) (fun _ => rfl) Rule.enc_ok (fun p q hp hq => by rw [ltW_key, hp, hq]) k_sortW k_sortW0 (by simpa using hb) hl rfl rfl fun ds' h1 h2 => by
    have := hK ds' h1 (h2.imp fun h => by simpa using h)
    simpa using this
end HM
