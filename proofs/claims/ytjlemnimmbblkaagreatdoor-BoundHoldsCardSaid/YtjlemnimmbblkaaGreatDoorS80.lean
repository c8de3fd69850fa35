/- A player: a slot. -/
import Derived.Test.YtjlemnimmbblkaaGreatDoorS78
import Derived.Test.YtjlemnimmbblkaaGreatDoorS79
import Derived.Test.YtjlemnimmbblkaaGreatDoorDb
import Derived.Test.YtjlemnimmbblkaaGreatDoorFh
import Derived.Shelf.Small.Wraps

set_option maxRecDepth 100000
namespace HM
open Go Go.RowKit Go.Proofs

instance : Inhabited Del := ⟨⟨0, 0, 0⟩⟩
def Del.enc (d : Del) : List Value := [.int .i64 d.flow, .int .i64 d.frame, .int .i64 d.slot]
theorem Del.enc_ok (G : Gh) (fr : Frs) (w : World) (x : Del) (vs : List Value) : VRs G fr w x.av.cells vs ↔ vs = x.enc := by
  simp only [Del.av, AV.cells, VRs, VR, Del.enc]
  constructor
  · rintro ⟨u, us, rfl, rfl, u2, us2, rfl, rfl, u3, us3, rfl, rfl, rfl⟩; rfl
  · rintro rfl
    exact ⟨_, _, rfl, rfl, _, _, rfl, rfl, _, _, rfl, rfl, rfl⟩
def cfD (a b : Del) : Int := Lib.compareInt a.flow b.flow
theorem ltD (a b : Del) : ltOf cfD a b = decide (a.flow < b.flow) := by
  unfold ltOf cfD Lib.compareInt
  by_cases h1 : a.flow < b.flow
  · simp [h1]
  · by_cases h2 : b.flow < a.flow <;> simp [h1, h2]
theorem swoD : Go.Sort.SWO (ltOf cfD) where
  irrefl x := by rw [ltD]; simp
  trans x y z h1 h2 := by rw [ltD] at *; simp at *; omega
  ntrans x y z h1 h2 := by rw [ltD] at *; simp at *; omega
set_option maxHeartbeats 1000000 in
theorem k_cmpD (x y : Del) (W : World) : Calls Tryz.prog 42 #[.agg x.enc.toArray, .agg y.enc.toArray] W fun e w' => e = .returned (.int .i64 (cfD x y)) ∧ ∃ q os', w' = Go.Sort.grow (W.drewN q) os' := by
  have hcon := fun W' => Tryz.cmp_Compare_int x.flow y.flow W'
  unfold cfD
  generalize Lib.compareInt x.flow y.flow = r at hcon ⊢
  unfold Del.enc
  go_enter Tryz.func42, Tryz.ntmps42
  go_wp2_with (go_at_call 28; refine (hcon _).mono ?_; rintro e w' ⟨rfl, rfl⟩)
  go_ret
  exact ⟨rfl, 0, _, by rw [Go.Sort.alloc_eq_grow, Go.Sort.alloc_eq_grow, Go.Sort.grow_grow]; rfl⟩
theorem k_sortD (blk off cap : Nat) (d : Array (Del × Unit)) (w : World) (hH : Go.Sort.HoldsK (fun p : Del × Unit => p.1.enc) 3 w blk off d) (hblk : blk < w.heap.size) (hsz : d.size < 4611686018427387904) :
    Calls Tryz.prog 41 #[.slice (some ⟨blk, off, none⟩) d.size cap, .func (.func 42) #[] #[]] w fun e w' => e = .returned (.tuple #[]) ∧ ∃ d' n os, Go.Sort.PermIn 0 d.size d d' ∧ Go.Sort.SortedIn (fun p q : Del × Unit => ltOf cfD p.1 q.1) 0 d.size d' ∧ w' = sortWorldK (fun p : Del × Unit => p.1.enc) 3 w blk off n d' os :=
  AnyQ.slices_SortFunc Tryz.sort41 3 Tryz.isAgg97 Tryz.sizeOf97 (fun p : Del × Unit => p.1.enc) (fun _ => rfl) (fun x v hv => by simp [Del.enc] at hv; rcases hv with rfl | rfl | rfl <;> rfl) (fun p q : Del × Unit => cfD p.1 q.1) ⟨fun x => swoD.irrefl x.1, fun x y z => swoD.trans x.1 y.1 z.1, fun x y z => swoD.ntrans x.1 y.1 z.1⟩ 42 #[] blk off cap d w
    (enters_of Tryz.func42 (by kernel_rfl) rfl) (fun _ _ _ _ x y => k_cmpD x.1 y.1 _) hH hblk hsz
theorem k_sortD0 (p : Option Addr) (cap : Nat) (fv : Value) (w : World) : Calls Tryz.prog 41 #[.slice p 0 cap, fv] w fun e w' => e = .returned (.tuple #[]) ∧ w' = w :=
  AnyF.slices_SortFunc_none Tryz.sort41 p cap fv w
end HM
