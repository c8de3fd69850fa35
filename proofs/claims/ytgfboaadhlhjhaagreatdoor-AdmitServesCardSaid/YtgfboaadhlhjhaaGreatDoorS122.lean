/- Sorting links. -/
import Derived.Test.YtgfboaadhlhjhaaGreatDoorS114
import Derived.Test.YtgfboaadhlhjhaaGreatDoorShelf
import Derived.Test.YtgfboaadhlhjhaaGreatDoorFh
import Derived.Shelf.Small.Wraps
import Derived.Handy
import Derived.Deep.RegionHeld3
import Derived.Test.YtgfboaadhlhjhaaGreatDoorS30
import Derived.Test.YtgfboaadhlhjhaaGreatDoorS1
set_option maxRecDepth 100000
namespace HM
open Go Go.RowKit Go.Proofs
instance : Inhabited Link := ⟨⟨0, 0, 0⟩⟩
def Link.enc (x : Link) : List Value := [.int .i64 x.src, .int .i64 x.dst, .int .i64 x.loss]
end HM
set_option maxRecDepth 100000
namespace HM
open Go Go.RowKit Go.Proofs
section
variable (L : World → Prop)
end
end HM
set_option maxRecDepth 100000
namespace HM
open Go Go.RowKit Go.Proofs
section
variable (L : World → Prop)
end
end HM
set_option maxRecDepth 100000
namespace HM
open Go Go.RowKit Go.Proofs
structure QOk (n : Net) (q : List Req) (len : Int) : Prop where
  n0 : netE n = 0
  sz : SzOk n q len
  net : NetOk n
  q16 : q.length ≤ 16
  req : ∀ x ∈ q, ReqOk n x
  per : ∀ x ∈ q, 1 ≤ x.flow.period ∧ x.flow.period ≤ 512
theorem SzOk.q {n : Net} {q : List Req} {len : Int} (h : SzOk n q len) : QOk n q len := by
  obtain ⟨h1, h2, h3, h4⟩ := reqE_ok h.req
  refine ⟨?_, h, h1, h2, h3, fun x hx => ?_⟩
  · by_cases hn : netE n = 0
    · exact hn
    · have := h.req
      rw [reqE, if_pos hn] at this; cases this
  · have := flowE_ok (h3 x hx).flow
    omega
section
variable (L : World → Prop)
end
end HM
set_option maxRecDepth 100000
namespace HM
open Go Go.RowKit Go.Proofs
section
variable (L : World → Prop)
theorem c_SameInts31 (a b : List Int) (ha : a.length ≤ 281474976710656) : PCall Tryz.prog L 66 [encIs a, encIs b] (.bool (decide (a = b))) := by
  refine PCall.intro mixed [] (nt := 26) Tryz.func66 rfl rfl (by simp) ?_
  refine Wk ?_
  refine BrK.mk (fun h1 => ?_) (fun h1 => ?_) <;> (try rw [h1])
  · have hne : a.length ≠ b.length := by simp at h1; omega
    refine Wk ?_
    exact resP.mk rfl (Sees.bool (by rw [decide_eq_false (fun h => hne (by rw [h]))]))
  have hl : a.length = b.length := by simp at h1; omega
  refine Wk ?_
  refine LoopK.run mixed [] (fun (k : Nat) => k ≤ a.length ∧ ∀ (j : Nat) x y, j < k → a[j]? = some x → b[j]? = some y → x = y) (fun k => [(0, encIs a), (1, encIs b), (5, .int .i64 k)]) (fun k => St.none) (fun k => a.length - k) 0 ⟨by simp, by simp⟩ ?_ ?_
  · refine Fits.mk' rfl rfl rfl rfl ?_ ?_ ?_ ?_ ?_ <;> repeat' (first | exact trivial | refine And.intro ?_ ?_ | exact Sees.of_eq rfl | exact lt_b rfl | rfl | exact Sees.int (by simp))
  rintro k ⟨hk, hinv⟩
  refine Wk ?_
  refine BrK.mk (fun hb => ?_) (fun hb => ?_) <;> (try rw [hb])
  · have hkt : k < a.length := by simpa using hb
    obtain ⟨x, hgx⟩ := getLt hkt
    obtain ⟨y, hgy⟩ := getLt (l := b) (k := k) (by omega)
    have hmx := getMap (f := encI) hgx
    have hmy := getMap (f := encI) hgy
    repeat ((conv => whnf); first | refine sJ ?_ | refine And.intro (by first | exact inbMap hkt | exact inbMap (by omega : k < b.length) | kernel_rfl) ?_ | rw [hmx] | rw [hmy])
    try (conv => whnf)
    refine BrK.mk (fun h2 => ?_) (fun h2 => ?_) <;> (try rw [h2])
    · have hne : ¬ a = b := fun h => by
        subst h
        rw [hgx] at hgy
        injection hgy with hgy
        subst hgy
        simp at h2
      refine Wk ?_
      exact resP.mk rfl (Sees.bool (by rw [decide_eq_false hne]))
    · have hxy : x = y := by simpa using h2
      refine Wk ?_
      refine ⟨k + 1, ⟨by omega, fun j x' y' hj hx' hy' => ?_⟩, by omega, ?_⟩
      · rcases Nat.lt_succ_iff_lt_or_eq.1 hj with h | rfl
        · exact hinv j x' y' h hx' hy'
        · rw [hgx] at hx'; rw [hgy] at hy'; injection hx' with hx'; injection hy' with hy'; rw [← hx', ← hy', hxy]
      · refine Fits.mk' rfl rfl rfl rfl ?_ ?_ ?_ ?_ ?_ <;> repeat' (first | exact trivial | refine And.intro ?_ ?_ | exact Sees.of_eq rfl | exact lt_b rfl | rfl | exact Sees.int (succI hkt ha))
  · have hkn : k = a.length := by simp at hb; omega
    subst hkn
    refine Wk ?_
    exact resP.mk rfl (Sees.bool (by rw [decide_eq_true (eq_of_at hl hinv)]))
end
end HM
set_option maxRecDepth 100000
namespace HM
open Go Go.RowKit Go.Proofs
section
variable (L : World → Prop)
end
end HM
set_option maxRecDepth 100000
namespace HM
open Go Go.RowKit Go.Proofs
section
variable (L : World → Prop)
def few38 (n : Net) (q : List Req) (s : Sched) : Bool := (q.all fun x => few37 n sched0 x.routes) && (few31 n && decide ((q.length : Int) ≤ 4) && decide ((s.cells.length : Int) ≤ 30))
theorem c_Few38 (n : Net) (hn : n.small) (q : List Req) (hq : q.length ≤ 281474976710656) (hx : ∀ x ∈ q, x.small) (s : Sched) : PCall Tryz.prog L 16 [n.av, encReqs q, s.av] (.bool (few38 n q s)) := by
  refine PCall.intro mixed [] (nt := 36) Tryz.func16 rfl rfl (by simp) ?_
  refine Wk ?_
  refine LoopK.run mixed [] (fun (k : Nat) => k ≤ q.length ∧ ∀ j x, j < k → q[j]? = some x → few37 n sched0 x.routes = true) (fun k => [(1, encReqs q), (3, .ptr 0 0), (5, .ptr 1 0), (7, .int .i64 k)]) (fun k => ⟨[.cells n.cs 26, .cells [.int .i64 s.len, .int .i64 s.offs, encCells s.cells] 29], [], 0, 0, fun _ => 0⟩) (fun k => q.length - k) 0 ⟨by simp, by simp⟩ ?_ ?_
  · refine Fits.mk' rfl rfl rfl rfl ?_ ?_ ?_ ?_ ?_ <;> repeat' (first | exact trivial | refine And.intro ?_ ?_ | exact Sees.of_eq rfl | exact lt_b rfl | rfl | exact SeesL.rfl' _)
  rintro k ⟨hk, hinv⟩
  refine Wk ?_
  refine BrK.mk (fun hb => ?_) (fun hb => ?_) <;> (try rw [hb])
  · have hlt : k < q.length := by simpa using hb
    obtain ⟨x, hgx⟩ := getLt hlt
    have hmx := getMap (f := Req.av) hgx
    have hxm := List.mem_of_getElem? hgx
    repeat ((conv => whnf); first | refine sJ ?_ | refine And.intro (by first | exact inbMap hlt | kernel_rfl) ?_ | rw [hmx])
    try (conv => whnf)
    first | refine CallK.data rfl (c_Few37 L n sched0 x.routes hn (hx x hxm).1) rfl ?_ | refine CallP.data rfl (c_Few37 L n sched0 x.routes hn (hx x hxm).1) rfl ?_
    refine Wk ?_
    refine BrK.mk (fun h1 => ?_) (fun h1 => ?_) <;> (try rw [h1])
    · have h1' : few37 n sched0 x.routes = false := by simpa using h1
      refine Wk ?_
      exact resP.mk rfl (Sees.bool (by rw [few38, show (q.all fun x => few37 n sched0 x.routes) = false from List.all_eq_false.2 ⟨x, hxm, by simp [h1']⟩]; rfl))
    · have h1' : few37 n sched0 x.routes = true := by simpa using h1
      refine Wk ?_
      refine ⟨k + 1, ⟨by omega, fun j y hj hy => ?_⟩, by omega, ?_⟩
      · rcases Nat.lt_succ_iff_lt_or_eq.1 hj with h | rfl
        · exact hinv j y h hy
        · rw [hgx] at hy; injection hy with hy; subst hy; exact h1'
      · refine Fits.mk' rfl rfl rfl rfl ?_ ?_ ?_ ?_ ?_ <;> repeat' (first | exact trivial | refine And.intro ?_ ?_ | exact Sees.of_eq rfl | exact lt_b rfl | rfl | exact Sees.int (succI hlt (by omega)) | exact SeesL.rfl' _)
  · have hk' : k = q.length := by simp at hb; omega
    subst hk'
    have hall : (q.all fun x => few37 n sched0 x.routes) = true := by
      rw [List.all_eq_true]
      intro x hx
      obtain ⟨j, hj⟩ := List.getElem?_of_mem hx
      exact hinv j x (List.getElem?_eq_some_iff.1 hj).1 hj
    refine Wk ?_
    first | refine CallK.data rfl (c_Few31 L n hn) rfl ?_ | refine CallP.data rfl (c_Few31 L n hn) rfl ?_
    repeat' ((conv => whnf); first | refine sJ ?_ | refine And.intro (by first  | kernel_rfl) ?_  | (refine BrK.mk (fun hb => ?_) (fun hb => ?_) <;> (try rw [hb])))
    all_goals try (conv => whnf)
    all_goals exact resP.mk rfl (Sees.bool (by rw [few38, hall]; simp_all <;> omega))
theorem few38_len {n : Net} {q : List Req} {s : Sched} (h : few38 n q s = true) : q.length ≤ 4 ∧ s.cells.length ≤ 30 := by
  unfold few38 at h
  simp only [Bool.and_eq_true, decide_eq_true_eq] at h
  omega
end
end HM
