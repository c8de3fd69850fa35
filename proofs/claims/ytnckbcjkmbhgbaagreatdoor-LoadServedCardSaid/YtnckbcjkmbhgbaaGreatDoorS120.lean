/- Requests: their flows and routes; what is wrong with them. -/
import Derived.Test.YtnckbcjkmbhgbaaGreatDoorS30
import Derived.Test.YtnckbcjkmbhgbaaGreatDoorDa
import Derived.Test.YtnckbcjkmbhgbaaGreatDoorS1
import Derived.Test.YtnckbcjkmbhgbaaGreatDoorShelf
import Derived.Test.YtnckbcjkmbhgbaaGreatDoorFh
import Derived.Shelf.Small.Wraps
import Derived.Handy
import Derived.Deep.RegionHeld3
/- Requests: their flows and routes; what is wrong with them. -/
set_option maxRecDepth 100000
namespace HM
open Go Go.RowKit Go.Proofs
section
variable (L : World → Prop)
def Req.small (x : Req) : Prop := x.routes.length ≤ 281474976710656 ∧ ∀ r ∈ x.routes, r.length ≤ 281474976710656

theorem c_cflows (q : List Req) (hq : q.length ≤ 1099511627776) : PCall Tryz.prog L 126 [encReqs q] (encFlows (flowsQ q)) := by
  refine PCall.intro mixed [] (nt := 19) Tryz.func126 rfl rfl (by simp) ?_
  refine Wk ?_
  refine LoopK.born 3 6 31 rfl ?_
  refine LoopK.run mixed [] (fun (k : Nat) => k ≤ q.length) (fun k => [(3, .own ((flowsQ (q.take k)).map Flow.av) 0), (6, encReqs q), (7, .int .i64 q.length), (8, .int .i64 k)]) (fun k => ⟨[], [((flowsQ (q.take k)).length, 6)], 0, 0, fun k => if k = 0 then 31 else 0⟩) (fun k => q.length - k) 0 (by simp) ?_ ?_
  · refine Fits.mk' rfl rfl rfl rfl ?_ ?_ ?_ ?_ ?_ <;> repeat' (first | exact trivial | refine And.intro ?_ ?_ | exact Sees.of_eq rfl | exact lt_b rfl | rfl | exact Sees.int (by simp))
  rintro k hk
  have hfl : (flowsQ (q.take k)).length = k := by simp [flowsQ]; omega
  refine Wk ?_
  refine BrK.mk (fun hb => ?_) (fun hb => ?_) <;> (try rw [hb])
  · have hlt : k < q.length := by simpa using hb
    obtain ⟨x, hgx⟩ := getLt hlt
    have hmx := getMap (f := Req.av) hgx
    have hfs : flowsQ (q.take (k + 1)) = flowsQ (q.take k) ++ [x.flow] := by rw [take_succ hgx]; simp [flowsQ]
    repeat ((conv => whnf); first | refine sJ ?_ | refine And.intro (by first | exact inbMap hlt | exact Els.map (f := Flow.av) (fun _ => ⟨rfl, rfl⟩) | exact (show _ * 48 ≤ _ by simp only [List.length_map, List.length_append, List.length_cons, List.length_nil]; omega) | exact (by simp only [List.length_map, List.length_append, List.length_cons, List.length_nil, maxLen]; omega) | exact (show some (_, _) = some (_, _) by simp only [List.length_map]) | kernel_rfl) ?_ | rw [hmx])
    try (conv => whnf)
    refine ⟨k + 1, by omega, by omega, ?_⟩
    rw [hfs]
    refine Fits.mk' rfl rfl rfl rfl ?_ ?_ ?_ ?_ ?_ <;> repeat' (first | exact trivial | refine And.intro ?_ ?_ | exact Sees.of_eq rfl | exact lt_b rfl | rfl | exact Sees.int (succI hlt (by omega)) | exact Sees.own (by simp; rfl) | (show (_, _) = (_, _); simp only [List.length_append, List.length_map, List.length_cons, List.length_nil]))
  · have hk' : k = q.length := by simp at hb; omega
    subst hk'
    rw [List.take_length]
    refine Wk ?_
    exact resP.mk rfl (Sees.of_eq rfl)

theorem c_EqRoute (a b : List Int) (ha : a.length ≤ 281474976710656) : PCall Tryz.prog L 303 [encIs a, encIs b] (.bool (decide (a = b))) := by
  refine PCall.intro mixed [] (nt := 26) Tryz.func303 rfl rfl (by simp) ?_
  refine Wk ?_
  refine BrK.mk (fun h1 => ?_) (fun h1 => ?_) <;> (try rw [h1])
  · have hne : a.length ≠ b.length := by simp at h1; omega
    refine Wk ?_
    exact resP.mk rfl (Sees.bool (by rw [decide_eq_false (fun h => hne (by rw [h]))]))
  have hl : a.length = b.length := by simp at h1; omega
  refine Wk ?_
  refine LoopK.run mixed [] (fun (k : Nat) => k ≤ a.length ∧ ∀ (j : Nat) x y, j < k → a[j]? = some x → b[j]? = some y → x = y) (fun k => [(0, encIs a), (1, encIs b), (12, .int .i64 a.length), (13, .int .i64 k)]) (fun k => St.none) (fun k => a.length - k) 0 ⟨by simp, by simp⟩ ?_ ?_
  · refine Fits.mk' rfl rfl rfl rfl ?_ ?_ ?_ ?_ ?_ <;> repeat' (first | exact trivial | refine And.intro ?_ ?_ | exact Sees.of_eq rfl | exact lt_b rfl | rfl | exact Sees.int (by simp))
  rintro k ⟨hk, hinv⟩
  refine Wk ?_
  refine BrK.mk (fun hb => ?_) (fun hb => ?_) <;> (try rw [hb])
  · have hkt : k < a.length := by simpa using hb
    obtain ⟨x, hgx⟩ := getLt hkt
    obtain ⟨y, hgy⟩ := getLt (l := b) (k := k) (by omega)
    have hmx := getMap (f := encI) hgx
    have hmy := getMap (f := encI) hgy
    repeat ((conv => whnf); first | refine sJ ?_ | refine And.intro (by first | exact inbMap hkt | exact inbMap (by omega : k < b.length) | kernel_rfl) ?_ | rw [hmx] | rw [hmy])
    try (conv => whnf)
    refine BrK.mk (fun h2 => ?_) (fun h2 => ?_) <;> (try rw [h2])
    · have hne : ¬ a = b := fun h => by
        subst h
        rw [hgx] at hgy
        injection hgy with hgy
        subst hgy
        simp at h2
      refine Wk ?_
      exact resP.mk rfl (Sees.bool (by rw [decide_eq_false hne]))
    · have hxy : x = y := by simpa using h2
      refine Wk ?_
      refine ⟨k + 1, ⟨by omega, fun j x' y' hj hx' hy' => ?_⟩, by omega, ?_⟩
      · rcases Nat.lt_succ_iff_lt_or_eq.1 hj with h | rfl
        · exact hinv j x' y' h hx' hy'
        · rw [hgx] at hx'; rw [hgy] at hy'; injection hx' with hx'; injection hy' with hy'; rw [← hx', ← hy', hxy]
      · refine Fits.mk' rfl rfl rfl rfl ?_ ?_ ?_ ?_ ?_ <;> repeat' (first | exact trivial | refine And.intro ?_ ?_ | exact Sees.of_eq rfl | exact lt_b rfl | rfl | exact Sees.int (succI hkt ha))
  · have hkn : k = a.length := by simp at hb; omega
    subst hkn
    refine Wk ?_
    exact resP.mk rfl (Sees.bool (by rw [decide_eq_true (eq_of_at hl hinv)]))

theorem routesE_hit {n : Net} {x : Req} {k : Nat} (h1 : x.routes.length ≠ 0) (h2 : ¬ 2 < x.routes.length) (hk : k < x.routes.length) (h0 : ∀ j, j < k → routesAt n x j = 0) (he : routesAt n x k ≠ 0) : routesE n x = routesAt n x k := by
  have hf := firstAt_hit h0 he hk
  rw [routesE, if_neg h1, if_neg h2, hf, if_pos he]
theorem routesE_all {n : Net} {x : Req} (h1 : x.routes.length ≠ 0) (h2 : ¬ 2 < x.routes.length) (h0 : ∀ j, j < x.routes.length → routesAt n x j = 0) : routesE n x = if twoSame x.routes = true then 6 else 0 := by
  rw [routesE, if_neg h1, if_neg h2, firstAt_zero h0, if_neg (by simp)]

set_option maxHeartbeats 1000000 in
theorem c_checkRoutes (n : Net) (hn : n.small) (x : Req) (hx : x.small) : PCall Tryz.prog L 222 [n.av, x.av] (.int .i64 (routesE n x)) := by
  obtain ⟨hxl, hxr⟩ := hx
  refine PCall.intro mixed [] (nt := 51) Tryz.func222 rfl rfl (by simp) ?_
  refine Wk ?_
  refine BrK.mk (fun h1 => ?_) (fun h1 => ?_) <;> (try rw [h1])
  · refine Wk ?_
    exact resP.mk rfl (Sees.int (by rw [routesE, if_pos (by simpa using h1)]))
  have h1' : x.routes.length ≠ 0 := by simpa using h1
  refine Wk ?_
  refine BrK.mk (fun h2 => ?_) (fun h2 => ?_) <;> (try rw [h2])
  · refine Wk ?_
    exact resP.mk rfl (Sees.int (by rw [routesE, if_neg h1', if_pos (by simp at h2; omega)]))
  have h2' : ¬ 2 < x.routes.length := by simp at h2; omega
  refine Wk ?_
  refine LoopK.run mixed [] (fun (k : Nat) => k ≤ x.routes.length ∧ ∀ j, j < k → routesAt n x j = 0) (fun k => [(2, .ptr 0 0), (3, .ptr 1 0), (17, encRows x.routes), (18, .int .i64 x.routes.length), (19, .int .i64 k)]) (fun k => ⟨[.cells n.cs 26, .cells x.cs 56], [], 0, 0, fun _ => 0⟩) (fun k => x.routes.length - k) 0 ⟨by simp, by simp⟩ ?_ ?_
  · refine Fits.mk' rfl rfl rfl rfl ?_ ?_ ?_ ?_ ?_ <;> repeat' (first | exact trivial | refine And.intro ?_ ?_ | exact Sees.of_eq rfl | exact lt_b rfl | rfl | exact Sees.int (by simp) | exact SeesL.rfl' _)
  rintro k ⟨hk, hinv⟩
  refine Wk ?_
  refine BrK.mk (fun hb => ?_) (fun hb => ?_) <;> (try rw [hb])
  · have hlt : k < x.routes.length := by simpa using hb
    obtain ⟨r, hgr⟩ := getLt hlt
    have hmr := getMap (f := encIs) hgr
    have hrt : routesAt n x k = routeE n x.flow.src x.flow.dst r := by unfold routesAt; rw [hgr]
    repeat ((conv => whnf); first | refine sJ ?_ | refine And.intro (by first | exact inbMap hlt | kernel_rfl) ?_ | rw [hmr])
    try (conv => whnf)
    first | refine CallK.data rfl (c_RCheck L n hn x.flow.src x.flow.dst r (hxr r (List.mem_of_getElem? hgr))) rfl ?_ | refine CallP.data rfl (c_RCheck L n hn x.flow.src x.flow.dst r (hxr r (List.mem_of_getElem? hgr))) rfl ?_
    rw [← hrt]
    refine Wk ?_
    refine BrK.mk (fun h3 => ?_) (fun h3 => ?_) <;> (try rw [h3])
    · have h3' : routesAt n x k ≠ 0 := by simpa using h3
      refine Wk ?_
      exact resP.mk rfl (Sees.int (by rw [routesE_hit h1' h2' hlt hinv h3']))
    · have h3' : routesAt n x k = 0 := by simpa using h3
      refine Wk ?_
      refine ⟨k + 1, ⟨by omega, fun j hj => ?_⟩, by omega, ?_⟩
      · rcases Nat.lt_succ_iff_lt_or_eq.1 hj with h | rfl
        · exact hinv j h
        · exact h3'
      · refine Fits.mk' rfl rfl rfl rfl ?_ ?_ ?_ ?_ ?_ <;> repeat' (first | exact trivial | refine And.intro ?_ ?_ | exact Sees.of_eq rfl | exact lt_b rfl | rfl | exact Sees.int (succI hlt (by omega)) | exact SeesL.rfl' _)
  · have hk' : k = x.routes.length := by simp at hb; omega
    subst hk'
    have hE := routesE_all h1' h2' hinv
    by_cases h4 : x.routes.length = 2
    · obtain ⟨a, b, hab⟩ : ∃ a b, x.routes = [a, b] := by
        match x.routes, h4 with
        | [a, b], _ => exact ⟨a, b, rfl⟩
      have ha := hxr a (by rw [hab]; simp)
      have h4' : (((x.routes.map encIs).length : Int) == 2) = true := by simp; omega
      have m0 : (x.routes.map encIs)[Int.toNat 0]? = some (encIs a) := by rw [hab]; rfl
      have m1 : (x.routes.map encIs)[Int.toNat 1]? = some (encIs b) := by rw [hab]; rfl
      rw [hab] at hE
      repeat ((conv => whnf); first | refine sJ ?_ | refine And.intro (by first | exact inbMap (k := 0) (by omega) | exact inbMap (k := 1) (by omega) | kernel_rfl) ?_ | rw [h4'] | rw [m0] | rw [m1])
      try (conv => whnf)
      first | refine CallK.data rfl (c_EqRoute L a b ha) rfl ?_ | refine CallP.data rfl (c_EqRoute L a b ha) rfl ?_
      refine Wk ?_
      refine BrK.mk (fun h5 => ?_) (fun h5 => ?_) <;> (try rw [h5])
      · refine Wk ?_
        exact resP.mk rfl (Sees.int (by rw [hE, if_pos (by simpa [twoSame] using h5)]))
      · refine Wk ?_
        exact resP.mk rfl (Sees.int (by rw [hE, if_neg (by simpa [twoSame] using h5)]))
    · have hts : twoSame x.routes = false := by
        match hm : x.routes, h4, h1', h2' with
        | [a], _, _, _ => rfl
        | [a, b], h, _, _ => simp at h
        | [], _, h, _ => simp at h
        | a :: b :: c :: l, _, _, h => simp at h
      have h4' : (((x.routes.map encIs).length : Int) == 2) = false := by simp; omega
      repeat ((conv => whnf); first | refine sJ ?_ | refine And.intro (by first | exact trivial | kernel_rfl) ?_ | rw [h4'])
      try (conv => whnf)
      exact resP.mk rfl (Sees.int (by rw [hE, hts, if_neg (by decide)]))

set_option maxHeartbeats 1000000 in
theorem c_requests (n : Net) (hn : n.small) (q : List Req) (hq : q.length ≤ 1099511627776) (hx : ∀ x ∈ q, x.small) : PCall Tryz.prog L 125 [n.av, encReqs q] (.tup [.int .i64 (reqE n q).1, .int .i64 (reqE n q).2]) := by
  refine PCall.intro mixed [] (nt := 41) Tryz.func125 rfl rfl (by simp) ?_
  refine Wk ?_
  first | refine CallK.data rfl (c_netCheck L n hn) rfl ?_ | refine CallP.data rfl (c_netCheck L n hn) rfl ?_
  refine Wk ?_
  refine BrK.mk (fun h0 => ?_) (fun h0 => ?_) <;> (try rw [h0])
  · refine Wk ?_
    exact resP.mk rfl (Sees.of_eq (by rw [reqE, if_pos (by simpa using h0)]))
  have h0' : ¬ netE n ≠ 0 := by simpa using h0
  refine Wk ?_
  first | refine CallK.data rfl (c_cflows L q hq) rfl ?_ | refine CallP.data rfl (c_cflows L q hq) rfl ?_
  refine Wk ?_
  first | refine CallK.data rfl (c_FCheck L n.nodes (flowsQ q) (by simp [flowsQ]; omega)) rfl ?_ | refine CallP.data rfl (c_FCheck L n.nodes (flowsQ q) (by simp [flowsQ]; omega)) rfl ?_
  refine Wk ?_
  refine BrK.mk (fun h1 => ?_) (fun h1 => ?_) <;> (try rw [h1])
  · refine Wk ?_
    exact resP.mk rfl (Sees.of_eq (by rw [reqE, if_neg h0', if_pos (by simpa using h1)]))
  have h1' : ¬ (flowsE n.nodes (flowsQ q)).2 ≠ 0 := by simpa using h1
  have hE : reqE n q = firstAt (reqAt n q) q.length := by rw [reqE, if_neg h0', if_neg h1']
  rw [hE]
  refine Wk ?_
  refine LoopK.run mixed [] (fun (k : Nat) => k ≤ q.length ∧ ∀ j, j < k → reqAt n q j = 0) (fun k => [(2, .ptr 0 0), (26, encReqs q), (27, .int .i64 q.length), (28, .int .i64 k)]) (fun k => ⟨[.cells n.cs 26], [], 0, 0, fun _ => 0⟩) (fun k => q.length - k) 0 ⟨by simp, by simp⟩ ?_ ?_
  · refine Fits.mk' rfl rfl rfl rfl ?_ ?_ ?_ ?_ ?_ <;> repeat' (first | exact trivial | refine And.intro ?_ ?_ | exact Sees.of_eq rfl | exact lt_b rfl | rfl | exact Sees.int (by simp) | exact SeesL.rfl' _)
  rintro k ⟨hk, hinv⟩
  refine Wk ?_
  refine BrK.mk (fun hb => ?_) (fun hb => ?_) <;> (try rw [hb])
  · have hlt : k < q.length := by simpa using hb
    obtain ⟨x, hgx⟩ := getLt hlt
    have hmx := getMap (f := Req.av) hgx
    have hrt : reqAt n q k = routesE n x := by unfold reqAt; rw [hgx]
    repeat ((conv => whnf); first | refine sJ ?_ | refine And.intro (by first | exact inbMap hlt | kernel_rfl) ?_ | rw [hmx])
    try (conv => whnf)
    first | refine CallK.data rfl (c_checkRoutes L n hn x (hx x (List.mem_of_getElem? hgx))) rfl ?_ | refine CallP.data rfl (c_checkRoutes L n hn x (hx x (List.mem_of_getElem? hgx))) rfl ?_
    rw [← hrt]
    refine Wk ?_
    refine BrK.mk (fun h3 => ?_) (fun h3 => ?_) <;> (try rw [h3])
    · have h3' : reqAt n q k ≠ 0 := by simpa using h3
      refine Wk ?_
      exact resP.mk rfl (Sees.of_eq (by rw [firstAt_hit hinv h3' hlt]))
    · have h3' : reqAt n q k = 0 := by simpa using h3
      refine Wk ?_
      refine ⟨k + 1, ⟨by omega, fun j hj => ?_⟩, by omega, ?_⟩
      · rcases Nat.lt_succ_iff_lt_or_eq.1 hj with h | rfl
        · exact hinv j h
        · exact h3'
      · refine Fits.mk' rfl rfl rfl rfl ?_ ?_ ?_ ?_ ?_ <;> repeat' (first | exact trivial | refine And.intro ?_ ?_ | exact Sees.of_eq rfl | exact lt_b rfl | rfl | exact Sees.int (succI hlt (by omega)) | exact SeesL.rfl' _)
  · have hk' : k = q.length := by simp at hb; omega
    subst hk'
    refine Wk ?_
    exact resP.mk rfl (Sees.of_eq (by rw [firstAt_zero hinv]))

def sched0 : Sched := ⟨0, 0, []⟩
/-- what is wrong with requests on their own -/
theorem c_SCheck0 (n : Net) (hn : n.small) (l : List Flow) (hl : l.length ≤ 281474976710656) (h0 : netE n = 0) (h1 : (flowsE n.nodes l).2 = 0) : PCall Tryz.prog L 53 [n.av, encFlows l, sched0.av] (.tup [.int .i64 (-1), .int .i64 2]) := by
  refine PCall.intro mixed [] (nt := 73) Tryz.func53 rfl rfl (by simp) ?_
  refine Wk ?_
  first | refine CallK.data rfl (c_netCheck L n hn) rfl ?_ | refine CallP.data rfl (c_netCheck L n hn) rfl ?_
  rw [h0]
  refine Wk ?_
  first | refine CallK.data rfl (c_FCheck L n.nodes l hl) rfl ?_ | refine CallP.data rfl (c_FCheck L n.nodes l hl) rfl ?_
  rw [h1]
  refine Wk ?_
  first | refine CallK.data rfl (c_sized L sched0) rfl ?_ | refine CallP.data rfl (c_sized L sched0) rfl ?_
  refine Wk ?_
  exact resP.mk rfl (Sees.of_eq rfl)

theorem c_Make0 (n : Net) (hn : n.small) (q : List Req) (hq : q.length ≤ 1099511627776) (hx : ∀ x ∈ q, x.small) : PCall Tryz.prog L 39 [n.av, encReqs q, sched0.av] (.tup [.sl false [], .int .i64 (if (reqE n q).2 ≠ 0 then (reqE n q).1 else -1), .int .i64 (if (reqE n q).2 ≠ 0 then (reqE n q).2 else 1)]) := by
  refine PCall.intro mixed [] (nt := 61) Tryz.func39 rfl rfl (by simp) ?_
  refine Wk ?_
  first | refine CallK.data rfl (c_requests L n hn q hq hx) rfl ?_ | refine CallP.data rfl (c_requests L n hn q hq hx) rfl ?_
  refine Wk ?_
  refine BrK.mk (fun h0 => ?_) (fun h0 => ?_) <;> (try rw [h0])
  · have h0' : (reqE n q).2 ≠ 0 := by simpa using h0
    refine Wk ?_
    exact resP.mk rfl (Sees.of_eq (by rw [if_pos h0', if_pos h0']))
  have h0' : (reqE n q).2 = 0 := by simpa using h0
  obtain ⟨hok, hq16, hxs, hfl⟩ := reqE_ok h0'
  have hn0 : netE n = 0 := by
    by_cases h : netE n = 0
    · exact h
    · rw [reqE, if_pos h] at h0'; cases h0'
  refine Wk ?_
  first | refine CallK.data rfl (c_cflows L q hq) rfl ?_ | refine CallP.data rfl (c_cflows L q hq) rfl ?_
  refine Wk ?_
  first | refine CallK.data rfl (c_SCheck0 L n hn (flowsQ q) (by simp [flowsQ]; omega) hn0 hfl) rfl ?_ | refine CallP.data rfl (c_SCheck0 L n hn (flowsQ q) (by simp [flowsQ]; omega) hn0 hfl) rfl ?_
  refine Wk ?_
  exact resP.mk rfl (Sees.of_eq (by rw [if_neg (by simp [h0']), if_neg (by simp [h0'])]))

theorem c_LCheck (n : Net) (hn : n.small) (q : List Req) (hq : q.length ≤ 1099511627776) (hx : ∀ x ∈ q, x.small) : PCall Tryz.prog L 250 [n.av, encReqs q] (.tup [.int .i64 (reqE n q).1, .int .i64 (reqE n q).2]) := by
  refine PCall.intro mixed [] (nt := 28) Tryz.func250 rfl rfl (by simp) ?_
  refine Wk ?_
  first | refine CallK.data rfl (c_netCheck L n hn) rfl ?_ | refine CallP.data rfl (c_netCheck L n hn) rfl ?_
  refine Wk ?_
  refine BrK.mk (fun h0 => ?_) (fun h0 => ?_) <;> (try rw [h0])
  · refine Wk ?_
    exact resP.mk rfl (Sees.of_eq (by rw [reqE, if_pos (by simpa using h0)]))
  have h0' : netE n = 0 := by simpa using h0
  refine Wk ?_
  first | refine CallK.data rfl (c_Make0 L n hn q hq hx) rfl ?_ | refine CallP.data rfl (c_Make0 L n hn q hq hx) rfl ?_
  have hlt := reqE_lo n q
  by_cases h1 : (reqE n q).2 = 0
  · rw [if_neg (by simp [h1]), if_neg (by simp [h1])]
    refine Wk ?_
    exact resP.mk rfl (Sees.of_eq (by rw [reqE_zero h1]))
  · rw [if_pos h1, if_pos h1]
    refine Wk ?_
    cases h2 : (reqE n q).2 == 1
    · refine Wk ?_
      exact resP.mk rfl (Sees.of_eq rfl)
    · have h2' : (reqE n q).2 = 1 := by simpa using h2
      have hd : decide ((reqE n q).1 < 0) = false := decide_eq_false (by have := hlt h0' h2'; omega)
      repeat ((conv => whnf); first | refine sJ ?_ | refine And.intro (by first | exact trivial | kernel_rfl) ?_ | rw [hd])
      try (conv => whnf)
      exact resP.mk rfl (Sees.of_eq rfl)
end
end HM

/- Equal lists of numbers: the reference. -/
set_option maxRecDepth 100000
namespace HM
open Go Go.RowKit Go.Proofs
section
variable (L : World → Prop)

end
end HM

/- Sorting links. -/
set_option maxRecDepth 100000
namespace HM
open Go Go.RowKit Go.Proofs

instance : Inhabited Link := ⟨⟨0, 0, 0⟩⟩
def Link.enc (x : Link) : List Value := [.int .i64 x.src, .int .i64 x.dst, .int .i64 x.loss]
theorem Link.enc_ok (G : Gh) (fr : Frs) (w : World) (x : Link) (vs : List Value) : VRs G fr w x.av.cells vs ↔ vs = x.enc := by
  simp only [Link.av, AV.cells, VRs, VR, Link.enc]
  constructor
  · rintro ⟨u, us, rfl, rfl, u2, us2, rfl, rfl, u3, us3, rfl, rfl, rfl⟩; rfl
  · rintro rfl
    exact ⟨_, _, rfl, rfl, _, _, rfl, rfl, _, _, rfl, rfl, rfl⟩
def or2 (a b : Int) : Int := if a ≠ 0 then a else b
def cfL (x y : Link) : Int := or2 (Lib.compareInt x.src y.src) (Lib.compareInt x.dst y.dst)
theorem cfL_cmp (x y : Link) : cfL x y = x.cmp y := by
  unfold cfL or2 Link.cmp Link.key
  simp only [cmpL]
  have h1 : ∀ a b : Int, Lib.compareInt a b = cmpI a b := fun _ _ => rfl
  rw [h1, h1]
  by_cases h1 : cmpI x.src y.src = 0 <;> by_cases h2 : cmpI x.dst y.dst = 0 <;> simp [h1, h2]
theorem ltL_cmp (x y : Link) : ltOf cfL x y = decide (x.cmp y < 0) := by
  unfold ltOf
  rw [cfL_cmp]
theorem swoL : Go.Sort.SWO (ltOf cfL) where
  irrefl x := by rw [ltL_cmp]; unfold Link.cmp; rw [cmpL_eq.2 rfl]; rfl
  trans x y z h1 h2 := by
    rw [ltL_cmp] at *
    simp only [decide_eq_true_eq] at *
    exact cmpL_trans h1 h2
  ntrans x y z h1 h2 := by
    rw [ltL_cmp] at *
    simp only [decide_eq_false_iff_not] at *
    intro h3
    rcases Int.lt_trichotomy (x.cmp y) 0 with h | h | h
    · exact h1 h
    · unfold Link.cmp at *
      rw [cmpL_eq.1 h] at h3; exact h2 h3
    · exact h2 (cmpL_trans (cmpL_anti.2 h) h3)
set_option maxHeartbeats 4000000 in
theorem k_or2 (p q : Nat) (a b : Int) (w : World) (h0 : w.cell? ⟨p, q, none⟩ = some (.int .i64 a)) (h1 : w.cell? ⟨p, q + 1, none⟩ = some (.int .i64 b)) :
    Calls Tryz.prog 78 #[.slice (some ⟨p, q, none⟩) 2 2] w fun e w' => e = .returned (.int .i64 (or2 a b)) ∧ w' = w := by
  go_enter Tryz.func78, Tryz.ntmps78
  go_wp2
  go_rounds 3
  all_goals go_returns
  all_goals exact ⟨by show Ending.returned (.int .i64 _) = _; simp_all [or2], rfl⟩
theorem cell_newL (w : World) (arr : Array Value) (t : TypeId) (b j : Nat) (v : Value) (hb : b = w.heap.size) (h : arr[j]? = some v) : (w.alloc (.cells arr t (0, 0))).drew.cell? ⟨b, j, none⟩ = some v := by
  subst hb
  unfold World.cell? World.drew
  simp only
  rw [heap_alloc_new]
  exact h
theorem sizeL2 (W : World) (o1 o2 : Obj): W.heap.size + 1 + 1 = ((W.alloc o1).alloc o2).heap.size := by
  unfold World.alloc
  rw [Array.size_push, Array.size_push]
theorem k_or2n (W : World) (o1 o2 : Obj) (a b : Int) (t : TypeId) : Calls Tryz.prog 78 #[.slice (some ⟨W.heap.size + 1 + 1, 0, none⟩) 2 2] (((W.alloc o1).alloc o2).alloc (.cells #[.int .i64 a, .int .i64 b] t (0, 0))).drew fun e w' => e = .returned (.int .i64 (or2 a b)) ∧ w' = (((W.alloc o1).alloc o2).alloc (.cells #[.int .i64 a, .int .i64 b] t (0, 0))).drew :=
  k_or2 _ 0 a b _ (cell_newL _ _ _ _ _ _ (sizeL2 _ _ _) rfl) (cell_newL _ _ _ _ _ _ (sizeL2 _ _ _) rfl)
set_option maxHeartbeats 8000000 in
theorem k_cmpLk (x y : Link) (W : World) : Calls Tryz.prog 328 #[.agg x.enc.toArray, .agg y.enc.toArray] W fun e w' => e = .returned (.int .i64 (cfL x y)) ∧ ∃ q os', w' = Go.Sort.grow (W.drewN q) os' := by
  unfold cfL Link.enc
  go_enter Tryz.func328, Tryz.ntmps328
  go_wp2
  go_region_held3 (fun w' => w'.cell? ⟨W.heap.size, 0, none⟩ = some (.int .i64 x.src) ∧ w'.cell? ⟨W.heap.size, 1, none⟩ = some (.int .i64 x.dst) ∧ w'.cell? ⟨W.heap.size + 1, 0, none⟩ = some (.int .i64 y.src) ∧ w'.cell? ⟨W.heap.size + 1, 1, none⟩ = some (.int .i64 y.dst)) (go_keep)
    (first
      | (go_at_call 79; refine (Tryz.cmp_Compare_int _ _ _).mono ?_; rintro e w' ⟨rfl, rfl⟩)
      | (go_at_call 78; refine (k_or2n W _ _ _ _ _).mono ?_; rintro e w' ⟨rfl, rfl⟩))
  go_wp2
  go_ret
  exact ⟨rfl, 1, _, by rw [Go.Sort.alloc_eq_grow, Go.Sort.alloc_eq_grow, Go.Sort.alloc_eq_grow, Go.Sort.grow_grow, Go.Sort.grow_grow]; rfl⟩
theorem k_sortLk (blk off cap : Nat) (d : Array (Link × Unit)) (w : World) (hH : Go.Sort.HoldsK (fun p : Link × Unit => p.1.enc) 3 w blk off d) (hblk : blk < w.heap.size) (hsz : d.size < 4611686018427387904) :
    Calls Tryz.prog 332 #[.slice (some ⟨blk, off, none⟩) d.size cap, .func (.func 328) #[] #[]] w fun e w' => e = .returned (.tuple #[]) ∧ ∃ d' n os, Go.Sort.PermIn 0 d.size d d' ∧ Go.Sort.SortedIn (fun p q : Link × Unit => ltOf cfL p.1 q.1) 0 d.size d' ∧ w' = sortWorldK (fun p : Link × Unit => p.1.enc) 3 w blk off n d' os :=
  AnyQ.slices_SortFunc Tryz.sort332 3 Tryz.isAgg47 Tryz.sizeOf47 (fun p : Link × Unit => p.1.enc) (fun _ => rfl) (fun x v hv => by simp [Link.enc] at hv; rcases hv with rfl | rfl | rfl <;> rfl) (fun p q : Link × Unit => cfL p.1 q.1) ⟨fun x => swoL.irrefl x.1, fun x y z => swoL.trans x.1 y.1 z.1, fun x y z => swoL.ntrans x.1 y.1 z.1⟩ 328 #[] blk off cap d w
    (enters_of Tryz.func328 (by kernel_rfl) rfl) (fun _ _ _ _ x y => k_cmpLk x.1 y.1 _) hH hblk hsz
theorem k_sortLk0 (p : Option Addr) (cap : Nat) (fv : Value) (w : World) : Calls Tryz.prog 332 #[.slice p 0 cap, fv] w fun e w' => e = .returned (.tuple #[]) ∧ w' = w :=
  AnyF.slices_SortFunc_none Tryz.sort332 p cap fv w
theorem i_sortLk {L : World → Prop} {S : St} {id : Nat} {ex : List AV} {ds : List Link} {ty : TypeId} (hb : S.bx[id]? = some (.cells (flatE (ds.map Link.av) ++ ex) ty)) (hl : ds.length < 4611686018427387904) {n : Nat} (hn : n = ds.length) {K : AV → St → Prop}
    (hK : ∀ ds' : List Link, ds'.Perm ds → (ds'.Pairwise fun a b => ¬ b.cmp a < 0) → K (.tup []) (S.setB id (.cells (flatE (ds'.map Link.av) ++ ex) ty))) : ICall Tryz.prog L 332 [.vsl id 0 n 3, .fn 328 []] S K :=
  ICall.sort (k := 3) (α := Link) (av := Link.av) (enc := Link.enc) (lt := ltOf cfL) (pre := []) (by decide) (fun _ => rfl) Link.enc_ok k_sortLk k_sortLk0 (by simpa using hb) hl rfl hn fun ds' h1 h2 => by
    have := hK ds' h1 (h2.imp fun {a b} h => by rw [ltL_cmp] at h; simpa using h)
    simpa using this
end HM

/- What slices.Compact leaves of sorted links. -/
set_option maxRecDepth 100000
namespace HM
open Go Go.RowKit Go.Proofs
section
variable (L : World → Prop)

set_option maxHeartbeats 4000000 in
theorem i_Compact (S : St) (b : Nat) (l : List Link) (ex : List AV) {K : AV → St → Prop} (hl : l.length ≤ 281474976710656) (hb : S.bx[b]? = some (.cells (flatE (l.map Link.av) ++ ex) 47))
    (hK : ∀ S' ex', (∀ (j : Nat) (o : Ob), j ≠ b → S.bx[j]? = some o → S'.bx[j]? = some o) → S'.bx[b]? = some (.cells (flatE ((compact l).map Link.av) ++ ex') 47) → K (.vsl b 0 (compact l).length 3) S') :
    ICall Tryz.prog L 333 [.vsl b 0 l.length 3] S K := by
  refine ICall.intro mixed [] (nt := 61) Tryz.func333 rfl rfl (by simp) ?_
  refine Wk ?_
  refine BrK.mk (fun h1 => ?_) (fun h1 => ?_) <;> (try rw [h1])
  · have h1' : l.length < 2 := by simp at h1; omega
    refine Wk ?_
    have := hK S ex (fun _ _ _ h => h) (by rw [compact_short h1']; exact hb)
    rw [compact_short h1'] at this
    exact this
  have h1' : ¬ l.length < 2 := by simp at h1; omega
  refine Wk ?_
  refine LoopK.runS mixed [] (fun (k : Nat) (S1 : St) => 1 ≤ k ∧ k ≤ l.length ∧ compact (l.take k) = l.take k ∧ ∀ (j : Nat) (o : Ob), S.bx[j]? = some o → S1.bx[j]? = some o) (fun k => [(0, .vsl b 0 l.length 3), (3, .int .i64 k)]) (fun k => l.length - k) 1 ⟨by omega, by omega, ?_, fun _ _ h => h⟩ ?_ ?_
  · obtain ⟨x, hx⟩ := getLt (l := l) (k := 0) (by omega)
    exact compact_one hx
  · exact ⟨Sees.of_eq rfl, Sees.of_eq rfl, trivial⟩
  rintro k S1 ⟨hk1, hk2, hc, hS1⟩
  have hb1 := hS1 _ _ hb
  obtain ⟨m, rfl⟩ : ∃ m, k = m + 1 := ⟨k - 1, by omega⟩
  have hw : IntKind.i64.wrap (((m + 1 : Nat) : Int) - 1) = (m : Int) := by rw [w64] <;> omega
  refine Wk ?_
  refine BrK.mk (fun h2 => ?_) (fun h2 => ?_) <;> (try rw [h2])
  · have hlt : m + 1 < l.length := by simp at h2; omega
    obtain ⟨y, hgy⟩ := getLt hlt
    obtain ⟨x, hgx⟩ := getLt (l := l) (k := m) (by omega)
    repeat ((conv => whnf); first | refine sJ ?_ | refine And.intro (by first | exact ⟨by omega, by omega⟩ | (rw [hw]; exact ⟨by omega, by omega⟩) | kernel_rfl) ?_ | rw [hw] | rw [hb1])
    try (conv => whnf)
    refine And.intro (show 0 + ((m + 1 : Nat) : Int).toNat * 3 + 3 ≤ _ from linkOk.fit1 ex hlt) ?_
    rw [linkOk.ldr _ hgy _ _ (by kernel_rfl) (by kernel_rfl)]
    repeat ((conv => whnf); first | refine sJ ?_ | refine And.intro (by first | (rw [hw]; exact ⟨by omega, by omega⟩) | kernel_rfl) ?_ | rw [hw] | rw [hb1])
    try (conv => whnf)
    refine And.intro (show 0 + (m : Int).toNat * 3 + 3 ≤ _ from linkOk.fit1 ex (by omega)) ?_
    rw [linkOk.ldr _ hgx _ _ (by kernel_rfl) (by kernel_rfl)]
    have hdec : (y.src == x.src && (y.dst == x.dst && (y.loss == x.loss && true))) = decide (y = x) := by
      rw [Bool.eq_iff_iff]
      simp only [Bool.and_eq_true, beq_iff_eq, and_true, decide_eq_true_eq]
      constructor
      · rintro ⟨h1, h2, h3⟩
        cases x; cases y
        simp only at h1 h2 h3
        subst h1; subst h2; subst h3; rfl
      · rintro rfl; exact ⟨rfl, rfl, rfl⟩
    refine Wk ?_
    refine BrK.mk (fun h3 => ?_) (fun h3 => ?_) <;> (try rw [h3])
    · have h3' : y = x := by rw [hdec] at h3; simpa using h3
      repeat ((conv => whnf); first | refine sJ ?_ | refine And.intro (by first | (show InC _ _; exact ⟨by omega, by omega⟩) | kernel_rfl) ?_ | rw [hb1])
      try (conv => whnf)
      refine LoopK.runS mixed [] (fun (s : List Link × Nat × Nat) (S2 : St) => 1 ≤ s.2.2 ∧ Cpt l s.1 s.2.1 (m + 1 + s.2.2) ∧ (∀ (j : Nat) (o : Ob), j ≠ b → S.bx[j]? = some o → S2.bx[j]? = some o) ∧ S2.bx[b]? = some (.cells (flatE (s.1.map Link.av) ++ ex) 47)) (fun s => [(0, .vsl b 0 l.length 3), (3, .int .i64 s.2.1), (4, .vsl b (0 + ((m + 1 : Nat) : Int).toNat * 3) (l.length - ((m + 1 : Nat) : Int).toNat) 3), (5, .int .i64 s.2.2)]) (fun s => l.length - s.2.2) (l, m + 1, 1) ⟨by simp, Cpt.start hgx hgy h3' hc, fun _ _ _ h => hS1 _ _ h, hb1⟩ ?_ ?_
      · exact ⟨Sees.of_eq rfl, Sees.of_eq rfl, Sees.of_eq rfl, Sees.of_eq rfl, trivial⟩
      rintro ⟨a, i, t⟩ S2 ⟨ht, hcp, hu, hb2⟩
      simp only at ht hcp hb2
      have hij := hcp.ij
      have hjl := hcp.jl
      have hal := hcp.len
      refine Wk ?_
      refine BrK.mk (fun h4 => ?_) (fun h4 => ?_) <;> (try rw [h4])
      · have h4' : m + 1 + t < l.length := by simp at h4; omega
        obtain ⟨t, rfl⟩ : ∃ u, t = u + 1 := ⟨t - 1, by omega⟩
        have hw2 : IntKind.i64.wrap (((t + 1 : Nat) : Int) - 1) = (t : Int) := by rw [w64] <;> omega
        obtain ⟨v, hgv⟩ := getLt h4'
        obtain ⟨u, hgu⟩ := getLt (l := l) (k := m + 1 + t) (by omega)
        have hav : a[m + 1 + (t + 1)]? = some v := by rw [hcp.get (by omega)]; exact hgv
        have hau : a[m + 1 + t]? = some u := by rw [hcp.get (by omega)]; exact hgu
        repeat ((conv => whnf); first | refine sJ ?_ | refine And.intro (by first | exact (show InB ((t + 1 : Nat) : Int) (l.length - (m + 1)) from ⟨by omega, by omega⟩) | kernel_rfl) ?_ | rw [hw2] | rw [hb2] | rw [show (S2.flush []).bx[b]? = _ from hb2])
        try (conv => whnf)
        refine And.intro (show 0 + ((m + 1 : Nat) : Int).toNat * 3 + ((t + 1 : Nat) : Int).toNat * 3 + 3 ≤ _ from linkOk.fit2 ex (by omega)) ?_
        rw [linkOk.ldr2 _ hav _ _ _ (by kernel_rfl) (by kernel_rfl) (by kernel_rfl)]
        repeat ((conv => whnf); first | refine sJ ?_ | refine And.intro (by first | (rw [hw2]; exact (show InB (t : Int) (l.length - (m + 1)) from ⟨by omega, by omega⟩)) | kernel_rfl) ?_ | rw [hw2] | rw [hb2] | rw [show (S2.flush []).bx[b]? = _ from hb2])
        try (conv => whnf)
        refine And.intro (show 0 + ((m + 1 : Nat) : Int).toNat * 3 + (t : Int).toNat * 3 + 3 ≤ _ from linkOk.fit2 ex (by omega)) ?_
        rw [linkOk.ldr2 _ hau _ _ _ (by kernel_rfl) (by kernel_rfl) (by kernel_rfl)]
        have hdec2 : (!(v.src == u.src && (v.dst == u.dst && (v.loss == u.loss && true)))) = !decide (v = u) := by
          congr 1
          rw [Bool.eq_iff_iff]
          simp only [Bool.and_eq_true, beq_iff_eq, and_true, decide_eq_true_eq]
          constructor
          · rintro ⟨h1, h2, h3⟩
            cases v; cases u
            simp only at h1 h2 h3
            subst h1; subst h2; subst h3; rfl
          · rintro rfl; exact ⟨rfl, rfl, rfl⟩
        refine Wk ?_
        refine BrK.mk (fun h5 => ?_) (fun h5 => ?_) <;> (try rw [h5])
        · have h5' : v ≠ u := by rw [hdec2] at h5; simpa using h5
          have hk2 := hcp.keep (x := u) (y := v) hgu hgv h5'
          have hst := linkOk.st v ex (l := a) (k := i) (by omega)
          repeat ((conv => whnf); first | refine sJ ?_ | refine And.intro (by first | exact (show InB ((t + 1 : Nat) : Int) (l.length - (m + 1)) from ⟨by omega, by omega⟩) | exact (show InB (i : Int) l.length from ⟨by omega, by omega⟩) | kernel_rfl) ?_ | rw [hb2] | rw [show (S2.flush []).bx[b]? = _ from hb2])
          try (conv => whnf)
          refine And.intro (show 0 + ((m + 1 : Nat) : Int).toNat * 3 + ((t + 1 : Nat) : Int).toNat * 3 + 3 ≤ _ from linkOk.fit2 ex (by omega)) ?_
          rw [linkOk.ldr2 _ hav _ _ _ (by kernel_rfl) (by kernel_rfl) (by kernel_rfl)]
          repeat ((conv => whnf); first | refine sJ ?_ | refine And.intro (by first | exact (show InB (i : Int) l.length from ⟨by omega, by omega⟩) | kernel_rfl) ?_ | rw [hb2] | rw [show (S2.flush []).bx[b]? = _ from hb2])
          try (conv => whnf)
          refine And.intro (show 0 + (i : Int).toNat * 3 + 3 ≤ _ from linkOk.fit1 ex (by omega)) ?_
          refine Wk ?_
          refine ⟨(a.set i v, i + 1, t + 2), ⟨by simp only; omega, hk2, fun j o hne h => ?_, ?_⟩, by simp only; omega, Sees.of_eq rfl, Sees.int (by simp only; rw [w64] <;> omega), Sees.of_eq rfl, Sees.int (by simp only; rw [w64] <;> omega), trivial⟩
          · rw [St.setB_ne hne.symm]; exact hu j o hne h
          · rw [St.setB_get (show (S2.flush []).bx[b]? = _ from hb2)]
            rw [← hst, Nat.zero_add, Int.toNat_natCast]
            rfl
        · have h5' : v = u := by rw [hdec2] at h5; simpa using h5
          refine Wk ?_
          refine ⟨(a, i, t + 2), ⟨by simp only; omega, hcp.drop (x := u) (y := v) hgu hgv h5', hu, hb2⟩, by simp only; omega, Sees.of_eq rfl, Sees.of_eq rfl, Sees.of_eq rfl, Sees.int (by simp only; rw [w64] <;> omega), trivial⟩
      · have hjn : m + 1 + t = l.length := by simp at h4; omega
        rw [hjn] at hcp
        have hfin := hcp.fin
        have hflen := linkOk.flen a
        have hcl : 0 + (i : Int).toNat * 3 + (l.length - (i : Int).toNat) * 3 ≤ (flatE (a.map Link.av) ++ ex).length := by
          rw [List.length_append, hflen, Int.toNat_natCast, Nat.zero_add, ← Nat.add_mul, show i + (l.length - i) = l.length by omega, hal]
          exact Nat.le_add_right _ _
        have hfl : (compact l).length = i := by rw [← hfin, List.length_take]; omega
        repeat ((conv => whnf); first | refine sJ ?_ | refine And.intro (by first | exact (show InC (i : Int) l.length from ⟨by omega, by omega⟩) | exact ⟨rfl, rfl, Nat.le_of_ble_eq_true rfl, hcl⟩ | kernel_rfl) ?_ | rw [hb2] | rw [St.setB_get hb2])
        try (conv => whnf)
        rw [linkOk.clr' (l := a) (k := i) _ _ _ _ (by kernel_rfl) (by rw [Int.toNat_natCast, hal]) (by omega) rfl]
        refine And.intro ⟨by omega, ?_⟩ ?_
        · unfold upTo?
          rw [St.setB_get hb2]
          exact ⟨linkOk.headLe (k := i) _ _ rfl (by omega), by decide⟩
        refine Wk ?_
        have hK2 := hK
        rw [hfl] at hK2
        refine hK2 _ (repL (l.length - (i : Int).toNat) [.int .i64 0, .int .i64 0, .int .i64 0] ++ ex) (fun j o hne h => ?_) ?_
        · show (S2.setB b _).bx[j]? = _
          rw [St.setB_ne hne.symm]; exact hu j o hne h
        · show (S2.setB b _).bx[b]? = _
          rw [St.setB_get hb2, ← hfin]
          rfl
    · have h3' : ¬ y = x := by rw [hdec] at h3; simpa using h3
      refine Wk ?_
      refine ⟨m + 2, ⟨by omega, by omega, ?_, hS1⟩, by omega, Sees.of_eq rfl, Sees.int (by rw [w64] <;> omega), trivial⟩
      rw [compact_new hgx hgy h3', hc, ← take_succ hgy]
  · have hm : m + 1 = l.length := by simp at h2; omega
    rw [hm, List.take_length] at hc
    refine Wk ?_
    have := hK (S1.outer S) ex (fun _ _ _ h => hS1 _ _ h) (by rw [hc]; exact hb1)
    rw [hc] at this
    exact this
end
end HM
