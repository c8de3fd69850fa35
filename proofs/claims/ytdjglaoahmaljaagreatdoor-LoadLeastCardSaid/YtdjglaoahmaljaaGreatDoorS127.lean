/- How many cells requests need: the reference. -/
import Derived.Test.YtdjglaoahmaljaaGreatDoorS126
import Derived.Test.YtdjglaoahmaljaaGreatDoorS125
import Derived.Test.YtdjglaoahmaljaaGreatDoorS114

set_option maxRecDepth 100000
namespace HM
open Go Go.RowKit Go.Proofs
theorem usesQ_hit {x : Req} {a b : Int} {r : List Int} (hr : r ∈ x.routes) {i : Nat} (hi : i + 1 < r.length) (h1 : r.getD i 0 = a) (h2 : r.getD (i + 1) 0 = b) : usesQ x a b = true := by
  unfold usesQ usesR
  rw [List.any_eq_true]
  refine ⟨r, hr, ?_⟩
  rw [List.any_eq_true]
  exact ⟨i, by simp; omega, by rw [h1, h2]; simp⟩
theorem usesR_no {r : List Int} {a b : Int} (h : ∀ i, i + 1 < r.length → ¬ (r.getD i 0 = a ∧ r.getD (i + 1) 0 = b)) : usesR r a b = false := by
  unfold usesR
  rw [List.any_eq_false]
  intro i hi
  have := h i (by simp at hi; omega)
  simpa using this
theorem usesQ_no {x : Req} {a b : Int} (h : ∀ (j : Nat) r, j < x.routes.length → x.routes[j]? = some r → usesR r a b = false) : usesQ x a b = false := by
  unfold usesQ
  rw [List.any_eq_false]
  intro r hr
  obtain ⟨j, hj⟩ := List.getElem?_of_mem hr
  simp [h j r (List.getElem?_eq_some_iff.1 hj).1 hj]
section
variable (L : World → Prop)

theorem c_in39 (n lo hi : Int) : PCall Tryz.prog L 38 [.int .i64 n, .int .i64 lo, .int .i64 hi] (.bool (inB n lo hi)) := by
  refine PCall.intro mixed [] (nt := 15) Tryz.func38 rfl rfl (by simp) ?_
  repeat' ((conv => whnf); first | refine sJ ?_ | refine And.intro (by first  | kernel_rfl) ?_  | (refine BrK.mk (fun hb => ?_) (fun hb => ?_) <;> (try rw [hb])))
  all_goals try (conv => whnf)
  all_goals exact resP.mk rfl (Sees.of_eq (by first | (simp_all [inB]; done) | (simp_all [inB]; omega)))

theorem c_uses (x : Req) (hx : x.small) (a b : Int) : PCall Tryz.prog L 110 [x.av, .int .i64 a, .int .i64 b] (.bool (usesQ x a b)) := by
  obtain ⟨hxl, hxr⟩ := hx
  refine PCall.intro mixed [] (nt := 43) Tryz.func110 rfl rfl (by simp) ?_
  refine Wk ?_
  refine LoopK.run mixed [] (fun (k : Nat) => k ≤ x.routes.length ∧ ∀ j r, j < k → x.routes[j]? = some r → usesR r a b = false) (fun k => [(1, .int .i64 a), (2, .int .i64 b), (3, .ptr 0 0), (7, .int .i64 k)]) (fun k => ⟨[.cells x.cs 77], [], 0, 0, fun _ => 0⟩) (fun k => x.routes.length - k) 0 ⟨by simp, by simp⟩ ?_ ?_
  · refine Fits.mk' rfl rfl rfl rfl ?_ ?_ ?_ ?_ ?_ <;> repeat' (first | exact trivial | refine And.intro ?_ ?_ | exact Sees.of_eq rfl | exact lt_b rfl | rfl | exact SeesL.rfl' _)
  rintro k ⟨hk, hinv⟩
  refine Wk ?_
  refine BrK.mk (fun hb => ?_) (fun hb => ?_) <;> (try rw [hb])
  · have hlt : k < x.routes.length := by simpa using hb
    obtain ⟨r, hgr⟩ := getLt hlt
    have hmr := getMap (f := encIs) hgr
    have hrm := List.mem_of_getElem? hgr
    have hrl := hxr r hrm
    repeat ((conv => whnf); first | refine sJ ?_ | refine And.intro (by first | exact inbMap hlt | kernel_rfl) ?_ | rw [hmr])
    try (conv => whnf)
    refine LoopK.run mixed [] (fun (j : Nat) => 1 ≤ j ∧ ∀ i, i + 1 < j → i + 1 < r.length → ¬ (r.getD i 0 = a ∧ r.getD (i + 1) 0 = b)) (fun j => [(1, .int .i64 a), (2, .int .i64 b), (3, .ptr 0 0), (7, .int .i64 k), (8, encIs r), (9, .int .i64 j)]) (fun _ => ⟨[.cells x.cs 77], [], 0, 0, fun _ => 0⟩) (fun j => r.length - j) 1 ⟨by omega, fun i hi => by omega⟩ ?_ ?_
    · refine Fits.mk' rfl rfl rfl rfl ?_ ?_ ?_ ?_ ?_ <;> repeat' (first | exact trivial | refine And.intro ?_ ?_ | exact Sees.of_eq rfl | exact lt_b rfl | rfl | exact SeesL.rfl' _)
    rintro j ⟨hj1, hinv2⟩
    refine Wk ?_
    refine BrK.mk (fun hd => ?_) (fun hd => ?_) <;> (try rw [hd])
    · have hjt : j < r.length := by simpa using hd
      obtain ⟨i, rfl⟩ : ∃ i, j = i + 1 := ⟨j - 1, by omega⟩
      have hw : IntKind.i64.wrap (((i + 1 : Nat) : Int) - 1) = (i : Int) := by rw [w64] <;> omega
      obtain ⟨u, hgu⟩ := getLt (l := r) (k := i) (by omega)
      obtain ⟨v, hgv⟩ := getLt hjt
      have hmu := getMap (f := encI) hgu
      have hmv := getMap (f := encI) hgv
      have hu : r.getD i 0 = u := by rw [List.getD_eq_getElem?_getD, hgu]; rfl
      have hv : r.getD (i + 1) 0 = v := by rw [List.getD_eq_getElem?_getD, hgv]; rfl
      have nxt : ¬ (u = a ∧ v = b) → ∀ m, m + 1 < i + 2 → m + 1 < r.length → ¬ (r.getD m 0 = a ∧ r.getD (m + 1) 0 = b) := fun h m hm hml => by
        rcases Nat.lt_succ_iff_lt_or_eq.1 hm with h' | h'
        · exact hinv2 m h' hml
        · obtain rfl : m = i := by omega
          rw [hu, hv]; exact h
      repeat ((conv => whnf); first | refine sJ ?_ | refine And.intro (by first | (rw [hw]; exact inbMap (by omega)) | kernel_rfl) ?_ | rw [hw] | rw [hmu])
      try (conv => whnf)
      cases h1 : u == a
      · have h1' : u ≠ a := by simpa using h1
        refine Wk ?_
        refine ⟨i + 2, ⟨by omega, nxt fun h => h1' h.1⟩, by omega, ?_⟩
        refine Fits.mk' rfl rfl rfl rfl ?_ ?_ ?_ ?_ ?_ <;> repeat' (first | exact trivial | refine And.intro ?_ ?_ | exact Sees.of_eq rfl | exact lt_b rfl | rfl | exact Sees.int (by rw [w64] <;> omega) | exact SeesL.rfl' _)
      · have h1' : u = a := by simpa using h1
        repeat ((conv => whnf); first | refine sJ ?_ | refine And.intro (by first | exact inbMap hjt | kernel_rfl) ?_ | rw [hmv])
        try (conv => whnf)
        refine BrK.mk (fun h2 => ?_) (fun h2 => ?_) <;> (try rw [h2])
        · have h2' : v = b := by simpa using h2
          refine Wk ?_
          exact resP.mk rfl (Sees.bool (by rw [usesQ_hit hrm hjt (by rw [hu, h1']) (by rw [hv, h2'])]))
        · have h2' : v ≠ b := by simpa using h2
          refine Wk ?_
          refine ⟨i + 2, ⟨by omega, nxt fun h => h2' h.2⟩, by omega, ?_⟩
          refine Fits.mk' rfl rfl rfl rfl ?_ ?_ ?_ ?_ ?_ <;> repeat' (first | exact trivial | refine And.intro ?_ ?_ | exact Sees.of_eq rfl | exact lt_b rfl | rfl | exact Sees.int (by rw [w64] <;> omega) | exact SeesL.rfl' _)
    · have hjr : r.length ≤ j := by simp at hd; omega
      have hno := usesR_no (r := r) (a := a) (b := b) fun i hi => hinv2 i (by omega) hi
      refine Wk ?_
      refine ⟨k + 1, ⟨by omega, fun m y hm hy => ?_⟩, by omega, ?_⟩
      · rcases Nat.lt_succ_iff_lt_or_eq.1 hm with h | rfl
        · exact hinv m y h hy
        · rw [hgr] at hy; injection hy with hy; subst hy; exact hno
      · refine Fits.mk' rfl rfl rfl rfl ?_ ?_ ?_ ?_ ?_ <;> repeat' (first | exact trivial | refine And.intro ?_ ?_ | exact Sees.of_eq rfl | exact lt_b rfl | rfl | exact Sees.int (succI hlt (by omega)) | exact SeesL.rfl' _)
  · have hk' : k = x.routes.length := by simp at hb; omega
    subst hk'
    refine Wk ?_
    exact resP.mk rfl (Sees.bool (by rw [usesQ_no hinv]))

theorem needM_bd {q : List Req} {len : Int} (h1 : 1 ≤ len) (h2 : len ≤ 512) (hp : ∀ x ∈ q, 1 ≤ x.flow.period) (hq : q.length ≤ 16) {l : Link} (b1 : 0 ≤ l.loss) (b2 : l.loss ≤ 7) : 0 ≤ needM q len l ∧ needM q len l ≤ 2097152 := by
  have := sumW_bd (f := fun x => if usesQ x l.src l.dst then needC len x l else 0) (m := 131072) (by omega) (l := q) fun x hx => by
    have := needC_bd (x := x) (l := l) h1 h2 (hp x hx) b1 (by omega)
    split <;> omega
  have : (q.length : Int) * 131072 ≤ 16 * 131072 := Int.mul_le_mul_of_nonneg_right (by omega) (by omega)
  unfold needM
  omega
theorem needM_sum {n : Net} (h : NetOk n) {q : List Req} {len : Int} (h1 : 1 ≤ len) (h2 : len ≤ 512) (hp : ∀ x ∈ q, 1 ≤ x.flow.period) (hq : q.length ≤ 16) {ls : List Link} (hs : ∀ l ∈ ls, l ∈ n.links) (hl : ls.length ≤ 128) : 0 ≤ sumW (needM q len) ls ∧ sumW (needM q len) ls ≤ 268435456 := by
  have := sumW_bd (f := needM q len) (m := 2097152) (by omega) (l := ls) fun l hl => by
    have hb := link_bd h (hs l hl)
    exact needM_bd h1 h2 hp hq hb.1 hb.2
  have : (ls.length : Int) * 2097152 ≤ 128 * 2097152 := Int.mul_le_mul_of_nonneg_right (by omega) (by omega)
  omega

theorem c_need39 (q : List Req) (hx : ∀ x ∈ q, x.small) (len : Int) (h1 : 1 ≤ len) (h2 : len ≤ 512) (hp : ∀ x ∈ q, 1 ≤ x.flow.period) (hq : q.length ≤ 16) (l : Link) (b1 : 0 ≤ l.loss) (b2 : l.loss ≤ 7) : PCall Tryz.prog L 63 [encReqs q, .int .i64 len, l.av] (.int .i64 (needM q len l)) := by
  refine PCall.intro mixed [] (nt := 39) Tryz.func63 rfl rfl (by simp) ?_
  refine Wk ?_
  refine LoopK.run mixed [] (fun (k : Nat) => k ≤ q.length) (fun k => [(0, encReqs q), (1, .int .i64 len), (5, .ptr 0 0), (7, .int .i64 (needM (q.take k) len l)), (8, .int .i64 k)]) (fun k => ⟨[.cells [.int .i64 l.src, .int .i64 l.dst, .int .i64 l.loss] 56], [], 0, 0, fun _ => 0⟩) (fun k => q.length - k) 0 (by simp) ?_ ?_
  · refine Fits.mk' rfl rfl rfl rfl ?_ ?_ ?_ ?_ ?_ <;> repeat' (first | exact trivial | refine And.intro ?_ ?_ | exact Sees.of_eq rfl | exact lt_b rfl | rfl )
  rintro k hk
  have hb3 := needM_bd h1 h2 (q := q.take k) (fun x h => hp x (List.mem_of_mem_take h)) (by rw [List.length_take]; omega) b1 b2
  refine Wk ?_
  refine BrK.mk (fun hb => ?_) (fun hb => ?_) <;> (try rw [hb])
  · have hlt : k < q.length := by simpa using hb
    obtain ⟨x, hgx⟩ := getLt hlt
    have hmx := getMap (f := Req.av) hgx
    have hxm := List.mem_of_getElem? hgx
    have hp1 := hp x hxm
    have hst : needM (q.take (k + 1)) len l = needM (q.take k) len l + (if usesQ x l.src l.dst then needC len x l else 0) := sumW_take _ hgx
    repeat ((conv => whnf); first | refine sJ ?_ | refine And.intro (by first | exact inbMap hlt | kernel_rfl) ?_ | rw [hmx])
    try (conv => whnf)
    first | refine CallK.data rfl (c_uses L x (hx x hxm) l.src l.dst) rfl ?_ | refine CallP.data rfl (c_uses L x (hx x hxm) l.src l.dst) rfl ?_
    refine Wk ?_
    refine BrK.mk (fun h3 => ?_) (fun h3 => ?_) <;> (try rw [h3])
    · rw [if_pos h3] at hst
      obtain ⟨c1, c2, c3, c4⟩ := needC_bd (x := x) (l := l) h1 h2 hp1 b1 (by omega)
      have hw1 : IntKind.i64.wrap (l.loss + 1) = l.loss + 1 := by rw [w64] <;> omega
      have hw2 : IntKind.i64.wrap ((l.loss + 1) * len) = (l.loss + 1) * len := by rw [w64] <;> omega
      have hdv : ((l.loss + 1) * len).tdiv x.flow.period = needC len x l := by rw [needC, Int.tdiv_eq_ediv_of_nonneg c3]
      have hw3 : IntKind.i64.wrap (needC len x l) = needC len x l := by rw [w64] <;> omega
      repeat ((conv => whnf); first | refine sJ ?_ | refine And.intro (by first | exact inbMap hlt | exact (show x.flow.period ≠ 0 by omega) | kernel_rfl) ?_ | rw [hmx] | rw [hw1] | rw [hw2] | rw [hdv] | rw [hw3])
      try (conv => whnf)
      refine ⟨k + 1, by omega, by omega, ?_⟩
      refine Fits.mk' rfl rfl rfl rfl ?_ ?_ ?_ ?_ ?_ <;> repeat' (first | exact trivial | refine And.intro ?_ ?_ | exact Sees.of_eq rfl | exact lt_b rfl | rfl | exact Sees.int (succI hlt (by omega)) | exact Sees.int (by rw [hst, w64] <;> omega))
    · rw [if_neg (by simp [h3])] at hst
      refine Wk ?_
      refine ⟨k + 1, by omega, by omega, ?_⟩
      refine Fits.mk' rfl rfl rfl rfl ?_ ?_ ?_ ?_ ?_ <;> repeat' (first | exact trivial | refine And.intro ?_ ?_ | exact Sees.of_eq rfl | exact lt_b rfl | rfl | exact Sees.int (succI hlt (by omega)) | exact Sees.int (by rw [hst, Int.add_zero]))
  · have hk' : k = q.length := by simp at hb; omega
    subst hk'
    rw [List.take_length]
    refine Wk ?_
    exact resP.mk rfl (Sees.int rfl)

theorem c_right39 (n : Net) (hn : n.small) (q : List Req) (hq : q.length ≤ 1099511627776) (hx : ∀ x ∈ q, x.small) (len : Int) : PCall Tryz.prog L 37 [n.av, encReqs q, .int .i64 len] (.int .i64 (sizedQ n q len)) := by
  refine PCall.intro mixed [] (nt := 36) Tryz.func37 rfl rfl (by simp) ?_
  refine Wk ?_
  first | refine CallK.data rfl (c_Fault38 L n hn q hq hx) rfl ?_ | refine CallP.data rfl (c_Fault38 L n hn q hq hx) rfl ?_
  refine Wk ?_
  refine BrK.mk (fun h1 => ?_) (fun h1 => ?_) <;> (try rw [h1])
  · refine Wk ?_
    exact resP.mk rfl (Sees.int (by rw [sizedQ, if_pos (by simpa using h1)]))
  have h1' : (reqE n q).2 = 0 := by simpa using h1
  obtain ⟨_, _, hreq, _⟩ := reqE_ok h1'
  refine Wk ?_
  first | refine CallK.data rfl (c_in39 L len 1 512) rfl ?_ | refine CallP.data rfl (c_in39 L len 1 512) rfl ?_
  refine Wk ?_
  refine BrK.mk (fun h2 => ?_) (fun h2 => ?_) <;> (try rw [h2])
  · refine Wk ?_
    exact resP.mk rfl (Sees.int (by rw [sizedQ, if_neg (by simp [h1']), if_pos (by simp [inB] at h2; omega)]))
  have e2 : ¬ (len < 1 ∨ 512 < len) := by simp [inB] at h2; omega
  have hE : sizedQ n q len = if q.any (mismB len) then 11 else 0 := by rw [sizedQ, if_neg (by simp [h1']), if_neg e2]
  rw [hE]
  refine Wk ?_
  refine LoopK.run mixed [] (fun (k : Nat) => k ≤ q.length ∧ ∀ j x, j < k → q[j]? = some x → mismB len x = false) (fun k => [(1, encReqs q), (2, .int .i64 len), (9, .int .i64 k)]) (fun k => St.none) (fun k => q.length - k) 0 ⟨by simp, by simp⟩ ?_ ?_
  · refine Fits.mk' rfl rfl rfl rfl ?_ ?_ ?_ ?_ ?_ <;> repeat' (first | exact trivial | refine And.intro ?_ ?_ | exact Sees.of_eq rfl | exact lt_b rfl | rfl )
  rintro k ⟨hk, hinv⟩
  refine Wk ?_
  refine BrK.mk (fun hb => ?_) (fun hb => ?_) <;> (try rw [hb])
  · have hlt : k < q.length := by simpa using hb
    obtain ⟨x, hgx⟩ := getLt hlt
    have hmx := getMap (f := Req.av) hgx
    have hxm := List.mem_of_getElem? hgx
    have hp1 := flowE_ok (hreq x hxm).flow
    have hm : len.tmod x.flow.period = len % x.flow.period := Int.tmod_eq_emod_of_nonneg (by omega)
    have hm1 := Int.emod_nonneg len (show x.flow.period ≠ 0 by omega)
    have hm2 := Int.emod_lt_of_pos len (show 0 < x.flow.period by omega)
    have hw : IntKind.i64.wrap (len % x.flow.period) = len % x.flow.period := by rw [w64] <;> omega
    repeat ((conv => whnf); first | refine sJ ?_ | refine And.intro (by first | exact inbMap hlt | exact (show x.flow.period ≠ 0 by omega) | kernel_rfl) ?_ | rw [hmx] | rw [hm] | rw [hw])
    try (conv => whnf)
    refine BrK.mk (fun h3 => ?_) (fun h3 => ?_) <;> (try rw [h3])
    · refine Wk ?_
      exact resP.mk rfl (Sees.int (by rw [if_pos (List.any_eq_true.2 ⟨x, hxm, h3⟩)]))
    · refine Wk ?_
      refine ⟨k + 1, ⟨by omega, fun j y hj hy => ?_⟩, by omega, ?_⟩
      · rcases Nat.lt_succ_iff_lt_or_eq.1 hj with h | rfl
        · exact hinv j y h hy
        · rw [hgx] at hy; injection hy with hy; subst hy; exact h3
      · refine Fits.mk' rfl rfl rfl rfl ?_ ?_ ?_ ?_ ?_ <;> repeat' (first | exact trivial | refine And.intro ?_ ?_ | exact Sees.of_eq rfl | exact lt_b rfl | rfl | exact Sees.int (succI hlt (by omega)))
  · have hk' : k = q.length := by simp at hb; omega
    subst hk'
    have hany : q.any (mismB len) = false := by
      rw [List.any_eq_false]
      intro x hx
      obtain ⟨j, hj⟩ := List.getElem?_of_mem hx
      simp [hinv j x (List.getElem?_eq_some_iff.1 hj).1 hj]
    refine Wk ?_
    exact resP.mk rfl (Sees.int (by rw [hany]; rfl))

theorem c_Cells39 (n : Net) (hn : n.small) (q : List Req) (hq : q.length ≤ 1099511627776) (hx : ∀ x ∈ q, x.small) (len : Int) : PCall Tryz.prog L 23 [n.av, encReqs q, .int .i64 len] (.tup [.int .i64 (cellsM n q len).1, .int .i64 (cellsM n q len).2]) := by
  refine PCall.intro mixed [] (nt := 36) Tryz.func23 rfl rfl (by simp) ?_
  refine Wk ?_
  first | refine CallK.data rfl (c_right39 L n hn q hq hx len) rfl ?_ | refine CallP.data rfl (c_right39 L n hn q hq hx len) rfl ?_
  refine Wk ?_
  refine BrK.mk (fun h1 => ?_) (fun h1 => ?_) <;> (try rw [h1])
  · refine Wk ?_
    exact resP.mk rfl (Sees.of_eq (by rw [cellsM, if_pos (by simpa using h1)]))
  have h1' : sizedQ n q len = 0 := by simpa using h1
  obtain ⟨h0, ⟨_, hl1, hl2, _⟩, hok, hq16, hreq, hper⟩ := (sizedQ_ok h1').q
  refine Wk ?_
  refine LoopK.run mixed [] (fun (k : Nat) => k ≤ n.links.length) (fun k => [(1, encReqs q), (2, .int .i64 len), (3, .ptr 0 0), (9, .int .i64 (sumW (needM q len) (n.links.take k))), (10, .int .i64 k)]) (fun k => ⟨[.cells n.cs 26], [], 0, 0, fun _ => 0⟩) (fun k => n.links.length - k) 0 (by simp) ?_ ?_
  · refine Fits.mk' rfl rfl rfl rfl ?_ ?_ ?_ ?_ ?_ <;> repeat' (first | exact trivial | refine And.intro ?_ ?_ | exact Sees.of_eq rfl | exact lt_b rfl | rfl | exact SeesL.rfl' _)
  rintro k hk
  refine Wk ?_
  refine BrK.mk (fun hb => ?_) (fun hb => ?_) <;> (try rw [hb])
  · have hlt : k < n.links.length := by simpa using hb
    obtain ⟨l, hgl⟩ := getLt hlt
    have hml := getMap (f := Link.av) hgl
    have hlm := List.mem_of_getElem? hgl
    obtain ⟨b1, b2⟩ := link_bd hok hlm
    have hb3 := needM_sum hok hl1 hl2 (fun x h => (hper x h).1) hq16 (ls := n.links.take (k + 1)) (fun l h => List.mem_of_mem_take h) (by have := hok.many; rw [List.length_take]; omega)
    have hst := sumW_take (needM q len) hgl
    repeat ((conv => whnf); first | refine sJ ?_ | refine And.intro (by first | exact inbMap hlt | kernel_rfl) ?_ | rw [hml])
    try (conv => whnf)
    first | refine CallK.data rfl (c_need39 L q hx len hl1 hl2 (fun x h => (hper x h).1) hq16 l b1 b2) rfl ?_ | refine CallP.data rfl (c_need39 L q hx len hl1 hl2 (fun x h => (hper x h).1) hq16 l b1 b2) rfl ?_
    refine Wk ?_
    refine ⟨k + 1, by omega, by omega, ?_⟩
    refine Fits.mk' rfl rfl rfl rfl ?_ ?_ ?_ ?_ ?_ <;> repeat' (first | exact trivial | refine And.intro ?_ ?_ | exact Sees.of_eq rfl | exact lt_b rfl | rfl | exact Sees.int (succI hlt hn.2.2.1) | exact SeesL.rfl' _ | exact Sees.int (by rw [hst] at hb3 ⊢; rw [w64] <;> omega))
  · have hk' : k = n.links.length := by simp at hb; omega
    subst hk'
    rw [List.take_length]
    refine Wk ?_
    exact resP.mk rfl (Sees.of_eq (by rw [cellsM, if_neg (by simp [h1'])]))

theorem c_at39 (n : Net) (hn : n.small) (q : List Req) (hx : ∀ x ∈ q, x.small) (len : Int) (hQ : QOk n q len) (a : Int) : PCall Tryz.prog L 39 [n.av, encReqs q, .int .i64 len, .int .i64 a] (.int .i64 (sumW (needM q len) (n.links.filter (atN a)))) := by
  obtain ⟨h0, ⟨_, hl1, hl2, _⟩, hok, hq16, hreq, hper⟩ := hQ
  refine PCall.intro mixed [] (nt := 47) Tryz.func39 rfl rfl (by simp) ?_
  refine Wk ?_
  refine LoopK.run mixed [] (fun (k : Nat) => k ≤ n.links.length) (fun k => [(1, encReqs q), (2, .int .i64 len), (3, .int .i64 a), (4, .ptr 0 0), (9, .int .i64 (sumW (needM q len) ((n.links.take k).filter (atN a)))), (10, .int .i64 k)]) (fun k => ⟨[.cells n.cs 26], [], 0, 0, fun _ => 0⟩) (fun k => n.links.length - k) 0 (by simp) ?_ ?_
  · refine Fits.mk' rfl rfl rfl rfl ?_ ?_ ?_ ?_ ?_ <;> repeat' (first | exact trivial | refine And.intro ?_ ?_ | exact Sees.of_eq rfl | exact lt_b rfl | rfl | exact SeesL.rfl' _)
  rintro k hk
  have hb3 := needM_sum hok hl1 hl2 (fun x h => (hper x h).1) hq16 (ls := (n.links.take k).filter (atN a)) (fun l h => List.mem_of_mem_take (List.mem_filter.1 h).1) (by have := hok.many; have := List.length_filter_le (atN a) (n.links.take k); rw [List.length_take] at this; omega)
  refine Wk ?_
  refine BrK.mk (fun hb => ?_) (fun hb => ?_) <;> (try rw [hb])
  · have hlt : k < n.links.length := by simpa using hb
    obtain ⟨l, hgl⟩ := getLt hlt
    have hml := getMap (f := Link.av) hgl
    have hlm := List.mem_of_getElem? hgl
    obtain ⟨b1, b2⟩ := link_bd hok hlm
    have hb4 := needM_bd hl1 hl2 (q := q) (fun x h => (hper x h).1) hq16 b1 b2
    have hst : sumW (needM q len) ((n.links.take (k + 1)).filter (atN a)) = sumW (needM q len) ((n.links.take k).filter (atN a)) + if atN a l then needM q len l else 0 := by
      rw [take_succ hgl, List.filter_append, sumW_app]
      cases h : atN a l <;> simp [h, sumW]
    repeat ((conv => whnf); first | refine sJ ?_ | refine And.intro (by first | exact inbMap hlt | kernel_rfl) ?_ | rw [hml])
    try (conv => whnf)
    cases h2 : l.src == a
    · repeat ((conv => whnf); first | refine sJ ?_ | refine And.intro (by first | exact inbMap hlt | kernel_rfl) ?_ | rw [hml])
      try (conv => whnf)
      cases h3 : l.dst == a
      · rw [show atN a l = false by rw [atN, h2, h3]; rfl] at hst
        refine Wk ?_
        refine ⟨k + 1, by omega, by omega, ?_⟩
        refine Fits.mk' rfl rfl rfl rfl ?_ ?_ ?_ ?_ ?_ <;> repeat' (first | exact trivial | refine And.intro ?_ ?_ | exact Sees.of_eq rfl | exact lt_b rfl | rfl | exact Sees.int (succI hlt hn.2.2.1) | exact SeesL.rfl' _ | exact Sees.int (by rw [hst]; simp))
      · rw [show atN a l = true by rw [atN, h2, h3]; rfl, if_pos rfl] at hst
        repeat ((conv => whnf); first | refine sJ ?_ | refine And.intro (by first | exact inbMap hlt | kernel_rfl) ?_ | rw [hml])
        try (conv => whnf)
        first | refine CallK.data rfl (c_need39 L q hx len hl1 hl2 (fun x h => (hper x h).1) hq16 l b1 b2) rfl ?_ | refine CallP.data rfl (c_need39 L q hx len hl1 hl2 (fun x h => (hper x h).1) hq16 l b1 b2) rfl ?_
        refine Wk ?_
        refine ⟨k + 1, by omega, by omega, ?_⟩
        refine Fits.mk' rfl rfl rfl rfl ?_ ?_ ?_ ?_ ?_ <;> repeat' (first | exact trivial | refine And.intro ?_ ?_ | exact Sees.of_eq rfl | exact lt_b rfl | rfl | exact Sees.int (succI hlt hn.2.2.1) | exact SeesL.rfl' _ | exact Sees.int (by rw [hst, w64] <;> omega))
    · rw [show atN a l = true by rw [atN, h2]; rfl, if_pos rfl] at hst
      repeat ((conv => whnf); first | refine sJ ?_ | refine And.intro (by first | exact inbMap hlt | kernel_rfl) ?_ | rw [hml])
      try (conv => whnf)
      first | refine CallK.data rfl (c_need39 L q hx len hl1 hl2 (fun x h => (hper x h).1) hq16 l b1 b2) rfl ?_ | refine CallP.data rfl (c_need39 L q hx len hl1 hl2 (fun x h => (hper x h).1) hq16 l b1 b2) rfl ?_
      refine Wk ?_
      refine ⟨k + 1, by omega, by omega, ?_⟩
      refine Fits.mk' rfl rfl rfl rfl ?_ ?_ ?_ ?_ ?_ <;> repeat' (first | exact trivial | refine And.intro ?_ ?_ | exact Sees.of_eq rfl | exact lt_b rfl | rfl | exact Sees.int (succI hlt hn.2.2.1) | exact SeesL.rfl' _ | exact Sees.int (by rw [hst, w64] <;> omega))
  · have hk' : k = n.links.length := by simp at hb; omega
    subst hk'
    rw [List.take_length]
    refine Wk ?_
    exact resP.mk rfl (Sees.int rfl)

theorem c_Node39 (n : Net) (hn : n.small) (q : List Req) (hq : q.length ≤ 1099511627776) (hx : ∀ x ∈ q, x.small) (len a : Int) : PCall Tryz.prog L 25 [n.av, encReqs q, .int .i64 len, .int .i64 a] (.tup [.int .i64 (nodeM n q len a).1, .int .i64 (nodeM n q len a).2]) := by
  refine PCall.intro mixed [] (nt := 29) Tryz.func25 rfl rfl (by simp) ?_
  refine Wk ?_
  first | refine CallK.data rfl (c_right39 L n hn q hq hx len) rfl ?_ | refine CallP.data rfl (c_right39 L n hn q hq hx len) rfl ?_
  refine Wk ?_
  refine BrK.mk (fun h1 => ?_) (fun h1 => ?_) <;> (try rw [h1])
  · refine Wk ?_
    exact resP.mk rfl (Sees.of_eq (by rw [nodeM, if_pos (by simpa using h1)]))
  have h1' : sizedQ n q len = 0 := by simpa using h1
  have hQ := (sizedQ_ok h1').q
  have hnb := hQ.net.nodes
  have hw : IntKind.i64.wrap (n.nodes - 1) = n.nodes - 1 := by rw [w64] <;> omega
  have hin := inB_ins a n.nodes
  repeat ((conv => whnf); first | refine sJ ?_ | refine And.intro (by first | exact trivial | kernel_rfl) ?_ | rw [hw])
  try (conv => whnf)
  first | refine CallK.data rfl (c_in39 L a 0 (n.nodes - 1)) rfl ?_ | refine CallP.data rfl (c_in39 L a 0 (n.nodes - 1)) rfl ?_
  rw [hin]
  refine Wk ?_
  refine BrK.mk (fun h2 => ?_) (fun h2 => ?_) <;> (try rw [h2])
  · refine Wk ?_
    exact resP.mk rfl (Sees.of_eq (by rw [nodeM, if_neg (by simp [h1']), if_pos (by simpa using h2)]))
  have h2' : insB a n.nodes = true := by simpa using h2
  refine Wk ?_
  first | refine CallK.data rfl (c_at39 L n hn q hx len hQ a) rfl ?_ | refine CallP.data rfl (c_at39 L n hn q hx len hQ a) rfl ?_
  refine Wk ?_
  exact resP.mk rfl (Sees.of_eq (by rw [nodeM, if_neg (by simp [h1']), if_neg (by simp [h2'])]))

theorem c_Link39 (n : Net) (hn : n.small) (q : List Req) (hq : q.length ≤ 1099511627776) (hx : ∀ x ∈ q, x.small) (len a b : Int) : PCall Tryz.prog L 27 [n.av, encReqs q, .int .i64 len, .int .i64 a, .int .i64 b] (.tup [.int .i64 (linkM n q len a b).1, .int .i64 (linkM n q len a b).2]) := by
  refine PCall.intro mixed [] (nt := 35) Tryz.func27 rfl rfl (by simp) ?_
  refine Wk ?_
  first | refine CallK.data rfl (c_right39 L n hn q hq hx len) rfl ?_ | refine CallP.data rfl (c_right39 L n hn q hq hx len) rfl ?_
  refine Wk ?_
  refine BrK.mk (fun h1 => ?_) (fun h1 => ?_) <;> (try rw [h1])
  · refine Wk ?_
    exact resP.mk rfl (Sees.of_eq (by rw [linkM, if_pos (by simpa using h1)]))
  have h1' : sizedQ n q len = 0 := by simpa using h1
  obtain ⟨h0, ⟨_, hl1, hl2, _⟩, hok, hq16, hreq, hper⟩ := (sizedQ_ok h1').q
  refine Wk ?_
  first | refine CallK.data rfl (c_Find31 L n hn.2.2.1 a b) rfl ?_ | refine CallP.data rfl (c_Find31 L n hn.2.2.1 a b) rfl ?_
  refine Wk ?_
  refine BrK.mk (fun h2 => ?_) (fun h2 => ?_) <;> (try rw [h2])
  · refine Wk ?_
    exact resP.mk rfl (Sees.of_eq (by rw [linkM, if_neg (by simp [h1']), if_pos (by simpa using h2)]))
  have h2' : ¬ findL n a b < 0 := by simpa using h2
  obtain ⟨p, hp, hgp⟩ := lnkAt_get (n := n) (a := a) (b := b) (by omega)
  have hmp := getMap (f := Link.av) hgp
  have hpl := (List.getElem?_eq_some_iff.1 hgp).1
  obtain ⟨b1, b2⟩ := link_bd hok (List.mem_of_getElem? hgp)
  rw [hp]
  repeat ((conv => whnf); first | refine sJ ?_ | refine And.intro (by first | exact inbMap hpl | kernel_rfl) ?_ | rw [hmp])
  try (conv => whnf)
  first | refine CallK.data rfl (c_need39 L q hx len hl1 hl2 (fun x h => (hper x h).1) hq16 (lnkAt n a b) b1 b2) rfl ?_ | refine CallP.data rfl (c_need39 L q hx len hl1 hl2 (fun x h => (hper x h).1) hq16 (lnkAt n a b) b1 b2) rfl ?_
  refine Wk ?_
  exact resP.mk rfl (Sees.of_eq (by rw [linkM, if_neg (by simp [h1']), if_neg h2']))

def few38 (n : Net) (q : List Req) (s : Sched) : Bool := (q.all fun x => few37 n sched0 x.routes) && (few31 n && decide ((q.length : Int) ≤ 4) && decide ((s.cells.length : Int) ≤ 30))
theorem c_Few38 (n : Net) (hn : n.small) (q : List Req) (hq : q.length ≤ 281474976710656) (hx : ∀ x ∈ q, x.small) (s : Sched) : PCall Tryz.prog L 17 [n.av, encReqs q, s.av] (.bool (few38 n q s)) := by
  refine PCall.intro mixed [] (nt := 36) Tryz.func17 rfl rfl (by simp) ?_
  refine Wk ?_
  refine LoopK.run mixed [] (fun (k : Nat) => k ≤ q.length ∧ ∀ j x, j < k → q[j]? = some x → few37 n sched0 x.routes = true) (fun k => [(1, encReqs q), (3, .ptr 0 0), (5, .ptr 1 0), (7, .int .i64 k)]) (fun k => ⟨[.cells n.cs 26, .cells [.int .i64 s.len, .int .i64 s.offs, encCells s.cells] 41], [], 0, 0, fun _ => 0⟩) (fun k => q.length - k) 0 ⟨by simp, by simp⟩ ?_ ?_
  · refine Fits.mk' rfl rfl rfl rfl ?_ ?_ ?_ ?_ ?_ <;> repeat' (first | exact trivial | refine And.intro ?_ ?_ | exact Sees.of_eq rfl | exact lt_b rfl | rfl | exact SeesL.rfl' _)
  rintro k ⟨hk, hinv⟩
  refine Wk ?_
  refine BrK.mk (fun hb => ?_) (fun hb => ?_) <;> (try rw [hb])
  · have hlt : k < q.length := by simpa using hb
    obtain ⟨x, hgx⟩ := getLt hlt
    have hmx := getMap (f := Req.av) hgx
    have hxm := List.mem_of_getElem? hgx
    repeat ((conv => whnf); first | refine sJ ?_ | refine And.intro (by first | exact inbMap hlt | kernel_rfl) ?_ | rw [hmx])
    try (conv => whnf)
    first | refine CallK.data rfl (c_Few37 L n sched0 x.routes hn (hx x hxm).1) rfl ?_ | refine CallP.data rfl (c_Few37 L n sched0 x.routes hn (hx x hxm).1) rfl ?_
    refine Wk ?_
    refine BrK.mk (fun h1 => ?_) (fun h1 => ?_) <;> (try rw [h1])
    · have h1' : few37 n sched0 x.routes = false := by simpa using h1
      refine Wk ?_
      exact resP.mk rfl (Sees.bool (by rw [few38, show (q.all fun x => few37 n sched0 x.routes) = false from List.all_eq_false.2 ⟨x, hxm, by simp [h1']⟩]; rfl))
    · have h1' : few37 n sched0 x.routes = true := by simpa using h1
      refine Wk ?_
      refine ⟨k + 1, ⟨by omega, fun j y hj hy => ?_⟩, by omega, ?_⟩
      · rcases Nat.lt_succ_iff_lt_or_eq.1 hj with h | rfl
        · exact hinv j y h hy
        · rw [hgx] at hy; injection hy with hy; subst hy; exact h1'
      · refine Fits.mk' rfl rfl rfl rfl ?_ ?_ ?_ ?_ ?_ <;> repeat' (first | exact trivial | refine And.intro ?_ ?_ | exact Sees.of_eq rfl | exact lt_b rfl | rfl | exact Sees.int (succI hlt (by omega)) | exact SeesL.rfl' _)
  · have hk' : k = q.length := by simp at hb; omega
    subst hk'
    have hall : (q.all fun x => few37 n sched0 x.routes) = true := by
      rw [List.all_eq_true]
      intro x hx
      obtain ⟨j, hj⟩ := List.getElem?_of_mem hx
      exact hinv j x (List.getElem?_eq_some_iff.1 hj).1 hj
    refine Wk ?_
    first | refine CallK.data rfl (c_Few31 L n hn) rfl ?_ | refine CallP.data rfl (c_Few31 L n hn) rfl ?_
    repeat' ((conv => whnf); first | refine sJ ?_ | refine And.intro (by first  | kernel_rfl) ?_  | (refine BrK.mk (fun hb => ?_) (fun hb => ?_) <;> (try rw [hb])))
    all_goals try (conv => whnf)
    all_goals exact resP.mk rfl (Sees.bool (by rw [few38, hall]; simp_all <;> omega))
theorem c_Few39 (n : Net) (hn : n.small) (q : List Req) (hq : q.length ≤ 281474976710656) (hx : ∀ x ∈ q, x.small) : PCall Tryz.prog L 11 [n.av, encReqs q] (.bool (few38 n q sched0)) := by
  refine PCall.intro mixed [] (nt := 9) Tryz.func11 rfl rfl (by simp) ?_
  refine Wk ?_
  first | refine CallK.data rfl (c_Few38 L n hn q hq hx sched0) rfl ?_ | refine CallP.data rfl (c_Few38 L n hn q hq hx sched0) rfl ?_
  refine Wk ?_
  exact resP.mk rfl (Sees.bool rfl)
theorem few38_len {n : Net} {q : List Req} {s : Sched} (h : few38 n q s = true) : q.length ≤ 4 ∧ s.cells.length ≤ 30 := by
  unfold few38 at h
  simp only [Bool.and_eq_true, decide_eq_true_eq] at h
  omega
end
end HM
