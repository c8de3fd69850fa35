/- The law on sums. -/
import Derived.Test.YtdjglaoahmaljaaGreatDoorS130
import Derived.Test.YtdjglaoahmaljaaGreatDoorDa

set_option maxRecDepth 100000
namespace HM
open Go Go.RowKit Go.Proofs
section
variable (L : World → Prop)
set_option maxHeartbeats 4000000 in
theorem c_LoadSums (n : Net) (q : List Req) (m : Int) (hn : n.small) (hq : q.length ≤ 281474976710656) (hx : ∀ x ∈ q, x.small) (hm0 : 0 ≤ m) (hm1 : m ≤ 65535) : PCall Tryz.prog L 8 [n.av, encReqs q, .int .u16 m] (.bool true) := by
  refine PCall.intro mixed [] (nt := 115) Tryz.func8 rfl rfl (by simp) ?_
  refine Wk ?_
  first | refine CallK.data rfl (c_awake39 L) rfl ?_ | refine CallP.data rfl (c_awake39 L) rfl ?_
  refine Wk ?_
  first | refine CallK.data rfl (c_Few39 L n hn q hq hx) rfl ?_ | refine CallP.data rfl (c_Few39 L n hn q hq hx) rfl ?_
  refine Wk ?_
  refine BrK.mk (fun h1 => ?_) (fun h1 => ?_) <;> (try rw [h1])
  · refine Wk ?_
    exact resP.mk rfl (Sees.bool rfl)
  have hq := Nat.le_trans (few38_len (by simpa using h1)).1 (by decide : 4 ≤ 1099511627776)
  obtain ⟨len, hlen⟩ : ∃ len, len = m % 256 := ⟨_, rfl⟩
  have hmod : m.tmod 256 = len := by rw [hlen]; exact Int.tmod_eq_emod_of_nonneg hm0
  have hw0 : IntKind.i64.wrap m = m := by rw [w64] <;> omega
  have hw1 : IntKind.i64.wrap len = len := by rw [w64] <;> omega
  have hw2 : IntKind.i64.wrap (2 * len) = 2 * len := by rw [w64] <;> omega
  repeat ((conv => whnf); first | refine sJ ?_ | refine And.intro (by first | exact (show (256 : Int) ≠ 0 by decide) | kernel_rfl) ?_ | rw [hw0] | rw [hmod] | rw [hw1])
  try (conv => whnf)
  first | refine CallK.data rfl (c_Cells L n hn q hq hx len) rfl ?_ | refine CallP.data rfl (c_Cells L n hn q hq hx len) rfl ?_
  by_cases hs : sizedQ n q len = 0
  rotate_left
  · have hc : cellsM n q len = (0, sizedQ n q len) := by rw [cellsM, if_pos hs]
    have hb : (sizedQ n q len != 0) = true := by simpa using hs
    rw [hc]
    repeat ((conv => whnf); first | refine sJ ?_ | refine And.intro (by first | exact trivial | kernel_rfl) ?_ | rw [hb])
    try (conv => whnf)
    exact resP.mk rfl (Sees.bool rfl)
  have hsz := sizedQ_ok hs
  have hQ := hsz.q
  obtain ⟨h0, ⟨_, hl1, hl2, _⟩, hok, hq16, hreq, hper⟩ := hQ
  have hc : cellsM n q len = (sumW (needM q len) n.links, 0) := by rw [cellsM, if_neg (by simp [hs])]
  have h2c := cells_two hsz (by omega)
  obtain ⟨c, hcc⟩ : ∃ c, c = sumW (needM q len) n.links := ⟨_, rfl⟩
  rw [← hcc] at hc h2c
  have hcb := needM_sum hok hl1 hl2 (fun x h => (hper x h).1) hq16 (ls := n.links) (fun l h => h) hok.many
  rw [← hcc] at hcb
  have hnb := hok.nodes
  have hsb : ∀ k : Nat, (k : Int) ≤ 32 → 0 ≤ nodesW n q len k ∧ nodesW n q len k ≤ 32 * 268435456 := fun k hk => by
    have := sumW_bd (f := fun a : Nat => sumW (needM q len) (n.links.filter (atN a))) (m := 268435456) (by omega) (l := List.range k) fun a _ => needM_sum hok hl1 hl2 (fun x h => (hper x h).1) hq16 (ls := n.links.filter (atN a)) (fun l h => (List.mem_filter.1 h).1) (Nat.le_trans (List.length_filter_le _ _) hok.many)
    rw [List.length_range] at this
    have h5 : (k : Int) * 268435456 ≤ 32 * 268435456 := Int.mul_le_mul_of_nonneg_right hk (by omega)
    unfold nodesW
    omega
  rw [hc]
  repeat ((conv => whnf); first | refine sJ ?_ | refine And.intro (by first | exact trivial | kernel_rfl) ?_ | rw [hw2])
  try (conv => whnf)
  first | refine CallK.data rfl (c_Cells L n hn q hq hx (2 * len)) rfl ?_ | refine CallP.data rfl (c_Cells L n hn q hq hx (2 * len)) rfl ?_
  rw [h2c]
  refine Wk ?_
  refine LoopK.run mixed [] (fun (k : Nat) => k ≤ n.nodes.toNat) (fun k => [(1, encReqs q), (3, .ptr 0 0), (7, .int .i64 len), (8, .int .i64 c), (10, .int .i64 (2 * c)), (11, .int .i64 0), (12, .int .i64 (nodesW n q len k)), (13, .int .i64 0), (50, .int .i64 n.nodes), (51, .int .i64 k)]) (fun k => ⟨[.cells n.cs 26], [], 0, 0, fun _ => 0⟩) (fun k => n.nodes.toNat - k) 0 (by simp) ?_ ?_
  · refine Fits.mk' rfl rfl rfl rfl ?_ ?_ ?_ ?_ ?_ <;> repeat' (first | exact trivial | refine And.intro ?_ ?_ | exact Sees.of_eq rfl | exact lt_b rfl | rfl | exact SeesL.rfl' _)
  rintro k hk
  refine Wk ?_
  refine BrK.mk (fun hb => ?_) (fun hb => ?_) <;> (try rw [hb])
  · have hlt : k < n.nodes.toNat := by simp at hb; omega
    have hnm : nodeM n q len k = (sumW (needM q len) (n.links.filter (atN k)), 0) := by rw [nodeM, if_neg (by simp [hs]), if_neg (by simp [insB]; omega)]
    have hstep := nodesW_succ n q len k
    have hb1 := hsb (k + 1) (by omega)
    refine Wk ?_
    first | refine CallK.data rfl (c_Node L n hn q hq hx len k) rfl ?_ | refine CallP.data rfl (c_Node L n hn q hq hx len k) rfl ?_
    rw [hnm]
    refine Wk ?_
    refine ⟨k + 1, by omega, by omega, ?_⟩
    refine Fits.mk' rfl rfl rfl rfl ?_ ?_ ?_ ?_ ?_ <;> repeat' (first | exact trivial | refine And.intro ?_ ?_ | exact Sees.of_eq rfl | exact lt_b rfl | rfl | exact SeesL.rfl' _ | exact Sees.int (by rw [w64] <;> omega) | exact Sees.int (by rw [← hstep, w64] <;> omega))
  · have hkn : k = n.nodes.toNat := by simp at hb; omega
    subst hkn
    have hN : nodesW n q len n.nodes.toNat = 2 * c := by rw [hcc]; exact nodes_two hok _
    rw [hN]
    refine Wk ?_
    refine LoopK.run mixed [] (fun (k : Nat) => k ≤ n.links.length) (fun k => [(1, encReqs q), (3, .ptr 0 0), (7, .int .i64 len), (8, .int .i64 c), (10, .int .i64 (2 * c)), (11, .int .i64 0), (12, .int .i64 (2 * c)), (13, .int .i64 (sumW (needM q len) (n.links.take k))), (69, encLinks n.links), (70, .int .i64 n.links.length), (71, .int .i64 k)]) (fun _ => ⟨[.cells n.cs 26], [], 0, 0, fun _ => 0⟩) (fun k => n.links.length - k) 0 (by simp) ?_ ?_
    · refine Fits.mk' rfl rfl rfl rfl ?_ ?_ ?_ ?_ ?_ <;> repeat' (first | exact trivial | refine And.intro ?_ ?_ | exact Sees.of_eq rfl | exact lt_b rfl | rfl | exact SeesL.rfl' _ | exact Sees.int (by simp))
    rintro k hk
    refine Wk ?_
    refine BrK.mk (fun hd => ?_) (fun hd => ?_) <;> (try rw [hd])
    · have hlt : k < n.links.length := by simpa using hd
      obtain ⟨l, hgl⟩ := getLt hlt
      have hml := getMap (f := Link.av) hgl
      have hlm := List.mem_of_getElem? hgl
      have hself := lnkAt_self hok hlm
      have hfl := link_find hok hgl
      have hlk : linkM n q len l.src l.dst = (needM q len l, 0) := by rw [linkM, if_neg (by simp [hs]), if_neg (by omega), hself]
      obtain ⟨b1, b2⟩ := link_bd hok hlm
      have hb4 := needM_bd hl1 hl2 (q := q) (fun x h => (hper x h).1) hq16 b1 b2
      have hst := sumW_take (needM q len) hgl
      have hb5 := needM_sum hok hl1 hl2 (fun x h => (hper x h).1) hq16 (ls := n.links.take (k + 1)) (fun l h => List.mem_of_mem_take h) (by have := hok.many; rw [List.length_take]; omega)
      have hd0 : decide (needM q len l < 0) = false := decide_eq_false (by omega)
      repeat ((conv => whnf); first | refine sJ ?_ | refine And.intro (by first | exact inbMap hlt | kernel_rfl) ?_ | rw [hml])
      try (conv => whnf)
      first | refine CallK.data rfl (c_Link L n hn q hq hx len l.src l.dst) rfl ?_ | refine CallP.data rfl (c_Link L n hn q hq hx len l.src l.dst) rfl ?_
      rw [hlk]
      repeat ((conv => whnf); first | refine sJ ?_ | refine And.intro (by first | exact trivial | kernel_rfl) ?_ | rw [hd0])
      try (conv => whnf)
      refine ⟨k + 1, by omega, by omega, ?_⟩
      refine Fits.mk' rfl rfl rfl rfl ?_ ?_ ?_ ?_ ?_ <;> repeat' (first | exact trivial | refine And.intro ?_ ?_ | exact Sees.of_eq rfl | exact lt_b rfl | rfl | exact SeesL.rfl' _ | exact Sees.int (succI hlt hn.2.2.1) | exact Sees.int (by rw [← hst, w64] <;> omega))
    · have hkn : k = n.links.length := by simp at hd; omega
      subst hkn
      have hwc : IntKind.i64.wrap (2 * c) = 2 * c := by rw [w64] <;> omega
      have hr : ∀ x : Int, (x == x) = true := fun x => by simp
      rw [List.take_length, ← hcc]
      repeat ((conv => whnf); first | refine sJ ?_ | refine And.intro (by first | exact trivial | kernel_rfl) ?_ | rw [hwc] | rw [hr])
      try (conv => whnf)
      exact resP.mk rfl (Sees.bool rfl)
end
end HM
