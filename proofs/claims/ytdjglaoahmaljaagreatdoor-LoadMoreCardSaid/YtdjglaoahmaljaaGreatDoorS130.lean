/- The example of the laws on load. -/
import Derived.Test.YtdjglaoahmaljaaGreatDoorS129
import Derived.Test.YtdjglaoahmaljaaGreatDoorS127

set_option maxRecDepth 100000
namespace HM
open Go Go.RowKit Go.Proofs
section
variable (L : World → Prop)
set_option maxHeartbeats 1000000 in
theorem c_Same39 (a b : Rsn) (ha : a.links.length ≤ 281474976710656) : PCall Tryz.prog L 14 [a.av, b.av] (.bool (decide (a = b))) := by
  have hd : decide (a = b) = (decide (a.links = b.links) && (a.kind == b.kind) && (a.node == b.node) && (a.idx == b.idx) && (a.route == b.route) && (a.need == b.need) && (a.have_ == b.have_)) := by
    rw [Bool.eq_iff_iff]
    cases a; cases b
    simp only [decide_eq_true_eq, Rsn.mk.injEq, Bool.and_eq_true, beq_iff_eq]
    constructor
    · rintro ⟨h1, h2, h3, h4, h5, h6, h7⟩; exact ⟨⟨⟨⟨⟨⟨h5, h1⟩, h2⟩, h3⟩, h4⟩, h6⟩, h7⟩
    · rintro ⟨⟨⟨⟨⟨⟨h5, h1⟩, h2⟩, h3⟩, h4⟩, h6⟩, h7⟩; exact ⟨h1, h2, h3, h4, h5, h6, h7⟩
  refine PCall.intro mixed [] (nt := 73) Tryz.func14 rfl rfl (by simp) ?_
  have key : ∀ x y : Int, (x != y) = !(x == y) := fun _ _ => rfl
  refine Wk ?_
  cases h1 : a.kind == b.kind
  · rw [show (a.kind != b.kind) = true by rw [key, h1]; rfl]
    refine Wk ?_
    exact resP.mk rfl (Sees.bool (by rw [hd, h1]; simp))
  rw [show (a.kind != b.kind) = false by rw [key, h1]; rfl]
  refine Wk ?_
  cases h2 : a.node == b.node
  · rw [show (a.node != b.node) = true by rw [key, h2]; rfl]
    refine Wk ?_
    exact resP.mk rfl (Sees.bool (by rw [hd, h2]; simp))
  rw [show (a.node != b.node) = false by rw [key, h2]; rfl]
  refine Wk ?_
  cases h3 : a.idx == b.idx
  · rw [show (a.idx != b.idx) = true by rw [key, h3]; rfl]
    refine Wk ?_
    exact resP.mk rfl (Sees.bool (by rw [hd, h3]; simp))
  rw [show (a.idx != b.idx) = false by rw [key, h3]; rfl]
  refine Wk ?_
  cases h4 : a.route == b.route
  · rw [show (a.route != b.route) = true by rw [key, h4]; rfl]
    refine Wk ?_
    exact resP.mk rfl (Sees.bool (by rw [hd, h4]; simp))
  rw [show (a.route != b.route) = false by rw [key, h4]; rfl]
  refine Wk ?_
  cases h5 : a.need == b.need
  · rw [show (a.need != b.need) = true by rw [key, h5]; rfl]
    refine Wk ?_
    exact resP.mk rfl (Sees.bool (by rw [hd, h5]; simp))
  rw [show (a.need != b.need) = false by rw [key, h5]; rfl]
  refine Wk ?_
  cases h6 : a.have_ == b.have_
  · rw [show (a.have_ != b.have_) = true by rw [key, h6]; rfl]
    refine Wk ?_
    exact resP.mk rfl (Sees.bool (by rw [hd, h6]; simp))
  rw [show (a.have_ != b.have_) = false by rw [key, h6]; rfl]
  refine Wk ?_
  refine BrK.mk (fun h7 => ?_) (fun h7 => ?_) <;> (try rw [h7])
  · have hne : a.links ≠ b.links := fun h => by rw [h] at h7; simp at h7
    refine Wk ?_
    exact resP.mk rfl (Sees.bool (by rw [hd, decide_eq_false hne]; rfl))
  have hl : a.links.length = b.links.length := by simp at h7; omega
  rw [hd, h1, h2, h3, h4, h5, h6]
  refine Wk ?_
  refine LoopK.run mixed [] (fun (k : Nat) => k ≤ a.links.length ∧ ∀ (j : Nat) x y, j < k → a.links[j]? = some x → b.links[j]? = some y → x = y) (fun k => [(2, .ptr 0 0), (3, .ptr 1 0), (5, .int .i64 k)]) (fun k => ⟨[.cells a.cs 31, .cells b.cs 31], [], 0, 0, fun _ => 0⟩) (fun k => a.links.length - k) 0 ⟨by simp, by simp⟩ ?_ ?_
  · refine Fits.mk' rfl rfl rfl rfl ?_ ?_ ?_ ?_ ?_ <;> repeat' (first | exact trivial | refine And.intro ?_ ?_ | exact Sees.of_eq rfl | exact lt_b rfl | rfl | exact SeesL.rfl' _)
  rintro k ⟨hk, hinv⟩
  refine Wk ?_
  refine BrK.mk (fun hb => ?_) (fun hb => ?_) <;> (try rw [hb])
  · have hkt : k < a.links.length := by simpa using hb
    obtain ⟨x, hgx⟩ := getLt hkt
    obtain ⟨y, hgy⟩ := getLt (l := b.links) (k := k) (by omega)
    have hmx := getMap (f := Link.av) hgx
    have hmy := getMap (f := Link.av) hgy
    have hdec := link_dec x y
    repeat ((conv => whnf); first | refine sJ ?_ | refine And.intro (by first | exact inbMap hkt | exact inbMap (by omega : k < b.links.length) | kernel_rfl) ?_ | rw [hmx] | rw [hmy])
    try (conv => whnf)
    rw [hdec]
    by_cases hxy : x = y
    · rw [decide_eq_true hxy]
      refine Wk ?_
      refine ⟨k + 1, ⟨by omega, fun j x' y' hj hx' hy' => ?_⟩, by omega, ?_⟩
      · rcases Nat.lt_succ_iff_lt_or_eq.1 hj with h | rfl
        · exact hinv j x' y' h hx' hy'
        · rw [hgx] at hx'; rw [hgy] at hy'; injection hx' with hx'; injection hy' with hy'; rw [← hx', ← hy', hxy]
      · refine Fits.mk' rfl rfl rfl rfl ?_ ?_ ?_ ?_ ?_ <;> repeat' (first | exact trivial | refine And.intro ?_ ?_ | exact Sees.of_eq rfl | exact lt_b rfl | rfl | exact Sees.int (succI hkt ha) | exact SeesL.rfl' _)
    · have hne : ¬ a.links = b.links := fun h => by
        rw [h] at hgx
        rw [hgx] at hgy
        injection hgy with hgy
        exact hxy hgy
      rw [decide_eq_false hxy]
      refine Wk ?_
      exact resP.mk rfl (Sees.bool (by rw [decide_eq_false hne]; rfl))
  · have hkn : k = a.links.length := by simp at hb; omega
    subst hkn
    refine Wk ?_
    exact resP.mk rfl (Sees.bool (by rw [decide_eq_true (eq_of_at hl hinv)]; rfl))

def n39 : Net := ⟨3, [[0, 9, 9], [9, 0, 9], [9, 9, 0]], 1, 1000, [⟨0, 1, 1⟩, ⟨1, 0, 0⟩, ⟨1, 2, 1⟩, ⟨2, 1, 0⟩], [9, 9, 9, 9]⟩
def q39 : List Req := [⟨⟨3, 0, 2, 6, 0, 3⟩, [[0, 1, 2]]⟩]
def r39 : Rsn := ⟨2, 0, 0, 0, [], 4, 3⟩
def nz39 : List AV := [.int .i64 0, .nils, .int .i64 0, .int .i64 0, .nils, .nils]
set_option maxHeartbeats 4000000 in
theorem c_example39 : PCall Tryz.prog L 32 [] (.tup [n39.av, encReqs q39]) := by
  refine PCall.intro mixed [2, 3] (nt := 21) Tryz.func32 rfl rfl (by simp) ?_
  refine Wk ?_
  refine SeqK.cutS mixed [3] [(0, .ptr 0 0), (2, .ptr 1 0)] ⟨[.cells nz39 26, .cells [.int .i64 3, encRows n39.power, .int .i64 1, .int .i64 1000, .nils, encIs n39.margin] 26], [], 0, 0, fun _ => 0⟩ (twC_sound (ct := []) mixed _ _ _ _ ?_) ?_
  · refine Wk ?_
    refine Fits.mk' rfl rfl rfl rfl ?_ ?_ ?_ ?_ ?_ <;> repeat' (first | exact trivial | refine And.intro ?_ ?_ | exact Sees.of_eq rfl | exact lt_b rfl | rfl | exact Sees.elems rfl)
  refine SeqK.cutS mixed [] [(0, .ptr 0 0), (2, .ptr 1 0)] ⟨[.cells nz39 26, .cells n39.cs 26], [], 0, 0, fun _ => 0⟩ (twC_sound (ct := []) mixed _ _ _ _ ?_) ?_
  · refine Wk ?_
    refine Fits.mk' rfl rfl rfl rfl ?_ ?_ ?_ ?_ ?_ <;> repeat' (first | exact trivial | refine And.intro ?_ ?_ | exact Sees.of_eq rfl | exact lt_b rfl | rfl | exact Sees.elems rfl)
  refine Wk ?_
  exact resP.mk rfl (Sees.of_eq rfl)

theorem e_cells39 : cellsM n39 q39 6 = (4, 0) := by decide +kernel
theorem e_node39 : nodeM n39 q39 6 1 = (4, 0) := by decide +kernel
theorem e_sz39 : sizedQ n39 q39 6 = 0 := by decide +kernel
theorem e_bn39 : byNodeM n39 q39 6 = none := by decide +kernel
theorem e_bw39 : byWindowM n39 q39 = some r39 := by decide +kernel
theorem e_reason39 : reasonM n39 q39 6 1 none = (r39, true, 0) := by rw [reasonM_ok e_sz39 (by decide), e_bn39, e_bw39]
theorem e_verify39 : verifyM n39 q39 6 1 r39 false = 0 := by decide +kernel
theorem n39_small : n39.small := ⟨by decide, by decide, by decide, by decide⟩
theorem q39_small : ∀ x ∈ q39, x.small := fun x hx => by
  simp only [q39, List.mem_singleton] at hx
  subst hx
  exact ⟨by decide, by decide⟩
set_option maxHeartbeats 4000000 in
theorem c_awake39 : PCall Tryz.prog L 10 [] (.bool true) := by
  refine PCall.intro mixed [2, 3, 4, 5] (nt := 66) Tryz.func10 rfl rfl (by simp) ?_
  refine Wk ?_
  refine SeqK.cutS mixed [3, 4, 5] [(1, .ptr 0 0), (2, encReqs q39)] ⟨[.cells n39.cs 26], [], 0, 0, fun _ => 0⟩ (twC_sound (ct := []) mixed _ _ _ _ ?_) ?_
  · refine Wk ?_
    first | refine CallK.data rfl (c_example39 L) rfl ?_ | refine CallP.data rfl (c_example39 L) rfl ?_
    refine Wk ?_
    refine Fits.mk' rfl rfl rfl rfl ?_ ?_ ?_ ?_ ?_ <;> repeat' (first | exact trivial | refine And.intro ?_ ?_ | exact Sees.of_eq rfl | exact lt_b rfl | rfl | exact SeesL.rfl' _)
  refine Wk ?_
  refine SeqK.cutS mixed [4, 5] [(1, .ptr 0 0), (2, encReqs q39), (3, .int .i64 4), (4, .int .i64 0)] ⟨[.cells n39.cs 26], [], 0, 0, fun _ => 0⟩ (twC_sound (ct := []) mixed _ _ _ _ ?_) ?_
  · refine Wk ?_
    first | refine CallK.data rfl (c_Cells L n39 n39_small q39 (by decide) q39_small 6) rfl ?_ | refine CallP.data rfl (c_Cells L n39 n39_small q39 (by decide) q39_small 6) rfl ?_
    rw [e_cells39]
    refine Wk ?_
    refine Fits.mk' rfl rfl rfl rfl ?_ ?_ ?_ ?_ ?_ <;> repeat' (first | exact trivial | refine And.intro ?_ ?_ | exact Sees.of_eq rfl | exact lt_b rfl | rfl | exact SeesL.rfl' _)
  refine Wk ?_
  refine SeqK.cutS mixed [5] [(1, .ptr 0 0), (2, encReqs q39), (3, .int .i64 4), (4, .int .i64 0), (5, .int .i64 4), (6, .int .i64 0)] ⟨[.cells n39.cs 26], [], 0, 0, fun _ => 0⟩ (twC_sound (ct := []) mixed _ _ _ _ ?_) ?_
  · refine Wk ?_
    first | refine CallK.data rfl (c_Node L n39 n39_small q39 (by decide) q39_small 6 1) rfl ?_ | refine CallP.data rfl (c_Node L n39 n39_small q39 (by decide) q39_small 6 1) rfl ?_
    rw [e_node39]
    refine Wk ?_
    refine Fits.mk' rfl rfl rfl rfl ?_ ?_ ?_ ?_ ?_ <;> repeat' (first | exact trivial | refine And.intro ?_ ?_ | exact Sees.of_eq rfl | exact lt_b rfl | rfl | exact SeesL.rfl' _)
  refine Wk ?_
  refine SeqK.cutS mixed [] [(1, .ptr 0 0), (2, encReqs q39), (3, .int .i64 4), (4, .int .i64 0), (5, .int .i64 4), (6, .int .i64 0), (7, .ptr 1 0), (8, .bool true), (9, .int .i64 0)] ⟨[.cells n39.cs 26, .cells r39.cs 31], [], 0, 0, fun _ => 0⟩ (twC_sound (ct := []) mixed _ _ _ _ ?_) ?_
  · refine Wk ?_
    first | refine CallK.data rfl (c_Reason L n39 n39_small q39 (by decide) q39_small 6 1 none (rsn0, false) rfl (fun _ _ _ _ h => by rw [e_bw39] at h; cases h)) rfl ?_ | refine CallP.data rfl (c_Reason L n39 n39_small q39 (by decide) q39_small 6 1 none (rsn0, false) rfl (fun _ _ _ _ h => by rw [e_bw39] at h; cases h)) rfl ?_
    rw [e_reason39]
    refine Wk ?_
    refine Fits.mk' rfl rfl rfl rfl ?_ ?_ ?_ ?_ ?_ <;> repeat' (first | exact trivial | refine And.intro ?_ ?_ | exact Sees.of_eq rfl | exact lt_b rfl | rfl | exact SeesL.rfl' _)
  refine Wk ?_
  first | refine CallK.data rfl (c_Same39 L r39 r39 (by decide)) rfl ?_ | refine CallP.data rfl (c_Same39 L r39 r39 (by decide)) rfl ?_
  rw [decide_eq_true rfl]
  refine Wk ?_
  first | refine CallK.data rfl (c_Verify L n39 n39_small q39 (by decide) q39_small 6 1 r39 (by decide) false (fun _ _ _ h => absurd h (by decide))) rfl ?_ | refine CallP.data rfl (c_Verify L n39 n39_small q39 (by decide) q39_small 6 1 r39 (by decide) false (fun _ _ _ h => absurd h (by decide))) rfl ?_
  rw [e_verify39]
  refine Wk ?_
  exact resP.mk rfl (Sees.of_eq rfl)
end
end HM
