/- Groups of links: lists of links; the reason of a group. -/
import Derived.Test.YtdjglaoahmaljaaGreatDoorS137
import Derived.Test.YtdjglaoahmaljaaGreatDoorS129
import Derived.Test.YtdjglaoahmaljaaGreatDoorDa

set_option maxRecDepth 100000
namespace HM
open Go Go.RowKit Go.Proofs
section
variable (L : World → Prop)

theorem c_lcompare (a b : Link) : PCall Tryz.prog L 87 [a.av, b.av] (.int .i64 (a.cmp b)) := by
  refine PCall.intro mixed [] (nt := 17) Tryz.func87 rfl rfl (by simp) ?_
  refine Wk ?_
  first | refine CallK.data rfl (c_cmp L _ _) rfl ?_ | refine CallP.data rfl (c_cmp L _ _) rfl ?_
  refine Wk ?_
  first | refine CallK.data rfl (c_cmp L _ _) rfl ?_ | refine CallP.data rfl (c_cmp L _ _) rfl ?_
  refine Wk ?_
  first | refine CallK.data rfl (c_or L [cmpI a.src b.src, cmpI a.dst b.dst] (by simp)) rfl ?_ | refine CallP.data rfl (c_or L [cmpI a.src b.src, cmpI a.dst b.dst] (by simp)) rfl ?_
  refine Wk ?_
  exact resP.mk rfl (Sees.int (by simp only [Link.cmp, Link.key, cmpL, orL]))

theorem c_IndexLk (l : List Link) (x : Link) (hl : l.length ≤ 281474976710656) : PCall Tryz.prog L 122 [.sl false (l.map Link.av), Link.av x] (.int .i64 (idxF (fun y => decide (x = y)) l)) := by
  refine PCall.intro mixed [] (nt := 19) Tryz.func122 rfl rfl (by simp) ?_
  refine Wk ?_
  refine LoopK.run mixed [] (fun (k : Nat) => k ≤ l.length ∧ ∀ j y, j < k → l[j]? = some y → decide (x = y) = false) (fun k => [(0, .sl false (l.map Link.av)), (3, .ptr 0 0), (7, .int .i64 l.length), (8, .int .i64 k)]) (fun k => ⟨[.cells [.int .i64 x.src, .int .i64 x.dst, .int .i64 x.loss] 56], [], 0, 0, fun _ => 0⟩) (fun k => l.length - k) 0 ⟨by simp, by simp⟩ ?_ ?_
  · refine Fits.mk' rfl rfl rfl rfl ?_ ?_ ?_ ?_ ?_ <;> repeat' (first | exact trivial | refine And.intro ?_ ?_ | exact Sees.of_eq rfl | exact lt_b rfl | rfl | exact Sees.int (by simp) | exact SeesL.rfl' _)
  rintro k ⟨hk, hinv⟩
  refine Wk ?_
  refine BrK.mk (fun hb => ?_) (fun hb => ?_) <;> (try rw [hb])
  · have hlt : k < l.length := by simpa using hb
    obtain ⟨y, hgx⟩ := getLt hlt
    have hmx := getMap (f := Link.av) hgx
    repeat ((conv => whnf); first | refine sJ ?_ | refine And.intro (by first | exact inbMap hlt | kernel_rfl) ?_ | rw [hmx])
    try (conv => whnf)
    have hdec := link_dec x y
    refine BrK.mk (fun h2 => ?_) (fun h2 => ?_) <;> (try rw [h2])
    · have h2' : decide (x = y) = true := by rw [← hdec]; exact h2
      refine Wk ?_
      exact resP.mk rfl (Sees.int (idxF_some hlt hinv hgx h2').symm)
    · have h2' : decide (x = y) = false := by rw [← hdec]; exact h2
      refine Wk ?_
      refine ⟨k + 1, ⟨by omega, fun j z hj hz => ?_⟩, by omega, ?_⟩
      · rcases Nat.lt_succ_iff_lt_or_eq.1 hj with h | rfl
        · exact hinv j z h hz
        · rw [hgx] at hz; injection hz with hz; subst hz; exact h2'
      · refine Fits.mk' rfl rfl rfl rfl ?_ ?_ ?_ ?_ ?_ <;> repeat' (first | exact trivial | refine And.intro ?_ ?_ | exact Sees.of_eq rfl | exact lt_b rfl | rfl | exact Sees.int (succI hlt hl) | exact SeesL.rfl' _)
  · have hk' : k = l.length := by simp at hb; omega
    subst hk'
    refine Wk ?_
    exact resP.mk rfl (Sees.int (idxF_none hinv).symm)

theorem c_ContainsLk (l : List Link) (x : Link) (hl : l.length ≤ 281474976710656) : PCall Tryz.prog L 86 [.sl false (l.map Link.av), Link.av x] (.bool (decide (x ∈ l))) := by
  refine PCall.intro mixed [] (nt := 9) Tryz.func86 rfl rfl (by simp) ?_
  refine Wk ?_
  first | refine CallK.data rfl (c_IndexLk L l x hl) rfl ?_ | refine CallP.data rfl (c_IndexLk L l x hl) rfl ?_
  refine Wk ?_
  exact resP.mk rfl (Sees.bool (by rw [idxF_any, List.any_eq, ← decide_eq_decide.2 (show (∃ y, y ∈ l ∧ decide (x = y) = true) ↔ x ∈ l by simp)]))

theorem c_IndexFuncLk (l : List Link) (p : Link → Bool) (g : Nat) (caps : List AV) (hl : l.length ≤ 281474976710656) (hcb : callable Tryz.prog g = true) (hc : fzs caps = some caps) (hp : ∀ x ∈ l, PCall Tryz.prog L g (Link.av x :: caps) (.bool (p x))) :
    PCall Tryz.prog L 118 [.sl false (l.map Link.av), .fn g caps] (.int .i64 (idxF p l)) := by
  refine PCall.intro mixed [] (nt := 19) Tryz.func118 rfl rfl (by simp) ?_
  refine Wk ?_
  refine LoopK.run mixed [] (fun (k : Nat) => k ≤ l.length ∧ ∀ j x, j < k → l[j]? = some x → p x = false) (fun k => [(0, .sl false (l.map Link.av)), (1, .fn g caps), (7, .int .i64 l.length), (8, .int .i64 k)]) (fun k => St.none) (fun k => l.length - k) 0 ⟨by simp, by simp⟩ ?_ ?_
  · refine Fits.mk' rfl rfl rfl rfl ?_ ?_ ?_ ?_ ?_ <;> repeat' (first | exact trivial | refine And.intro ?_ ?_ | exact Sees.of_eq rfl | exact lt_b rfl | rfl | exact Sees.int (by simp) | exact fzs_okk hc)
  rintro k ⟨hk, hinv⟩
  refine Wk ?_
  refine BrK.mk (fun hb => ?_) (fun hb => ?_) <;> (try rw [hb])
  · have hlt : k < l.length := by simpa using hb
    obtain ⟨x, hgx⟩ := getLt hlt
    have hmx := getMap (f := Link.av) hgx
    repeat ((conv => whnf); first | refine sJ ?_ | refine And.intro (by first | exact inbMap hlt | kernel_rfl) ?_ | rw [hmx])
    try (conv => whnf)
    refine CallK.data hcb (hp x (List.mem_of_getElem? hgx)) (by show (match fz _, fzs caps with | some a, some b => some (a :: b) | _, _ => none) = _; rw [hc]; rfl) ?_
    refine Wk ?_
    refine BrK.mk (fun h2 => ?_) (fun h2 => ?_) <;> (try rw [h2])
    · refine Wk ?_
      exact resP.mk rfl (Sees.int (idxF_some hlt hinv hgx h2).symm)
    · refine Wk ?_
      refine ⟨k + 1, ⟨by omega, fun j y hj hy => ?_⟩, by omega, ?_⟩
      · rcases Nat.lt_succ_iff_lt_or_eq.1 hj with h | rfl
        · exact hinv j y h hy
        · rw [hgx] at hy; injection hy with hy; subst hy; exact h2
      · refine Fits.mk' rfl rfl rfl rfl ?_ ?_ ?_ ?_ ?_ <;> repeat' (first | exact trivial | refine And.intro ?_ ?_ | exact Sees.of_eq rfl | exact lt_b rfl | rfl | exact Sees.int (succI hlt hl) | exact fzs_okk hc)
  · have hk' : k = l.length := by simp at hb; omega
    subst hk'
    refine Wk ?_
    exact resP.mk rfl (Sees.int (idxF_none hinv).symm)

theorem c_ContainsFuncLk (l : List Link) (p : Link → Bool) (g : Nat) (caps : List AV) (hl : l.length ≤ 281474976710656) (hcb : callable Tryz.prog g = true) (hc : fzs caps = some caps) (hp : ∀ x ∈ l, PCall Tryz.prog L g (Link.av x :: caps) (.bool (p x))) :
    PCall Tryz.prog L 77 [.sl false (l.map Link.av), .fn g caps] (.bool (l.any p)) := by
  refine PCall.intro mixed [] (nt := 9) Tryz.func77 rfl rfl (by simp) ?_
  refine Wk ?_
  refine CallK.data rfl (c_IndexFuncLk L l p g caps hl hcb hc hp) (by show (match fz _, fzs [AV.fn g caps] with | some a, some b => some (a :: b) | _, _ => none) = _; rw [show fzs [AV.fn g caps] = some [AV.fn g caps] from by simp [fz, fzs, hc]]; rfl) ?_
  refine Wk ?_
  exact resP.mk rfl (Sees.bool (idxF_any p l))

theorem c_Clone0Lk : PCall Tryz.prog L 80 [.sl false (([] : List Link).map Link.av)] (.sl false (([] : List Link).map Link.av)) := by
  refine PCall.intro mixed [] (nt := 8) Tryz.func80 rfl rfl (by simp) ?_
  refine Wk ?_
  intro b
  cases b
  · repeat ((conv => whnf); first | refine sJ ?_ | refine And.intro (by first | exact Els.map (f := Link.av) (fun x => ⟨(linkOk).len x, (linkOk).cell x⟩) | kernel_rfl) ?_ )
    try (conv => whnf)
    exact resP.mk rfl (Sees.of_eq rfl)
  · refine Wk ?_
    exact resP.mk rfl (Sees.of_eq rfl)

theorem c_CloneLk (l : List Link) (hne : l ≠ []) (hl : l.length ≤ 1099511627776) : FCall Tryz.prog L 80 [.sl false (l.map Link.av)] (l.map Link.av) 3 56 := by
  refine FCall.of_ICall (ICall.intro mixed [] (nt := 8) Tryz.func80 rfl rfl (by simp) ?_)
  refine Wk ?_
  refine BrK.mk (fun h => ?_) (fun h => ?_) <;> (try rw [h])
  · exact absurd (by simpa using h) hne
  · repeat ((conv => whnf); first | refine sJ ?_ | refine And.intro (by first | exact Els.map (f := Link.av) (fun x => ⟨(linkOk).len x, (linkOk).cell x⟩) | exact (show _ * 24 ≤ _ by simp only [List.length_map, List.length_nil]; omega) | exact (by simp only [List.length_map, List.length_nil, maxLen]; omega) | kernel_rfl) ?_ )
    try (conv => whnf)
    exact ⟨_, rfl, rfl, rfl⟩

theorem c_CloneP (l : List Link) (hl : l.length ≤ 1099511627776) : PCall Tryz.prog L 80 [encLinks l] (encLinks l) := by
  by_cases hne : l = []
  · subst hne; exact c_Clone0Lk L
  refine PCall.intro mixed [] (nt := 8) Tryz.func80 rfl rfl (by simp) ?_
  refine Wk ?_
  refine BrK.mk (fun h => ?_) (fun h => ?_) <;> (try rw [h])
  · exact absurd (by simpa using h) hne
  · repeat ((conv => whnf); first | refine sJ ?_ | refine And.intro (by first | exact Els.map (f := Link.av) (fun x => ⟨linkOk.len x, linkOk.cell x⟩) | exact (show _ * 24 ≤ _ by simp only [List.length_map, List.length_nil]; omega) | exact (by simp only [List.length_map, List.length_nil, maxLen]; omega) | kernel_rfl) ?_ )
    try (conv => whnf)
    exact resP.mk rfl (Sees.of_eq rfl)

theorem c_qgroup1 (m : Link) (l : List Link) (hl : l.length ≤ 281474976710656) : PCall Tryz.prog L 89 [m.av, .cptr (.agg [encLinks l]) 0] (.bool (decide (m ∈ l))) := by
  refine PCall.intro mixed [] (nt := 7) Tryz.func89 rfl rfl (by simp) ?_
  refine Wk ?_
  first | refine CallK.data rfl (c_ContainsLk L l m hl) rfl ?_ | refine CallP.data rfl (c_ContainsLk L l m hl) rfl ?_
  refine Wk ?_
  exact resP.mk rfl (Sees.bool rfl)

set_option maxHeartbeats 1000000 in
theorem c_qgroup (n : Net) (hn : n.small) (q : List Req) (hx : ∀ x ∈ q, x.small) (len offs : Int) (hQ : QOk n q len) (ho1 : 0 ≤ offs) (ho2 : offs ≤ 16) (l : List Link) (hl : l.length ≤ 1099511627776) : PCall Tryz.prog L 46 [qnAv n q len offs, encLinks l] (groupR n q len offs l).av := by
  refine PCall.intro mixed [] (nt := 23) Tryz.func46 rfl rfl (by simp) ?_
  have h1 := hQ.sz.l1
  have h2 := hQ.sz.l2
  have hmul : 0 ≤ len * offs ∧ len * offs ≤ 8192 := ⟨Int.mul_nonneg (by omega) ho1, Int.le_trans (Int.mul_le_mul h2 ho2 ho1 (by omega)) (by decide)⟩
  have hw : IntKind.i64.wrap (len * offs) = len * offs := by rw [w64] <;> omega
  refine Wk ?_
  first | refine CallK.box rfl (c_lsum L n hn q hx len hQ (fun m => decide (m ∈ l)) 89 [.cptr (.agg [encLinks l]) 0] rfl rfl (fun m _ => c_qgroup1 L m l (by omega))) rfl rfl ?_ | refine CallP.box rfl (c_lsum L n hn q hx len hQ (fun m => decide (m ∈ l)) 89 [.cptr (.agg [encLinks l]) 0] rfl rfl (fun m _ => c_qgroup1 L m l (by omega))) rfl rfl ?_
  refine Wk ?_
  first | refine CallK.data rfl (c_CloneP L l hl) rfl ?_ | refine CallP.data rfl (c_CloneP L l hl) rfl ?_
  repeat ((conv => whnf); first | refine sJ ?_ | refine And.intro (by first | exact trivial | kernel_rfl) ?_ | rw [hw])
  try (conv => whnf)
  exact resP.mk rfl (Sees.of_eq rfl)
end
end HM
