/- Groups of links: the reference. -/
import Derived.Test.YtdjglaoahmaljaaGreatDoorS142
import Derived.Test.YtdjglaoahmaljaaGreatDoorS127

set_option maxRecDepth 100000
namespace HM
open Go Go.RowKit Go.Proofs
section
variable (L : World → Prop)

set_option maxHeartbeats 1000000 in
theorem c_used39 (n : Net) (hok : NetOk n) (q : List Req) (hq : q.length ≤ 1099511627776) (hx : ∀ x ∈ q, x.small) : PCall Tryz.prog L 82 [n.av, encReqs q] (encLinks (allM n q)) := by
  have hmany := hok.many
  refine PCall.intro mixed [] (nt := 53) Tryz.func82 rfl rfl (by simp) ?_
  refine Wk ?_
  refine LoopK.run mixed [] (fun (k : Nat) => k ≤ n.links.length) (fun k => [(1, encReqs q), (2, .ptr 0 0), (5, .own (((n.links.take k).filter (anyU q)).map Link.av) 0), (6, .int .i64 k)]) (fun k => ⟨[.cells n.cs 26], [(((n.links.take k).filter (anyU q)).length, 3)], 0, 0, fun _ => 56⟩) (fun k => n.links.length - k) 0 (by simp) ?_ ?_
  · refine Fits.mk' rfl rfl rfl rfl ?_ ?_ ?_ ?_ ?_ <;> repeat' (first | exact trivial | refine And.intro ?_ ?_ | exact Sees.of_eq rfl | exact lt_b rfl | rfl | exact SeesL.rfl' _)
  rintro k hk
  have hfl := List.length_filter_le (anyU q) (n.links.take k)
  rw [List.length_take] at hfl
  refine Wk ?_
  refine BrK.mk (fun hb => ?_) (fun hb => ?_) <;> (try rw [hb])
  · have hlt : k < n.links.length := by simpa using hb
    obtain ⟨l, hgl⟩ := getLt hlt
    have hml := getMap (f := Link.av) hgl
    have hst := filter_succ (anyU q) hgl
    refine Wk ?_
    refine LoopK.run mixed [] (fun (j : Nat) => j ≤ q.length) (fun j => [(1, encReqs q), (2, .ptr 0 0), (5, .own (((n.links.take k).filter (anyU q)).map Link.av) 0), (6, .int .i64 k), (7, .bool (anyU (q.take j) l)), (8, .int .i64 j)]) (fun _ => ⟨[.cells n.cs 26], [(((n.links.take k).filter (anyU q)).length, 3)], 0, 0, fun _ => 56⟩) (fun j => q.length - j) 0 (by omega) ?_ ?_
    · refine Fits.mk' rfl rfl rfl rfl ?_ ?_ ?_ ?_ ?_ <;> repeat' (first | exact trivial | refine And.intro ?_ ?_ | exact Sees.of_eq rfl | exact lt_b rfl | rfl | exact SeesL.rfl' _)
    rintro j hj
    refine Wk ?_
    refine BrK.mk (fun hd => ?_) (fun hd => ?_) <;> (try rw [hd])
    · have hjt : j < q.length := by simpa using hd
      obtain ⟨x, hgx⟩ := getLt hjt
      have hmx := getMap (f := Req.av) hgx
      have hu := anyU_succ hgx l
      cases hh : anyU (q.take j) l with
      | true =>
        rw [hh, Bool.true_or] at hu
        refine Wk ?_
        refine ⟨j + 1, by omega, by omega, ?_⟩
        refine Fits.mk' rfl rfl rfl rfl ?_ ?_ ?_ ?_ ?_ <;> repeat' (first | exact trivial | refine And.intro ?_ ?_ | exact Sees.of_eq rfl | exact lt_b rfl | rfl | exact SeesL.rfl' _ | exact Sees.int (succI hjt (by omega)) | exact Sees.bool hu.symm)
      | false =>
        rw [hh, Bool.false_or] at hu
        repeat ((conv => whnf); first | refine sJ ?_ | refine And.intro (by first | exact inbMap hjt | exact inbMap hlt | kernel_rfl) ?_ | rw [hmx] | rw [hml])
        try (conv => whnf)
        first | refine CallK.data rfl (c_uses L x (hx x (List.mem_of_getElem? hgx)) l.src l.dst) rfl ?_ | refine CallP.data rfl (c_uses L x (hx x (List.mem_of_getElem? hgx)) l.src l.dst) rfl ?_
        rw [← hu]
        refine Wk ?_
        refine ⟨j + 1, by omega, by omega, ?_⟩
        refine Fits.mk' rfl rfl rfl rfl ?_ ?_ ?_ ?_ ?_ <;> repeat' (first | exact trivial | refine And.intro ?_ ?_ | exact Sees.of_eq rfl | exact lt_b rfl | rfl | exact SeesL.rfl' _ | exact Sees.int (succI hjt (by omega)))
    · have hjn : j = q.length := by simp at hd; omega
      subst hjn
      rw [List.take_length]
      cases hh : anyU q l with
      | true =>
        rw [if_pos hh] at hst
        have hl2 : ((n.links.take k).filter (anyU q)).length + 1 ≤ 128 := by omega
        repeat ((conv => whnf); first | refine sJ ?_ | refine And.intro (by first | exact inbMap hlt | exact Els.map (f := Link.av) (fun _ => ⟨rfl, rfl⟩) | exact Els.of_b rfl | exact (show _ * 24 ≤ _ by simp only [List.length_map, List.length_append, List.length_cons, List.length_nil]; omega) | exact (by simp only [List.length_map, List.length_append, List.length_cons, List.length_nil, maxLen]; omega) | exact (show some (_, _) = some (_, _) by simp only [List.length_map]) | kernel_rfl) ?_ | rw [hml])
        try (conv => whnf)
        refine ⟨k + 1, by omega, by omega, ?_⟩
        rw [hst]
        refine Fits.mk' rfl rfl rfl rfl ?_ ?_ ?_ ?_ ?_ <;> repeat' (first | exact trivial | refine And.intro ?_ ?_ | exact Sees.of_eq rfl | exact lt_b rfl | rfl | exact SeesL.rfl' _ | exact Sees.int (succI hlt (by omega)) | exact Sees.own (by simp; rfl) | (show (_, _) = (_, _); simp only [List.length_append, List.length_map, List.length_cons, List.length_nil]))
      | false =>
        rw [if_neg (by simp [hh])] at hst
        refine Wk ?_
        refine ⟨k + 1, by omega, by omega, ?_⟩
        rw [hst]
        refine Fits.mk' rfl rfl rfl rfl ?_ ?_ ?_ ?_ ?_ <;> repeat' (first | exact trivial | refine And.intro ?_ ?_ | exact Sees.of_eq rfl | exact lt_b rfl | rfl | exact SeesL.rfl' _ | exact Sees.int (succI hlt (by omega)))
  · have hk' : k = n.links.length := by simp at hb; omega
    subst hk'
    rw [List.take_length]
    refine Wk ?_
    exact resP.mk rfl (Sees.of_eq rfl)

theorem c_total39 (n : Net) (hok : NetOk n) (q : List Req) (hx : ∀ x ∈ q, x.small) (len : Int) (hQ : QOk n q len) (ls : List Link) (hs : ∀ l ∈ ls, l ∈ n.links) (hl : ls.length ≤ 128) : PCall Tryz.prog L 42 [encReqs q, .int .i64 len, encLinks ls] (.int .i64 (sumW (needM q len) ls)) := by
  obtain ⟨h0, ⟨_, hl1, hl2, _⟩, _, hq16, hreq, hper⟩ := hQ
  refine PCall.intro mixed [] (nt := 25) Tryz.func42 rfl rfl (by simp) ?_
  refine Wk ?_
  refine LoopK.run mixed [] (fun (k : Nat) => k ≤ ls.length) (fun k => [(0, encReqs q), (1, .int .i64 len), (2, encLinks ls), (7, .int .i64 (sumW (needM q len) (ls.take k))), (8, .int .i64 k)]) (fun k => St.none) (fun k => ls.length - k) 0 (by simp) ?_ ?_
  · refine Fits.mk' rfl rfl rfl rfl ?_ ?_ ?_ ?_ ?_ <;> repeat' (first | exact trivial | refine And.intro ?_ ?_ | exact Sees.of_eq rfl | exact lt_b rfl | rfl )
  rintro k hk
  refine Wk ?_
  refine BrK.mk (fun hb => ?_) (fun hb => ?_) <;> (try rw [hb])
  · have hlt : k < ls.length := by simpa using hb
    obtain ⟨l, hgl⟩ := getLt hlt
    have hml := getMap (f := Link.av) hgl
    obtain ⟨b1, b2⟩ := link_bd hok (hs l (List.mem_of_getElem? hgl))
    have hb3 := needM_sum hok hl1 hl2 (fun x h => (hper x h).1) hq16 (ls := ls.take (k + 1)) (fun l h => hs l (List.mem_of_mem_take h)) (by rw [List.length_take]; omega)
    have hst := sumW_take (needM q len) hgl
    repeat ((conv => whnf); first | refine sJ ?_ | refine And.intro (by first | exact inbMap hlt | kernel_rfl) ?_ | rw [hml])
    try (conv => whnf)
    first | refine CallK.data rfl (c_need39 L q hx len hl1 hl2 (fun x h => (hper x h).1) hq16 l b1 b2) rfl ?_ | refine CallP.data rfl (c_need39 L q hx len hl1 hl2 (fun x h => (hper x h).1) hq16 l b1 b2) rfl ?_
    refine Wk ?_
    refine ⟨k + 1, by omega, by omega, ?_⟩
    refine Fits.mk' rfl rfl rfl rfl ?_ ?_ ?_ ?_ ?_ <;> repeat' (first | exact trivial | refine And.intro ?_ ?_ | exact Sees.of_eq rfl | exact lt_b rfl | rfl | exact Sees.int (succI hlt (by omega)) | exact Sees.int (by rw [hst] at hb3 ⊢; rw [w64] <;> omega))
  · have hk' : k = ls.length := by simp at hb; omega
    subst hk'
    rw [List.take_length]
    refine Wk ?_
    exact resP.mk rfl (Sees.int rfl)

end
end HM
