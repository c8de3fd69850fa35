/- The guard of networks. -/
import Derived.Test.YtgfboaadhlhjhaaGreatDoorS30
import Derived.Test.YtgfboaadhlhjhaaGreatDoorS1
import Derived.Test.YtgfboaadhlhjhaaGreatDoorDa
set_option maxRecDepth 100000
namespace HM
open Go Go.RowKit Go.Proofs
section
variable (L : World → Prop)
def few31 (n : Net) : Bool := !(n.power.any fun r => decide ((40 : Int) < r.length)) && decide ((n.power.length : Int) ≤ 8) && decide ((n.links.length : Int) ≤ 60) && decide ((n.margin.length : Int) ≤ 60)
theorem c_Few31 (n : Net) (hn : n.small) : PCall Tryz.prog L 9 [n.av] (.bool (few31 n)) := by
  have hn1 := hn.1
  refine PCall.intro mixed [] (nt := 34) Tryz.func9 rfl rfl (by simp) ?_
  refine Wk ?_
  refine LoopK.run mixed [] (fun (k : Nat) => k ≤ n.power.length ∧ ∀ j x, j < k → n.power[j]? = some x → ¬ (40 : Int) < x.length) (fun k => [(1, .ptr 0 0), (3, .int .i64 k)]) (fun k => ⟨[.cells [.int .i64 n.nodes, encRows n.power, .int .i64 n.noise, .int .i64 n.thr, encLinks n.links, encIs n.margin] 26], [], 0, 0, fun _ => 0⟩) (fun k => n.power.length - k) 0 ⟨by simp, by simp⟩ ?_ ?_
  · refine Fits.mk' rfl rfl rfl rfl ?_ ?_ ?_ ?_ ?_ <;> repeat' (first | exact trivial | refine And.intro ?_ ?_ | exact Sees.of_eq rfl | exact lt_b rfl | rfl | exact SeesL.rfl' _)
  rintro k ⟨hk, hinv⟩
  refine Wk ?_
  refine BrK.mk (fun h1 => ?_) (fun h1 => ?_) <;> (try rw [h1])
  · have hlt : k < n.power.length := by simpa using h1
    obtain ⟨r, hgr⟩ := getLt hlt
    have hmr := getMap (f := fun r : List Int => encIs r) hgr
    repeat ((conv => whnf); first | refine sJ ?_ | refine And.intro (by first | exact inbMap hlt | kernel_rfl) ?_ | rw [hmr])
    try (conv => whnf)
    refine BrK.mk (fun h2 => ?_) (fun h2 => ?_) <;> (try rw [h2])
    · have h2' : (40 : Int) < r.length := by simpa using h2
      refine Wk ?_
      exact resP.mk rfl (Sees.bool (by rw [few31, show (n.power.any fun r => decide ((40 : Int) < r.length)) = true from List.any_eq_true.2 ⟨r, List.mem_of_getElem? hgr, by simpa using h2'⟩]; rfl))
    · have h2' : ¬ (40 : Int) < r.length := by simpa using h2
      refine Wk ?_
      refine ⟨k + 1, ⟨by omega, fun j x hj hx => ?_⟩, by omega, ?_⟩
      · rcases Nat.lt_succ_iff_lt_or_eq.1 hj with hj | rfl
        · exact hinv j x hj hx
        · rw [hgr] at hx; injection hx with hx; subst hx; exact h2'
      · refine Fits.mk' rfl rfl rfl rfl ?_ ?_ ?_ ?_ ?_ <;> repeat' (first | exact trivial | refine And.intro ?_ ?_ | exact Sees.of_eq rfl | exact lt_b rfl | rfl | exact SeesL.rfl' _ | exact Sees.int (succI hlt (by omega)))
  · have hkl : k = n.power.length := by simp at h1; omega
    have hany : (n.power.any fun r => decide ((40 : Int) < r.length)) = false := by
      rw [List.any_eq_false]
      intro x hx
      obtain ⟨j, hj⟩ := List.getElem?_of_mem hx
      simpa using hinv j x (by have := (List.getElem?_eq_some_iff.1 hj).1; omega) hj
    refine Wk ?_
    repeat' ((conv => whnf); first | refine sJ ?_ | refine And.intro (by first  | kernel_rfl) ?_  | (refine BrK.mk (fun hb => ?_) (fun hb => ?_) <;> (try rw [hb])))
    all_goals try (conv => whnf)
    all_goals exact resP.mk rfl (Sees.bool (by rw [few31, hany]; simp_all <;> omega))
end
end HM
set_option maxRecDepth 100000
namespace HM
open Go Go.RowKit Go.Proofs
section
variable (L : World → Prop)
end
end HM
set_option maxRecDepth 100000
namespace HM
open Go Go.RowKit Go.Proofs
section
variable (L : World → Prop)
set_option maxHeartbeats 4000000 in
theorem c_SameCells35 (a : List Cell) (ha : a.length ≤ 281474976710656) : PCall Tryz.prog L 14 [encCells a, encCells a] (.bool true) := by
  refine PCall.intro mixed [] (nt := 26) Tryz.func14 rfl rfl (by simp) ?_
  refine Wk ?_
  rw [bne_self_eq_false]
  refine Wk ?_
  refine LoopK.run mixed [] (fun (k : Nat) => k ≤ a.length) (fun k => [(0, encCells a), (1, encCells a), (5, .int .i64 k)]) (fun k => St.none) (fun k => a.length - k) 0 (by simp) ?_ ?_
  · refine Fits.mk' rfl rfl rfl rfl ?_ ?_ ?_ ?_ ?_ <;> repeat' (first | exact trivial | refine And.intro ?_ ?_ | exact Sees.of_eq rfl | exact lt_b rfl | rfl | exact Sees.int (by simp))
  rintro k hk
  refine Wk ?_
  refine BrK.mk (fun hb => ?_) (fun hb => ?_) <;> (try rw [hb])
  · have hkt : k < a.length := by simpa using hb
    obtain ⟨x, hgx⟩ := getLt hkt
    have hmx := getMap (f := Cell.av) hgx
    repeat ((conv => whnf); first | refine sJ ?_ | refine And.intro (by first | exact inbMap hkt | kernel_rfl) ?_ | rw [hmx])
    try (conv => whnf)
    refine BrK.mk (fun h2 => ?_) (fun h2 => ?_) <;> (try rw [h2])
    · exfalso; simp at h2
    · refine Wk ?_
      refine ⟨k + 1, by omega, by omega, ?_⟩
      refine Fits.mk' rfl rfl rfl rfl ?_ ?_ ?_ ?_ ?_ <;> repeat' (first | exact trivial | refine And.intro ?_ ?_ | exact Sees.of_eq rfl | exact lt_b rfl | rfl | exact Sees.int (succI hkt ha))
  · refine Wk ?_
    exact resP.mk rfl (Sees.bool rfl)
end
end HM
