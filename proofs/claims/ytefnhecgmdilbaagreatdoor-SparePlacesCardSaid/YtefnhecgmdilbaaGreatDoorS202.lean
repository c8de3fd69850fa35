/- Certificates: the reference. -/
import Derived.Test.YtefnhecgmdilbaaGreatDoorS120
import Derived.Test.YtefnhecgmdilbaaGreatDoorDc
import Derived.Test.YtefnhecgmdilbaaGreatDoorS38
import Derived.Test.YtefnhecgmdilbaaGreatDoorFh

set_option maxRecDepth 100000
namespace HM
open Go Go.RowKit Go.Proofs
section
variable (L : World → Prop)
/-- a claim that grows: with nothing in it, its slices are nil; then each has a chain of its own -/
def cl38 (x : Req) (cl : List (List Int) → Claim) : Nat → St
  | 0 => ⟨[.dead, .dead, .dead, .cells [.int .i64 0, .nils, .nils, .nils, .nils] 82, .cells [.int .i64 x.flow.id, .nils, .nils, .nils, .nils] 82], [], 0, 0, fun _ => 0⟩
  | k + 1 => ⟨[.dead, .dead, .dead, .cells [.int .i64 0, .nils, .nils, .nils, .nils] 82, .cells [.int .i64 x.flow.id, .own ((cl (x.routes.take (k + 1))).routes.map encIs) 2, .own ((cl (x.routes.take (k + 1))).bounds.map encI) 3, .own ((cl (x.routes.take (k + 1))).worst.map encI) 4, .own ((cl (x.routes.take (k + 1))).slots.map encIs) 5] 82], [((x.routes.getD 0 []).length, 1), (1, 1), (k + 1, 1), (k + 1, 1), (k + 1, 1), (k + 1, 1)], 0, 0, fun c => if c = 1 then 75 else if c = 2 then 75 else if c = 5 then 24 else 3⟩
set_option maxHeartbeats 16000000 in
theorem c_claim38 (n : Net) (hn : n.small) (x : Req) (hxo : ReqOk n x) (s : Sched) (hc : s.cells.length ≤ 281474976710656) : PCall Tryz.prog L 72 [n.av, x.av, s.av] (.tup [(claimM n s x).av, .bool (claimB n s x)]) := by
  have hl2 := hxo.len
  refine PCall.intro mixed [1] (nt := 81) Tryz.func72 rfl rfl (by simp) ?_
  refine Wk ?_
  refine SeqK.sem mixed [] ?_
  refine Wk ?_
  refine SemK.freezeB 0 rfl rfl ?_
  refine SemK.freezeB 1 rfl rfl ?_
  refine SemK.freezeB 2 rfl rfl ?_
  refine twC_sound (ct := []) mixed _ _ _ _ ?_
  refine Wk ?_
  refine LoopK.run mixed [10008, 10009] (fun (k : Nat) => k ≤ x.routes.length ∧ ∀ j r, j < k → x.routes[j]? = some r → srvB n s x r = true) (fun k => [(3, .cptr n.av 0), (4, .cptr x.av 0), (5, .cptr s.av 0), (6, .ptr 3 0), (8, .ptr 4 0), (9, .int .i64 k)]) (fun k => cl38 x (claimT n s x) k) (fun k => x.routes.length - k) 0 ⟨by simp, fun j r hj => by omega⟩ ?_ ?_
  · refine Fits.mk' rfl rfl rfl rfl ?_ ?_ ?_ ?_ ?_ <;> repeat' (first | exact trivial | refine And.intro ?_ ?_ | exact Sees.of_eq rfl | exact lt_b rfl | rfl | exact SeesL.rfl' _)
  rintro k ⟨hk, hinv⟩
  by_cases hkl : k < x.routes.length
  rotate_left
  · have hkn : k = x.routes.length := by omega
    have g0 : decide ((k : Int) < ((x.routes.map encIs).length : Int)) = false := decide_eq_false (by rw [List.length_map]; omega)
    have hall : claimB n s x = true := List.all_eq_true.2 fun r hr => by
      obtain ⟨j, hj⟩ := List.getElem?_of_mem hr
      exact hinv j r (by rw [hkn]; exact (List.getElem?_eq_some_iff.1 hj).1) hj
    obtain ⟨k, rfl⟩ : ∃ i, k = i + 1 := ⟨k - 1, by omega⟩
    have e : x.routes.take (k + 1) = x.routes := List.take_of_length_le (by omega)
    repeat ((conv => whnf); first | refine sJ ?_ | refine And.intro (by first | exact trivial | kernel_rfl) ?_ | rw [g0])
    try (conv => whnf)
    exact resP.mk rfl (Sees.of_eq (by rw [claimM, if_pos hall, hall, e]; rfl))
  obtain ⟨r, hgr⟩ := getLt hkl
  have hmr := getMap (f := encIs) hgr
  have hrl : r.length ≤ 9 := (routeF_ok (hxo.route r (List.mem_of_getElem? hgr))).1.2
  have nxt : srvB n s x r = true → ∀ j y, j < k + 1 → x.routes[j]? = some y → srvB n s x y = true := fun h j y hj hy => by
    rcases Nat.lt_succ_iff_lt_or_eq.1 hj with h' | rfl
    · exact hinv j y h' hy
    · rw [hgr] at hy; injection hy with hy; subst hy; exact h
  have hts := take_succ hgr
  have g0 : decide ((k : Int) < ((x.routes.map encIs).length : Int)) = true := decide_eq_true (by rw [List.length_map]; omega)
  have hno : srvB n s x r = false → claimB n s x = false := fun h => List.all_eq_false.2 ⟨r, List.mem_of_getElem? hgr, by simp [h]⟩
  cases k with
  | zero =>
    have hr0 : x.routes.getD 0 [] = r := by rw [List.getD_eq_getElem?_getD, hgr]; rfl
    repeat ((conv => whnf); first | refine sJ ?_ | refine And.intro (by first | exact trivial | exact inbMap hkl | kernel_rfl) ?_ | rw [g0] | rw [hmr])
    try (conv => whnf)
    first | refine CallK.data rfl (c_Route37 L n s x.flow r hn hc (by omega) hn.2.2.1) rfl ?_ | refine CallP.data rfl (c_Route37 L n s x.flow r hn hc (by omega) hn.2.2.1) rfl ?_
    by_cases he : (routeM n s x.flow r).2.2.2 = 0
    rotate_left
    · have g : ((routeM n s x.flow r).2.2.2 != 0) = true := by simpa using he
      have hb := hno (by simp [srvB, he])
      repeat ((conv => whnf); first | refine sJ ?_ | refine And.intro (by first | exact trivial | kernel_rfl) ?_ | rw [g])
      try (conv => whnf)
      exact resP.mk rfl (Sees.of_eq (by rw [claimM, if_neg (by rw [hb]; decide), hb]; rfl))
    have g : ((routeM n s x.flow r).2.2.2 != 0) = false := by simpa using he
    by_cases hd : x.flow.dead < (routeM n s x.flow r).1
    · have g2 : decide (x.flow.dead < (routeM n s x.flow r).1) = true := by simpa using hd
      have hb := hno (by simp [srvB]; omega)
      repeat ((conv => whnf); first | refine sJ ?_ | refine And.intro (by first | exact trivial | kernel_rfl) ?_ | rw [g] | rw [g2])
      try (conv => whnf)
      exact resP.mk rfl (Sees.of_eq (by rw [claimM, if_neg (by rw [hb]; decide), hb]; rfl))
    have g2 : decide (x.flow.dead < (routeM n s x.flow r).1) = false := by simpa using hd
    have hsv : srvB n s x r = true := by simp [srvB, he]; omega
    repeat ((conv => whnf); first | refine sJ ?_ | refine And.intro (by first | exact trivial | kernel_rfl) ?_ | rw [g] | rw [g2])
    try (conv => whnf)
    refine SemK.regionFin mixed (fun X => X.bx[4]? = some (.cells [.int .i64 x.flow.id, .nils, .nils, .nils, .nils] 82)) [0, 1, 3, 4, 5, 6, 7] 6 rfl rfl (by decide) rfl (by rfl) ?_
    iterate 7
      conv => whnf
      apply exV
      · rintro S' K' hI hh
        repeat ((conv => whnf); first | refine sJ ?_ | refine And.intro (by first | exact trivial | exact inbMap hkl | kernel_rfl) ?_ | rw [hI] | rw [hmr])
        try (conv => whnf)
        exact hh
    conv => whnf
    repeat' ((conv => whnf); first | exact trivial | refine sJ ?_ | refine And.intro (by first | exact trivial | exact Or.inr rfl | exact Or.inl rfl | exact Els.map (f := encIs) (fun x => ⟨rfl, rfl⟩) | exact Els.map (f := encI) (fun x => ⟨rfl, rfl⟩) | exact (show _ * 24 ≤ _ by simp only [claimT, List.length_map, List.length_take, List.length_cons, List.length_nil]; omega) | exact (show _ * 8 ≤ _ by simp only [claimT, List.length_map, List.length_take, List.length_cons, List.length_nil]; omega) | exact (by simp only [claimT, List.length_map, List.length_take, List.length_cons, List.length_nil, maxLen]; omega) | exact (by simp only [claimT, List.length_map, List.length_take]; show some (_, _) = some (_, _); congr 2; omega) | kernel_rfl) ?_ | refine And.intro ?_ ?_ )
    all_goals (conv => whnf)
    refine SemK.regionFin mixed (fun X => X.bx[4]? = some (.cells [.int .i64 x.flow.id, .own [encIs r] 2, .nils, .nils, .nils] 82)) [0, 1, 2, 3, 5, 6, 7, 8, 10, 11, 12, 13] 9 rfl rfl (by decide) rfl (by rfl) ?_
    iterate 12
      conv => whnf
      apply exV
      · rintro S' K' hI hh
        repeat ((conv => whnf); first | refine sJ ?_ | refine And.intro (by first | exact trivial | kernel_rfl) ?_ | rw [hI])
        try (conv => whnf)
        exact hh
    conv => whnf
    repeat' ((conv => whnf); first | exact trivial | refine sJ ?_ | refine And.intro (by first | exact trivial | exact Or.inr rfl | exact Or.inl rfl | exact Els.map (f := encIs) (fun x => ⟨rfl, rfl⟩) | exact Els.map (f := encI) (fun x => ⟨rfl, rfl⟩) | exact (show _ * 24 ≤ _ by simp only [claimT, List.length_map, List.length_take, List.length_cons, List.length_nil]; omega) | exact (show _ * 8 ≤ _ by simp only [claimT, List.length_map, List.length_take, List.length_cons, List.length_nil]; omega) | exact (by simp only [claimT, List.length_map, List.length_take, List.length_cons, List.length_nil, maxLen]; omega) | exact (by simp only [claimT, List.length_map, List.length_take]; show some (_, _) = some (_, _); congr 2; omega) | kernel_rfl) ?_ | refine And.intro ?_ ?_ )
    all_goals (conv => whnf)
    all_goals refine ⟨0 + 1, ⟨by omega, nxt hsv⟩, by omega, ?_⟩
    all_goals refine Fits.mk' rfl rfl rfl rfl ?_ ?_ ?_ ?_ ?_ <;> repeat' (first | exact trivial | refine And.intro ?_ ?_ | exact Sees.of_eq rfl | exact lt_b rfl | rfl | exact SeesL.rfl' _ | exact Sees.int (succI hkl (by omega)) | exact Sees.own (by rw [hts]; rfl) | (show (_, _) = (_, _); rw [hr0]; simp [encIs]))
  | succ k =>
    repeat ((conv => whnf); first | refine sJ ?_ | refine And.intro (by first | exact trivial | exact inbMap hkl | kernel_rfl) ?_ | rw [g0] | rw [hmr])
    try (conv => whnf)
    first | refine CallK.data rfl (c_Route37 L n s x.flow r hn hc (by omega) hn.2.2.1) rfl ?_ | refine CallP.data rfl (c_Route37 L n s x.flow r hn hc (by omega) hn.2.2.1) rfl ?_
    by_cases he : (routeM n s x.flow r).2.2.2 = 0
    rotate_left
    · have g : ((routeM n s x.flow r).2.2.2 != 0) = true := by simpa using he
      have hb := hno (by simp [srvB, he])
      repeat ((conv => whnf); first | refine sJ ?_ | refine And.intro (by first | exact trivial | kernel_rfl) ?_ | rw [g])
      try (conv => whnf)
      exact resP.mk rfl (Sees.of_eq (by rw [claimM, if_neg (by rw [hb]; decide), hb]; rfl))
    have g : ((routeM n s x.flow r).2.2.2 != 0) = false := by simpa using he
    by_cases hd : x.flow.dead < (routeM n s x.flow r).1
    · have g2 : decide (x.flow.dead < (routeM n s x.flow r).1) = true := by simpa using hd
      have hb := hno (by simp [srvB]; omega)
      repeat ((conv => whnf); first | refine sJ ?_ | refine And.intro (by first | exact trivial | kernel_rfl) ?_ | rw [g] | rw [g2])
      try (conv => whnf)
      exact resP.mk rfl (Sees.of_eq (by rw [claimM, if_neg (by rw [hb]; decide), hb]; rfl))
    have g2 : decide (x.flow.dead < (routeM n s x.flow r).1) = false := by simpa using hd
    have hsv : srvB n s x r = true := by simp [srvB, he]; omega
    repeat ((conv => whnf); first | refine sJ ?_ | refine And.intro (by first | exact trivial | kernel_rfl) ?_ | rw [g] | rw [g2])
    try (conv => whnf)
    refine SemK.regionFin mixed (fun X => X.bx[4]? = some (.cells [.int .i64 x.flow.id, .own ((claimT n s x (x.routes.take (k + 1))).routes.map encIs) 2, .own ((claimT n s x (x.routes.take (k + 1))).bounds.map encI) 3, .own ((claimT n s x (x.routes.take (k + 1))).worst.map encI) 4, .own ((claimT n s x (x.routes.take (k + 1))).slots.map encIs) 5] 82)) [0, 1, 3, 4, 5, 6, 7] 6 rfl rfl (by decide) rfl (by rfl) ?_
    iterate 7
      conv => whnf
      apply exV
      · rintro S' K' hI hh
        repeat ((conv => whnf); first | refine sJ ?_ | refine And.intro (by first | exact trivial | exact inbMap hkl | kernel_rfl) ?_ | rw [hI] | rw [hmr])
        try (conv => whnf)
        exact hh
    conv => whnf
    repeat' ((conv => whnf); first | exact trivial | refine sJ ?_ | refine And.intro (by first | exact trivial | exact Or.inr rfl | exact Or.inl rfl | exact Els.map (f := encIs) (fun x => ⟨rfl, rfl⟩) | exact Els.map (f := encI) (fun x => ⟨rfl, rfl⟩) | exact (show _ * 24 ≤ _ by simp only [claimT, List.length_map, List.length_take, List.length_cons, List.length_nil]; omega) | exact (show _ * 8 ≤ _ by simp only [claimT, List.length_map, List.length_take, List.length_cons, List.length_nil]; omega) | exact (by simp only [claimT, List.length_map, List.length_take, List.length_cons, List.length_nil, maxLen]; omega) | exact (by simp only [claimT, List.length_map, List.length_take]; show some (_, _) = some (_, _); congr 2; omega) | kernel_rfl) ?_ | refine And.intro ?_ ?_ )
    all_goals (conv => whnf)
    refine SemK.regionFin mixed (fun X => X.bx[4]? = some (.cells [.int .i64 x.flow.id, .own ((claimT n s x (x.routes.take (k + 1))).routes.map encIs ++ [encIs r]) 2, .own ((claimT n s x (x.routes.take (k + 1))).bounds.map encI) 3, .own ((claimT n s x (x.routes.take (k + 1))).worst.map encI) 4, .own ((claimT n s x (x.routes.take (k + 1))).slots.map encIs) 5] 82)) [0, 1, 2, 3, 5, 6, 7, 8, 10, 11, 12, 13] 9 rfl rfl (by decide) rfl (by rfl) ?_
    iterate 12
      conv => whnf
      apply exV
      · rintro S' K' hI hh
        repeat ((conv => whnf); first | refine sJ ?_ | refine And.intro (by first | exact trivial | kernel_rfl) ?_ | rw [hI])
        try (conv => whnf)
        exact hh
    conv => whnf
    repeat' ((conv => whnf); first | exact trivial | refine sJ ?_ | refine And.intro (by first | exact trivial | exact Or.inr rfl | exact Or.inl rfl | exact Els.map (f := encIs) (fun x => ⟨rfl, rfl⟩) | exact Els.map (f := encI) (fun x => ⟨rfl, rfl⟩) | exact (show _ * 24 ≤ _ by simp only [claimT, List.length_map, List.length_take, List.length_cons, List.length_nil]; omega) | exact (show _ * 8 ≤ _ by simp only [claimT, List.length_map, List.length_take, List.length_cons, List.length_nil]; omega) | exact (by simp only [claimT, List.length_map, List.length_take, List.length_cons, List.length_nil, maxLen]; omega) | exact (by simp only [claimT, List.length_map, List.length_take]; show some (_, _) = some (_, _); congr 2; omega) | kernel_rfl) ?_ | refine And.intro ?_ ?_ )
    all_goals (conv => whnf)
    all_goals refine ⟨k + 1 + 1, ⟨by omega, nxt hsv⟩, by omega, ?_⟩
    all_goals refine Fits.mk' rfl rfl rfl rfl ?_ ?_ ?_ ?_ ?_ <;> repeat' (first | exact trivial | refine And.intro ?_ ?_ | exact Sees.of_eq rfl | exact lt_b rfl | rfl | exact SeesL.rfl' _ | exact Sees.int (succI hkl (by omega)) | exact Sees.own (by rw [hts]; simp only [claimT, List.map_append]; rfl) | (show (_, _) = (_, _); simp only [claimT, List.length_append, List.length_map, List.length_take, List.length_cons, List.length_nil]; congr 1; omega))
end
end HM
