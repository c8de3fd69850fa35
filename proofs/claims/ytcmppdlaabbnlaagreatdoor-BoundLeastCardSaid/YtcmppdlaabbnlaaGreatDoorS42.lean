/- The reference's Least, Slack and guards. -/
import Derived.Test.YtcmppdlaabbnlaaGreatDoorS41

set_option maxRecDepth 100000
namespace HM
open Go Go.RowKit Go.Proofs
section
variable (L : World → Prop)

theorem routeM_bad {n : Net} {s : Sched} {f : Flow} {r : List Int} (h : wayE n s f r ≠ 0) : routeM n s f r = (0, 0, [], wayE n s f r) := by rw [routeM, if_pos h]
theorem routeM_none {n : Net} {s : Sched} {f : Flow} {r : List Int} (h : wayE n s f r = 0) (hb : boundR n s f r 0 = none) : routeM n s f r = (0, 0, [], 15) := by rw [routeM, if_neg (by simp [h]), hb]
theorem routeM_some {n : Net} {s : Sched} {f : Flow} {r : List Int} {x : Bnd} (h : wayE n s f r = 0) (hb : boundR n s f r 0 = some x) : routeM n s f r = (x.b, x.w, x.l, 0) := by rw [routeM, if_neg (by simp [h]), hb]

set_option maxHeartbeats 4000000 in
theorem c_Least37 (n : Net) (s : Sched) (f : Flow) (l : List (List Int)) (hn : n.small) (hc : s.cells.length ≤ 281474976710656) (hr : ∀ r ∈ l, r.length ≤ 281474976710656) (hl0 : l.length ≤ 281474976710656) (hl : n.links.length ≤ 281474976710656) :
    PCall Tryz.prog L 15 [n.av, s.av, f.av, encRows l] (.tup [.int .i64 (leastM n s f l).1, .int .i64 (leastM n s f l).2]) := by
  refine PCall.intro mixed [] (nt := 60) Tryz.func15 rfl rfl (by simp) ?_
  repeat ((conv => whnf); first | (refine And.intro (by first | rfl | exact Or.inl ⟨_, rfl⟩ | exact Or.inr rfl | exact le_b rfl | ((repeat' (first | exact Els.nil _ | refine Els.cons rfl rfl ?_)); done) | exact Els.map (fun _ => ⟨rfl, rfl⟩)  | kernel_rfl) ?_) )
  try (conv => whnf)
  refine BrK.mk (fun h0 => ?_) (fun h0 => ?_) <;> (try rw [h0])
  · have h0' : l.length = 0 := by simpa using h0
    repeat ((conv => whnf); first | (refine And.intro (by first | rfl | exact Or.inl ⟨_, rfl⟩ | exact Or.inr rfl | exact le_b rfl | ((repeat' (first | exact Els.nil _ | refine Els.cons rfl rfl ?_)); done) | exact Els.map (fun _ => ⟨rfl, rfl⟩)  | kernel_rfl) ?_) )
    try (conv => whnf)
    exact resP.mk rfl (Sees.of_eq (by rw [leastM, if_pos h0']))
  have h0' : ¬ l.length = 0 := by simpa using h0
  repeat ((conv => whnf); first | (refine And.intro (by first | rfl | exact Or.inl ⟨_, rfl⟩ | exact Or.inr rfl | exact le_b rfl | ((repeat' (first | exact Els.nil _ | refine Els.cons rfl rfl ?_)); done) | exact Els.map (fun _ => ⟨rfl, rfl⟩)  | kernel_rfl) ?_) )
  try (conv => whnf)
  refine LoopK.run mixed [] (fun (k : Nat) => k ≤ l.length ∧ ∀ j x, j < k → l[j]? = some x → wayE n s f x = 0) (fun k => [(3, encRows l), (4, .ptr 0 0), (5, .ptr 1 0), (6, .ptr 2 0), (10, .int .i64 (leastF n s f (l.take k))), (11, .int .i64 k)]) (fun k => ⟨sl37 n s f, [], 0, 0, fun _ => 0⟩) (fun k => l.length - k) 0 ⟨by simp, by simp⟩ ?_ ?_
  · refine Fits.mk' rfl rfl rfl rfl ?_ ?_ ?_ ?_ ?_ <;> repeat' (first | exact trivial | refine And.intro ?_ ?_ | exact Sees.of_eq rfl | exact lt_b rfl | rfl | exact SeesL.rfl' _)
  rintro k ⟨hk, hinv⟩
  repeat ((conv => whnf); first | (refine And.intro (by first | rfl | exact Or.inl ⟨_, rfl⟩ | exact Or.inr rfl | exact le_b rfl | ((repeat' (first | exact Els.nil _ | refine Els.cons rfl rfl ?_)); done) | exact Els.map (fun _ => ⟨rfl, rfl⟩)  | kernel_rfl) ?_) )
  try (conv => whnf)
  refine BrK.mk (fun h1 => ?_) (fun h1 => ?_) <;> (try rw [h1])
  · have hlt : k < l.length := by simpa using h1
    obtain ⟨r, hgr⟩ := getLt hlt
    have hmr := getMap (f := fun r : List Int => encIs r) hgr
    have hrm := hr r (List.mem_of_getElem? hgr)
    have nxt : wayE n s f r = 0 → ∀ j x, j < k + 1 → l[j]? = some x → wayE n s f x = 0 := fun h j x hj hx => by
      rcases Nat.lt_succ_iff_lt_or_eq.1 hj with hj | rfl
      · exact hinv j x hj hx
      · rw [hgr] at hx; injection hx with hx; subst hx; exact h
    have hF := leastF_take (n := n) (s := s) (f := f) hgr
    repeat ((conv => whnf); first | (refine And.intro (by first | rfl | exact Or.inl ⟨_, rfl⟩ | exact Or.inr rfl | exact le_b rfl | ((repeat' (first | exact Els.nil _ | refine Els.cons rfl rfl ?_)); done) | exact Els.map (fun _ => ⟨rfl, rfl⟩) | exact inbMap hlt | kernel_rfl) ?_) | rw [hmr])
    try (conv => whnf)
    first | refine CallK.data rfl (c_Route37 L n s f r hn hc hrm hl) rfl ?_ | refine CallP.data rfl (c_Route37 L n s f r hn hc hrm hl) rfl ?_
    by_cases hw : wayE n s f r = 0
    · cases hB : boundR n s f r 0 with
      | none =>
        rw [routeM_none hw hB]
        have hS : leastS n s f (leastF n s f (l.take k)) r = leastF n s f (l.take k) := by rw [leastS, hB]
        repeat ((conv => whnf); first | (refine And.intro (by first | rfl | exact Or.inl ⟨_, rfl⟩ | exact Or.inr rfl | exact le_b rfl | ((repeat' (first | exact Els.nil _ | refine Els.cons rfl rfl ?_)); done) | exact Els.map (fun _ => ⟨rfl, rfl⟩)  | kernel_rfl) ?_) )
        try (conv => whnf)
        refine ⟨k + 1, ⟨by omega, nxt hw⟩, by omega, ?_⟩
        refine Fits.mk' rfl rfl rfl rfl ?_ ?_ ?_ ?_ ?_ <;> repeat' (first | exact trivial | refine And.intro ?_ ?_ | exact Sees.of_eq rfl | exact lt_b rfl | rfl | exact SeesL.rfl' _ | exact Sees.int (succI hlt (by omega)) | exact Sees.int (by rw [hF, hS]))
      | some x =>
        rw [routeM_some hw hB]
        have hS : leastS n s f (leastF n s f (l.take k)) r = if leastF n s f (l.take k) = 0 ∨ x.b < leastF n s f (l.take k) then x.b else leastF n s f (l.take k) := by rw [leastS, hB]
        repeat ((conv => whnf); first | (refine And.intro (by first | rfl | exact Or.inl ⟨_, rfl⟩ | exact Or.inr rfl | exact le_b rfl | ((repeat' (first | exact Els.nil _ | refine Els.cons rfl rfl ?_)); done) | exact Els.map (fun _ => ⟨rfl, rfl⟩)  | kernel_rfl) ?_) )
        try (conv => whnf)
        refine BrK.mk (fun h2 => ?_) (fun h2 => ?_) <;> (try rw [h2])
        · rw [if_pos (.inl (by simpa using h2))] at hS
          repeat ((conv => whnf); first | (refine And.intro (by first | rfl | exact Or.inl ⟨_, rfl⟩ | exact Or.inr rfl | exact le_b rfl | ((repeat' (first | exact Els.nil _ | refine Els.cons rfl rfl ?_)); done) | exact Els.map (fun _ => ⟨rfl, rfl⟩)  | kernel_rfl) ?_) )
          try (conv => whnf)
          refine ⟨k + 1, ⟨by omega, nxt hw⟩, by omega, ?_⟩
          refine Fits.mk' rfl rfl rfl rfl ?_ ?_ ?_ ?_ ?_ <;> repeat' (first | exact trivial | refine And.intro ?_ ?_ | exact Sees.of_eq rfl | exact lt_b rfl | rfl | exact SeesL.rfl' _ | exact Sees.int (succI hlt (by omega)) | exact Sees.int (by rw [hF, hS]))
        · repeat ((conv => whnf); first | (refine And.intro (by first | rfl | exact Or.inl ⟨_, rfl⟩ | exact Or.inr rfl | exact le_b rfl | ((repeat' (first | exact Els.nil _ | refine Els.cons rfl rfl ?_)); done) | exact Els.map (fun _ => ⟨rfl, rfl⟩)  | kernel_rfl) ?_) )
          try (conv => whnf)
          refine BrK.mk (fun h3 => ?_) (fun h3 => ?_) <;> (try rw [h3])
          · rw [if_pos (.inr (by simpa using h3))] at hS
            repeat ((conv => whnf); first | (refine And.intro (by first | rfl | exact Or.inl ⟨_, rfl⟩ | exact Or.inr rfl | exact le_b rfl | ((repeat' (first | exact Els.nil _ | refine Els.cons rfl rfl ?_)); done) | exact Els.map (fun _ => ⟨rfl, rfl⟩)  | kernel_rfl) ?_) )
            try (conv => whnf)
            refine ⟨k + 1, ⟨by omega, nxt hw⟩, by omega, ?_⟩
            refine Fits.mk' rfl rfl rfl rfl ?_ ?_ ?_ ?_ ?_ <;> repeat' (first | exact trivial | refine And.intro ?_ ?_ | exact Sees.of_eq rfl | exact lt_b rfl | rfl | exact SeesL.rfl' _ | exact Sees.int (succI hlt (by omega)) | exact Sees.int (by rw [hF, hS]))
          · rw [if_neg (by simp at h2 h3; omega)] at hS
            repeat ((conv => whnf); first | (refine And.intro (by first | rfl | exact Or.inl ⟨_, rfl⟩ | exact Or.inr rfl | exact le_b rfl | ((repeat' (first | exact Els.nil _ | refine Els.cons rfl rfl ?_)); done) | exact Els.map (fun _ => ⟨rfl, rfl⟩)  | kernel_rfl) ?_) )
            try (conv => whnf)
            refine ⟨k + 1, ⟨by omega, nxt hw⟩, by omega, ?_⟩
            refine Fits.mk' rfl rfl rfl rfl ?_ ?_ ?_ ?_ ?_ <;> repeat' (first | exact trivial | refine And.intro ?_ ?_ | exact Sees.of_eq rfl | exact lt_b rfl | rfl | exact SeesL.rfl' _ | exact Sees.int (succI hlt (by omega)) | exact Sees.int (by rw [hF, hS]))
    · rw [routeM_bad hw]
      have hne := wayE_late n s f r
      have hfw := firstW_at hgr hinv hw
      repeat ((conv => whnf); first | (refine And.intro (by first | rfl | exact Or.inl ⟨_, rfl⟩ | exact Or.inr rfl | exact le_b rfl | ((repeat' (first | exact Els.nil _ | refine Els.cons rfl rfl ?_)); done) | exact Els.map (fun _ => ⟨rfl, rfl⟩)  | kernel_rfl) ?_) )
      try (conv => whnf)
      rw [show (wayE n s f r != 0) = true from by simpa using hw]
      repeat ((conv => whnf); first | (refine And.intro (by first | rfl | exact Or.inl ⟨_, rfl⟩ | exact Or.inr rfl | exact le_b rfl | ((repeat' (first | exact Els.nil _ | refine Els.cons rfl rfl ?_)); done) | exact Els.map (fun _ => ⟨rfl, rfl⟩)  | kernel_rfl) ?_) )
      try (conv => whnf)
      rw [show (wayE n s f r != 15) = true from by simpa using hne]
      repeat ((conv => whnf); first | (refine And.intro (by first | rfl | exact Or.inl ⟨_, rfl⟩ | exact Or.inr rfl | exact le_b rfl | ((repeat' (first | exact Els.nil _ | refine Els.cons rfl rfl ?_)); done) | exact Els.map (fun _ => ⟨rfl, rfl⟩)  | kernel_rfl) ?_) )
      try (conv => whnf)
      exact resP.mk rfl (Sees.of_eq (by rw [leastM, if_neg h0', if_pos (by rw [hfw]; exact hw), hfw]))
  · have hkl : k = l.length := by simp at h1; omega
    subst hkl
    have hfw : firstW n s f l = 0 := firstW_zero fun j x hx => hinv j x (List.getElem?_eq_some_iff.1 hx).1 hx
    rw [List.take_length]
    repeat ((conv => whnf); first | (refine And.intro (by first | rfl | exact Or.inl ⟨_, rfl⟩ | exact Or.inr rfl | exact le_b rfl | ((repeat' (first | exact Els.nil _ | refine Els.cons rfl rfl ?_)); done) | exact Els.map (fun _ => ⟨rfl, rfl⟩)  | kernel_rfl) ?_) )
    try (conv => whnf)
    refine BrK.mk (fun h2 => ?_) (fun h2 => ?_) <;> (try rw [h2])
    · have h2' : leastF n s f l = 0 := by simpa using h2
      repeat ((conv => whnf); first | (refine And.intro (by first | rfl | exact Or.inl ⟨_, rfl⟩ | exact Or.inr rfl | exact le_b rfl | ((repeat' (first | exact Els.nil _ | refine Els.cons rfl rfl ?_)); done) | exact Els.map (fun _ => ⟨rfl, rfl⟩)  | kernel_rfl) ?_) )
      try (conv => whnf)
      exact resP.mk rfl (Sees.of_eq (by rw [leastM, if_neg h0', if_neg (by simpa using hfw), if_pos h2']))
    · have h2' : leastF n s f l ≠ 0 := by simpa using h2
      repeat ((conv => whnf); first | (refine And.intro (by first | rfl | exact Or.inl ⟨_, rfl⟩ | exact Or.inr rfl | exact le_b rfl | ((repeat' (first | exact Els.nil _ | refine Els.cons rfl rfl ?_)); done) | exact Els.map (fun _ => ⟨rfl, rfl⟩)  | kernel_rfl) ?_) )
      try (conv => whnf)
      exact resP.mk rfl (Sees.of_eq (by rw [leastM, if_neg h0', if_neg (by simpa using hfw), if_neg h2']))

set_option maxHeartbeats 4000000 in
theorem c_Slack37 (n : Net) (s : Sched) (f : Flow) (r : List Int) (hn : n.small) (hc : s.cells.length ≤ 281474976710656) (hr : r.length ≤ 281474976710656) (hl : n.links.length ≤ 281474976710656) :
    PCall Tryz.prog L 17 [n.av, s.av, f.av, encIs r] (.tup [.int .i64 (slackM n s f r).1, .int .i64 (slackM n s f r).2]) := by
  refine PCall.intro mixed [] (nt := 52) Tryz.func17 rfl rfl (by simp) ?_
  repeat ((conv => whnf); first | (refine And.intro (by first | rfl | exact Or.inl ⟨_, rfl⟩ | exact Or.inr rfl | exact le_b rfl | ((repeat' (first | exact Els.nil _ | refine Els.cons rfl rfl ?_)); done) | exact Els.map (fun _ => ⟨rfl, rfl⟩)  | kernel_rfl) ?_) )
  try (conv => whnf)
  first | refine CallK.data rfl (c_Fault37 L n s f r hn hc hr) rfl ?_ | refine CallP.data rfl (c_Fault37 L n s f r hn hc hr) rfl ?_
  repeat ((conv => whnf); first | (refine And.intro (by first | rfl | exact Or.inl ⟨_, rfl⟩ | exact Or.inr rfl | exact le_b rfl | ((repeat' (first | exact Els.nil _ | refine Els.cons rfl rfl ?_)); done) | exact Els.map (fun _ => ⟨rfl, rfl⟩)  | kernel_rfl) ?_) )
  try (conv => whnf)
  refine BrK.mk (fun h1 => ?_) (fun h1 => ?_) <;> (try rw [h1])
  · repeat ((conv => whnf); first | (refine And.intro (by first | rfl | exact Or.inl ⟨_, rfl⟩ | exact Or.inr rfl | exact le_b rfl | ((repeat' (first | exact Els.nil _ | refine Els.cons rfl rfl ?_)); done) | exact Els.map (fun _ => ⟨rfl, rfl⟩)  | kernel_rfl) ?_) )
    try (conv => whnf)
    exact resP.mk rfl (Sees.of_eq (by rw [slackM, if_pos (by simpa using h1)]))
  have h1' : wayE n s f r = 0 := by simpa using h1
  have e1 : ¬ wayE n s f r ≠ 0 := by simpa using h1'
  have hw := wayE_ok h1'
  have fin : ∀ (v : Int), (v = -1 ∧ fitsB n s f r 0 = false) ∨ (0 ≤ v ∧ fitsB n s f r 0 = true ∧ v = (slackUp (fitsB n s f r) 7 0 : Int)) → (if v < 0 then ((0, 15) : Int × Int) else (v, 0)) = slackM n s f r := fun v hv => by
    rw [slackM, if_neg e1]
    rcases hv with ⟨rfl, hv⟩ | ⟨h0, hv, h2⟩
    · simp [hv]
    · rw [if_neg (by omega), if_neg (by simp [hv]), h2]
  repeat ((conv => whnf); first | (refine And.intro (by first | rfl | exact Or.inl ⟨_, rfl⟩ | exact Or.inr rfl | exact le_b rfl | ((repeat' (first | exact Els.nil _ | refine Els.cons rfl rfl ?_)); done) | exact Els.map (fun _ => ⟨rfl, rfl⟩)  | kernel_rfl) ?_) )
  try (conv => whnf)
  refine LoopK.run mixed [] (fun (k : Nat) => k ≤ 8 ∧ (k = 0 ∨ (fitsB n s f r 0 = true ∧ slackUp (fitsB n s f r) 7 0 = slackUp (fitsB n s f r) (8 - k) (k - 1)))) (fun k => [(3, encIs r), (4, .ptr 0 0), (5, .ptr 1 0), (6, .ptr 2 0), (11, .int .i64 ((k : Int) - 1)), (12, .int .i64 k)]) (fun k => ⟨sl37 n s f, [], 0, 0, fun _ => 0⟩) (fun k => 8 - k) 0 ⟨by simp, .inl rfl⟩ ?_ ?_
  · refine Fits.mk' rfl rfl rfl rfl ?_ ?_ ?_ ?_ ?_ <;> repeat' (first | exact trivial | refine And.intro ?_ ?_ | exact Sees.of_eq rfl | exact lt_b rfl | rfl | exact SeesL.rfl' _)
  rintro k ⟨hk, hinv⟩
  repeat ((conv => whnf); first | (refine And.intro (by first | rfl | exact Or.inl ⟨_, rfl⟩ | exact Or.inr rfl | exact le_b rfl | ((repeat' (first | exact Els.nil _ | refine Els.cons rfl rfl ?_)); done) | exact Els.map (fun _ => ⟨rfl, rfl⟩)  | kernel_rfl) ?_) )
  try (conv => whnf)
  refine BrK.mk (fun h2 => ?_) (fun h2 => ?_) <;> (try rw [h2])
  · have hlt : k ≤ 7 := by simp at h2; omega
    repeat ((conv => whnf); first | (refine And.intro (by first | rfl | exact Or.inl ⟨_, rfl⟩ | exact Or.inr rfl | exact le_b rfl | ((repeat' (first | exact Els.nil _ | refine Els.cons rfl rfl ?_)); done) | exact Els.map (fun _ => ⟨rfl, rfl⟩)  | kernel_rfl) ?_) )
    try (conv => whnf)
    first | refine CallK.data rfl (c_Most37 L n s f r (k : Int) hl hw (by omega) (by omega)) rfl ?_ | refine CallP.data rfl (c_Most37 L n s f r (k : Int) hl hw (by omega) (by omega)) rfl ?_
    have stop : fitsB n s f r k = false → (if (k : Int) - 1 < 0 then ((0, 15) : Int × Int) else ((k : Int) - 1, 0)) = slackM n s f r := fun h => fin _ (by
      rcases Nat.eq_zero_or_pos k with rfl | hp
      · exact .inl ⟨by simp, h⟩
      · obtain hk0 | ⟨h3, h4⟩ := hinv
        · omega
        · refine .inr ⟨by omega, h3, ?_⟩
          obtain ⟨m, rfl⟩ : ∃ m, k = m + 1 := ⟨k - 1, by omega⟩
          rw [h4, show 8 - (m + 1) = (6 - m) + 1 by omega, slackUp, show m + 1 - 1 = m by omega, h]
          simp)
    have go : fitsB n s f r k = true → fitsB n s f r 0 = true ∧ slackUp (fitsB n s f r) 7 0 = slackUp (fitsB n s f r) (8 - (k + 1)) (k + 1 - 1) := fun h => by
      rcases Nat.eq_zero_or_pos k with rfl | hp
      · exact ⟨h, rfl⟩
      · obtain hk0 | ⟨h3, h4⟩ := hinv
        · omega
        · refine ⟨h3, ?_⟩
          obtain ⟨m, rfl⟩ : ∃ m, k = m + 1 := ⟨k - 1, by omega⟩
          rw [h4, show 8 - (m + 1) = (6 - m) + 1 by omega, slackUp, show m + 1 - 1 = m by omega, h]
          simp only [if_true]
          rw [show 8 - (m + 1 + 1) = 6 - m by omega, show m + 1 + 1 - 1 = m + 1 by omega]
    cases hB : boundR n s f r (k : Int) with
    | none =>
      have := stop (by rw [fitsB, hB])
      repeat ((conv => whnf); first | (refine And.intro (by first | rfl | exact Or.inl ⟨_, rfl⟩ | exact Or.inr rfl | exact le_b rfl | ((repeat' (first | exact Els.nil _ | refine Els.cons rfl rfl ?_)); done) | exact Els.map (fun _ => ⟨rfl, rfl⟩)  | kernel_rfl) ?_) )
      try (conv => whnf)
      refine BrK.mk (fun h9 => ?_) (fun h9 => ?_) <;> (try rw [h9])
      · rw [if_pos (by simpa using h9)] at this
        repeat ((conv => whnf); first | (refine And.intro (by first | rfl | exact Or.inl ⟨_, rfl⟩ | exact Or.inr rfl | exact le_b rfl | ((repeat' (first | exact Els.nil _ | refine Els.cons rfl rfl ?_)); done) | exact Els.map (fun _ => ⟨rfl, rfl⟩)  | kernel_rfl) ?_) )
        try (conv => whnf)
        exact resP.mk rfl (Sees.of_eq (by rw [← this]))
      · rw [if_neg (by simpa using h9)] at this
        repeat ((conv => whnf); first | (refine And.intro (by first | rfl | exact Or.inl ⟨_, rfl⟩ | exact Or.inr rfl | exact le_b rfl | ((repeat' (first | exact Els.nil _ | refine Els.cons rfl rfl ?_)); done) | exact Els.map (fun _ => ⟨rfl, rfl⟩)  | kernel_rfl) ?_) )
        try (conv => whnf)
        exact resP.mk rfl (Sees.of_eq (by rw [← this]))
    | some x =>
      repeat ((conv => whnf); first | (refine And.intro (by first | rfl | exact Or.inl ⟨_, rfl⟩ | exact Or.inr rfl | exact le_b rfl | ((repeat' (first | exact Els.nil _ | refine Els.cons rfl rfl ?_)); done) | exact Els.map (fun _ => ⟨rfl, rfl⟩)  | kernel_rfl) ?_) )
      try (conv => whnf)
      refine BrK.mk (fun h3 => ?_) (fun h3 => ?_) <;> (try rw [h3])
      · have := stop (by rw [fitsB, hB]; simp at h3; simp; omega)
        repeat ((conv => whnf); first | (refine And.intro (by first | rfl | exact Or.inl ⟨_, rfl⟩ | exact Or.inr rfl | exact le_b rfl | ((repeat' (first | exact Els.nil _ | refine Els.cons rfl rfl ?_)); done) | exact Els.map (fun _ => ⟨rfl, rfl⟩)  | kernel_rfl) ?_) )
        try (conv => whnf)
        refine BrK.mk (fun h9 => ?_) (fun h9 => ?_) <;> (try rw [h9])
        · rw [if_pos (by simpa using h9)] at this
          repeat ((conv => whnf); first | (refine And.intro (by first | rfl | exact Or.inl ⟨_, rfl⟩ | exact Or.inr rfl | exact le_b rfl | ((repeat' (first | exact Els.nil _ | refine Els.cons rfl rfl ?_)); done) | exact Els.map (fun _ => ⟨rfl, rfl⟩)  | kernel_rfl) ?_) )
          try (conv => whnf)
          exact resP.mk rfl (Sees.of_eq (by rw [← this]))
        · rw [if_neg (by simpa using h9)] at this
          repeat ((conv => whnf); first | (refine And.intro (by first | rfl | exact Or.inl ⟨_, rfl⟩ | exact Or.inr rfl | exact le_b rfl | ((repeat' (first | exact Els.nil _ | refine Els.cons rfl rfl ?_)); done) | exact Els.map (fun _ => ⟨rfl, rfl⟩)  | kernel_rfl) ?_) )
          try (conv => whnf)
          exact resP.mk rfl (Sees.of_eq (by rw [← this]))
      · have hg := go (by rw [fitsB, hB]; simp at h3; simp; omega)
        repeat ((conv => whnf); first | (refine And.intro (by first | rfl | exact Or.inl ⟨_, rfl⟩ | exact Or.inr rfl | exact le_b rfl | ((repeat' (first | exact Els.nil _ | refine Els.cons rfl rfl ?_)); done) | exact Els.map (fun _ => ⟨rfl, rfl⟩)  | kernel_rfl) ?_) )
        try (conv => whnf)
        refine ⟨k + 1, ⟨by omega, .inr hg⟩, by omega, ?_⟩
        refine Fits.mk' rfl rfl rfl rfl ?_ ?_ ?_ ?_ ?_ <;> repeat' (first | exact trivial | refine And.intro ?_ ?_ | exact Sees.of_eq rfl | exact lt_b rfl | rfl | exact SeesL.rfl' _ | exact Sees.int (by rw [w64] <;> omega) | exact Sees.int (by omega))
  · have hk8 : k = 8 := by simp at h2; omega
    subst hk8
    have := fin 7 (by
      obtain hk0 | ⟨h3, h4⟩ := hinv
      · omega
      · exact .inr ⟨by omega, h3, by rw [h4]; rfl⟩)
    repeat ((conv => whnf); first | (refine And.intro (by first | rfl | exact Or.inl ⟨_, rfl⟩ | exact Or.inr rfl | exact le_b rfl | ((repeat' (first | exact Els.nil _ | refine Els.cons rfl rfl ?_)); done) | exact Els.map (fun _ => ⟨rfl, rfl⟩)  | kernel_rfl) ?_) )
    try (conv => whnf)
    exact resP.mk rfl (Sees.of_eq (by rw [← this]; rfl))
end
end HM
