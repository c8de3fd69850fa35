/- Lists put together; masks compared. -/
import Derived.Test.YtbmgaapcikpnkaaDoorS11

set_option maxRecDepth 100000
namespace HM
open Go Go.RowKit Go.Proofs
section
variable (L : World → Prop)

theorem flat_le {α : Type} (l : List (List α)) (k : Nat) : (l.take k).flatten.length ≤ l.flatten.length := by
  have h := congrArg (fun x => x.flatten.length) (List.take_append_drop k l)
  simp only [List.flatten_append, List.length_append] at h
  omega

def sameM (a b : List Int) : Bool := decide (a = b)

theorem c_same44 (a b : List Int) (ha : a.length ≤ 281474976710656) : PCall Tryd.prog L 20 [encIs a, encIs b] (.bool (sameM a b)) := by
  refine PCall.intro mixed [] (nt := 26) Tryd.func20 rfl rfl (by simp) ?_
  repeat ((conv => whnf); first | (refine And.intro (by first | rfl | exact Or.inl ⟨_, rfl⟩ | exact Or.inr rfl | exact le_b rfl | ((repeat' (first | exact Els.nil _ | refine Els.cons rfl rfl ?_)); done) | exact Els.map (fun _ => ⟨rfl, rfl⟩)  | kernel_rfl) ?_) )
  try (conv => whnf)
  refine BrK.mk (fun g1 => ?_) (fun g1 => ?_) <;> (try rw [g1])
  · repeat ((conv => whnf); first | (refine And.intro (by first | rfl | exact Or.inl ⟨_, rfl⟩ | exact Or.inr rfl | exact le_b rfl | ((repeat' (first | exact Els.nil _ | refine Els.cons rfl rfl ?_)); done) | exact Els.map (fun _ => ⟨rfl, rfl⟩)  | kernel_rfl) ?_) )
    try (conv => whnf)
    exact resP.mk rfl (Sees.bool (by
      rw [eq_comm]; unfold sameM
      exact decide_eq_false fun h => by subst h; simp at g1))
  have g1' : a.length = b.length := by simp at g1; omega
  repeat ((conv => whnf); first | (refine And.intro (by first | rfl | exact Or.inl ⟨_, rfl⟩ | exact Or.inr rfl | exact le_b rfl | ((repeat' (first | exact Els.nil _ | refine Els.cons rfl rfl ?_)); done) | exact Els.map (fun _ => ⟨rfl, rfl⟩)  | kernel_rfl) ?_) )
  try (conv => whnf)
  refine LoopK.run mixed [] (fun (k : Nat) => k ≤ a.length ∧ a.take k = b.take k) (fun k => [(0, encIs a), (1, encIs b), (5, .int .i64 k)]) (fun k => St.none) (fun k => a.length - k) 0 ⟨by simp, by simp⟩ ?_ ?_
  · refine Fits.mk' rfl rfl rfl rfl ?_ ?_ ?_ ?_ ?_ <;> repeat' (first | exact trivial | refine And.intro ?_ ?_ | exact Sees.of_eq rfl | exact lt_b rfl | rfl )
  rintro k ⟨hk, hinv⟩
  repeat ((conv => whnf); first | (refine And.intro (by first | rfl | exact Or.inl ⟨_, rfl⟩ | exact Or.inr rfl | exact le_b rfl | ((repeat' (first | exact Els.nil _ | refine Els.cons rfl rfl ?_)); done) | exact Els.map (fun _ => ⟨rfl, rfl⟩)  | kernel_rfl) ?_) )
  try (conv => whnf)
  refine BrK.mk (fun hb => ?_) (fun hb => ?_) <;> (try rw [hb])
  · have hlt : k < a.length := lenLt hb
    obtain ⟨x, hgx⟩ := getLt hlt
    have hmx := getMap (f := encI) hgx
    obtain ⟨y, hgy⟩ := getLt (l := b) (k := k) (by omega)
    have hmy := getMap (f := encI) hgy
    repeat ((conv => whnf); first | (refine And.intro (by first | rfl | exact Or.inl ⟨_, rfl⟩ | exact Or.inr rfl | exact le_b rfl | ((repeat' (first | exact Els.nil _ | refine Els.cons rfl rfl ?_)); done) | exact Els.map (fun _ => ⟨rfl, rfl⟩) | exact inbMap hlt | exact inbMap (by omega) | kernel_rfl) ?_) | rw [hmx] | rw [hmy])
    try (conv => whnf)
    refine BrK.mk (fun h2 => ?_) (fun h2 => ?_) <;> (try rw [h2])
    · repeat ((conv => whnf); first | (refine And.intro (by first | rfl | exact Or.inl ⟨_, rfl⟩ | exact Or.inr rfl | exact le_b rfl | ((repeat' (first | exact Els.nil _ | refine Els.cons rfl rfl ?_)); done) | exact Els.map (fun _ => ⟨rfl, rfl⟩)  | kernel_rfl) ?_) )
      try (conv => whnf)
      exact resP.mk rfl (Sees.bool (by
        rw [eq_comm]; unfold sameM
        exact decide_eq_false fun h => by subst h; rw [hgx] at hgy; injection hgy with hgy; subst hgy; simp at h2))
    · repeat ((conv => whnf); first | (refine And.intro (by first | rfl | exact Or.inl ⟨_, rfl⟩ | exact Or.inr rfl | exact le_b rfl | ((repeat' (first | exact Els.nil _ | refine Els.cons rfl rfl ?_)); done) | exact Els.map (fun _ => ⟨rfl, rfl⟩)  | kernel_rfl) ?_) )
      try (conv => whnf)
      refine ⟨k + 1, ⟨by omega, ?_⟩, by omega, ?_⟩
      · rw [take_succ hgx, take_succ hgy, hinv]; simp at h2; rw [h2]
      · refine Fits.mk' rfl rfl rfl rfl ?_ ?_ ?_ ?_ ?_ <;> repeat' (first | exact trivial | refine And.intro ?_ ?_ | exact Sees.of_eq rfl | exact lt_b rfl | rfl | exact Sees.int (succI hlt ha))
  · have hk' : k = a.length := by have := lenGe hb; omega
    subst hk'
    repeat ((conv => whnf); first | (refine And.intro (by first | rfl | exact Or.inl ⟨_, rfl⟩ | exact Or.inr rfl | exact le_b rfl | ((repeat' (first | exact Els.nil _ | refine Els.cons rfl rfl ?_)); done) | exact Els.map (fun _ => ⟨rfl, rfl⟩)  | kernel_rfl) ?_) )
    try (conv => whnf)
    exact resP.mk rfl (Sees.bool (by
      rw [eq_comm]; unfold sameM
      rw [List.take_length, g1', List.take_length] at hinv
      exact decide_eq_true hinv))

theorem c_ConcatFree (l : List (List Int)) (h1 : l.length ≤ 1000000) (hl : l.flatten.length ≤ 1099511627776) : PCall Tryd.prog L 37 [.sl false (l.map fun x => .sl false (x.map encI))] (.sl false (l.flatten.map encI)) := by
  refine PCall.intro mixed [] (nt := 36) Tryd.func37 rfl rfl (by simp) ?_
  repeat ((conv => whnf); first | (refine And.intro (by first | rfl | exact Or.inl ⟨_, rfl⟩ | exact Or.inr rfl | exact le_b rfl | ((repeat' (first | exact Els.nil _ | refine Els.cons rfl rfl ?_)); done) | exact Els.map (fun _ => ⟨rfl, rfl⟩)  | kernel_rfl) ?_) )
  try (conv => whnf)
  refine LoopK.run mixed [] (fun (k : Nat) => k ≤ l.length) (fun k => [(0, .sl false (l.map fun x => .sl false (x.map encI))), (3, .int .i64 (l.take k).flatten.length), (9, .sl false (l.map fun x => .sl false (x.map encI))), (10, .int .i64 l.length), (11, .int .i64 k)]) (fun k => St.none) (fun k => l.length - k) 0 (by simp) ?_ ?_
  · refine Fits.mk' rfl rfl rfl rfl ?_ ?_ ?_ ?_ ?_ <;> repeat' (first | exact trivial | refine And.intro ?_ ?_ | exact Sees.of_eq rfl | exact lt_b rfl | rfl | exact Sees.int (by simp))
  rintro k hk
  repeat ((conv => whnf); first | (refine And.intro (by first | rfl | exact Or.inl ⟨_, rfl⟩ | exact Or.inr rfl | exact le_b rfl | ((repeat' (first | exact Els.nil _ | refine Els.cons rfl rfl ?_)); done) | exact Els.map (fun _ => ⟨rfl, rfl⟩)  | kernel_rfl) ?_) )
  try (conv => whnf)
  refine BrK.mk (fun hb => ?_) (fun hb => ?_) <;> (try rw [hb])
  · have hlt : k < l.length := by simpa using hb
    obtain ⟨x, hgx⟩ := getLt hlt
    have hmx := getMap (f := fun x : List Int => AV.sl false (x.map encI)) hgx
    have hfl : (l.take (k + 1)).flatten.length = (l.take k).flatten.length + x.length := by rw [take_succ hgx]; simp
    have hle := flat_le l (k + 1)
    repeat ((conv => whnf); first | (refine And.intro (by first | rfl | exact Or.inl ⟨_, rfl⟩ | exact Or.inr rfl | exact le_b rfl | ((repeat' (first | exact Els.nil _ | refine Els.cons rfl rfl ?_)); done) | exact Els.map (fun _ => ⟨rfl, rfl⟩) | exact inbMap hlt | kernel_rfl) ?_) | rw [hmx])
    try (conv => whnf)
    have hfk := flat_le l k
    rw [hfl] at hle
    rw [show ((List.map encI x).length : Int) = x.length from by simp] 
    rw [w64 (by omega) (by omega)]
    rw [decide_eq_false (by omega)]
    repeat ((conv => whnf); first | (refine And.intro (by first | rfl | exact Or.inl ⟨_, rfl⟩ | exact Or.inr rfl | exact le_b rfl | ((repeat' (first | exact Els.nil _ | refine Els.cons rfl rfl ?_)); done) | exact Els.map (fun _ => ⟨rfl, rfl⟩)  | kernel_rfl) ?_) )
    try (conv => whnf)
    refine ⟨k + 1, by omega, by omega, ?_⟩
    refine Fits.mk' rfl rfl rfl rfl ?_ ?_ ?_ ?_ ?_ <;> repeat' (first | exact trivial | refine And.intro ?_ ?_ | exact Sees.of_eq rfl | exact lt_b rfl | rfl | exact Sees.int (succI hlt (by omega)) | exact Sees.int (by rw [hfl]; simp))
  · have hk' : k = l.length := by simp at hb; omega
    subst hk'
    rw [List.take_length]
    repeat ((conv => whnf); first | (refine And.intro (by first | rfl | exact Or.inl ⟨_, rfl⟩ | exact Or.inr rfl | exact le_b rfl | ((repeat' (first | exact Els.nil _ | refine Els.cons rfl rfl ?_)); done) | exact Els.map (fun _ => ⟨rfl, rfl⟩)  | kernel_rfl) ?_) )
    try (conv => whnf)
    refine CallK.inl rfl (ICall.intro mixed [] (nt := 27) Tryd.func47 rfl rfl (by simp) ?_)
    repeat ((conv => whnf); first | (refine And.intro (by first | rfl | exact Or.inl ⟨_, rfl⟩ | exact Or.inr rfl | exact le_b rfl | ((repeat' (first | exact Els.nil _ | refine Els.cons rfl rfl ?_)); done) | exact Els.map (fun _ => ⟨rfl, rfl⟩)  | kernel_rfl) ?_) )
    try (conv => whnf)
    rw [show (List.length ([] : List AV) : Int) = 0 from rfl, show (0 : Int) - 0 = 0 from rfl]
    rw [w64 (x := 0) (by omega) (by omega), Int.sub_zero, w64 (by omega) (by omega)]
    refine BrK.mk (fun h0 => ?_) (fun h0 => ?_) <;> (try rw [h0])
    · repeat ((conv => whnf); first | (refine And.intro (by first | rfl | exact Or.inl ⟨_, rfl⟩ | exact Or.inr rfl | exact le_b rfl | ((repeat' (first | exact Els.nil _ | refine Els.cons rfl rfl ?_)); done) | exact Els.map (fun _ => ⟨rfl, rfl⟩) | exact (show (l.flatten.length : Int) * 8 ≤ _ by omega) | exact (by simpa using h0) | exact (by omega) | kernel_rfl) ?_) )
      try (conv => whnf)
      refine LoopK.run mixed [] (fun (k : Nat) => k ≤ l.length) (fun k => [(6, .own ((l.take k).flatten.map encI) 0), (25, .sl false (l.map fun x => .sl false (x.map encI))), (26, .int .i64 l.length), (27, .int .i64 k)]) (fun k => ⟨[], [((l.take k).flatten.length, 1)], 0, 0, fun k => if k = 0 then 3 else 0⟩) (fun k => l.length - k) 0 (by simp) ?_ ?_
      · refine Fits.mk' rfl rfl rfl rfl ?_ ?_ ?_ ?_ ?_ <;> repeat' (first | exact trivial | refine And.intro ?_ ?_ | exact Sees.of_eq rfl | exact lt_b rfl | rfl | exact Sees.int (by simp))
      rintro k hk
      repeat ((conv => whnf); first | (refine And.intro (by first | rfl | exact Or.inl ⟨_, rfl⟩ | exact Or.inr rfl | exact le_b rfl | ((repeat' (first | exact Els.nil _ | refine Els.cons rfl rfl ?_)); done) | exact Els.map (fun _ => ⟨rfl, rfl⟩)  | kernel_rfl) ?_) )
      try (conv => whnf)
      refine BrK.mk (fun hb => ?_) (fun hb => ?_) <;> (try rw [hb])
      · have hlt : k < l.length := by simpa using hb
        obtain ⟨x, hgx⟩ := getLt hlt
        have hmx := getMap (f := fun x : List Int => AV.sl false (x.map encI)) hgx
        have hfl : (l.take (k + 1)).flatten.length = (l.take k).flatten.length + x.length := by rw [take_succ hgx]; simp
        have hle := flat_le l (k + 1)
        repeat ((conv => whnf); first | (refine And.intro (by first | rfl | exact Or.inl ⟨_, rfl⟩ | exact Or.inr rfl | exact le_b rfl | ((repeat' (first | exact Els.nil _ | refine Els.cons rfl rfl ?_)); done) | exact Els.map (fun _ => ⟨rfl, rfl⟩) | exact inbMap hlt | exact Els.map (f := encI) (fun _ => ⟨rfl, rfl⟩) | exact (show _ * 8 ≤ _ by simp only [List.length_map]; omega) | exact (by simp only [List.length_map, maxLen]; omega) | exact (by rw [List.length_map]; rfl) | kernel_rfl) ?_) | rw [hmx])
        try (conv => whnf)
        refine ⟨k + 1, by omega, by omega, ?_⟩
        refine Fits.mk' rfl rfl rfl rfl ?_ ?_ ?_ ?_ ?_ <;> repeat' (first | exact trivial | refine And.intro ?_ ?_ | exact Sees.of_eq rfl | exact lt_b rfl | rfl | exact Sees.int (succI hlt (by omega)) | exact Sees.own (by rw [take_succ hgx]; simp) | (show (_, _) = (_, _); rw [hfl]; simp only [List.length_append, List.length_map]))
      · have hk' : k = l.length := by simp at hb; omega
        subst hk'
        repeat ((conv => whnf); first | (refine And.intro (by first | rfl | exact Or.inl ⟨_, rfl⟩ | exact Or.inr rfl | exact le_b rfl | ((repeat' (first | exact Els.nil _ | refine Els.cons rfl rfl ?_)); done) | exact Els.map (fun _ => ⟨rfl, rfl⟩)  | kernel_rfl) ?_) )
        try (conv => whnf)
        exact resP.mk rfl (Sees.sl (by rw [List.take_length]))
    · repeat ((conv => whnf); first | (refine And.intro (by first | rfl | exact Or.inl ⟨_, rfl⟩ | exact Or.inr rfl | exact le_b rfl | ((repeat' (first | exact Els.nil _ | refine Els.cons rfl rfl ?_)); done) | exact Els.map (fun _ => ⟨rfl, rfl⟩)  | kernel_rfl) ?_) )
      try (conv => whnf)
      refine LoopK.born 6 1 3 rfl ?_
      refine LoopK.run mixed [] (fun (k : Nat) => k ≤ l.length) (fun k => [(6, .own ((l.take k).flatten.map encI) 0), (25, .sl false (l.map fun x => .sl false (x.map encI))), (26, .int .i64 l.length), (27, .int .i64 k)]) (fun k => ⟨[], [((l.take k).flatten.length, 1)], 0, 0, fun k => if k = 0 then 3 else 0⟩) (fun k => l.length - k) 0 (by simp) ?_ ?_
      · refine Fits.mk' rfl rfl rfl rfl ?_ ?_ ?_ ?_ ?_ <;> repeat' (first | exact trivial | refine And.intro ?_ ?_ | exact Sees.of_eq rfl | exact lt_b rfl | rfl | exact Sees.int (by simp))
      rintro k hk
      repeat ((conv => whnf); first | (refine And.intro (by first | rfl | exact Or.inl ⟨_, rfl⟩ | exact Or.inr rfl | exact le_b rfl | ((repeat' (first | exact Els.nil _ | refine Els.cons rfl rfl ?_)); done) | exact Els.map (fun _ => ⟨rfl, rfl⟩)  | kernel_rfl) ?_) )
      try (conv => whnf)
      refine BrK.mk (fun hb => ?_) (fun hb => ?_) <;> (try rw [hb])
      · have hlt : k < l.length := by simpa using hb
        obtain ⟨x, hgx⟩ := getLt hlt
        have hmx := getMap (f := fun x : List Int => AV.sl false (x.map encI)) hgx
        have hfl : (l.take (k + 1)).flatten.length = (l.take k).flatten.length + x.length := by rw [take_succ hgx]; simp
        have hle := flat_le l (k + 1)
        repeat ((conv => whnf); first | (refine And.intro (by first | rfl | exact Or.inl ⟨_, rfl⟩ | exact Or.inr rfl | exact le_b rfl | ((repeat' (first | exact Els.nil _ | refine Els.cons rfl rfl ?_)); done) | exact Els.map (fun _ => ⟨rfl, rfl⟩) | exact inbMap hlt | exact Els.map (f := encI) (fun _ => ⟨rfl, rfl⟩) | exact (show _ * 8 ≤ _ by simp only [List.length_map]; omega) | exact (by simp only [List.length_map, maxLen]; omega) | exact (by rw [List.length_map]; rfl) | kernel_rfl) ?_) | rw [hmx])
        try (conv => whnf)
        refine ⟨k + 1, by omega, by omega, ?_⟩
        refine Fits.mk' rfl rfl rfl rfl ?_ ?_ ?_ ?_ ?_ <;> repeat' (first | exact trivial | refine And.intro ?_ ?_ | exact Sees.of_eq rfl | exact lt_b rfl | rfl | exact Sees.int (succI hlt (by omega)) | exact Sees.own (by rw [take_succ hgx]; simp) | (show (_, _) = (_, _); rw [hfl]; simp only [List.length_append, List.length_map]))
      · have hk' : k = l.length := by simp at hb; omega
        subst hk'
        repeat ((conv => whnf); first | (refine And.intro (by first | rfl | exact Or.inl ⟨_, rfl⟩ | exact Or.inr rfl | exact le_b rfl | ((repeat' (first | exact Els.nil _ | refine Els.cons rfl rfl ?_)); done) | exact Els.map (fun _ => ⟨rfl, rfl⟩)  | kernel_rfl) ?_) )
        try (conv => whnf)
        exact resP.mk rfl (Sees.sl (by rw [List.take_length]))
theorem c_ConcatCell (l : List (List Cell)) (h1 : l.length ≤ 1000000) (hl : l.flatten.length ≤ 1099511627776) : PCall Tryd.prog L 25 [.sl false (l.map fun x => .sl false (x.map Cell.av))] (.sl false (l.flatten.map Cell.av)) := by
  refine PCall.intro mixed [] (nt := 36) Tryd.func25 rfl rfl (by simp) ?_
  repeat ((conv => whnf); first | (refine And.intro (by first | rfl | exact Or.inl ⟨_, rfl⟩ | exact Or.inr rfl | exact le_b rfl | ((repeat' (first | exact Els.nil _ | refine Els.cons rfl rfl ?_)); done) | exact Els.map (fun _ => ⟨rfl, rfl⟩)  | kernel_rfl) ?_) )
  try (conv => whnf)
  refine LoopK.run mixed [] (fun (k : Nat) => k ≤ l.length) (fun k => [(0, .sl false (l.map fun x => .sl false (x.map Cell.av))), (3, .int .i64 (l.take k).flatten.length), (9, .sl false (l.map fun x => .sl false (x.map Cell.av))), (10, .int .i64 l.length), (11, .int .i64 k)]) (fun k => St.none) (fun k => l.length - k) 0 (by simp) ?_ ?_
  · refine Fits.mk' rfl rfl rfl rfl ?_ ?_ ?_ ?_ ?_ <;> repeat' (first | exact trivial | refine And.intro ?_ ?_ | exact Sees.of_eq rfl | exact lt_b rfl | rfl | exact Sees.int (by simp))
  rintro k hk
  repeat ((conv => whnf); first | (refine And.intro (by first | rfl | exact Or.inl ⟨_, rfl⟩ | exact Or.inr rfl | exact le_b rfl | ((repeat' (first | exact Els.nil _ | refine Els.cons rfl rfl ?_)); done) | exact Els.map (fun _ => ⟨rfl, rfl⟩)  | kernel_rfl) ?_) )
  try (conv => whnf)
  refine BrK.mk (fun hb => ?_) (fun hb => ?_) <;> (try rw [hb])
  · have hlt : k < l.length := by simpa using hb
    obtain ⟨x, hgx⟩ := getLt hlt
    have hmx := getMap (f := fun x : List Cell => AV.sl false (x.map Cell.av)) hgx
    have hfl : (l.take (k + 1)).flatten.length = (l.take k).flatten.length + x.length := by rw [take_succ hgx]; simp
    have hle := flat_le l (k + 1)
    repeat ((conv => whnf); first | (refine And.intro (by first | rfl | exact Or.inl ⟨_, rfl⟩ | exact Or.inr rfl | exact le_b rfl | ((repeat' (first | exact Els.nil _ | refine Els.cons rfl rfl ?_)); done) | exact Els.map (fun _ => ⟨rfl, rfl⟩) | exact inbMap hlt | kernel_rfl) ?_) | rw [hmx])
    try (conv => whnf)
    have hfk := flat_le l k
    rw [hfl] at hle
    rw [show ((List.map Cell.av x).length : Int) = x.length from by simp] 
    rw [w64 (by omega) (by omega)]
    rw [decide_eq_false (by omega)]
    repeat ((conv => whnf); first | (refine And.intro (by first | rfl | exact Or.inl ⟨_, rfl⟩ | exact Or.inr rfl | exact le_b rfl | ((repeat' (first | exact Els.nil _ | refine Els.cons rfl rfl ?_)); done) | exact Els.map (fun _ => ⟨rfl, rfl⟩)  | kernel_rfl) ?_) )
    try (conv => whnf)
    refine ⟨k + 1, by omega, by omega, ?_⟩
    refine Fits.mk' rfl rfl rfl rfl ?_ ?_ ?_ ?_ ?_ <;> repeat' (first | exact trivial | refine And.intro ?_ ?_ | exact Sees.of_eq rfl | exact lt_b rfl | rfl | exact Sees.int (succI hlt (by omega)) | exact Sees.int (by rw [hfl]; simp))
  · have hk' : k = l.length := by simp at hb; omega
    subst hk'
    rw [List.take_length]
    repeat ((conv => whnf); first | (refine And.intro (by first | rfl | exact Or.inl ⟨_, rfl⟩ | exact Or.inr rfl | exact le_b rfl | ((repeat' (first | exact Els.nil _ | refine Els.cons rfl rfl ?_)); done) | exact Els.map (fun _ => ⟨rfl, rfl⟩)  | kernel_rfl) ?_) )
    try (conv => whnf)
    refine CallK.inl rfl (ICall.intro mixed [] (nt := 27) Tryd.func40 rfl rfl (by simp) ?_)
    repeat ((conv => whnf); first | (refine And.intro (by first | rfl | exact Or.inl ⟨_, rfl⟩ | exact Or.inr rfl | exact le_b rfl | ((repeat' (first | exact Els.nil _ | refine Els.cons rfl rfl ?_)); done) | exact Els.map (fun _ => ⟨rfl, rfl⟩)  | kernel_rfl) ?_) )
    try (conv => whnf)
    rw [show (List.length ([] : List AV) : Int) = 0 from rfl, show (0 : Int) - 0 = 0 from rfl]
    rw [w64 (x := 0) (by omega) (by omega), Int.sub_zero, w64 (by omega) (by omega)]
    refine BrK.mk (fun h0 => ?_) (fun h0 => ?_) <;> (try rw [h0])
    · repeat ((conv => whnf); first | (refine And.intro (by first | rfl | exact Or.inl ⟨_, rfl⟩ | exact Or.inr rfl | exact le_b rfl | ((repeat' (first | exact Els.nil _ | refine Els.cons rfl rfl ?_)); done) | exact Els.map (fun _ => ⟨rfl, rfl⟩) | exact (show (l.flatten.length : Int) * 40 ≤ _ by omega) | exact (by simpa using h0) | exact (by omega) | kernel_rfl) ?_) )
      try (conv => whnf)
      refine LoopK.run mixed [] (fun (k : Nat) => k ≤ l.length) (fun k => [(6, .own ((l.take k).flatten.map Cell.av) 0), (25, .sl false (l.map fun x => .sl false (x.map Cell.av))), (26, .int .i64 l.length), (27, .int .i64 k)]) (fun k => ⟨[], [((l.take k).flatten.length, 5)], 0, 0, fun k => if k = 0 then 29 else 0⟩) (fun k => l.length - k) 0 (by simp) ?_ ?_
      · refine Fits.mk' rfl rfl rfl rfl ?_ ?_ ?_ ?_ ?_ <;> repeat' (first | exact trivial | refine And.intro ?_ ?_ | exact Sees.of_eq rfl | exact lt_b rfl | rfl | exact Sees.int (by simp))
      rintro k hk
      repeat ((conv => whnf); first | (refine And.intro (by first | rfl | exact Or.inl ⟨_, rfl⟩ | exact Or.inr rfl | exact le_b rfl | ((repeat' (first | exact Els.nil _ | refine Els.cons rfl rfl ?_)); done) | exact Els.map (fun _ => ⟨rfl, rfl⟩)  | kernel_rfl) ?_) )
      try (conv => whnf)
      refine BrK.mk (fun hb => ?_) (fun hb => ?_) <;> (try rw [hb])
      · have hlt : k < l.length := by simpa using hb
        obtain ⟨x, hgx⟩ := getLt hlt
        have hmx := getMap (f := fun x : List Cell => AV.sl false (x.map Cell.av)) hgx
        have hfl : (l.take (k + 1)).flatten.length = (l.take k).flatten.length + x.length := by rw [take_succ hgx]; simp
        have hle := flat_le l (k + 1)
        repeat ((conv => whnf); first | (refine And.intro (by first | rfl | exact Or.inl ⟨_, rfl⟩ | exact Or.inr rfl | exact le_b rfl | ((repeat' (first | exact Els.nil _ | refine Els.cons rfl rfl ?_)); done) | exact Els.map (fun _ => ⟨rfl, rfl⟩) | exact inbMap hlt | exact Els.map (f := Cell.av) (fun _ => ⟨rfl, rfl⟩) | exact (show _ * 40 ≤ _ by simp only [List.length_map]; omega) | exact (by simp only [List.length_map, maxLen]; omega) | exact (by rw [List.length_map]; rfl) | kernel_rfl) ?_) | rw [hmx])
        try (conv => whnf)
        refine ⟨k + 1, by omega, by omega, ?_⟩
        refine Fits.mk' rfl rfl rfl rfl ?_ ?_ ?_ ?_ ?_ <;> repeat' (first | exact trivial | refine And.intro ?_ ?_ | exact Sees.of_eq rfl | exact lt_b rfl | rfl | exact Sees.int (succI hlt (by omega)) | exact Sees.own (by rw [take_succ hgx]; simp) | (show (_, _) = (_, _); rw [hfl]; simp only [List.length_append, List.length_map]))
      · have hk' : k = l.length := by simp at hb; omega
        subst hk'
        repeat ((conv => whnf); first | (refine And.intro (by first | rfl | exact Or.inl ⟨_, rfl⟩ | exact Or.inr rfl | exact le_b rfl | ((repeat' (first | exact Els.nil _ | refine Els.cons rfl rfl ?_)); done) | exact Els.map (fun _ => ⟨rfl, rfl⟩)  | kernel_rfl) ?_) )
        try (conv => whnf)
        exact resP.mk rfl (Sees.sl (by rw [List.take_length]))
    · repeat ((conv => whnf); first | (refine And.intro (by first | rfl | exact Or.inl ⟨_, rfl⟩ | exact Or.inr rfl | exact le_b rfl | ((repeat' (first | exact Els.nil _ | refine Els.cons rfl rfl ?_)); done) | exact Els.map (fun _ => ⟨rfl, rfl⟩)  | kernel_rfl) ?_) )
      try (conv => whnf)
      refine LoopK.born 6 5 29 rfl ?_
      refine LoopK.run mixed [] (fun (k : Nat) => k ≤ l.length) (fun k => [(6, .own ((l.take k).flatten.map Cell.av) 0), (25, .sl false (l.map fun x => .sl false (x.map Cell.av))), (26, .int .i64 l.length), (27, .int .i64 k)]) (fun k => ⟨[], [((l.take k).flatten.length, 5)], 0, 0, fun k => if k = 0 then 29 else 0⟩) (fun k => l.length - k) 0 (by simp) ?_ ?_
      · refine Fits.mk' rfl rfl rfl rfl ?_ ?_ ?_ ?_ ?_ <;> repeat' (first | exact trivial | refine And.intro ?_ ?_ | exact Sees.of_eq rfl | exact lt_b rfl | rfl | exact Sees.int (by simp))
      rintro k hk
      repeat ((conv => whnf); first | (refine And.intro (by first | rfl | exact Or.inl ⟨_, rfl⟩ | exact Or.inr rfl | exact le_b rfl | ((repeat' (first | exact Els.nil _ | refine Els.cons rfl rfl ?_)); done) | exact Els.map (fun _ => ⟨rfl, rfl⟩)  | kernel_rfl) ?_) )
      try (conv => whnf)
      refine BrK.mk (fun hb => ?_) (fun hb => ?_) <;> (try rw [hb])
      · have hlt : k < l.length := by simpa using hb
        obtain ⟨x, hgx⟩ := getLt hlt
        have hmx := getMap (f := fun x : List Cell => AV.sl false (x.map Cell.av)) hgx
        have hfl : (l.take (k + 1)).flatten.length = (l.take k).flatten.length + x.length := by rw [take_succ hgx]; simp
        have hle := flat_le l (k + 1)
        repeat ((conv => whnf); first | (refine And.intro (by first | rfl | exact Or.inl ⟨_, rfl⟩ | exact Or.inr rfl | exact le_b rfl | ((repeat' (first | exact Els.nil _ | refine Els.cons rfl rfl ?_)); done) | exact Els.map (fun _ => ⟨rfl, rfl⟩) | exact inbMap hlt | exact Els.map (f := Cell.av) (fun _ => ⟨rfl, rfl⟩) | exact (show _ * 40 ≤ _ by simp only [List.length_map]; omega) | exact (by simp only [List.length_map, maxLen]; omega) | exact (by rw [List.length_map]; rfl) | kernel_rfl) ?_) | rw [hmx])
        try (conv => whnf)
        refine ⟨k + 1, by omega, by omega, ?_⟩
        refine Fits.mk' rfl rfl rfl rfl ?_ ?_ ?_ ?_ ?_ <;> repeat' (first | exact trivial | refine And.intro ?_ ?_ | exact Sees.of_eq rfl | exact lt_b rfl | rfl | exact Sees.int (succI hlt (by omega)) | exact Sees.own (by rw [take_succ hgx]; simp) | (show (_, _) = (_, _); rw [hfl]; simp only [List.length_append, List.length_map]))
      · have hk' : k = l.length := by simp at hb; omega
        subst hk'
        repeat ((conv => whnf); first | (refine And.intro (by first | rfl | exact Or.inl ⟨_, rfl⟩ | exact Or.inr rfl | exact le_b rfl | ((repeat' (first | exact Els.nil _ | refine Els.cons rfl rfl ?_)); done) | exact Els.map (fun _ => ⟨rfl, rfl⟩)  | kernel_rfl) ?_) )
        try (conv => whnf)
        exact resP.mk rfl (Sees.sl (by rw [List.take_length]))
end
end HM
