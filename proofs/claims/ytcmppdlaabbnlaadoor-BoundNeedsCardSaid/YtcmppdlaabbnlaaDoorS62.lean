/- The cells that count: the program, as far as the order of an assignment. -/
import Derived.Test.YtcmppdlaabbnlaaDoorS37
import Derived.Test.YtcmppdlaabbnlaaDoorDa
import Derived.Test.YtcmppdlaabbnlaaDoorFh

set_option maxRecDepth 100000
namespace HM
open Go Go.RowKit Go.Proofs

theorem SeesO.of_eq {o o' : Ob} (h : o = o') : SeesO o o' := h ▸ SeesO.rfl' o
def keysOf (C : List Cell) : List (List Int) := C.foldl (fun ks c => setKs ks c.nums) []
def mapO (C : List Cell) : Ob := .map (some 5) (keysOf C) (List.replicate (keysOf C).length (.bool true))
theorem keysOf_snoc (C : List Cell) (c : Cell) : keysOf (C ++ [c]) = setKs (keysOf C) c.nums := by simp [keysOf]
theorem keysOf_add (A T : List Cell) (c : Cell) : setKs (keysOf (A ++ T)) c.nums = keysOf (A ++ (T ++ [c])) := by rw [← List.append_assoc, keysOf_snoc]
theorem vals_snoc (C : List Cell) (c : Cell) : setVs (keysOf C) (List.replicate (keysOf C).length (.bool true)) c.nums (.bool true) = List.replicate (keysOf (C ++ [c])).length (.bool true) := by
  rw [keysOf_snoc]
  unfold setVs setKs
  cases h : posOf (keysOf C) c.nums with
  | none => simp [List.replicate_succ']
  | some i =>
    simp only
    apply List.ext_getElem?
    intro j
    rw [List.getElem?_set]
    split
    · rename_i e
      subst e
      simp only [List.length_replicate, List.getElem?_replicate]
    · rfl
theorem vals_add (A T : List Cell) (c : Cell) : setVs (keysOf (A ++ T)) (List.replicate (keysOf (A ++ T)).length (.bool true)) c.nums (.bool true) = List.replicate (keysOf (A ++ (T ++ [c]))).length (.bool true) := by rw [← List.append_assoc, vals_snoc]
theorem okk_mapO (k m : Nat) (C : List Cell) : Ob.okk k m (mapO C) := by
  show okks k m _
  rw [okks_mem]
  intro e he
  rw [List.eq_of_mem_replicate he]
  trivial
theorem mem_setKs {ks : List (List Int)} {x y : List Int} : y ∈ setKs ks x ↔ y ∈ ks ∨ y = x := by
  unfold setKs
  cases h : posOf ks x with
  | none => simp
  | some i =>
    simp only
    constructor
    · exact .inl
    · rintro (h1 | rfl)
      · exact h1
      · exact List.mem_of_getElem? (posOf_some h)
theorem nums_inj {c d : Cell} (h : c.nums = d.nums) : c = d := by
  cases c; cases d
  simp only [Cell.nums, List.cons.injEq, and_true] at h
  obtain ⟨h1, h2, h3, h4, h5⟩ := h
  subst h1; subst h2; subst h3; subst h4; subst h5
  rfl
theorem mem_keysOf : ∀ (C : List Cell) (c : Cell), c.nums ∈ keysOf C ↔ c ∈ C := by
  intro C
  have : ∀ (C : List Cell) (ks : List (List Int)) (c : Cell), c.nums ∈ C.foldl (fun ks c => setKs ks c.nums) ks ↔ c.nums ∈ ks ∨ c ∈ C := by
    intro C
    induction C with
    | nil => intro ks c; simp
    | cons d C ih =>
      intro ks c
      rw [List.foldl_cons, ih, mem_setKs, List.mem_cons]
      constructor
      · rintro ((h | h) | h)
        · exact .inl h
        · exact .inr (.inl (nums_inj h))
        · exact .inr (.inr h)
      · rintro (h | rfl | h)
        · exact .inl (.inl h)
        · exact .inl (.inr rfl)
        · exact .inr h
  intro c
  rw [keysOf, this]
  simp
theorem keysOf_assoc (C : List Cell) (c : Cell) : assoc (keysOf C) (List.replicate (keysOf C).length (.bool true)) c.nums = if c ∈ C then some (.bool true) else none := by
  unfold assoc
  cases h : posOf (keysOf C) c.nums with
  | none =>
    have := posOf_none.1 h
    rw [mem_keysOf] at this
    rw [if_neg this]; rfl
  | some i =>
    have h1 := posOf_some h
    have h2 := List.mem_of_getElem? h1
    rw [mem_keysOf] at h2
    rw [if_pos h2]
    simp [(List.getElem?_eq_some_iff.1 h1).1]

theorem fzN {S : St} {v : AV} {l : List AV} (h : fzb S v = some (.sl false l)) : fzb S (.tup [v, .int .i64 0]) = some (.tup [.sl false l, .int .i64 0]) := by simp [fzb, fzbs, h]
/-- the cells found so far -/
def tE (cs : List Cell) (len a : Int) (need d j : Nat) : List (Cell × Int) := (evC cs len a d ++ ((cs.take j).filter fun c => c.slot == (a + d) % len).map fun c => (c, a + (d : Int))).take need
def tC (cs : List Cell) (len a : Int) (need d j : Nat) : List Cell := (tE cs len a need d j).map (·.1)
theorem tE_snd (cs : List Cell) (len a : Int) (need d j : Nat) : (tE cs len a need d j).map (·.2) = tS cs len a need d j := by
  simp [tE, tS, partS, List.map_take, evC_snd, Function.comp_def]
theorem tC_len (cs : List Cell) (len a : Int) (need d j : Nat) : (tC cs len a need d j).length = (tS cs len a need d j).length := by rw [← tE_snd, tC, List.length_map, List.length_map]
theorem tE_next (cs : List Cell) (len a : Int) (need d : Nat) : tE cs len a need d cs.length = tE cs len a need (d + 1) 0 := by simp [tE, evC]
theorem tC_next (cs : List Cell) (len a : Int) (need d : Nat) : tC cs len a need d cs.length = tC cs len a need (d + 1) 0 := by rw [tC, tC, tE_next]
theorem tC_miss {cs : List Cell} {len a : Int} {need d j : Nat} {c : Cell} (h : cs[j]? = some c) (hm : c.slot ≠ (a + d) % len) : tC cs len a need d (j + 1) = tC cs len a need d j := by
  unfold tC tE
  rw [take_succ h, List.filter_append]
  simp [hm]
theorem tE_hit {cs : List Cell} {len a : Int} {d j : Nat} {c : Cell} (h : cs[j]? = some c) (hm : c.slot = (a + d) % len) (need : Nat) : tE cs len a need d (j + 1) = ((evC cs len a d ++ ((cs.take j).filter fun c => c.slot == (a + d) % len).map fun c => (c, a + (d : Int))) ++ [(c, a + (d : Int))]).take need := by
  unfold tE
  rw [take_succ h, List.filter_append, List.map_append, List.append_assoc]
  simp [hm]
theorem tC_full {cs : List Cell} {len a : Int} {need d j : Nat} {c : Cell} (h : cs[j]? = some c) (hf : (tC cs len a need d j).length = need) : tC cs len a need d (j + 1) = tC cs len a need d j := by
  by_cases hm : c.slot = (a + d) % len
  · unfold tC at hf ⊢
    rw [tE_hit h hm]
    unfold tE at hf ⊢
    rw [List.length_map, List.length_take] at hf
    rw [take_prefix (by omega)]
  · exact tC_miss h hm
theorem tC_hit {cs : List Cell} {len a : Int} {need d j : Nat} {c : Cell} (h : cs[j]? = some c) (hm : c.slot = (a + d) % len) (hf : (tC cs len a need d j).length < need) : tC cs len a need d (j + 1) = tC cs len a need d j ++ [c] := by
  unfold tC at hf ⊢
  rw [tE_hit h hm]
  unfold tE at hf ⊢
  generalize evC cs len a d ++ ((cs.take j).filter fun c => c.slot == (a + d) % len).map (fun c => (c, a + (d : Int))) = X at hf ⊢
  rw [List.length_map, List.length_take] at hf
  have h1 : (X ++ [(c, a + (d : Int))]).take need = X ++ [(c, a + (d : Int))] := List.take_of_length_le (by rw [List.length_append, List.length_singleton]; omega)
  have h2 : X.take need = X := List.take_of_length_le (by omega)
  rw [h1, h2, List.map_append]
  rfl
theorem evC_prefix (cs : List Cell) (len a : Int) {d e : Nat} (h : d ≤ e) : ∃ t, evC cs len a e = evC cs len a d ++ t := by
  induction e with
  | zero => exact ⟨[], by have : d = 0 := by omega
                          subst this; simp⟩
  | succ e ih =>
    rcases Nat.lt_or_ge d (e + 1) with hlt | hge
    · obtain ⟨t, ht⟩ := ih (by omega)
      exact ⟨t ++ _, by rw [evC, ht, List.append_assoc]⟩
    · have : d = e + 1 := by omega
      subst this; exact ⟨[], by simp⟩
theorem tC_done {s : Sched} {f : Flow} {a stop x y x' y' : Int} {cs : List Cell} {need need' d : Nat} (hcs : cs = cellsL s f x y) (hnd : need = need') (hd : d ≤ (stop - a).toNat) (hful : (tC cs s.len a need d 0).length = need) (e3 : x = x') (e4 : y = y') : onC s f x' y' need' a stop = tC cs s.len a need d 0 := by
  subst hcs; subst hnd; subst e3; subst e4
  unfold onC tC tE at *
  obtain ⟨t, ht⟩ := evC_prefix (cellsL s f x y) s.len a hd
  simp only [List.take_zero, List.filter_nil, List.map_nil, List.append_nil, List.length_map, List.length_take] at hful ⊢
  rw [ht, take_prefix (by omega)]
theorem cellsUp_step {n : Net} {s : Sched} {f : Flow} {r : List Int} {rel more : Int} {k : Nat} {o : List Int} {a : Int} {t : List Cell} (h : slotsUp n s f r rel more k = some (o, a)) (hz : more = 0) (ht : onC s f (r.getD k 0) (r.getD (k + 1) 0) (needAt n r more k) a (rel + f.period) = t) : cellsUp n s f r rel (k + 1) = cellsUp n s f r rel k ++ t := by
  subst hz
  simp only [cellsUp, h, ht]

theorem relsC_at {n : Net} {s : Sched} {f : Flow} {r : List Int} {x : Bnd} : ∀ {K k : Nat}, boundUp n s f r 0 K = some x → k < K → slotsUp n s f r (f.phase + k * f.period) 0 (r.length - 1) ≠ none
  | 0, _, _, h => by omega
  | K + 1, k, hb, hk => by
    cases hy : boundUp n s f r 0 K with
    | none => simp only [boundUp, hy] at hb; cases hb
    | some y =>
      rcases Nat.lt_succ_iff_lt_or_eq.1 hk with hk | rfl
      · exact relsC_at hy hk
      · intro hn
        have : relR n s f r 0 (f.phase + k * f.period) = none := by unfold relR slotsW; rw [hn]; rfl
        rw [boundUp_stop this] at hb; cases hb
def cUp (n : Net) (s : Sched) (f : Flow) (l : List (List Int)) (k : Nat) : List Cell := (l.take k).flatMap fun r => relsC n s f r (relsN s f)
theorem cUp_step {n : Net} {s : Sched} {f : Flow} {l : List (List Int)} {k : Nat} {r : List Int} (h : l[k]? = some r) : cUp n s f l (k + 1) = cUp n s f l k ++ relsC n s f r (relsN s f) := by
  unfold cUp
  rw [take_succ h, List.flatMap_append]
  simp
theorem needL_eq (n : Net) (s : Sched) (f : Flow) (l : List (List Int)) : AV.tup [.sl false ((s.cells.filter fun x => !(!decide (x ∈ cUp n s f l l.length))).map Cell.av), .int .i64 0] = .tup [encCells (needL n s f l), .int .i64 0] := by
  unfold needL allC cUp
  rw [List.take_length]
  simp only [Bool.not_not]
  rfl

theorem badR_at {n : Net} {s : Sched} {f : Flow} : ∀ {l : List (List Int)} {k : Nat} {r : List Int}, l[k]? = some r → (∀ (j : Nat) (x : List Int), j < k → l[j]? = some x → (routeM n s f x).2.2.2 = 0) → (routeM n s f r).2.2.2 ≠ 0 → badR n s f l = (routeM n s f r).2.2.2
  | [], _, _, h, _, _ => by simp at h
  | a :: l, 0, r, h, _, hr => by
    simp at h; subst h
    rw [badR, if_pos hr]
  | a :: l, k + 1, r, h, hb, hr => by
    rw [badR, if_neg (by simpa using hb 0 a (by omega) rfl)]
    exact badR_at (by simpa using h) (fun j x hj hx => hb (j + 1) x (by omega) (by simpa using hx)) hr
theorem badR_zero {n : Net} {s : Sched} {f : Flow} : ∀ {l : List (List Int)}, (∀ (j : Nat) (x : List Int), l[j]? = some x → (routeM n s f x).2.2.2 = 0) → badR n s f l = 0
  | [], _ => rfl
  | a :: l, hb => by
    rw [badR, if_neg (by simpa using hb 0 a rfl)]
    exact badR_zero fun j x hx => hb (j + 1) x (by simpa using hx)
theorem fzs_bools : ∀ n : Nat, fzs (List.replicate n (.bool true)) = some (List.replicate n (.bool true))
  | 0 => rfl
  | n + 1 => by simp [List.replicate_succ, fzs, fz, fzs_bools n]
theorem c_need1 (L : World → Prop) (C : List Cell) (c : Cell) : PCall Tryd.prog L 36 [c.av, .cptr (.agg [.cmp (some 5) (keysOf C) (List.replicate (keysOf C).length (.bool true))]) 0] (.bool (!decide (c ∈ C))) := by
  refine PCall.intro mixed [] (nt := 8) Tryd.func36 rfl rfl (by simp) ?_
  repeat ((conv => whnf); first | (refine And.intro (by first | rfl | exact ⟨rfl, rfl⟩ | exact Or.inl ⟨_, rfl⟩ | exact Or.inr rfl | exact le_b rfl | ((repeat' (first | exact Els.nil _ | refine Els.cons rfl rfl ?_)); done) | exact Els.map (fun _ => ⟨rfl, rfl⟩)  | kernel_rfl) ?_) )
  try (conv => whnf)
  rw [show assoc (keysOf C) (List.replicate (keysOf C).length (.bool true)) [c.slot, c.off, c.src, c.dst, c.flow] = _ from keysOf_assoc C c]
  by_cases h : c ∈ C
  · rw [if_pos h]
    repeat ((conv => whnf); first | (refine And.intro (by first | rfl | exact ⟨rfl, rfl⟩ | exact Or.inl ⟨_, rfl⟩ | exact Or.inr rfl | exact le_b rfl | ((repeat' (first | exact Els.nil _ | refine Els.cons rfl rfl ?_)); done) | exact Els.map (fun _ => ⟨rfl, rfl⟩)  | kernel_rfl) ?_) )
    try (conv => whnf)
    exact resP.mk rfl (Sees.bool (by simp [h]))
  · rw [if_neg h]
    repeat ((conv => whnf); first | (refine And.intro (by first | rfl | exact ⟨rfl, rfl⟩ | exact Or.inl ⟨_, rfl⟩ | exact Or.inr rfl | exact le_b rfl | ((repeat' (first | exact Els.nil _ | refine Els.cons rfl rfl ?_)); done) | exact Els.map (fun _ => ⟨rfl, rfl⟩)  | kernel_rfl) ?_) )
    try (conv => whnf)
    exact resP.mk rfl (Sees.bool (by simp [h]))

def nSl (w : Way) (l : List (List Int)) (rel : Int) (k : Nat) : List (Nat × AV) := [(3, encRows l), (4, .cptr w.n.av 0), (5, .cptr w.s.av 0), (6, .cptr w.f.av 0), (10, .ptr 4 0), (17, .ptr 5 0), (18, .int .i64 rel), (24, encRows l), (25, .int .i64 l.length), (26, .int .i64 k), (60, .fn 63 [.cptr (.agg [.int .i64 rel]) 0, .cptr w.av 0])]
def nSl2 (w : Way) (rel : Int) (x y : Nat) : List (Nat × AV) := [(1, .cptr (.agg [.int .i64 rel]) 0), (2, .cptr w.av 0), (3, .ptr 7 0), (4, .ptr x 0), (5, .ptr y 0), (19, .fn 98 [.cptr w.av 0])]
def nBx (w : Way) (rel : Int) (C : List Cell) (L1 : LoopA) (a : Int) : List Ob := [.dead, .dead, .dead, mapO C, .cells [.mp 3] 85, .cells w.cs 87, .loop L1, .cells [.yld 6] 131, .cells [.int .i64 a] 3, .cells [.int .i64 (rel + w.f.period)] 3]
def nBx' (w : Way) (rel : Int) (C : List Cell) (L1 : LoopA) (a : Int) : List Ob := [.dead, .dead, .dead, mapO C, .cells [.mp 3] 85, .cells w.cs 87, .loop L1, .cells [.yld 6] 131, .cells [.int .i64 (rel + w.f.period)] 3, .cells [.int .i64 a] 3]

set_option maxHeartbeats 8000000 in
/-- the walk as far as the two orders of an assignment; what is left, for either -/
def needHalf (n : Net) (s : Sched) (f : Flow) (l : List (List Int)) (hn : n.small) (hc : s.cells.length ≤ 281474976710656) (hr : ∀ r ∈ l, r.length ≤ 281474976710656) (hl : l.length ≤ 281474976710656) :
    { p : Prop × Prop // (Unit → p.1) → (Unit → p.2) → PCall Tryd.prog LW 11 [n.av, s.av, f.av, encRows l] (.tup [encCells (needM n s f l).1, .int .i64 (needM n s f l).2]) } := by
  refine ⟨(?p, ?q), fun H1 H2 => ?main⟩
  case main =>
    refine PCall.intro mixed [1] (nt := 71) Tryd.func11 rfl rfl (by simp) ?_
    repeat ((conv => whnf); first | (refine And.intro (by first | rfl | exact ⟨rfl, rfl⟩ | exact Or.inl ⟨_, rfl⟩ | exact Or.inr rfl | exact le_b rfl | ((repeat' (first | exact Els.nil _ | refine Els.cons rfl rfl ?_)); done) | exact Els.map (fun _ => ⟨rfl, rfl⟩)  | kernel_rfl) ?_) )
    try (conv => whnf)
    refine SeqK.sem mixed [] ?_
    repeat ((conv => whnf); first | (refine And.intro (by first | rfl | exact ⟨rfl, rfl⟩ | exact Or.inl ⟨_, rfl⟩ | exact Or.inr rfl | exact le_b rfl | ((repeat' (first | exact Els.nil _ | refine Els.cons rfl rfl ?_)); done) | exact Els.map (fun _ => ⟨rfl, rfl⟩)  | kernel_rfl) ?_) )
    try (conv => whnf)
    refine SemK.freezeB 0 rfl rfl ?_
    refine SemK.freezeB 1 rfl rfl ?_
    refine SemK.freezeB 2 rfl rfl ?_
    refine twC_sound (ct := [18]) mixed _ _ _ _ ?_
    repeat ((conv => whnf); first | (refine And.intro (by first | rfl | exact ⟨rfl, rfl⟩ | exact Or.inl ⟨_, rfl⟩ | exact Or.inr rfl | exact le_b rfl | ((repeat' (first | exact Els.nil _ | refine Els.cons rfl rfl ?_)); done) | exact Els.map (fun _ => ⟨rfl, rfl⟩)  | kernel_rfl) ?_) )
    try (conv => whnf)
    refine BrK.mk (fun h0 => ?_) (fun h0 => ?_) <;> (try rw [h0])
    · have h0' : l.length = 0 := by simpa using h0
      repeat ((conv => whnf); first | (refine And.intro (by first | rfl | exact ⟨rfl, rfl⟩ | exact Or.inl ⟨_, rfl⟩ | exact Or.inr rfl | exact le_b rfl | ((repeat' (first | exact Els.nil _ | refine Els.cons rfl rfl ?_)); done) | exact Els.map (fun _ => ⟨rfl, rfl⟩)  | kernel_rfl) ?_) )
      try (conv => whnf)
      exact resP.mk rfl (Sees.of_eq (by rw [needM, if_pos h0']; rfl))
    have h0' : ¬ l.length = 0 := by simpa using h0
    repeat ((conv => whnf); first | (refine And.intro (by first | rfl | exact ⟨rfl, rfl⟩ | exact Or.inl ⟨_, rfl⟩ | exact Or.inr rfl | exact le_b rfl | ((repeat' (first | exact Els.nil _ | refine Els.cons rfl rfl ?_)); done) | exact Els.map (fun _ => ⟨rfl, rfl⟩)  | kernel_rfl) ?_) )
    try (conv => whnf)
    refine SeqK.sem mixed [] ?_
    repeat ((conv => whnf); first | (refine And.intro (by first | rfl | exact ⟨rfl, rfl⟩ | exact Or.inl ⟨_, rfl⟩ | exact Or.inr rfl | exact le_b rfl | ((repeat' (first | exact Els.nil _ | refine Els.cons rfl rfl ?_)); done) | exact Els.map (fun _ => ⟨rfl, rfl⟩)  | kernel_rfl) ?_) )
    try (conv => whnf)
    refine LoopK.run mixed [] (fun k : Nat => k ≤ l.length ∧ ∀ j x, j < k → l[j]? = some x → (routeM n s f x).2.2.2 = 0) (fun k => [(3, encRows l), (4, .cptr n.av 0), (5, .cptr s.av 0), (6, .cptr f.av 0), (10, .ptr 4 0), (24, encRows l), (25, .int .i64 l.length), (26, .int .i64 k)]) (fun k => ⟨[.dead, .dead, .dead, mapO (cUp n s f l k), .cells [.mp 3] 85], [], 0, 0, fun _ => 0⟩) (fun k => l.length - k) 0 ⟨by simp, by simp⟩ ?_ ?_
    · refine Fits.mk' rfl rfl rfl rfl ?_ ?_ ?_ ?_ ?_ <;> repeat' (first | exact trivial | refine And.intro ?_ ?_ | exact Sees.of_eq rfl | exact lt_b rfl | rfl | exact okk_mapO _ _ _ | exact SeesL.rfl' _ | exact SeesO.rfl' _ | exact Sees.int (by simp))
    rintro k ⟨hk, hinv⟩
    repeat ((conv => whnf); first | (refine And.intro (by first | rfl | exact ⟨rfl, rfl⟩ | exact Or.inl ⟨_, rfl⟩ | exact Or.inr rfl | exact le_b rfl | ((repeat' (first | exact Els.nil _ | refine Els.cons rfl rfl ?_)); done) | exact Els.map (fun _ => ⟨rfl, rfl⟩)  | kernel_rfl) ?_) )
    try (conv => whnf)
    refine BrK.mk (fun h1 => ?_) (fun h1 => ?_) <;> (try rw [h1])
    · have hlt : k < l.length := by simpa using h1
      obtain ⟨r, hgr⟩ := getLt hlt
      have hmr := getMap (f := encIs) hgr
      have hrm := hr r (List.mem_of_getElem? hgr)
      repeat ((conv => whnf); first | (refine And.intro (by first | rfl | exact ⟨rfl, rfl⟩ | exact Or.inl ⟨_, rfl⟩ | exact Or.inr rfl | exact le_b rfl | ((repeat' (first | exact Els.nil _ | refine Els.cons rfl rfl ?_)); done) | exact Els.map (fun _ => ⟨rfl, rfl⟩) | exact inbMap hlt | kernel_rfl) ?_) | rw [hmr])
      try (conv => whnf)
      first | refine CallK.data rfl (c_BRoute n s f r hn hc hrm) rfl ?_ | refine CallP.data rfl (c_BRoute n s f r hn hc hrm) rfl ?_
      repeat ((conv => whnf); first | (refine And.intro (by first | rfl | exact ⟨rfl, rfl⟩ | exact Or.inl ⟨_, rfl⟩ | exact Or.inr rfl | exact le_b rfl | ((repeat' (first | exact Els.nil _ | refine Els.cons rfl rfl ?_)); done) | exact Els.map (fun _ => ⟨rfl, rfl⟩)  | kernel_rfl) ?_) )
      try (conv => whnf)
      refine BrK.mk (fun h2 => ?_) (fun h2 => ?_) <;> (try rw [h2])
      · have hw : (routeM n s f r).2.2.2 ≠ 0 := by simpa using h2
        have hfw := badR_at hgr hinv hw
        repeat ((conv => whnf); first | (refine And.intro (by first | rfl | exact ⟨rfl, rfl⟩ | exact Or.inl ⟨_, rfl⟩ | exact Or.inr rfl | exact le_b rfl | ((repeat' (first | exact Els.nil _ | refine Els.cons rfl rfl ?_)); done) | exact Els.map (fun _ => ⟨rfl, rfl⟩)  | kernel_rfl) ?_) )
        try (conv => whnf)
        exact resP.mk rfl (Sees.of_eq (by rw [needM, if_neg h0', if_pos (by rw [hfw]; exact hw), hfw]; rfl))
      · have hw : (routeM n s f r).2.2.2 = 0 := by simpa using h2
        obtain ⟨hw0, x, hb, hR⟩ := routeM_ok hw
        have hok := wayE_ok hw0
        have hnet := wayE_net hw0
        have hlen := hok.len
        have hfl := hok.flow
        obtain ⟨hsz, hcl, hfm⟩ := form_all hok.form
        have hsb := sized_bd hsz
        clear hR
        repeat ((conv => whnf); first | (refine And.intro (by first | rfl | exact ⟨rfl, rfl⟩ | exact Or.inl ⟨_, rfl⟩ | exact Or.inr rfl | exact le_b rfl | ((repeat' (first | exact Els.nil _ | refine Els.cons rfl rfl ?_)); done) | exact Els.map (fun _ => ⟨rfl, rfl⟩)  | kernel_rfl) ?_) )
        try (conv => whnf)
        refine LoopK.run mixed [] (fun j : Nat => j ≤ relsN s f) (fun j => [(3, encRows l), (4, .cptr n.av 0), (5, .cptr s.av 0), (6, .cptr f.av 0), (10, .ptr 4 0), (17, .ptr 5 0), (18, .int .i64 (f.phase + j * f.period)), (24, encRows l), (25, .int .i64 l.length), (26, .int .i64 k)]) (fun j => ⟨[.dead, .dead, .dead, mapO (cUp n s f l k ++ relsC n s f r j), .cells [.mp 3] 85, .cells (Way.cs ⟨n, s, f, r, 0⟩) 87], [], 0, 0, fun _ => 0⟩) (fun j => relsN s f - j) 0 (by omega) ?_ ?_
        · refine Fits.mk' rfl rfl rfl rfl ?_ ?_ ?_ ?_ ?_ <;> repeat' (first | exact trivial | refine And.intro ?_ ?_ | exact Sees.of_eq rfl | exact lt_b rfl | rfl | exact okk_mapO _ _ _ | (rw [show relsC n s f r 0 = [] from rfl, List.append_nil]) | exact SeesL.of_eq (by rw [show relsC n s f r 0 = [] from rfl, List.append_nil]) | exact SeesL.rfl' _ | exact SeesO.rfl' _ | exact Sees.int (by simp))
        rintro j hj
        repeat ((conv => whnf); first | (refine And.intro (by first | rfl | exact ⟨rfl, rfl⟩ | exact Or.inl ⟨_, rfl⟩ | exact Or.inr rfl | exact le_b rfl | ((repeat' (first | exact Els.nil _ | refine Els.cons rfl rfl ?_)); done) | exact Els.map (fun _ => ⟨rfl, rfl⟩)  | kernel_rfl) ?_) )
        try (conv => whnf)
        refine BrK.mk (fun h3 => ?_) (fun h3 => ?_) <;> (try rw [h3])
        · have hjl : j < relsN s f := (relsN_lt (by omega)).2 (by simpa using h3)
          have hrb : f.phase + j * f.period < s.len := (relsN_lt (by omega)).1 hjl
          have hmul : 0 ≤ (j : Int) * f.period := Int.mul_nonneg (by omega) (by omega)
          have hsome := relsC_at hb hjl
          obtain ⟨rel, hrel⟩ : ∃ rel, rel = f.phase + (j : Int) * f.period := ⟨_, rfl⟩
          obtain ⟨C, hC⟩ : ∃ C, C = cUp n s f l k ++ relsC n s f r j := ⟨_, rfl⟩
          have hwp : IntKind.i64.wrap (rel + f.period) = rel + f.period := w64 (by omega) (by omega)
          rw [← hrel] at hsome hrb ⊢
          rw [← hC]
          repeat ((conv => whnf); first | (refine And.intro (by first | rfl | exact ⟨rfl, rfl⟩ | exact Or.inl ⟨_, rfl⟩ | exact Or.inr rfl | exact le_b rfl | ((repeat' (first | exact Els.nil _ | refine Els.cons rfl rfl ?_)); done) | exact Els.map (fun _ => ⟨rfl, rfl⟩)  | kernel_rfl) ?_) )
          try (conv => whnf)
          first | refine CallK.data rfl (c_wcounts ⟨n, s, f, r, 0⟩ rel) rfl ?_ | refine CallP.data rfl (c_wcounts ⟨n, s, f, r, 0⟩ rel) rfl ?_
          repeat ((conv => whnf); first | (refine And.intro (by first | rfl | exact ⟨rfl, rfl⟩ | exact Or.inl ⟨_, rfl⟩ | exact Or.inr rfl | exact le_b rfl | ((repeat' (first | exact Els.nil _ | refine Els.cons rfl rfl ?_)); done) | exact Els.map (fun _ => ⟨rfl, rfl⟩)  | kernel_rfl) ?_) )
          try (conv => whnf)
          refine RangeK.weak (l := nSl ⟨n, s, f, r, 0⟩ l rel k) (S1 := ⟨[.dead, .dead, .dead, mapO C, .cells [.mp 3] 85, .cells (Way.cs ⟨n, s, f, r, 0⟩) 87], [], 0, 0, fun _ => 0⟩) ?_ ?_
          · refine Fits.mk' rfl rfl rfl rfl ?_ ?_ ?_ ?_ ?_ <;> repeat' (first | exact trivial | refine And.intro ?_ ?_ | exact Sees.of_eq rfl | exact lt_b rfl | rfl | exact okk_mapO _ _ _ | exact SeesL.rfl' _ | exact SeesO.rfl' _)
          refine RangeK.named rfl rfl fun L1 hL1 => ?_
          have hok1 : ∀ k' m, 6 ≤ k' → Ob.okk k' m (.loop L1) := fun k' m hk' => loop_okk (l := nSl ⟨n, s, f, r, 0⟩ l rel k) (by rw [hL1]) ⟨trivial, trivial, trivial, trivial, (show 4 < k' by omega), (show 5 < k' by omega), trivial, trivial, trivial, trivial, ⟨trivial, trivial, trivial⟩, trivial⟩
          refine ICall.intro mixed [2] (nt := 63) Tryd.func63 rfl rfl (by simp) ?_
          repeat ((conv => whnf); first | (refine And.intro (by first | rfl | exact ⟨rfl, rfl⟩ | exact Or.inl ⟨_, rfl⟩ | exact Or.inr rfl | exact le_b rfl | ((repeat' (first | exact Els.nil _ | refine Els.cons rfl rfl ?_)); done) | exact Els.map (fun _ => ⟨rfl, rfl⟩)  | kernel_rfl) ?_) )
          try (conv => whnf)
          refine SeqK.cutE mixed [] (fun b : Bool => [(1, .cptr (.agg [.int .i64 rel]) 0), (2, .cptr (Way.av ⟨n, s, f, r, 0⟩) 0), (3, .ptr 7 0), (4, .ptr (bif b then 8 else 9) 0), (5, .ptr (bif b then 9 else 8) 0)]) (fun b => ⟨bif b then nBx ⟨n, s, f, r, 0⟩ rel C L1 rel else nBx' ⟨n, s, f, r, 0⟩ rel C L1 rel, [], 7, 0, fun _ => 0⟩) (SemK.regionStil mixed [0, 1, 2, 3, 4, 5] 4 rfl rfl (by decide) rfl ?_) ?_
          · iterate 6
              conv => whnf
              apply exV
              · intro S K' hh
                repeat ((conv => whnf); first | (refine And.intro (by first | rfl | exact ⟨rfl, rfl⟩ | exact Or.inl ⟨_, rfl⟩ | exact Or.inr rfl | exact le_b rfl | ((repeat' (first | exact Els.nil _ | refine Els.cons rfl rfl ?_)); done) | exact Els.map (fun _ => ⟨rfl, rfl⟩)  | kernel_rfl) ?_) )
                try (conv => whnf)
                exact hh
            repeat' ((conv => whnf); first | exact trivial | (refine And.intro (by first | rfl | exact ⟨rfl, rfl⟩ | exact Or.inl ⟨_, rfl⟩ | exact Or.inr rfl | exact le_b rfl | ((repeat' (first | exact Els.nil _ | refine Els.cons rfl rfl ?_)); done) | exact Els.map (fun _ => ⟨rfl, rfl⟩)  | kernel_rfl) ?_) | refine And.intro ?_ ?_ )
            all_goals (conv => whnf)
            · refine ⟨true, ?_⟩
              refine Fits.mk' rfl rfl rfl rfl ?_ ?_ ?_ ?_ ?_ <;> repeat' (first | exact trivial | refine And.intro ?_ ?_ | exact Sees.of_eq rfl | exact lt_b rfl | rfl | exact hok1 _ _ (Nat.le_of_ble_eq_true rfl) | exact okk_mapO _ _ _ | exact SeesL.rfl' _ | exact SeesO.rfl' _ | exact Sees.int hwp)
            · refine ⟨false, ?_⟩
              refine Fits.mk' rfl rfl rfl rfl ?_ ?_ ?_ ?_ ?_ <;> repeat' (first | exact trivial | refine And.intro ?_ ?_ | exact Sees.of_eq rfl | exact lt_b rfl | rfl | exact hok1 _ _ (Nat.le_of_ble_eq_true rfl) | exact okk_mapO _ _ _ | exact SeesL.rfl' _ | exact SeesO.rfl' _ | exact Sees.int hwp)
          clear hok1 hwp hmul hsb hfm hcl hsz hfl hlen hmr h3 h2 h1 h0 hw hinv
          rintro (_ | _)
          · revert k r j rel C L1 x
            exact H1 ()
          · revert k r j rel C L1 x
            exact H2 ()
        · have hjl : j = relsN s f := by
            have : ¬ j < relsN s f := fun hh => by
              have := (relsN_lt (by omega)).1 hh
              simp at h3; omega
            omega
          subst hjl
          rw [← cUp_step hgr]
          repeat ((conv => whnf); first | (refine And.intro (by first | rfl | exact ⟨rfl, rfl⟩ | exact Or.inl ⟨_, rfl⟩ | exact Or.inr rfl | exact le_b rfl | ((repeat' (first | exact Els.nil _ | refine Els.cons rfl rfl ?_)); done) | exact Els.map (fun _ => ⟨rfl, rfl⟩)  | kernel_rfl) ?_) )
          try (conv => whnf)
          refine ⟨k + 1, ⟨by omega, fun i y hi hy => ?_⟩, by omega, ?_⟩
          · rcases Nat.lt_succ_iff_lt_or_eq.1 hi with hi | rfl
            · exact hinv i y hi hy
            · rw [hgr] at hy; injection hy with hy; subst hy; exact hw
          · refine Fits.mk' rfl rfl rfl rfl ?_ ?_ ?_ ?_ ?_ <;> repeat' (first | exact trivial | refine And.intro ?_ ?_ | exact Sees.of_eq rfl | exact lt_b rfl | rfl | exact okk_mapO _ _ _ | exact SeesL.rfl' _ | exact SeesO.rfl' _ | exact Sees.int (succI hlt (by omega)))
    · have hkl : k = l.length := by simp at h1; omega
      subst hkl
      have hz : badR n s f l = 0 := badR_zero fun j x hx => hinv j x (List.getElem?_eq_some_iff.1 hx).1 hx
      have hM : needM n s f l = (needL n s f l, 0) := by rw [needM, if_neg h0', if_neg (by simp [hz])]
      have hne : s.cells ≠ [] := fun hh => by
        have := (needs_law hM).2.1
        apply this
        unfold needL
        rw [hh]; rfl
      have hcl : s.cells.length ≤ 512 := by
        obtain ⟨r, hr0⟩ := getLt (l := l) (k := 0) (by omega)
        have := routeM_ok (hinv 0 r (by omega) hr0)
        exact (form_all (wayE_ok this.1).form).2.1
      rw [hM]
      repeat ((conv => whnf); first | (refine And.intro (by first | rfl | exact ⟨rfl, rfl⟩ | exact Or.inl ⟨_, rfl⟩ | exact Or.inr rfl | exact le_b rfl | ((repeat' (first | exact Els.nil _ | refine Els.cons rfl rfl ?_)); done) | exact Els.map (fun _ => ⟨rfl, rfl⟩)  | kernel_rfl) ?_) )
      try (conv => whnf)
      refine SemK.freezeM 3 rfl (fzs_bools _) ?_
      refine SemK.freezeB 4 rfl rfl ?_
      refine SemK.weak (l := [(5, .cptr s.av 0), (10, .cptr (.agg [.cmp (some 5) (keysOf (cUp n s f l l.length)) (List.replicate (keysOf (cUp n s f l l.length)).length (.bool true))]) 0)]) (S1 := ⟨[.dead, .dead], [], 0, 0, fun _ => 0⟩) ?_ ?_
      · refine Fits.mk' rfl rfl rfl rfl ?_ ?_ ?_ ?_ ?_ <;> repeat' (first | exact trivial | refine And.intro ?_ ?_ | exact Sees.of_eq rfl | exact lt_b rfl | rfl )
      refine twC_sound (ct := []) mixed _ _ _ _ ?_
      repeat ((conv => whnf); first | (refine And.intro (by first | rfl | exact ⟨rfl, rfl⟩ | exact Or.inl ⟨_, rfl⟩ | exact Or.inr rfl | exact le_b rfl | ((repeat' (first | exact Els.nil _ | refine Els.cons rfl rfl ?_)); done) | exact Els.map (fun _ => ⟨rfl, rfl⟩)  | kernel_rfl) ?_) )
      try (conv => whnf)
      refine CallK.fresh rfl (c_CloneCell LW s.cells hne (by omega)) (by rfl) (cellOk.els _) (cellOk.scal _) (fun h => absurd (by simpa using h) hne) (fun d => ?_)
      repeat ((conv => whnf); first | (refine And.intro (by first | rfl | exact ⟨rfl, rfl⟩ | exact Or.inl ⟨_, rfl⟩ | exact Or.inr rfl | exact le_b rfl | ((repeat' (first | exact Els.nil _ | refine Els.cons rfl rfl ?_)); done) | exact Els.map (fun _ => ⟨rfl, rfl⟩)  | kernel_rfl) ?_) )
      try (conv => whnf)
      rw [List.length_map]
      refine CallK.inl rfl (i_DeleteCell LW .dead .dead 0 0 _ s.cells (fun c => !decide (c ∈ cUp n s f l l.length)) _ [.cptr (.agg [.cmp (some 5) (keysOf (cUp n s f l l.length)) (List.replicate (keysOf (cUp n s f l l.length)).length (.bool true))]) 0] [.cptr (.agg [.cmp (some 5) (keysOf (cUp n s f l l.length)) (List.replicate (keysOf (cUp n s f l l.length)).length (.bool true))]) 0] d (by omega) rfl rfl ⟨trivial, trivial, trivial, trivial⟩ (fun _ _ _ _ => rfl) (fun c _ => c_need1 LW _ c) fun ex => ?_)
      repeat ((conv => whnf); first | (refine And.intro (by first | rfl | exact ⟨rfl, rfl⟩ | exact Or.inl ⟨_, rfl⟩ | exact Or.inr rfl | exact le_b rfl | ((repeat' (first | exact Els.nil _ | refine Els.cons rfl rfl ?_)); done) | exact Els.map (fun _ => ⟨rfl, rfl⟩)  | kernel_rfl) ?_) )
      try (conv => whnf)
      exact resP.mk (fzN (cellOk.fzb rfl rfl)) (Sees.of_eq (needL_eq n s f l))
end HM
