/- The law on added places. -/
import Derived.Test.YtbmgaapcikpnkaaDoorS22

set_option maxRecDepth 100000
namespace HM
open Go Go.RowKit Go.Proofs

def keyC (c : Cell) : List Int := [c.slot, c.off]
def keysC (l : List Cell) : List (List Int) := l.foldl (fun ks c => setKs ks (keyC c)) []
theorem keysC_take {l : List Cell} {k : Nat} {c : Cell} (h : l[k]? = some c) : keysC (l.take (k + 1)) = setKs (keysC (l.take k)) (keyC c) := by
  rw [take_succ h, keysC, List.foldl_append]; rfl
theorem setKs_mem {ks : List (List Int)} {x y : List Int} : y ∈ setKs ks x ↔ y ∈ ks ∨ y = x := by
  unfold setKs
  cases h : posOf ks x with
  | some i =>
    have := List.mem_of_getElem? (posOf_some h)
    constructor
    · exact .inl
    · rintro (h | rfl)
      · exact h
      · exact this
  | none => simp
theorem setKs_len {ks : List (List Int)} {x : List Int} : (setKs ks x).length = ks.length + if x ∈ ks then 0 else 1 := by
  unfold setKs
  cases h : posOf ks x with
  | some i => rw [if_pos (List.mem_of_getElem? (posOf_some h))]; rfl
  | none => rw [if_neg (posOf_none.1 h)]; simp
theorem setVs_rep {ks : List (List Int)} {x : List Int} {v : AV} : setVs ks (List.replicate ks.length v) x v = List.replicate (setKs ks x).length v := by
  unfold setVs setKs
  cases h : posOf ks x with
  | some i =>
    apply List.ext_getElem?
    intro j
    rw [List.getElem?_set]
    have hi := (List.getElem?_eq_some_iff.1 (posOf_some h)).1
    by_cases e : i = j
    · subst e; simp [hi]
    · rw [if_neg e]
  | none => simp [List.replicate_succ']
theorem keysC_mem {l : List Cell} {i j : Int} : [i, j] ∈ keysC l ↔ takenAt l i j = true := by
  have key : ∀ (l : List Cell) (ks : List (List Int)), [i, j] ∈ l.foldl (fun ks c => setKs ks (keyC c)) ks ↔ [i, j] ∈ ks ∨ takenAt l i j = true := by
    intro l
    induction l with
    | nil => intro ks; simp [takenAt]
    | cons c l ih =>
      intro ks
      rw [List.foldl_cons, ih, setKs_mem]
      unfold takenAt keyC takenC
      simp only [List.any_cons, Bool.or_eq_true, Bool.and_eq_true, beq_iff_eq, List.cons.injEq, and_true]
      constructor
      · rintro ((h | ⟨rfl, rfl⟩) | h)
        · exact .inl h
        · exact .inr (.inl ⟨rfl, rfl⟩)
        · exact .inr (.inr h)
      · rintro (h | ⟨rfl, rfl⟩ | h)
        · exact .inl (.inl h)
        · exact .inl (.inr ⟨rfl, rfl⟩)
        · exact .inr h
  have := key l []
  simpa [keysC] using this

theorem keys_len {l : List Cell} : (keysC l).length ≤ l.length := by
  suffices ∀ (l : List Cell) (ks : List (List Int)), (l.foldl (fun ks c => setKs ks (keyC c)) ks).length ≤ ks.length + l.length by simpa [keysC] using this l []
  intro l
  induction l with
  | nil => intro ks; simp
  | cons c l ih =>
    intro ks
    rw [List.foldl_cons]
    refine Nat.le_trans (ih _) ?_
    rw [setKs_len]
    simp only [List.length_cons]
    split <;> omega

theorem ones_keys {s : Sched} (hb : 1 ≤ s.len ∧ s.len ≤ 512 ∧ 1 ≤ s.offs ∧ s.offs ≤ 16) : ∀ (k : Nat) (l : List Cell) (_ : ∀ c ∈ l, 0 ≤ c.slot ∧ c.slot < s.len ∧ 0 ≤ c.off ∧ c.off < s.offs), k ≤ l.length → onesM (maskM s (l.take k)) + (keysC (l.take k)).length = s.len * s.offs
  | 0, l, _, _ => by
    rw [List.take_zero, onesM_zero ⟨hb.1, hb.2.2.1, hb.2.2.2⟩]
    show _ + ((0 : Nat) : Int) = _
    omega
  | k + 1, l, hl, hk => by
    obtain ⟨c, hc⟩ := getLt (l := l) (k := k) (by omega)
    have ih := ones_keys hb k l hl (by omega)
    have hf := hl c (List.mem_of_getElem? hc)
    have hfull := fullI_le (s := s) hb.2.2.2
    have hml := maskM_len s (l.take k)
    rw [maskM_take hc, keysC_take hc, onesM_step (fun x hx => by have := maskM_bd s _ x hx; omega) (by omega) (by omega), setKs_len]
    have hbit := maskM_bit (s := s) hb.2.2.2 (l.take k) (fun c hc => by have := hl c (List.mem_of_mem_take hc); omega) c.slot.toNat c.off.toNat (by omega) (by omega)
    rw [show ((c.slot.toNat : Nat) : Int) = c.slot by omega, show ((c.off.toNat : Nat) : Int) = c.off by omega] at hbit
    rw [hbit]
    by_cases ht : takenAt (l.take k) c.slot c.off = true
    · rw [if_pos (show keyC c ∈ keysC (l.take k) from keysC_mem.2 ht), ht]
      simp only [Bool.not_true, Bool.false_eq_true, if_false]
      omega
    · rw [if_neg (show ¬ keyC c ∈ keysC (l.take k) from fun h => ht (keysC_mem.1 h))]
      simp only [Bool.not_eq_true] at ht
      rw [ht]
      simp only [Bool.not_false, if_true]
      omega

theorem count_ones {f : List Int} {len offs : Int} (h : checkM f len offs = 0) : countM f = onesM f := by
  obtain ⟨h1, h2, h3, h4, h5, h6⟩ := checkM_ok h
  rw [countM, if_neg (by omega), if_neg]
  · rfl
  · rw [Bool.not_eq_true, List.any_eq_false]
    intro x hx
    have := h6 x hx
    have hp : (2 : Int) ^ offs.toNat ≤ 2 ^ 16 := by
      have : (2 : Nat) ^ offs.toNat ≤ 2 ^ 16 := Nat.pow_le_pow_right (by omega) (by omega)
      have h2 : ((2 ^ offs.toNat : Nat) : Int) ≤ ((2 ^ 16 : Nat) : Int) := Int.ofNat_le.2 this
      simpa using h2
    have e : (2 : Int) ^ (16 : Int).toNat = 65536 := by decide
    simp [outB]
    omega

def saSl (s : Sched) : List (Nat × AV) := [(1, .ptr 0 0), (2, .bool false), (3, encIs (maskM s s.cells)), (4, .int .i64 0), (5, .mp 1), (40, encCells s.cells), (41, .int .i64 s.cells.length)]
def saBx (s : Sched) (k : Nat) : List Ob :=
  [.cells [.int .i64 s.len, .int .i64 s.offs, encCells s.cells] 24, .map (some 2) (keysC (s.cells.take k)) (List.replicate (keysC (s.cells.take k)).length (.bool true))]

theorem okks_rep {k m n : Nat} {e : AV} (h : e.okk k m) : okks k m (List.replicate n e) := by
  induction n with
  | zero => trivial
  | succ n ih => exact ⟨h, ih⟩

set_option maxHeartbeats 4000000 in
theorem c_SpareAdds (s : Sched) : PCall Tryd.prog LW 4 [s.av] (.bool true) := by
  refine PCall.intro mixed [] (nt := 91) Tryd.func4 rfl rfl (by simp) ?_
  repeat ((conv => whnf); first | (refine And.intro (by first | rfl | exact Or.inl ⟨_, rfl⟩ | exact Or.inr rfl | exact le_b rfl | ((repeat' (first | exact Els.nil _ | refine Els.cons rfl rfl ?_)); done) | exact Els.map (fun _ => ⟨rfl, rfl⟩)  | kernel_rfl) ?_) )
  try (conv => whnf)
  first | refine CallK.data rfl (c_awake) rfl ?_ | refine CallP.data rfl (c_awake) rfl ?_
  repeat ((conv => whnf); first | (refine And.intro (by first | rfl | exact Or.inl ⟨_, rfl⟩ | exact Or.inr rfl | exact le_b rfl | ((repeat' (first | exact Els.nil _ | refine Els.cons rfl rfl ?_)); done) | exact Els.map (fun _ => ⟨rfl, rfl⟩)  | kernel_rfl) ?_) )
  try (conv => whnf)
  refine BrK.mk (fun g1 => ?_) (fun g1 => ?_) <;> (try rw [g1])
  · repeat ((conv => whnf); first | (refine And.intro (by first | rfl | exact Or.inl ⟨_, rfl⟩ | exact Or.inr rfl | exact le_b rfl | ((repeat' (first | exact Els.nil _ | refine Els.cons rfl rfl ?_)); done) | exact Els.map (fun _ => ⟨rfl, rfl⟩)  | kernel_rfl) ?_) )
    try (conv => whnf)
    exact resP.mk rfl (Sees.of_eq rfl)
  have hcl : s.cells.length ≤ 40 := by simp at g1; omega
  repeat ((conv => whnf); first | (refine And.intro (by first | rfl | exact Or.inl ⟨_, rfl⟩ | exact Or.inr rfl | exact le_b rfl | ((repeat' (first | exact Els.nil _ | refine Els.cons rfl rfl ?_)); done) | exact Els.map (fun _ => ⟨rfl, rfl⟩)  | kernel_rfl) ?_) )
  try (conv => whnf)
  first | refine CallK.data rfl (c_Free s) rfl ?_ | refine CallP.data rfl (c_Free s) rfl ?_
  by_cases hform : formB s = true
  case neg =>
    rw [freeM, if_neg hform]
    repeat ((conv => whnf); first | (refine And.intro (by first | rfl | exact Or.inl ⟨_, rfl⟩ | exact Or.inr rfl | exact le_b rfl | ((repeat' (first | exact Els.nil _ | refine Els.cons rfl rfl ?_)); done) | exact Els.map (fun _ => ⟨rfl, rfl⟩)  | kernel_rfl) ?_) )
    try (conv => whnf)
    exact resP.mk rfl (Sees.of_eq rfl)
  have hfr : freeM s = (maskM s s.cells, 0) := by rw [freeM, if_pos hform]
  rw [hfr]
  obtain ⟨hs1, hs2, hs3⟩ := form_all hform
  have hsz := sized_bd hs1
  have hml := maskM_len s s.cells
  have hlm : (maskM s s.cells).length ≤ 281474976710656 := by rw [hml]; omega
  have hck := check_mask hform
  repeat ((conv => whnf); first | (refine And.intro (by first | rfl | exact Or.inl ⟨_, rfl⟩ | exact Or.inr rfl | exact le_b rfl | ((repeat' (first | exact Els.nil _ | refine Els.cons rfl rfl ?_)); done) | exact Els.map (fun _ => ⟨rfl, rfl⟩)  | kernel_rfl) ?_) )
  try (conv => whnf)
  first | refine CallK.data rfl (c_scheck LW (maskM s s.cells) s.len s.offs hlm) rfl ?_ | refine CallP.data rfl (c_scheck LW (maskM s s.cells) s.len s.offs hlm) rfl ?_
  rw [hck]
  repeat ((conv => whnf); first | (refine And.intro (by first | rfl | exact Or.inl ⟨_, rfl⟩ | exact Or.inr rfl | exact le_b rfl | ((repeat' (first | exact Els.nil _ | refine Els.cons rfl rfl ?_)); done) | exact Els.map (fun _ => ⟨rfl, rfl⟩)  | kernel_rfl) ?_) )
  try (conv => whnf)
  rw [show (((List.map encI (maskM s s.cells, (0 : Int)).fst).length : Int) != s.len) = false from by
    simp only [List.length_map, hml, bne_eq_false_iff_eq]
    omega]
  repeat ((conv => whnf); first | (refine And.intro (by first | rfl | exact Or.inl ⟨_, rfl⟩ | exact Or.inr rfl | exact le_b rfl | ((repeat' (first | exact Els.nil _ | refine Els.cons rfl rfl ?_)); done) | exact Els.map (fun _ => ⟨rfl, rfl⟩)  | kernel_rfl) ?_) )
  try (conv => whnf)
  refine LoopK.run mixed [] (fun (k : Nat) => k ≤ s.cells.length) (fun k => (42, .int .i64 k) :: saSl s) (fun k => ⟨saBx s k, [], 0, 0, fun _ => 0⟩) (fun k => s.cells.length - k) 0 (by simp) ?_ ?_
  · refine Fits.mk' rfl rfl rfl rfl ?_ ?_ ?_ ?_ ?_ <;> repeat' (first | exact trivial | refine And.intro ?_ ?_ | exact Sees.of_eq rfl | exact lt_b rfl | rfl | exact Sees.int (by simp))
  rintro k hk
  repeat ((conv => whnf); first | (refine And.intro (by first | rfl | exact Or.inl ⟨_, rfl⟩ | exact Or.inr rfl | exact le_b rfl | ((repeat' (first | exact Els.nil _ | refine Els.cons rfl rfl ?_)); done) | exact Els.map (fun _ => ⟨rfl, rfl⟩)  | kernel_rfl) ?_) )
  try (conv => whnf)
  refine BrK.mk (fun hb => ?_) (fun hb => ?_) <;> (try rw [hb])
  · have hlt : k < s.cells.length := by simpa using hb
    obtain ⟨c, hgx⟩ := getLt hlt
    have hmx := getMap (f := Cell.av) hgx
    have hfd := formed_bd (hs3 c (List.mem_of_getElem? hgx))
    obtain ⟨x, y, sr, ds, fl⟩ := c
    simp only at hfd
    obtain ⟨i, rfl⟩ : ∃ i : Nat, x = i := ⟨x.toNat, by omega⟩
    obtain ⟨j, rfl⟩ : ∃ j : Nat, y = j := ⟨y.toNat, by omega⟩
    obtain ⟨m, hm⟩ := getLt (l := maskM s s.cells) (k := i) (by omega)
    have hm2 := getMap (f := encI) hm
    have hmb := maskM_bd s s.cells m (List.mem_of_getElem? hm)
    have hfull := fullI_le (s := s) hsz.2.2.2
    have hbit := maskM_bit (s := s) hsz.2.2.2 s.cells (fun c hc => by have := formed_bd (hs3 c hc); omega) i j (by omega) (by omega)
    rw [show takenAt s.cells i j = true from List.any_eq_true.2 ⟨_, List.mem_of_getElem? hgx, by simp [takenC]⟩] at hbit
    have hb1 : (bitI m j == 1) = false := by
      unfold bitAt at hbit
      rw [List.getD_eq_getElem?_getD, hm] at hbit
      simpa using hbit
    have es := shr_and (m := m) (k := j) hmb.1 (by omega) (by omega)
    have e1 : decide ((i : Int) < 0) = false := decide_eq_false (by omega)
    have e2 : decide (((List.map encI (maskM s s.cells)).length : Int) ≤ (i : Int)) = false := decide_eq_false (by rw [List.length_map]; omega)
    have e3 : decide ((j : Int) < 0) = false := decide_eq_false (by omega)
    have ek : setKs (keysC (s.cells.take k)) [(i : Int), (j : Int)] = keysC (s.cells.take (k + 1)) := (keysC_take hgx).symm
    have ev : setVs (keysC (s.cells.take k)) (List.replicate (keysC (s.cells.take k)).length (.bool true)) [(i : Int), (j : Int)] (.bool true) = List.replicate (keysC (s.cells.take (k + 1))).length (.bool true) := by rw [setVs_rep, ek]
    repeat ((conv => whnf); first | (refine And.intro (by first | rfl | exact Or.inl ⟨_, rfl⟩ | exact Or.inr rfl | exact le_b rfl | ((repeat' (first | exact Els.nil _ | refine Els.cons rfl rfl ?_)); done) | exact Els.map (fun _ => ⟨rfl, rfl⟩) | exact inbMap hlt | exact inbMap (by omega) | exact (show (0 : Int) ≤ (j : Int) by omega) | kernel_rfl) ?_) | rw [hmx] | rw [e1] | rw [e2] | rw [e3] | rw [hm2] | rw [es] | rw [hb1])
    try (conv => whnf)
    refine ⟨k + 1, by omega, by omega, ?_⟩
    refine Fits.mk' rfl rfl rfl rfl ?_ ?_ ?_ ?_ ?_ <;> repeat' (first | exact trivial | refine And.intro ?_ ?_ | exact Sees.of_eq rfl | exact lt_b rfl | rfl | exact Sees.int (succI hlt (by omega)) | exact ek | exact SeesL.of_eq ev | exact okks_rep trivial)
  · have hk' : k = s.cells.length := by simp at hb; omega
    subst hk'
    repeat ((conv => whnf); first | (refine And.intro (by first | rfl | exact Or.inl ⟨_, rfl⟩ | exact Or.inr rfl | exact le_b rfl | ((repeat' (first | exact Els.nil _ | refine Els.cons rfl rfl ?_)); done) | exact Els.map (fun _ => ⟨rfl, rfl⟩)  | kernel_rfl) ?_) )
    try (conv => whnf)
    first | refine CallK.data rfl (c_count LW (maskM s s.cells) hlm) rfl ?_ | refine CallP.data rfl (c_count LW (maskM s s.cells) hlm) rfl ?_
    repeat ((conv => whnf); first | (refine And.intro (by first | rfl | exact Or.inl ⟨_, rfl⟩ | exact Or.inr rfl | exact le_b rfl | ((repeat' (first | exact Els.nil _ | refine Els.cons rfl rfl ?_)); done) | exact Els.map (fun _ => ⟨rfl, rfl⟩)  | kernel_rfl) ?_) )
    try (conv => whnf)
    refine resP.mk rfl (Sees.bool ?_)
    have hkey := ones_keys hsz s.cells.length s.cells (fun c hc => formed_bd (hs3 c hc)) (Nat.le_refl _)
    rw [count_ones hck]
    rw [List.take_length] at hkey ⊢
    rw [hkey]
    exact beq_self_eq_true _
end HM
