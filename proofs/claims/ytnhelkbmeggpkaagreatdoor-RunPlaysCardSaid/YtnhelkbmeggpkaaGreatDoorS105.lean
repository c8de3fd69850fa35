/- The reference's attempt, in place. -/
import Derived.Test.YtnhelkbmeggpkaaGreatDoorS104
import Derived.Test.YtnhelkbmeggpkaaGreatDoorS82
import Derived.Test.YtnhelkbmeggpkaaGreatDoorDb
import Derived.Test.YtnhelkbmeggpkaaGreatDoorFh

set_option maxRecDepth 100000
namespace HM
open Go Go.RowKit Go.Proofs

structure At36 (S S1 : St) (ch : Nat) (c : Cell) (ats : List Att) (dv : AV) : Prop where
  old : ∀ (id : Nat) (o : Ob), S.bx[id]? = some o → S1.bx[id]? = some o
  b7 : S1.bx[S.bx.length]? = some (.cells [.own (ats.map Att.av) ch, dv] 41)
  b8 : S1.bx[S.bx.length + 1]? = some (.cells c.av.cells 51)
  b10 : S1.bx[S.bx.length + 2]? = some (.cells [.nils, .nils] 41)
  fr : S1.fr[ch]? = some (ats.length, 8)
  ty : S1.ty ch = 53
theorem At36.fin {S S1 : St} {ch : Nat} {c : Cell} {ats : List Att} {dv : AV} (h : At36 S S1 ch c ats dv) (o : Ob) : ∀ (id : Nat) (o' : Ob), S.bx[id]? = some o' → (S1.setB (S.bx.length + 2) o).bx[id]? = some o' := fun id o' ho => by
  have := (List.getElem?_eq_some_iff.1 ho).1
  rw [St.setB_ne (by omega)]; exact h.old id o' ho
theorem At36.more {S S1 S2 : St} {ch : Nat} {c : Cell} {ats : List Att} {dv : AV} (h : At36 S S1 ch c ats dv) (hx : ∀ (id : Nat) (o : Ob), S1.bx[id]? = some o → S2.bx[id]? = some o) (hf : S2.fr[ch]? = S1.fr[ch]?) (ht : S2.ty ch = S1.ty ch) : At36 S S2 ch c ats dv :=
  ⟨fun id o ho => hx _ _ (h.old id o ho), hx _ _ h.b7, hx _ _ h.b8, hx _ _ h.b10, hf.trans h.fr, ht.trans h.ty⟩
theorem At36.lt {S S1 : St} {ch : Nat} {c : Cell} {ats : List Att} {dv : AV} (h : At36 S S1 ch c ats dv) : S.bx.length + 2 < S1.bx.length := (List.getElem?_eq_some_iff.1 h.b10).1
theorem At36.put {S S1 S2 : St} {ch : Nat} {c : Cell} {ats ats' : List Att} {dv dv' : AV} (h : At36 S S1 ch c ats dv) (hb : S2.bx = S1.bx) (hf : S2.fr[ch]? = some (ats'.length, 8)) (ht : S2.ty ch = 53) : At36 S (S2.setB S.bx.length (.cells [.own (ats'.map Att.av) ch, dv'] 41)) ch c ats' dv' := by
  refine ⟨fun id o ho => ?_, St.setB_get (by rw [hb]; exact h.b7), ?_, ?_, hf, ht⟩
  · have := (List.getElem?_eq_some_iff.1 ho).1
    rw [St.setB_ne (by omega), hb]; exact h.old id o ho
  · rw [St.setB_ne (by omega), hb]; exact h.b8
  · rw [St.setB_ne (by omega), hb]; exact h.b10
theorem deliv_had (r : RunL) (fl fr : Int) : (delivM r fl fr).2 = hadR r.dels fl fr := by
  unfold delivM hadR
  cases h : r.dels.find? fun d => d.flow == fl && d.frame == fr with
  | none =>
    have := List.find?_eq_none.1 h
    symm
    simp only
    rw [List.any_eq_false]
    exact this
  | some d =>
    symm
    simp only
    rw [List.any_eq_true]
    have h9 := List.find?_some (p := fun d : Del => d.flow == fl && d.frame == fr) h
    exact ⟨d, List.mem_of_find?_eq_some h, h9⟩
theorem addF_bx (X : St) (y : Nat × Nat) (e : TypeId) : (X.addF y e).bx = X.bx := rfl
structure FxK (S X : St) (ch : Nat) : Prop where
  fr : X.fr[ch]? = S.fr[ch]?
  ty : X.ty ch = S.ty ch
  le : S.fr.length ≤ X.fr.length
theorem FxK.rfl' (S : St) (ch : Nat) : FxK S S ch := ⟨rfl, rfl, Nat.le_refl _⟩
theorem FxK.addF {S X : St} {ch : Nat} (h : FxK S X ch) (hlt : ch < S.fr.length) (y : Nat × Nat) (e : TypeId) : FxK S (X.addF y e) ch := by
  have hle := h.le
  refine ⟨?_, ?_, ?_⟩
  · show (X.fr ++ [y])[ch]? = _
    rw [List.getElem?_append_left (by omega)]; exact h.fr
  · show updT X.ty X.fr.length e ch = _
    unfold updT
    rw [if_neg (by omega)]; exact h.ty
  · show S.fr.length ≤ (X.fr ++ [y]).length
    rw [List.length_append]; omega
theorem FxK.setF {S X : St} {ch k : Nat} (h : FxK S X ch) (hk : S.fr.length ≤ k) (hlt : ch < S.fr.length) (z : Nat × Nat) : FxK S (X.setF k z) ch := by
  refine ⟨?_, h.ty, ?_⟩
  · show (X.fr.set k z)[ch]? = _
    rw [List.getElem?_set_ne (by omega)]; exact h.fr
  · show S.fr.length ≤ (X.fr.set k z).length
    rw [List.length_set]; exact h.le
theorem lenA (X : St) (y : Nat × Nat) (e : TypeId) : X.fr.length ≤ (X.addF y e).fr.length := by simp [St.addF]
def DV (dv : AV) (ds : List Del) : Prop := dv = .sl false (ds.map Del.av) ∨ ∃ k, dv = .own (ds.map Del.av) k
theorem DV.sees {dv : AV} {ds : List Del} (h : DV dv ds) : Sees dv (.sl false (ds.map Del.av)) := by
  rcases h with rfl | ⟨k, rfl⟩
  · exact Sees.of_eq rfl
  · exact Sees.elems rfl

section
variable (L : World → Prop)
set_option maxHeartbeats 8000000 in
theorem i_attempt36 (S : St) (ch : Nat) (l : List Flow) (x : List Rule) (R : RunL) (c : Cell) (slot : Int) {K : AV → St → Prop} (hl : l.length ≤ 281474976710656) (hs : (scriptM x).2 = 0) (hx : ∀ r ∈ x, r.outs.length ≤ 281474976710656) (hxl : x.length ≤ 281474976710656) (hslot : -9223372036854775808 ≤ slot)
    (hRa : R.atts.length ≤ 1073741824) (hRd : R.dels.length ≤ 1073741824) (hch : S.fr[ch]? = some (R.atts.length, 8)) (hty : S.ty ch = 53)
    (hK : ∀ S', (∀ (id : Nat) (o : Ob), S.bx[id]? = some o → S'.bx[id]? = some o) → S'.fr[ch]? = some ((attemptR l x slot R c).atts.length, 8) → S'.ty ch = 53 → K (.agg [.own ((attemptR l x slot R c).atts.map Att.av) ch, .sl false ((attemptR l x slot R c).dels.map Del.av)]) S') :
    ICall Tryz.prog L 99 [encFlows l, encScript x, .agg [.own (R.atts.map Att.av) ch, .sl false (R.dels.map Del.av)], c.av, .int .i64 slot] S K := by
  have hsame : attemptR l x slot R c = R → ∀ S', (∀ (id : Nat) (o : Ob), S.bx[id]? = some o → S'.bx[id]? = some o) → S'.fr[ch]? = some (R.atts.length, 8) → S'.ty ch = 53 → K (.agg [.own (R.atts.map Att.av) ch, .sl false (R.dels.map Del.av)]) S' := fun h => by rw [h] at hK; exact hK
  refine ICall.intro mixed [1, 16] (nt := 167) Tryz.func99 rfl rfl (by simp) ?_
  repeat ((conv => whnf); first | refine sJ ?_ | refine And.intro (by first | exact trivial | kernel_rfl) ?_ )
  try (conv => whnf)
  refine SeqK.cutN mixed [] [8, 16] (fun (_ : Unit) S1 => At36 S S1 ch c R.atts (.sl false (R.dels.map Del.av))) (fun _ => [(0, encFlows l), (1, encScript x), (4, .int .i64 slot), (7, .ptr S.bx.length 0), (8, .ptr (S.bx.length + 1) 0), (10, .ptr (S.bx.length + 2) 0)]) ?_ ?_
  · repeat ((conv => whnf); first | refine sJ ?_ | refine And.intro (by first | exact trivial | kernel_rfl) ?_ )
    try (conv => whnf)
    refine ⟨(), ⟨fun id o ho => St.addB_old (St.addB_old (St.addB_old (S := S.inner) ho)), ?_, ?_, ?_, hch, hty⟩, Sees.of_eq rfl, Sees.of_eq rfl, Sees.of_eq rfl, Sees.of_eq rfl, Sees.of_eq ?_, Sees.of_eq ?_, trivial⟩
    · exact St.addB_old (St.addB_old (St.addB_get S.inner _))
    · have h9 := St.addB_get (S.inner.addB (.cells [.own (R.atts.map Att.av) ch, .sl false (R.dels.map Del.av)] 41)) (.cells c.av.cells 51)
      rw [St.addB_len] at h9
      exact St.addB_old h9
    · have h9 := St.addB_get ((S.inner.addB (.cells [.own (R.atts.map Att.av) ch, .sl false (R.dels.map Del.av)] 41)).addB (.cells c.av.cells 51)) (.cells [.nils, .nils] 41)
      rw [St.addB_len, St.addB_len] at h9
      exact h9
    · simp only [St.addB_len]; rfl
    · simp only [St.addB_len]; rfl
  rintro ⟨⟩ S1 hA
  have b7 := hA.b7
  have b8 := hA.b8
  have b10 := hA.b10
  repeat ((conv => whnf); first | refine sJ ?_ | refine And.intro (by first | exact trivial | kernel_rfl) ?_ | rw [St.flush_nil] | rw [b7] | rw [b8])
  try (conv => whnf)
  first | refine CallK.data rfl (c_Find32 L l c.flow hl) rfl ?_ | refine CallP.data rfl (c_Find32 L l c.flow hl) rfl ?_
  refine Wk ?_
  refine BrK.mk (fun h1 => ?_) (fun h1 => ?_) <;> (try rw [h1])
  · have heq : attemptR l x slot R c = R := by unfold attemptR; rw [if_pos (by simpa using h1)]
    repeat ((conv => whnf); first | refine sJ ?_ | refine And.intro (by first | exact trivial | kernel_rfl) ?_ | rw [St.flush_nil] | rw [b7] | rw [b10] | rw [St.setB_get b10])
    try (conv => whnf)
    exact hsame heq _ (hA.fin _) hA.fr hA.ty
  obtain ⟨i, f, e1, hf, hid⟩ := findF_at (l := l) (id := c.flow) (by simpa using h1)
  have hil := (List.getElem?_eq_some_iff.1 hf).1
  have hmf := getMap (f := Flow.av) hf
  rw [e1]
  repeat ((conv => whnf); first | refine sJ ?_ | refine And.intro (by first | exact inbMap hil | kernel_rfl) ?_ | rw [hmf])
  try (conv => whnf)
  first | refine CallK.data rfl (c_Current32 L f slot hslot) rfl ?_ | refine CallP.data rfl (c_Current32 L f slot hslot) rfl ?_
  obtain ⟨fr, hfr⟩ : ∃ fr, fr = (curM f slot).1 := ⟨_, rfl⟩
  obtain ⟨ok, hok⟩ : ∃ ok, ok = (curM f slot).2 := ⟨_, rfl⟩
  rw [← hfr, ← hok]
  obtain ⟨o, ho⟩ : ∃ o, o = outcomeM x c.flow fr c.src c.dst (countR R.atts c fr) := ⟨_, rfl⟩
  have hunf : attemptR l x slot R c = if ok = false ∨ c.src = f.dst ∨ holdsR f R.atts c.src fr slot = false ∨ ackedR R.atts c fr slot = true then R else ⟨R.atts ++ [⟨slot, fr, c, o⟩], if c.dst = f.dst ∧ o ≠ 3 ∧ hadR R.dels c.flow fr = false then insD ⟨c.flow, fr, slot⟩ R.dels else R.dels⟩ := by
    rw [ho, hfr, hok]
    unfold attemptR
    rw [if_neg (by omega), e1, Int.toNat_natCast, hf]
  repeat ((conv => whnf); first | refine sJ ?_ | refine And.intro (by first | exact trivial | kernel_rfl) ?_ )
  try (conv => whnf)
  refine BrK.mk (fun g1 => ?_) (fun g1 => ?_) <;> (try rw [g1])
  · have heq : attemptR l x slot R c = R := by rw [hunf, if_pos (.inl (by simpa using g1))]
    repeat ((conv => whnf); first | refine sJ ?_ | refine And.intro (by first | exact trivial | exact inbMap hil | kernel_rfl) ?_ | rw [St.flush_nil] | rw [b7] | rw [b8] | rw [b10] | rw [St.setB_get b10] | rw [hmf])
    try (conv => whnf)
    exact hsame heq _ (hA.fin _) hA.fr hA.ty
  repeat ((conv => whnf); first | refine sJ ?_ | refine And.intro (by first | exact trivial | exact inbMap hil | kernel_rfl) ?_ | rw [St.flush_nil] | rw [b7] | rw [b8] | rw [hmf])
  try (conv => whnf)
  refine BrK.mk (fun g2 => ?_) (fun g2 => ?_) <;> (try rw [g2])
  · have heq : attemptR l x slot R c = R := by rw [hunf, if_pos (.inr (.inl (by simpa using g2)))]
    repeat ((conv => whnf); first | refine sJ ?_ | refine And.intro (by first | exact trivial | exact inbMap hil | kernel_rfl) ?_ | rw [St.flush_nil] | rw [b7] | rw [b8] | rw [b10] | rw [St.setB_get b10] | rw [hmf])
    try (conv => whnf)
    exact hsame heq _ (hA.fin _) hA.fr hA.ty
  repeat ((conv => whnf); first | refine sJ ?_ | refine And.intro (by first | exact trivial | exact inbMap hil | kernel_rfl) ?_ | rw [St.flush_nil] | rw [b7] | rw [b8] | rw [hmf])
  try (conv => whnf)
  first | refine CallK.data rfl (c_holds36 L f R c.src fr slot (by omega)) rfl ?_ | refine CallP.data rfl (c_holds36 L f R c.src fr slot (by omega)) rfl ?_
  refine Wk ?_
  refine BrK.mk (fun g3 => ?_) (fun g3 => ?_) <;> (try rw [g3])
  · have heq : attemptR l x slot R c = R := by rw [hunf, if_pos (.inr (.inr (.inl (by simpa using g3))))]
    repeat ((conv => whnf); first | refine sJ ?_ | refine And.intro (by first | exact trivial | exact inbMap hil | kernel_rfl) ?_ | rw [St.flush_nil] | rw [b7] | rw [b8] | rw [b10] | rw [St.setB_get b10] | rw [hmf])
    try (conv => whnf)
    exact hsame heq _ (hA.fin _) hA.fr hA.ty
  repeat ((conv => whnf); first | refine sJ ?_ | refine And.intro (by first | exact trivial | exact inbMap hil | kernel_rfl) ?_ | rw [St.flush_nil] | rw [b7] | rw [b8] | rw [hmf])
  try (conv => whnf)
  first | refine CallK.data rfl (c_acked36 L R c fr slot (by omega)) rfl ?_ | refine CallP.data rfl (c_acked36 L R c fr slot (by omega)) rfl ?_
  refine Wk ?_
  refine BrK.mk (fun g4 => ?_) (fun g4 => ?_) <;> (try rw [g4])
  · have heq : attemptR l x slot R c = R := by rw [hunf, if_pos (.inr (.inr (.inr (by simpa using g4))))]
    repeat ((conv => whnf); first | refine sJ ?_ | refine And.intro (by first | exact trivial | exact inbMap hil | kernel_rfl) ?_ | rw [St.flush_nil] | rw [b7] | rw [b8] | rw [b10] | rw [St.setB_get b10] | rw [hmf])
    try (conv => whnf)
    exact hsame heq _ (hA.fin _) hA.fr hA.ty
  rw [if_neg (by simp at g1 g2 g3 g4; simp [g1, g2, g3, g4])] at hunf
  obtain ⟨a, ha⟩ : ∃ a : Att, a = ⟨slot, fr, c, o⟩ := ⟨_, rfl⟩
  rw [← ha] at hunf
  repeat ((conv => whnf); first | refine sJ ?_ | refine And.intro (by first | exact trivial | kernel_rfl) ?_ )
  try (conv => whnf)
  refine SeqK.cutN mixed [10007] [9, 16] (fun (b14 : Nat) S2 => At36 S S2 ch c R.atts (.sl false (R.dels.map Del.av)) ∧ S2.bx[b14]? = some (.cells a.av.cells 53) ∧ S.bx.length + 2 < b14) (fun b14 => [(0, encFlows l), (4, .int .i64 slot), (7, .ptr S.bx.length 0), (8, .ptr (S.bx.length + 1) 0), (10, .ptr (S.bx.length + 2) 0), (11, .int .i64 i), (12, .int .i64 fr), (14, .ptr b14 0)]) ?_ ?_
  · repeat ((conv => whnf); first | refine sJ ?_ | refine And.intro (by first | exact trivial | kernel_rfl) ?_ )
    try (conv => whnf)
    refine SemK.regionMix mixed [0, 1, 2, 3, 4, 5, 6, 7, 8, 9, 10, 11, 12, 13, 14, 15, 16] 2 rfl rfl (by decide) rfl ?_
    repeat ((conv => whnf); first | refine sJ ?_ | refine And.intro (by first | exact trivial | kernel_rfl) ?_ | rw [St.flush_nil] | rw [b7] | rw [b8])
    try (conv => whnf)
    first | refine CallK.data rfl (c_count36 L R c fr (by omega)) rfl ?_ | refine CallP.data rfl (c_count36 L R c fr (by omega)) rfl ?_
    repeat ((conv => whnf); first | refine sJ ?_ | refine And.intro (by first | exact trivial | kernel_rfl) ?_ )
    try (conv => whnf)
    first | refine CallK.data rfl (c_Outcome36 L x c.flow fr c.src c.dst (countR R.atts c fr) hs hx hxl) rfl ?_ | refine CallP.data rfl (c_Outcome36 L x c.flow fr c.src c.dst (countR R.atts c fr) hs hx hxl) rfl ?_
    rw [← ho]
    repeat ((conv => whnf); first | refine sJ ?_ | refine And.intro (by first | exact trivial | kernel_rfl) ?_ )
    try (conv => whnf)
    repeat' ((conv => whnf); first | exact trivial | refine sJ ?_ | refine And.intro (by first | exact trivial | ((repeat' (first | exact More.rfl' _ | refine More.addB' ?_ | refine More.setB' ?_ (by first | exact St.len0 _ | exact St.len1 _ _))); done) | kernel_rfl) ?_ | refine And.intro ?_ ?_ | rw [St.flush_nil] | rw [St.addB_get])
    all_goals (conv => whnf)
    refine ⟨S1.bx.length, ⟨hA.more (fun id o' ho' => ?_) rfl rfl, by rw [ha]; exact St.setB_get (St.addB_get S1 _), hA.lt⟩, Sees.of_eq rfl, Sees.of_eq rfl, Sees.of_eq rfl, Sees.of_eq rfl, Sees.of_eq rfl, Sees.of_eq rfl, Sees.of_eq rfl, Sees.of_eq rfl, trivial⟩
    have := (List.getElem?_eq_some_iff.1 ho').1
    rw [St.setB_ne (by omega)]; exact St.addB_old ho'
  rintro b14 S2 ⟨hA2, hb14, hlt14⟩
  have c7 := hA2.b7
  repeat ((conv => whnf); first | refine sJ ?_ | refine And.intro (by first | exact trivial | kernel_rfl) ?_ | rw [St.flush_nil] | rw [c7] | rw [hb14])
  try (conv => whnf)
  refine SeqK.cutN mixed [] [16] (fun (_ : Unit) S3 => At36 S S3 ch c (R.atts ++ [a]) (.sl false (R.dels.map Del.av)) ∧ S3.bx[b14]? = some (.cells a.av.cells 53)) (fun _ => [(0, encFlows l), (4, .int .i64 slot), (7, .ptr S.bx.length 0), (8, .ptr (S.bx.length + 1) 0), (10, .ptr (S.bx.length + 2) 0), (11, .int .i64 i), (12, .int .i64 fr), (14, .ptr b14 0)]) ?_ ?_
  · have hfr2 : ∀ y e, (S2.addF y e).fr[ch]? = some ((R.atts.map Att.av).length, 8) := fun y e => by rw [List.length_map]; exact St.addF_fr hA2.fr
    have hty2 : ∀ y e, (S2.addF y e).ty ch = 53 := fun y e => (St.addF_ty hA2.fr).trans hA2.ty
    have c7' : ∀ y e z, ((S2.addF y e).setF ch z).bx[S.bx.length]? = some (.cells [.own (R.atts.map Att.av) ch, .sl false (R.dels.map Del.av)] 41) := fun _ _ _ => c7
    repeat ((conv => whnf); first | refine sJ ?_ | refine And.intro (by first | exact trivial | exact Els.map (f := Att.av) (fun _ => ⟨rfl, rfl⟩) | exact (show _ * 64 ≤ _ by simp only [List.length_map, List.length_cons, List.length_nil]; omega) | exact (by simp only [List.length_map, List.length_cons, List.length_nil, maxLen]; omega) | exact hfr2 _ _ | exact hty2 _ _ | kernel_rfl) ?_ | rw [St.flush_nil] | rw [c7] | rw [hb14] | rw [c7'])
    try (conv => whnf)
    have h9 := fun (X : St) (hX : X.bx = S2.bx) (hf : X.fr[ch]? = some ((R.atts ++ [a]).length, 8)) (ht : X.ty ch = 53) => hA2.put (ats' := R.atts ++ [a]) (dv' := .sl false (R.dels.map Del.av)) hX hf ht
    refine ⟨(), ⟨?_, ?_⟩, Sees.of_eq rfl, Sees.of_eq rfl, Sees.of_eq rfl, Sees.of_eq rfl, Sees.of_eq rfl, Sees.of_eq rfl, Sees.of_eq rfl, Sees.of_eq rfl, trivial⟩
    · rw [List.map_append] at h9
      refine h9 _ ?_ ?_ ?_
      · rfl
      · rw [St.setF_fr (hfr2 _ _)]
        simp
      · exact hty2 (0, 0) _
    · rw [St.setB_ne (by omega)]
      exact hb14
  rintro ⟨⟩ S3 ⟨hA3, hb3⟩
  have d7 := hA3.b7
  have d8 := hA3.b8
  have haout : a.out = o := by rw [ha]
  repeat ((conv => whnf); first | refine sJ ?_ | refine And.intro (by first | exact trivial | kernel_rfl) ?_ | rw [St.flush_nil] | rw [d7] | rw [d8] | rw [hb3])
  try (conv => whnf)
  first | refine CallK.data rfl (c_Deliv36 L ⟨R.atts ++ [a], R.dels⟩ c.flow fr (by simp only; omega)) rfl ?_ | refine CallP.data rfl (c_Deliv36 L ⟨R.atts ++ [a], R.dels⟩ c.flow fr (by simp only; omega)) rfl ?_
  rw [deliv_had]
  obtain ⟨had, hhad⟩ : ∃ had, had = hadR R.dels c.flow fr := ⟨_, rfl⟩
  rw [show hadR (RunL.mk (R.atts ++ [a]) R.dels).dels c.flow fr = had from hhad.symm]
  rw [← hhad] at hunf
  rw [hunf] at hK
  obtain ⟨ds', hds'⟩ : ∃ ds', ds' = (if c.dst = f.dst ∧ o ≠ 3 ∧ had = false then insD ⟨c.flow, fr, slot⟩ R.dels else R.dels) := ⟨_, rfl⟩
  rw [← hds'] at hK
  repeat ((conv => whnf); first | refine sJ ?_ | refine And.intro (by first | exact trivial | kernel_rfl) ?_ )
  try (conv => whnf)
  refine SeqK.cutNS mixed [15] (fun (_ : Unit) S4 => ∃ dv', DV dv' ds' ∧ At36 S S4 ch c (R.atts ++ [a]) dv') (fun _ => [(7, .ptr S.bx.length 0), (10, .ptr (S.bx.length + 2) 0)]) ?_ ?_
  rotate_left
  · rintro ⟨⟩ S4 ⟨dv', hdv, hA4⟩
    have e7 : ∀ o, (S4.setB S.bx.length o).bx[S.bx.length]? = some o := fun o => St.setB_get hA4.b7
    have e10 : ∀ o, (S4.setB S.bx.length o).bx[S.bx.length + 2]? = some (.cells [.nils, .nils] 41) := fun o => by rw [St.setB_ne (by omega)]; exact hA4.b10
    refine SemK.recast (id := S.bx.length) (.cells [.own ((R.atts ++ [a]).map Att.av) ch, .sl false ((ds').map Del.av)] 41) hA4.b7 rfl ⟨rfl, Sees.rfl' _, hdv.sees, trivial⟩ ?_
    refine twC_sound (ct := []) mixed _ _ _ _ ?_
    repeat ((conv => whnf); first | refine sJ ?_ | refine And.intro (by first | exact trivial | kernel_rfl) ?_ | rw [St.flush_nil] | rw [e7] | rw [e10] | rw [St.setB_get (e10 _)])
    try (conv => whnf)
    have hold : ∀ (o1 o2 : Ob) (id : Nat) (o' : Ob), S.bx[id]? = some o' → ((S4.setB S.bx.length o1).setB (S.bx.length + 2) o2).bx[id]? = some o' := fun o1 o2 id o' ho' => by
      have := (List.getElem?_eq_some_iff.1 ho').1
      rw [St.setB_ne (by omega), St.setB_ne (by omega)]
      exact hA4.old id o' ho'
    exact hK _ (hold _ _) hA4.fr hA4.ty
  repeat ((conv => whnf); first | refine sJ ?_ | refine And.intro (by first | exact trivial | exact inbMap hil | kernel_rfl) ?_ | rw [St.flush_nil] | rw [d7] | rw [d8] | rw [hb3] | rw [hmf])
  try (conv => whnf)
  refine BrK.mk (fun k1 => ?_) (fun k1 => ?_) <;> (try rw [k1])
  · repeat ((conv => whnf); first | refine sJ ?_ | refine And.intro (by first | exact trivial | exact inbMap hil | kernel_rfl) ?_ | rw [St.flush_nil] | rw [d7] | rw [d8] | rw [hb3] | rw [hmf])
    try (conv => whnf)
    refine BrK.mk (fun k2 => ?_) (fun k2 => ?_) <;> (try rw [k2])
    · repeat ((conv => whnf); first | refine sJ ?_ | refine And.intro (by first | exact trivial | exact inbMap hil | kernel_rfl) ?_ | rw [St.flush_nil] | rw [d7] | rw [d8] | rw [hb3] | rw [hmf])
      try (conv => whnf)
      refine BrK.mk (fun k3 => ?_) (fun k3 => ?_) <;> (try rw [k3])
      · have hd : ds' = insD ⟨c.flow, fr, slot⟩ R.dels := by rw [hds', if_pos ⟨by simpa using k1, by rw [← haout]; simpa using k2, by simpa using k3⟩]
        obtain ⟨d, hdd⟩ : ∃ d : Del, d = ⟨c.flow, fr, slot⟩ := ⟨_, rfl⟩
        rw [← hdd] at hd
        have hx5 : ∀ (z w : Ob) (id : Nat) (o' : Ob), S3.bx[id]? = some o' → ((S3.addB z).setB S3.bx.length w).bx[id]? = some o' := fun z w id o' ho' => by
          have := (List.getElem?_eq_some_iff.1 ho').1
          rw [St.setB_ne (by omega)]; exact St.addB_old ho'
        have g7 := fun z w => hx5 z w _ _ d7
        have g8 := fun z w => hx5 z w _ _ d8
        repeat ((conv => whnf); first | refine sJ ?_ | refine And.intro (by first | exact trivial | kernel_rfl) ?_ | rw [St.flush_nil] | rw [d8] | rw [St.addB_get] | rw [g7] | rw [g8])
        try (conv => whnf)
        refine SeqK.cutNS mixed [] (fun (p : Nat) S5 => p ≤ R.dels.length ∧ insD d R.dels = R.dels.take p ++ d :: R.dels.drop p ∧ At36 S S5 ch c (R.atts ++ [a]) (.sl false (R.dels.map Del.av)) ∧ S5.bx[S3.bx.length]? = some (.cells d.av.cells 71)) (fun p => [(7, .ptr S.bx.length 0), (10, .ptr (S.bx.length + 2) 0), (17, .ptr S3.bx.length 0), (18, .int .i64 p)]) ?_ ?_
        rotate_left
        · rintro p S5 ⟨hp, hins, hA5, h17⟩
          have f7 := hA5.b7
          refine SemK.regionFin mixed (fun X => X.bx[S.bx.length]? = some (.cells [.own ((R.atts ++ [a]).map Att.av) ch, .sl false (R.dels.map Del.av)] 41) ∧ X.bx[S3.bx.length]? = some (.cells d.av.cells 71)) [1, 2, 3, 4, 6, 9, 10, 11, 12] 7 rfl rfl (by decide) rfl ⟨f7, h17⟩ ?_
          iterate 9
            conv => whnf
            apply exJ
            · rintro S' K' ⟨hI7, hI17⟩ hh
              repeat ((conv => whnf); first | refine sJ ?_ | refine And.intro (by first | exact trivial | exact Els.map (f := Del.av) (fun _ => ⟨rfl, rfl⟩) | exact (show InC (p : Int) (R.dels.map Del.av).length from ⟨by omega, by simp; omega⟩) | kernel_rfl) ?_ | rw [hI7] | rw [hI17])
              try (conv => whnf)
              exact hh
          have htk : List.drop 0 (List.take (p : Int).toNat (R.dels.map Del.av)) = (R.dels.take p).map Del.av := by rw [List.drop_zero, Int.toNat_natCast, List.map_take]
          have hdk : List.drop (p : Int).toNat (List.take (R.dels.map Del.av).length (R.dels.map Del.av)) = (R.dels.drop p).map Del.av := by rw [List.take_length, Int.toNat_natCast, List.map_drop]
          have hEa : Els (2 + 1) ((R.dels.take p).map Del.av ++ [d.av]) := by
            rw [show (R.dels.take p).map Del.av ++ [d.av] = (R.dels.take p ++ [d]).map Del.av from by simp]
            exact Els.map (f := Del.av) (fun _ => ⟨rfl, rfl⟩)
          have hEm : ∀ l : List Del, Els (2 + 1) (l.map Del.av) := fun l => Els.map (f := Del.av) (fun _ => ⟨rfl, rfl⟩)
          try rw [htk]
          try rw [hdk]
          conv => whnf
          repeat' ((conv => whnf); first | exact trivial | refine sJ ?_ | refine And.intro (by first | exact trivial | exact Els.nil _ | exact hEm _ | exact hEa | exact (show _ * 24 ≤ _ by simp only [List.length_append, List.nil_append, List.length_map, List.length_take, List.length_drop, List.length_cons, List.length_nil]; omega) | exact (by simp only [List.length_append, List.nil_append, List.length_map, List.length_take, List.length_drop, List.length_cons, List.length_nil, maxLen]; omega) | exact Or.inr ⟨f7, h17⟩ | (refine Or.inl ?_; kernel_rfl) | (simp [St.addF, St.setF]; done) | (simp [St.addF, St.setF, updT]; done) | kernel_rfl) ?_ | refine And.intro ?_ ?_ | rw [St.setF_bx] | rw [addF_bx] | rw [f7])
          all_goals (conv => whnf)
          all_goals have hclt : ch < S5.fr.length := (List.getElem?_eq_some_iff.1 hA5.fr).1
          all_goals have hds : [] ++ (R.dels.take p).map Del.av ++ [d.av] ++ (R.dels.drop p).map Del.av = ds'.map Del.av := by rw [hd, hins]; simp
          all_goals have hput := fun (X : St) (hX : X.bx = S5.bx) (hf : FxK S5 X ch) (k : Nat) => hA5.put (S2 := X) (ats' := R.atts ++ [a]) (dv' := .own ([] ++ (R.dels.take p).map Del.av ++ [d.av] ++ (R.dels.drop p).map Del.av) k) hX (hf.fr.trans hA5.fr) (hf.ty.trans hA5.ty)
          all_goals refine ⟨(), ⟨_, ?_, hput _ ?_ ?_ _⟩, Sees.of_eq rfl, Sees.of_eq rfl, trivial⟩
          all_goals first
            | exact rfl
            | exact Or.inr ⟨_, congrArg (fun z => AV.own z _) hds⟩
            | (repeat' (first | exact FxK.rfl' _ _ | refine FxK.addF ?_ hclt _ _ | refine FxK.setF ?_ ?_ hclt _ | exact Nat.le_refl _ | exact lenA _ _ _))
        repeat ((conv => whnf); first | refine sJ ?_ | refine And.intro (by first | exact trivial | kernel_rfl) ?_ | rw [St.flush_nil] | rw [d8] | rw [St.addB_get] | rw [g7] | rw [g8])
        try (conv => whnf)
        refine LoopK.runS mixed [] (fun (p : Nat) S5 => p ≤ R.dels.length ∧ (∀ (j : Nat) e, p ≤ j → R.dels[j]? = some e → laterD d e = true) ∧ At36 S S5 ch c (R.atts ++ [a]) (.sl false (R.dels.map Del.av)) ∧ S5.bx[S3.bx.length]? = some (.cells d.av.cells 71)) (fun p => [(4, .int .i64 slot), (7, .ptr S.bx.length 0), (8, .ptr (S.bx.length + 1) 0), (10, .ptr (S.bx.length + 2) 0), (17, .ptr S3.bx.length 0), (18, .int .i64 p)]) (fun p => p) R.dels.length ⟨Nat.le_refl _, fun j e hj he => ?_, hA3.more (hx5 _ _) rfl rfl, ?_⟩ ?_ ?_
        · have := (List.getElem?_eq_some_iff.1 he).1
          omega
        · rw [hdd]; exact St.setB_get (St.addB_get S3 _)
        · exact ⟨Sees.of_eq rfl, Sees.of_eq rfl, Sees.of_eq rfl, Sees.of_eq rfl, Sees.of_eq rfl, Sees.int (by simp), trivial⟩
        rintro p S5 ⟨hp, hlater, hA5, h17⟩
        have f7 := hA5.b7
        have f8 := hA5.b8
        repeat ((conv => whnf); first | refine sJ ?_ | refine And.intro (by first | exact trivial | kernel_rfl) ?_ | rw [f7] | rw [f8])
        try (conv => whnf)
        refine BrK.mk (fun q1 => ?_) (fun q1 => ?_) <;> (try rw [q1])
        · have hp0 : 0 < p := by simpa using q1
          have hpl : p - 1 < R.dels.length := by omega
          obtain ⟨e, hge⟩ := getLt hpl
          have hme := getMap (f := Del.av) hge
          have hw1 : IntKind.i64.wrap ((p : Int) - 1) = ((p - 1 : Nat) : Int) := by rw [w64] <;> omega
          repeat ((conv => whnf); first | refine sJ ?_ | refine And.intro (by first | exact trivial | (rw [hw1]; exact inbMap hpl) | kernel_rfl) ?_ | rw [St.flush_nil] | rw [f7] | rw [f8] | rw [hw1] | rw [hme])
          try (conv => whnf)
          refine BrK.mk (fun q2 => ?_) (fun q2 => ?_) <;> (try rw [q2])
          · repeat ((conv => whnf); first | refine sJ ?_ | refine And.intro (by first | exact trivial | (rw [hw1]; exact inbMap hpl) | kernel_rfl) ?_ | rw [St.flush_nil] | rw [f7] | rw [f8] | rw [hw1] | rw [hme])
            try (conv => whnf)
            refine BrK.mk (fun q3 => ?_) (fun q3 => ?_) <;> (try rw [q3])
            · have hl : laterD d e = true := by rw [hdd]; unfold laterD; simp only; rw [q2, q3]; rfl
              repeat ((conv => whnf); first | refine sJ ?_ | refine And.intro (by first | exact trivial | kernel_rfl) ?_ | rw [hw1])
              try (conv => whnf)
              refine ⟨p - 1, ⟨by omega, fun j e' hj he' => ?_, hA5, h17⟩, by omega, Sees.of_eq rfl, Sees.of_eq rfl, Sees.of_eq rfl, Sees.of_eq rfl, Sees.of_eq rfl, Sees.int rfl, trivial⟩
              rcases Nat.lt_or_ge j p with hjp | hjp
              · have : j = p - 1 := by omega
                subst this
                rw [hge] at he'; injection he' with he'; rw [← he']; exact hl
              · exact hlater j e' hjp he'
            · have hins := insD_at (d := d) hp hlater (fun e' _ he' => by rw [hge] at he'; injection he' with he'; rw [← he', hdd]; unfold laterD; simp only; rw [q2, q3]; rfl)
              repeat ((conv => whnf); first | refine sJ ?_ | refine And.intro (by first | exact trivial | kernel_rfl) ?_ | rw [St.flush_nil] | rw [f7] | rw [f8])
              try (conv => whnf)
              exact ⟨p, ⟨hp, hins, hA5, h17⟩, Sees.of_eq rfl, Sees.of_eq rfl, Sees.of_eq rfl, Sees.of_eq rfl, trivial⟩
          · have hins := insD_at (d := d) hp hlater (fun e' _ he' => by rw [hge] at he'; injection he' with he'; rw [← he', hdd]; unfold laterD; simp only; rw [q2]; rfl)
            repeat ((conv => whnf); first | refine sJ ?_ | refine And.intro (by first | exact trivial | kernel_rfl) ?_ | rw [St.flush_nil] | rw [f7] | rw [f8])
            try (conv => whnf)
            exact ⟨p, ⟨hp, hins, hA5, h17⟩, Sees.of_eq rfl, Sees.of_eq rfl, Sees.of_eq rfl, Sees.of_eq rfl, trivial⟩
        · have hp0 : p = 0 := by simp at q1; omega
          have hins := insD_at (d := d) hp hlater (fun e' h0 => by omega)
          repeat ((conv => whnf); first | refine sJ ?_ | refine And.intro (by first | exact trivial | kernel_rfl) ?_ | rw [St.flush_nil] | rw [f7] | rw [f8])
          try (conv => whnf)
          exact ⟨p, ⟨hp, hins, hA5, h17⟩, Sees.of_eq rfl, Sees.of_eq rfl, Sees.of_eq rfl, Sees.of_eq rfl, trivial⟩
      · have hd : ds' = R.dels := by rw [hds', if_neg (by simp at k3; simp [k3])]
        repeat ((conv => whnf); first | refine sJ ?_ | refine And.intro (by first | exact trivial | kernel_rfl) ?_ | rw [St.flush_nil] | rw [d7] | rw [d8] | rw [hb3] | rw [hmf])
        try (conv => whnf)
        exact ⟨(), ⟨.sl false (R.dels.map Del.av), .inl (by rw [hd]), hA3⟩, Sees.of_eq rfl, Sees.of_eq rfl, trivial⟩
    · have hd : ds' = R.dels := by rw [hds', if_neg (by rw [← haout]; simp at k2; simp [k2])]
      repeat ((conv => whnf); first | refine sJ ?_ | refine And.intro (by first | exact trivial | kernel_rfl) ?_ | rw [St.flush_nil] | rw [d7] | rw [d8] | rw [hb3] | rw [hmf])
      try (conv => whnf)
      exact ⟨(), ⟨.sl false (R.dels.map Del.av), .inl (by rw [hd]), hA3⟩, Sees.of_eq rfl, Sees.of_eq rfl, trivial⟩
  · have hd : ds' = R.dels := by rw [hds', if_neg (by simp at k1; simp [k1])]
    repeat ((conv => whnf); first | refine sJ ?_ | refine And.intro (by first | exact trivial | kernel_rfl) ?_ | rw [St.flush_nil] | rw [d7] | rw [d8] | rw [hb3] | rw [hmf])
    try (conv => whnf)
    exact ⟨(), ⟨.sl false (R.dels.map Del.av), .inl (by rw [hd]), hA3⟩, Sees.of_eq rfl, Sees.of_eq rfl, trivial⟩
end
end HM
