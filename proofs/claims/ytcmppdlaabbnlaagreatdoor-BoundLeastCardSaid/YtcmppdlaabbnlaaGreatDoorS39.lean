/- Release, Route, Least and Slack of the reference. -/
import Derived.Test.YtcmppdlaabbnlaaGreatDoorS38
import Derived.Test.YtcmppdlaabbnlaaGreatDoorDa

set_option maxRecDepth 100000
namespace HM
open Go Go.RowKit Go.Proofs
section
variable (L : World → Prop)

theorem c_relative (l : List Int) (rel : Int) (hl : l.length ≤ 1099511627776) (hb : ∀ x ∈ l, 0 ≤ x ∧ x ≤ 4398046511104) (h0 : 0 ≤ rel ∧ rel ≤ 4398046511104) : PCall Tryz.prog L 42 [encIs l, .int .i64 rel] (encIs (l.map (· - rel))) := by
  refine PCall.intro mixed [] (nt := 24) Tryz.func42 rfl rfl (by simp) ?_
  repeat ((conv => whnf); first | (refine And.intro (by first | rfl | exact Or.inl ⟨_, rfl⟩ | exact Or.inr rfl | exact le_b rfl | ((repeat' (first | exact Els.nil _ | refine Els.cons rfl rfl ?_)); done) | exact Els.map (fun _ => ⟨rfl, rfl⟩)  | kernel_rfl) ?_) )
  try (conv => whnf)
  refine LoopK.run mixed [] (fun (k : Nat) => k ≤ l.length) (fun k => [(0, encIs l), (1, .int .i64 rel), (5, .own (((l.take k).map (· - rel)).map encI) 0), (6, .int .i64 k)]) (fun k => ⟨[], [(k, 1)], 0, 0, fun _ => 3⟩) (fun k => l.length - k) 0 (by omega) ?_ ?_
  · refine Fits.mk' rfl rfl rfl rfl ?_ ?_ ?_ ?_ ?_ <;> repeat' (first | exact trivial | refine And.intro ?_ ?_ | exact Sees.of_eq rfl | exact lt_b rfl | rfl )
  rintro k hk
  repeat ((conv => whnf); first | (refine And.intro (by first | rfl | exact Or.inl ⟨_, rfl⟩ | exact Or.inr rfl | exact le_b rfl | ((repeat' (first | exact Els.nil _ | refine Els.cons rfl rfl ?_)); done) | exact Els.map (fun _ => ⟨rfl, rfl⟩)  | kernel_rfl) ?_) )
  try (conv => whnf)
  refine BrK.mk (fun g => ?_) (fun g => ?_) <;> (try rw [g])
  · have hlt : k < l.length := by simpa using g
    obtain ⟨x, hx⟩ := getLt hlt
    have hmx := getMap (f := encI) hx
    have hxb := hb x (List.mem_of_getElem? hx)
    have hw : IntKind.i64.wrap (x - rel) = x - rel := w64 (by omega) (by omega)
    have hkl : (l.take k).length = k := by rw [List.length_take]; omega
    repeat ((conv => whnf); first | (refine And.intro (by first | rfl | exact Or.inl ⟨_, rfl⟩ | exact Or.inr rfl | exact le_b rfl | ((repeat' (first | exact Els.nil _ | refine Els.cons rfl rfl ?_)); done) | exact Els.map (fun _ => ⟨rfl, rfl⟩) | exact inbMap hlt | exact Els.map (f := encI) (fun _ => ⟨rfl, rfl⟩) | exact (show _ * 8 ≤ _ by simp only [List.length_map, List.length_append, List.length_cons, List.length_nil, hkl]; omega) | exact (by simp only [List.length_map, List.length_append, List.length_cons, List.length_nil, maxLen, hkl]; omega) | exact (show some (_, _) = some (_, _) by simp only [List.length_map, hkl]) | kernel_rfl) ?_) | rw [hmx])
    try (conv => whnf)
    refine ⟨k + 1, by omega, by omega, ?_⟩
    refine Fits.mk' rfl rfl rfl rfl ?_ ?_ ?_ ?_ ?_ <;> repeat' (first | exact trivial | refine And.intro ?_ ?_ | exact Sees.of_eq rfl | exact lt_b rfl | rfl | exact Sees.int (succI hlt (by omega)) | exact Sees.own (by rw [take_succ hx, hw]; simp [encI]) | (show (_, _) = (_, _); simp only [List.length_append, List.length_map, List.length_cons, List.length_nil, Nat.add_assoc, hkl]))
  · have hk' : k = l.length := by simp at g; omega
    subst hk'
    repeat ((conv => whnf); first | (refine And.intro (by first | rfl | exact Or.inl ⟨_, rfl⟩ | exact Or.inr rfl | exact le_b rfl | ((repeat' (first | exact Els.nil _ | refine Els.cons rfl rfl ?_)); done) | exact Els.map (fun _ => ⟨rfl, rfl⟩)  | kernel_rfl) ?_) )
    try (conv => whnf)
    exact resP.mk rfl (Sees.sl (by rw [List.take_length]))

theorem slotsUp_step' {n : Net} {s : Sched} {f : Flow} {r : List Int} {rel more : Int} {k : Nat} {o : List Int} {a : Int} (h : slotsUp n s f r rel more k = some (o, a)) {t : List Int} (ht : slotsOn s f (r.getD k 0) (r.getD (k + 1) 0) (needAt n r more k) a (rel + f.period) = t) (hl : t.length = needAt n r more k) : slotsUp n s f r rel more (k + 1) = some (o ++ t, nextA a t) := by
  simp only [slotsUp, h, ht, hl, Nat.lt_irrefl, if_false]
theorem slotsUp_stop' {n : Net} {s : Sched} {f : Flow} {r : List Int} {rel more : Int} {k : Nat} {o : List Int} {a : Int} (h : slotsUp n s f r rel more k = some (o, a)) {t : List Int} (ht : slotsOn s f (r.getD k 0) (r.getD (k + 1) 0) (needAt n r more k) a (rel + f.period) = t) (hl : t.length < needAt n r more k) : slotsUp n s f r rel more (k + 1) = none := by
  simp only [slotsUp, h, ht, hl, if_true]

def sl37 (n : Net) (s : Sched) (f : Flow) : List Ob := [.cells [.int .i64 n.nodes, encRows n.power, .int .i64 n.noise, .int .i64 n.thr, encLinks n.links, encIs n.margin] 26, .cells [.int .i64 s.len, .int .i64 s.offs, encCells s.cells] 29, .cells [.int .i64 f.id, .int .i64 f.src, .int .i64 f.dst, .int .i64 f.period, .int .i64 f.phase, .int .i64 f.dead] 31]
set_option maxHeartbeats 4000000 in
theorem c_Slots37 (n : Net) (s : Sched) (f : Flow) (r : List Int) (rel more : Int) (hn : n.links.length ≤ 281474976710656) (h : WayOk n s f r) (hm0 : 0 ≤ more) (hm1 : more ≤ 8) (hr0 : 0 ≤ rel) (hr1 : rel ≤ 1048576) :
    PCall Tryz.prog L 41 [n.av, s.av, f.av, encIs r, .int .i64 rel, .int .i64 more] (slAV (slotsW n s f r rel more)) := by
  have hlen := h.len
  have hfl := h.flow
  obtain ⟨hsz, hcl, hfm⟩ := form_all h.form
  have hsb := sized_bd hsz
  have hwp : IntKind.i64.wrap (rel + f.period) = rel + f.period := w64 (by omega) (by omega)
  have hwp1 : IntKind.i64.wrap (rel + f.period - 1) = rel + f.period - 1 := w64 (by omega) (by omega)
  refine PCall.intro mixed [] (nt := 75) Tryz.func41 rfl rfl (by simp) ?_
  repeat ((conv => whnf); first | (refine And.intro (by first | rfl | exact Or.inl ⟨_, rfl⟩ | exact Or.inr rfl | exact le_b rfl | ((repeat' (first | exact Els.nil _ | refine Els.cons rfl rfl ?_)); done) | exact Els.map (fun _ => ⟨rfl, rfl⟩)  | kernel_rfl) ?_) )
  try (conv => whnf)
  refine LoopK.run mixed [] (fun st : Nat × List Int × Int => st.1 + 1 ≤ r.length ∧ slotsUp n s f r rel more st.1 = some (st.2.1, st.2.2)) (fun st => [(3, encIs r), (4, .int .i64 rel), (5, .int .i64 more), (6, .ptr 0 0), (7, .ptr 1 0), (8, .ptr 2 0), (14, .own (st.2.1.map encI) 0), (15, .int .i64 st.2.2), (16, .int .i64 (st.1 + 1 : Nat))]) (fun st => ⟨sl37 n s f, [(st.2.1.length, 1)], 0, 0, fun _ => 3⟩) (fun st => r.length - st.1) (0, [], rel) ⟨by simp; omega, rfl⟩ ?_ ?_
  · refine Fits.mk' rfl rfl rfl rfl ?_ ?_ ?_ ?_ ?_ <;> repeat' (first | exact trivial | refine And.intro ?_ ?_ | exact Sees.of_eq rfl | exact lt_b rfl | rfl | exact SeesL.rfl' _)
  rintro ⟨k, o, a⟩ ⟨hk, hup⟩
  simp only at hk hup
  obtain ⟨u1, u2, u3, u4⟩ := slotsUp_ok (by omega) hup
  repeat ((conv => whnf); first | (refine And.intro (by first | rfl | exact Or.inl ⟨_, rfl⟩ | exact Or.inr rfl | exact le_b rfl | ((repeat' (first | exact Els.nil _ | refine Els.cons rfl rfl ?_)); done) | exact Els.map (fun _ => ⟨rfl, rfl⟩)  | kernel_rfl) ?_) )
  try (conv => whnf)
  refine BrK.mk (fun hb => ?_) (fun hb => ?_) <;> (try rw [hb])
  · have hlt : k + 1 < r.length := lenLt hb
    obtain ⟨y, hgy⟩ := getLt hlt
    have hmy := getMap (f := encI) hgy
    obtain ⟨x, hgx⟩ := getLt (l := r) (k := k) (by omega)
    have hmx := getMap (f := encI) hgx
    have hxd : r.getD k 0 = x := by rw [List.getD_eq_getElem?_getD, hgx]; rfl
    have hyd : r.getD (k + 1) 0 = y := by rw [List.getD_eq_getElem?_getD, hgy]; rfl
    have hw : IntKind.i64.wrap (((k + 1 : Nat) : Int) - 1) = (k : Int) := by rw [w64] <;> omega
    obtain ⟨i, l, e1, e2, e3, e4, e5, e6, e7⟩ := h.at hlt
    rw [hxd, hyd] at e1
    have hL : lossL n x y = l.loss := by unfold lossL; rw [e1, Int.toNat_natCast, e2]
    have hnu := h.need hm0 hm1 (k := k) (by omega)
    have hneed : IntKind.i64.wrap (IntKind.i64.wrap (l.loss + 1) + more) = (needAt n r more k : Int) := by rw [w64 (x := l.loss + 1) (by omega) (by omega), w64 (by omega) (by omega), needAt, e7]; omega
    have hnle : needAt n r more k ≤ 16 ∧ 1 ≤ needAt n r more k := by unfold needAt; rw [e7]; omega
    repeat ((conv => whnf); first | (refine And.intro (by first | rfl | exact Or.inl ⟨_, rfl⟩ | exact Or.inr rfl | exact le_b rfl | ((repeat' (first | exact Els.nil _ | refine Els.cons rfl rfl ?_)); done) | exact Els.map (fun _ => ⟨rfl, rfl⟩) | exact inbMap hlt | (rw [hw]; exact inbMap (by omega)) | kernel_rfl) ?_) | rw [hw] | rw [hmx] | rw [hmy])
    try (conv => whnf)
    first | refine CallK.data rfl (c_Loss33 L n hn x y (by omega)) rfl ?_ | refine CallP.data rfl (c_Loss33 L n hn x y (by omega)) rfl ?_
    rw [hL]
    obtain ⟨need, hnd⟩ : ∃ need, need = needAt n r more k := ⟨_, rfl⟩
    repeat ((conv => whnf); first | (refine And.intro (by first | rfl | exact Or.inl ⟨_, rfl⟩ | exact Or.inr rfl | exact le_b rfl | ((repeat' (first | exact Els.nil _ | refine Els.cons rfl rfl ?_)); done) | exact Els.map (fun _ => ⟨rfl, rfl⟩)  | kernel_rfl) ?_) )
    try (conv => whnf)
    rw [hneed, hwp, hwp1, ← hnd]
    rw [← hnd] at hnle
    first | refine CallK.data rfl (c_hop L s f x y a (rel + f.period) need hcl (by omega) (by omega) (by omega) (by omega) (by omega)) rfl ?_ | refine CallP.data rfl (c_hop L s f x y a (rel + f.period) need hcl (by omega) (by omega) (by omega) (by omega) (by omega)) rfl ?_
    have hlt16 := slotsOn_le s f x y need a (rel + f.period)
    have hmem : ∀ z ∈ slotsOn s f x y need a (rel + f.period), a ≤ z ∧ z < rel + f.period := fun z hz => slotsOn_mem hz
    obtain ⟨t, ht⟩ : ∃ t, slotsOn s f x y need a (rel + f.period) = t := ⟨_, rfl⟩
    rw [ht] at hlt16 hmem ⊢
    have ht' : slotsOn s f (r.getD k 0) (r.getD (k + 1) 0) (needAt n r more k) a (rel + f.period) = t := by rw [hxd, hyd, ← hnd, ht]
    repeat ((conv => whnf); first | (refine And.intro (by first | rfl | exact Or.inl ⟨_, rfl⟩ | exact Or.inr rfl | exact le_b rfl | ((repeat' (first | exact Els.nil _ | refine Els.cons rfl rfl ?_)); done) | exact Els.map (fun _ => ⟨rfl, rfl⟩)  | kernel_rfl) ?_) )
    try (conv => whnf)
    refine BrK.mk (fun g1 => ?_) (fun g1 => ?_) <;> (try rw [g1])
    · have hs := slotsUp_stop' hup ht' (by rw [← hnd]; simp at g1; omega)
      repeat ((conv => whnf); first | (refine And.intro (by first | rfl | exact Or.inl ⟨_, rfl⟩ | exact Or.inr rfl | exact le_b rfl | ((repeat' (first | exact Els.nil _ | refine Els.cons rfl rfl ?_)); done) | exact Els.map (fun _ => ⟨rfl, rfl⟩)  | kernel_rfl) ?_) )
      try (conv => whnf)
      exact resP.mk rfl (Sees.of_eq (by rw [slotsW, slotsUp_none hs (by omega)]; rfl))
    · have hlen2 : t.length = need := by simp at g1; omega
      have hs := slotsUp_step' hup ht' (by rw [← hnd]; exact hlen2)
      obtain ⟨z, hz⟩ := Option.isSome_iff_exists.1 (List.getLast?_isSome.2 (show t ≠ [] by rintro rfl; simp at hlen2; omega))
      have hz2 : t[t.length - 1]? = some z := by rw [← List.getLast?_eq_getElem?, hz]
      have hmz := getMap (f := encI) hz2
      have hzb := hmem z (List.mem_of_getLast? hz)
      have hwl : IntKind.i64.wrap (((List.map encI t).length : Int) - 1) = ((t.length - 1 : Nat) : Int) := by rw [w64] <;> simp <;> omega
      have hnx : nextA a t = z + 1 := by rw [nextA, hz]
      repeat ((conv => whnf); first | (refine And.intro (by first | rfl | exact Or.inl ⟨_, rfl⟩ | exact Or.inr rfl | exact le_b rfl | ((repeat' (first | exact Els.nil _ | refine Els.cons rfl rfl ?_)); done) | exact Els.map (fun _ => ⟨rfl, rfl⟩) | exact Els.map (f := encI) (fun _ => ⟨rfl, rfl⟩) | exact (show _ * 8 ≤ _ by simp only [List.length_map]; omega) | exact (by simp only [List.length_map, maxLen]; omega) | exact (show some (_, _) = some (_, _) by simp only [List.length_map]) | (rw [hwl]; exact inbMap (by omega)) | kernel_rfl) ?_) | rw [hwl] | rw [hmz])
      try (conv => whnf)
      refine ⟨(k + 1, o ++ t, nextA a t), ⟨by simp only; omega, hs⟩, by simp only; omega, ?_⟩
      refine Fits.mk' rfl rfl rfl rfl ?_ ?_ ?_ ?_ ?_ <;> repeat' (first | exact trivial | refine And.intro ?_ ?_ | exact Sees.of_eq rfl | exact lt_b rfl | rfl | exact SeesL.rfl' _ | exact Sees.own (by simp) | exact Sees.int (by simp only [hnx]; rw [w64] <;> omega) | exact Sees.int (succI hlt (by omega)) | (show (_, _) = (_, _); simp only [List.length_append, List.length_map]))
  · have hk' : k = r.length - 1 := by have := lenGe hb; omega
    subst hk'
    repeat ((conv => whnf); first | (refine And.intro (by first | rfl | exact Or.inl ⟨_, rfl⟩ | exact Or.inr rfl | exact le_b rfl | ((repeat' (first | exact Els.nil _ | refine Els.cons rfl rfl ?_)); done) | exact Els.map (fun _ => ⟨rfl, rfl⟩)  | kernel_rfl) ?_) )
    try (conv => whnf)
    exact resP.mk rfl (Sees.of_eq (by rw [slotsW, hup]; rfl))
end
end HM
