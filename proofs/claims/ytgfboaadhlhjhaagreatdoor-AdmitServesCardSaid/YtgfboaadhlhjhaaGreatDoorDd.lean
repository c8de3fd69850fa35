/- What was placed leaves a schedule valid, and the cells of others as they were. -/
import Derived.Test.YtgfboaadhlhjhaaGreatDoorDc
import Derived.Test.YtgfboaadhlhjhaaGreatDoorDb
namespace HM
open Go Go.RowKit
structure GVal (n : Net) (l : List Flow) (s : Sched) : Prop where
  grid : GridOk s
  cell : ∀ c ∈ s.cells, placedB s c = true ∧ goodL n c.src c.dst = true ∧ idsB l c.flow = true
  rest : AllRest (cellR2 n) s.cells
theorem VOk.gval {n : Net} {l l' : List Flow} {s : Sched} (h : VOk n l s) (hl : ∀ id, idsB l id = true → idsB l' id = true) : GVal n l' s where
  grid := h.grid
  cell := fun c hc => by
    obtain ⟨i, hi⟩ := List.getElem?_of_mem hc
    obtain ⟨h1, h2, h3, _⟩ := h.cell i c hi
    exact ⟨h1, h2, hl _ h3⟩
  rest := h.rest
theorem good_ends {n : Net} (hok : NetOk n) {a b : Int} (h : goodL n a b = true) : 0 ≤ a ∧ a < 32 ∧ 0 ≤ b ∧ b < 32 ∧ a ≠ b := by
  unfold goodL at h
  simp only [Bool.and_eq_true, decide_eq_true_eq] at h
  obtain ⟨k, l, e1, e2, e3, e4⟩ := findL_at h.1.1.1
  have hb := linkR_bd (hok.link k l e2).1
  have hn := hok.nodes
  rw [← e3, ← e4]
  omega
theorem GVal.slot {n : Net} {l : List Flow} {s : Sched} (h0 : netE n = 0) (h : GVal n l s) {a b id k : Int} (hg : goodL n a b = true) (hid : idsB l id = true) (hk : 0 ≤ k ∧ k < s.len) : GVal n l (slotM n s a b id k).1 := by
  have hgs := gridOk_slot (n := n) h.grid (good_ends (netE_ok h0) hg) id k
  unfold slotM at hgs ⊢
  split
  · exact h
  · rename_i hno
    rw [if_neg hno] at hgs
    split
    · rename_i o ho
      rw [ho] at hgs
      have hfit : fitsM n s ⟨k, o, a, b, id⟩ = true := by
        unfold roomF at ho
        have := List.find?_some ho
        rwa [fits_flow (fm := id)] at this
      have hol : o < s.offs.toNat := by
        unfold roomF at ho
        exact List.mem_range.1 (List.mem_of_find?_eq_some ho)
      have hall : ∀ d ∈ (⟨k, o, a, b, id⟩ : Cell) :: s.cells, goodL n d.src d.dst = true := fun d hd => by
        rcases List.mem_cons.1 hd with rfl | hd
        · exact hg
        · exact (h.cell d hd).2.1
      have hr := (fits_rest h0 hall h.rest).1 hfit
      refine ⟨hgs, fun c hc => ?_, AllRest.perm (fun c r r' => cellR2_perm c r r') hr (insAt_perm _ _ _).symm⟩
      rcases insAt_mem.1 hc with rfl | hc
      · refine ⟨?_, hg, hid⟩
        show (insB k s.len && insB (o : Int) s.offs) = true
        simp only [insB, Bool.and_eq_true, decide_eq_true_eq]
        omega
      · exact h.cell c hc
    · exact h
theorem GVal.fill {n : Net} {l : List Flow} (h0 : netE n = 0) {a b id : Int} (hg : goodL n a b = true) (hid : idsB l id = true) : ∀ (d : Nat) {s : Sched} (_ : GVal n l s) (_ : 1 ≤ s.len) (left : Nat) (t : Int), GVal n l (fillM n a b id d s left t).1
  | 0, _, h, _, _, _ => h
  | d + 1, s, h, hl, left, t => by
    rw [fillM]
    split
    · exact h
    · refine GVal.fill h0 hg hid d (h.slot h0 hg hid ⟨Int.emod_nonneg _ (by omega), Int.emod_lt_of_pos _ (by omega)⟩) ?_ _ _
      rw [(slotM_len ..).1]; exact hl
theorem GVal.rel {n : Net} {l : List Flow} (h0 : netE n = 0) {f : Flow} {r : List Int} {stop : Int} (hop : HopsOk n r) (hid : idsB l f.id = true) : ∀ {k : Nat} {s s1 : Sched} {t t1 : Int}, k + 1 ≤ r.length → relA n f r stop k s t = some (s1, t1) → GVal n l s → 1 ≤ s.len → GVal n l s1
  | 0, s, s1, t, t1, _, h, hg, _ => by
    simp only [relA, Option.some.injEq, Prod.mk.injEq] at h
    rw [← h.1]; exact hg
  | k + 1, s, s1, t, t1, hk, h, hg, hl => by
    rw [relA] at h
    split at h
    · cases h
    · rename_i s0 t0 hr0
      split at h
      · cases h
      · injection h with h
        injection h with h1 h2
        rw [← h1]
        exact GVal.fill h0 (hop k (by omega)) hid _ (GVal.rel h0 hop hid (by omega) hr0 hg hl) (by rw [relA_len hr0]; exact hl) _ _
theorem GVal.rels {n : Net} {l : List Flow} (h0 : netE n = 0) {f : Flow} {r : List Int} (hr : 1 ≤ r.length) (hop : HopsOk n r) (hid : idsB l f.id = true) : ∀ {k : Nat} {s s1 : Sched}, relsA n f r k s = some s1 → GVal n l s → 1 ≤ s.len → GVal n l s1
  | 0, s, s1, h, hg, _ => by
    have : s = s1 := by simpa [relsA] using h
    rw [← this]; exact hg
  | k + 1, s, s1, h, hg, hl => by
    rw [relsA] at h
    split at h
    · cases h
    · rename_i s0 hr0
      cases hx : relA n f r (atA f k + f.dead) (r.length - 1) s0 (atA f k) with
      | none => rw [hx] at h; cases h
      | some p =>
        rw [hx] at h
        simp only [Option.map_some, Option.some.injEq] at h
        subst h
        exact GVal.rel (t1 := p.2) h0 hop hid (by omega) hx (GVal.rels h0 hr hop hid hr0 hg hl) (by rw [(relsA_more hr0).len]; exact hl)
theorem GVal.place {n : Net} {l : List Flow} (h0 : netE n = 0) {f : Flow} {N : Nat} (hid : idsB l f.id = true) : ∀ {rs : List (List Int)} {s s1 : Sched}, (∀ r ∈ rs, 1 ≤ r.length ∧ HopsOk n r) → placeA n f N rs s = some s1 → GVal n l s → 1 ≤ s.len → GVal n l s1
  | [], s, s1, _, h, hg, _ => by
    have : s = s1 := by simpa [placeA] using h
    rw [← this]; exact hg
  | r :: rs, s, s1, hrs, h, hg, hl => by
    rw [placeA] at h
    split at h
    · cases h
    · rename_i s0 hr0
      obtain ⟨h1, h2⟩ := hrs r (List.mem_cons_self ..)
      exact GVal.place h0 hid (fun x hx => hrs x (List.mem_cons_of_mem _ hx)) h (GVal.rels h0 h1 h2 hid hr0 hg hl) (by rw [(relsA_more hr0).len]; exact hl)
theorem GVal.valid {n : Net} {l : List Flow} {s : Sched} (h : GVal n l s) (h0 : netE n = 0) (hf : (flowsE n.nodes l).2 = 0) (hz : sizedB s = true) (hp : ∀ f ∈ l, s.len % f.period = 0) (hm : s.cells.length ≤ 512) : (schedE n l s).2 = 0 :=
  schedE_of h0 hf hz hp hm (fun i c hc => by
    obtain ⟨h1, h2, h3⟩ := h.cell c (List.mem_of_getElem? hc)
    refine ⟨h1, h2, h3, ?_⟩
    unfold ordC
    cases i with
    | zero => rfl
    | succ j =>
      simp only
      cases hp : s.cells[j]? with
      | none => rfl
      | some p => exact decide_eq_true (sorted_of h.grid.sorted j (j + 1) p c (by omega) hp hc)) h.rest
theorem insAt_drop {α : Type} (l : List α) (p : Nat) (x : α) {q : α → Bool} (hx : q x = false) : (insAt l p x).filter q = l.filter q := by
  unfold insAt
  rw [List.filter_append, List.filter_cons, if_neg (by rw [hx]; decide), ← List.filter_append, List.take_append_drop]
def othF (id : Int) (s : Sched) : List Cell := s.cells.filter fun c => c.flow != id
theorem slotM_oth (n : Net) (s : Sched) (a b id k : Int) : othF id (slotM n s a b id k).1 = othF id s := by
  unfold slotM putM othF
  split
  · rfl
  · split
    · exact insAt_drop _ _ _ (by simp)
    · rfl
theorem fillM_oth (n : Net) (a b id : Int) : ∀ (d : Nat) (s : Sched) (left : Nat) (t : Int), othF id (fillM n a b id d s left t).1 = othF id s
  | 0, _, _, _ => rfl
  | d + 1, s, left, t => by
    rw [fillM]
    split
    · rfl
    · exact (fillM_oth n a b id d _ _ _).trans (slotM_oth ..)
theorem relA_oth {n : Net} {f : Flow} {r : List Int} {stop : Int} : ∀ {k : Nat} {s s1 : Sched} {t t1 : Int}, relA n f r stop k s t = some (s1, t1) → othF f.id s1 = othF f.id s
  | 0, s, s1, t, t1, h => by
    simp only [relA, Option.some.injEq, Prod.mk.injEq] at h
    rw [h.1]
  | k + 1, s, s1, t, t1, h => by
    rw [relA] at h
    split at h
    · cases h
    · rename_i s0 t0 h0
      split at h
      · cases h
      · injection h with h
        injection h with h1 h2
        rw [← h1]
        exact (fillM_oth ..).trans (relA_oth h0)
theorem relsA_oth {n : Net} {f : Flow} {r : List Int} : ∀ {k : Nat} {s s1 : Sched}, relsA n f r k s = some s1 → othF f.id s1 = othF f.id s
  | 0, s, s1, h => by
    have : s = s1 := by simpa [relsA] using h
    rw [this]
  | k + 1, s, s1, h => by
    rw [relsA] at h
    split at h
    · cases h
    · rename_i s0 h0
      cases hx : relA n f r (atA f k + f.dead) (r.length - 1) s0 (atA f k) with
      | none => rw [hx] at h; cases h
      | some p =>
        rw [hx] at h
        simp only [Option.map_some, Option.some.injEq] at h
        subst h
        exact (relA_oth (t1 := p.2) hx).trans (relsA_oth h0)
theorem placeA_oth {n : Net} {f : Flow} {N : Nat} : ∀ {l : List (List Int)} {s s1 : Sched}, placeA n f N l s = some s1 → othF f.id s1 = othF f.id s
  | [], s, s1, h => by
    have : s = s1 := by simpa [placeA] using h
    rw [this]
  | r :: l, s, s1, h => by
    rw [placeA] at h
    split at h
    · cases h
    · rename_i s0 h0
      exact (placeA_oth h).trans (relsA_oth h0)
theorem placeA_offs {n : Net} {f : Flow} {N : Nat} (hok : NetOk n) {l : List (List Int)} {s s1 : Sched} (hl : ∀ r ∈ l, (1 ≤ r.length ∧ r.length ≤ 9) ∧ HopsOk n r) (h : placeA n f N l s = some s1) (hg : GridOk s) : s1.len = s.len ∧ s1.offs = s.offs :=
  ⟨(placeA_ok hok hl h hg).2.1, (placeA_ok hok hl h hg).2.2.1⟩
theorem oth_all {n : Net} {l : List Flow} {s : Sched} (h : VOk n l s) {id : Int} (hid : idsB l id = false) : othF id s = s.cells := by
  unfold othF
  refine List.filter_eq_self.2 fun c hc => ?_
  obtain ⟨i, hi⟩ := List.getElem?_of_mem hc
  have h3 := (h.cell i c hi).2.2.1
  rw [bne_iff_ne]
  intro he
  rw [he, hid] at h3; cases h3
theorem cellsL_oth {s t : Sched} {id : Int} (h : othF id t = othF id s) {f : Flow} (hf : f.id ≠ id) (a b : Int) : cellsL t f a b = cellsL s f a b := by
  have key : ∀ u : Sched, cellsL u f a b = (othF id u).filter fun c => !offL f.id a b c := fun u => by
    unfold cellsL othF
    rw [List.filter_filter]
    refine List.filter_congr fun c _ => ?_
    cases ho : offL f.id a b c with
    | true => simp
    | false =>
      unfold offL at ho
      simp only [Bool.or_eq_false_iff, bne_eq_false_iff_eq] at ho
      simp [ho.1.1, hf]
  rw [key t, key s, h]
theorem slotsUp_eq {n : Net} {s t : Sched} {f : Flow} {r : List Int} {rel more : Int} (hl : t.len = s.len) (h : ∀ a b, cellsL t f a b = cellsL s f a b) : ∀ k : Nat, slotsUp n t f r rel more k = slotsUp n s f r rel more k
  | 0 => rfl
  | k + 1 => by
    rw [slotsUp, slotsUp, slotsUp_eq hl h k]
    unfold slotsOn
    rw [hl]
    simp only [h]
theorem boundUp_eq {n : Net} {s t : Sched} {f : Flow} {r : List Int} {more : Int} (hl : t.len = s.len) (h : ∀ a b, cellsL t f a b = cellsL s f a b) : ∀ k : Nat, boundUp n t f r more k = boundUp n s f r more k
  | 0 => rfl
  | k + 1 => by
    have hr : relR n t f r more (f.phase + k * f.period) = relR n s f r more (f.phase + k * f.period) := by
      unfold relR slotsW
      rw [slotsUp_eq hl h]
    rw [boundUp, boundUp, boundUp_eq hl h k, hr]
theorem boundR_eq {n : Net} {s t : Sched} {f : Flow} {r : List Int} {more : Int} (hl : t.len = s.len) (h : ∀ a b, cellsL t f a b = cellsL s f a b) : boundR n t f r more = boundR n s f r more := by
  unfold boundR relsN
  rw [hl]
  exact boundUp_eq hl h _
theorem routeM_eq {n : Net} {s t : Sched} {f : Flow} {r : List Int} (hl : t.len = s.len) (hs : formB s = true) (ht : formB t = true) (h : ∀ a b, cellsL t f a b = cellsL s f a b) : routeM n t f r = routeM n s f r := by
  have hw : wayE n t f r = wayE n s f r := by unfold wayE; rw [hs, ht, hl]
  unfold routeM
  rw [hw, boundR_eq hl h]
theorem claimM_eq {n : Net} {s t : Sched} {y : Req} (h : ∀ r, routeM n t y.flow r = routeM n s y.flow r) : claimM n t y = claimM n s y ∧ claimB n t y = claimB n s y := by
  have h1 : claimB n t y = claimB n s y := by
    unfold claimB
    congr 1
    funext r
    unfold srvB
    rw [h]
  refine ⟨?_, h1⟩
  unfold claimM claimT
  rw [h1]
  simp only [h]
end HM
namespace HM
open Go Go.RowKit
theorem ids_up {n : Net} {q : List Req} (h : (reqE n q).2 = 0) : q.Pairwise fun a b => a.flow.id < b.flow.id := by
  have h1 := flows_sorted (reqE_ok h).2.2.2
  unfold flowsQ at h1
  exact List.Pairwise.of_map Req.flow (fun a b h => h) h1
theorem make_parts {n : Net} {q : List Req} {s : Sched} (h : (makeM n q s).2.2 = 0) : (reqE n q).2 = 0 ∧ VOk n (flowsQ q) s ∧ (∀ y ∈ q, claimB n s y = true) ∧ makeM n q s = (q.map (claimM n s), -1, 0) := by
  unfold makeM at h ⊢
  split at h
  · rename_i hh; exact absurd h hh
  rename_i h1
  rw [if_neg h1]
  split at h
  · cases h
  rename_i h2
  rw [if_neg h2]
  split at h
  · rename_i hh; exact absurd h hh
  rename_i h3
  rw [if_neg h3]
  refine ⟨by omega, schedE_ok (by omega), fun y hy => ?_, rfl⟩
  obtain ⟨k, hk⟩ := List.getElem?_of_mem hy
  have h4 := firstAt_ok.1 (show (firstAt (lateAt n s q) q.length).2 = 0 by omega) k (List.getElem?_eq_some_iff.1 hk).1
  unfold lateAt at h4
  rw [hk] at h4
  simp only at h4
  split at h4
  · rename_i hh; exact hh
  · cases h4
theorem make_of {n : Net} {q : List Req} {s : Sched} (h1 : (reqE n q).2 = 0) (h2 : (schedE n (flowsQ q) s).2 = 0) (h3 : ∀ y ∈ q, claimB n s y = true) : makeM n q s = (q.map (claimM n s), -1, 0) := by
  have h4 : (firstAt (lateAt n s q) q.length).2 = 0 := firstAt_ok.2 fun k hk => by
    obtain ⟨y, hy⟩ := getLt hk
    unfold lateAt
    rw [hy]
    simp only
    rw [if_pos (h3 y (List.mem_of_getElem? hy))]
  unfold makeM
  rw [if_neg (by omega), if_neg (by omega), if_neg (by omega)]
theorem has_ids {q : List Req} {id : Int} (h : hasQ q id = false) : idsB (flowsQ q) id = false := by
  unfold idsB flowsQ
  rw [List.any_map]
  exact h
theorem ids_ins {q : List Req} {x : Req} {id : Int} (h : idsB (flowsQ q) id = true) : idsB (flowsQ (insQ q x)) id = true := by
  unfold idsB flowsQ at h ⊢
  rw [List.any_map] at h ⊢
  obtain ⟨y, hy, h1⟩ := List.any_eq_true.1 h
  exact List.any_eq_true.2 ⟨y, insAt_mem.2 (.inr hy), h1⟩
theorem adm_parts {n : Net} {q : List Req} {s t : Sched} {x : Req} (h : admM n q s x = (t, 0)) : (makeM n q s).2.2 = 0 ∧ hasQ q x.flow.id = false ∧ (reqE n (insQ q x)).2 = 0 ∧ s.len % x.flow.period = 0 ∧ placeA n x.flow (relN s x.flow) x.routes s = some t ∧ t.cells.length ≤ 512 := by
  unfold admM at h
  split at h
  · cases h
  rename_i h1
  split at h
  · cases h
  rename_i h2
  split at h
  · cases h
  rename_i h3
  split at h
  · cases h
  rename_i h4
  split at h
  · cases h
  · rename_i t' h5
    split at h
    · cases h
    · rename_i h6
      injection h with h
      subst h
      exact ⟨by omega, by simpa using h2, by omega, by omega, h5, by omega⟩
theorem ends_zero {n : Net} (h0 : netE n = 0) {a b : Int} (ha : 0 ≤ a ∧ a < n.nodes) (hb : 0 ≤ b ∧ b < n.nodes) (hab : a ≠ b) : endsE n a b = 0 := by
  unfold endsE insB
  simp [h0, ha, hb, hab]
theorem adm_serves {n : Net} {q : List Req} {s t : Sched} {x : Req} (h : admM n q s x = (t, 0)) :
    makeM n q s = (q.map (claimM n s), -1, 0) ∧ makeM n (insQ q x) t = ((insQ q x).map (claimM n t), -1, 0) ∧ (∀ y ∈ q, claimM n t y = claimM n s y) ∧ formB s = true ∧ formB t = true ∧ t.len = s.len ∧ t.offs = s.offs ∧ othF x.flow.id t = s.cells ∧ (∀ c ∈ s.cells, c ∈ t.cells) ∧ (∀ c ∈ t.cells, c ∉ s.cells → c.flow = x.flow.id) := by
  obtain ⟨h1, h2, h3, h4, h5, h6⟩ := adm_parts h
  obtain ⟨m1, m2, m3, m4⟩ := make_parts h1
  obtain ⟨hok, _, hreq, hfl⟩ := reqE_ok h3
  have hxo := hreq x (insAt_mem.2 (.inl rfl))
  have hfe := flowE_ok hxo.flow
  have hsz := sized_bd m2.size
  have hrt : ∀ r ∈ x.routes, (2 ≤ r.length ∧ r.length ≤ 9) ∧ HopsOk n r := fun r hr => by
    obtain ⟨k1, k2, _⟩ := routeF_ok (hxo.route r hr)
    exact ⟨k1, k2⟩
  obtain ⟨e1, e2⟩ := placeA_offs hok (fun r hr => ⟨⟨by have := (hrt r hr).1; omega, (hrt r hr).1.2⟩, (hrt r hr).2⟩) h5 m2.grid
  have hidx : idsB (flowsQ (insQ q x)) x.flow.id = true := by
    unfold idsB flowsQ
    rw [List.any_map]
    exact List.any_eq_true.2 ⟨x, insAt_mem.2 (.inl rfl), by simp⟩
  have hgv := GVal.place m2.n0 hidx (fun r hr => ⟨by have := (hrt r hr).1; omega, (hrt r hr).2⟩) h5 (m2.gval fun id hid => ids_ins hid) hsz.1
  have hzt : sizedB t = true := by
    have := m2.size
    unfold sizedB at this ⊢
    rw [e1, e2]; exact this
  have hper : ∀ f ∈ flowsQ (insQ q x), t.len % f.period = 0 := fun f hf => by
    unfold flowsQ at hf
    obtain ⟨y, hy, rfl⟩ := List.mem_map.1 hf
    rw [e1]
    rcases insAt_mem.1 hy with rfl | hy
    · exact h4
    · exact m2.per y.flow (List.mem_map.2 ⟨y, hy, rfl⟩)
  have hsv := hgv.valid m2.n0 hfl hzt hper h6
  have hvt := schedE_ok hsv
  have hoth := (placeA_oth h5).trans (oth_all m2 (has_ids h2))
  have hoth0 := oth_all m2 (has_ids h2)
  have hne : ∀ y ∈ q, y.flow.id ≠ x.flow.id := fun y hy he => by
    have := List.any_eq_false.1 h2 y hy
    simp [he] at this
  have hcl : ∀ y ∈ q, claimM n t y = claimM n s y ∧ claimB n t y = claimB n s y := fun y hy =>
    claimM_eq fun r => routeM_eq e1 m2.form hvt.form fun a b => cellsL_oth (id := x.flow.id) (by rw [hoth, hoth0]) (hne y hy) a b
  have hwx : ∀ r ∈ x.routes, wayE n t x.flow r = 0 := fun r hr => by
    unfold wayE
    rw [if_neg (by rw [m2.n0, hvt.form, hxo.flow]; simp), if_neg (by rw [e1]; omega)]
    unfold routeE
    rw [if_neg (by rw [ends_zero m2.n0 ⟨hfe.2.2.1, hfe.2.2.2.1⟩ ⟨hfe.2.2.2.2.1, hfe.2.2.2.2.2.1⟩ hfe.2.2.2.2.2.2.2.2.2.2.2.2]; simp)]
    exact hxo.route r hr
  have hsx := placed_srv hok hsz.1 hfe.2.2.2.2.2.2.1 ⟨hfe.2.2.2.2.2.2.2.2.1, hfe.2.2.2.2.2.2.2.2.2.1⟩ ⟨hfe.2.2.2.2.2.2.2.2.2.2.1, hfe.2.2.2.2.2.2.2.2.2.2.2.1⟩ h4 (fun r hr => ⟨(hrt r hr).1.1, (hrt r hr).2⟩) h5 hwx
  refine ⟨m4, make_of h3 hsv fun y hy => ?_, fun y hy => (hcl y hy).1, m2.form, hvt.form, e1, e2, hoth, fun c hc => ?_, fun c hc hn => ?_⟩
  · rcases insAt_mem.1 hy with rfl | hy
    · exact hsx
    · rw [(hcl y hy).2]; exact m3 y hy
  · rw [← hoth] at hc
    exact (List.mem_filter.1 hc).1
  · rw [← hoth] at hn
    unfold othF at hn
    rw [List.mem_filter] at hn
    by_cases he : c.flow = x.flow.id
    · exact he
    · exact absurd ⟨hc, by simpa using he⟩ hn
theorem drop_adm {n : Net} {q : List Req} {s t : Sched} {x : Req} (h : admM n q s x = (t, 0)) : dropM t x.flow.id = (s, 0) := by
  obtain ⟨_, _, _, _, f2, e1, e2, e3, _⟩ := adm_serves h
  unfold dropM
  rw [if_neg (by rw [f2]; simp)]
  show ((⟨t.len, t.offs, othF x.flow.id t⟩ : Sched), (0 : Int)) = (s, 0)
  rw [e1, e2, e3]
theorem needAt_le {n : Net} (hok : NetOk n) (r : List Int) (i : Nat) : needAt n r 0 i ≤ 8 := by
  unfold needAt linkAt
  cases h : n.links[(findL n (r.getD i 0) (r.getD (i + 1) 0)).toNat]? with
  | none => simp
  | some l =>
    have := linkR_bd (hok.link _ l h).1
    simp only [Option.getD_some]
    omega
theorem needUp_le {n : Net} (hok : NetOk n) (r : List Int) : ∀ k : Nat, needUp n r 0 k ≤ 8 * k
  | 0 => by simp [needUp]
  | k + 1 => by
    have := needUp_le hok r k
    have := needAt_le hok r k
    rw [needUp]; omega
theorem relR_len {n : Net} (hok : NetOk n) {s : Sched} {f : Flow} (hp : 0 ≤ f.period) {r : List Int} {rel : Int} {b : Int} {l : List Int} (h : relR n s f r 0 rel = some (b, l)) : l.length ≤ 8 * (r.length - 1) := by
  unfold relR slotsW at h
  cases hu : slotsUp n s f r rel 0 (r.length - 1) with
  | none => rw [hu] at h; cases h
  | some p =>
    rw [hu] at h
    simp only [Option.map_some, Option.some.injEq, Prod.mk.injEq] at h
    have h1 := (slotsUp_ok (o := p.1) (a := p.2) hp hu).1
    rw [← h.2, List.length_map, h1]
    exact needUp_le hok r _
theorem boundUp_len {n : Net} (hok : NetOk n) {s : Sched} {f : Flow} (hp : 0 ≤ f.period) {r : List Int} : ∀ {k : Nat} {x : Bnd}, boundUp n s f r 0 k = some x → x.l.length ≤ 8 * (r.length - 1)
  | 0, x, h => by
    simp only [boundUp, Option.some.injEq] at h
    subst h; simp
  | k + 1, x, h => by
    rw [boundUp] at h
    split at h
    · rename_i y b l h1 h2
      split at h
      · injection h with h
        subst h
        exact relR_len hok hp h2
      · injection h with h
        subst h
        exact boundUp_len hok hp h1
    · cases h
theorem routeM_slots {n : Net} (hok : NetOk n) {s : Sched} {f : Flow} (hp : 0 ≤ f.period) (r : List Int) : (routeM n s f r).2.2.1.length ≤ 8 * (r.length - 1) := by
  unfold routeM
  split
  · simp
  · split
    · simp
    · rename_i x hx
      exact boundUp_len hok hp hx
end HM
namespace HM
open Go Go.RowKit
theorem admM_err {n : Net} {q : List Req} {s : Sched} {x : Req} (h : (admM n q s x).2 ≠ 0) : (admM n q s x).1 = ⟨0, 0, []⟩ := by
  unfold admM at h ⊢
  split
  · rfl
  rename_i h1
  rw [if_neg h1] at h
  split
  · rfl
  rename_i h2
  rw [if_neg h2] at h
  split
  · rfl
  rename_i h3
  rw [if_neg h3] at h
  split
  · rfl
  rename_i h4
  rw [if_neg h4] at h
  cases hp : placeA n x.flow (relN s x.flow) x.routes s with
  | none => rfl
  | some t =>
    rw [hp] at h
    simp only at h ⊢
    split
    · rfl
    · rename_i h5
      rw [if_neg h5] at h
      exact absurd rfl h
theorem claim_flow {n : Net} {s : Sched} {y : Req} (h : claimB n s y = true) : (claimM n s y).flow = y.flow.id := by
  unfold claimM
  rw [if_pos h]; rfl
theorem claim_parts {n : Net} (hok : NetOk n) {s : Sched} {y : Req} (hy : ReqOk n y) (h : claimB n s y = true) : (claimM n s y).routes = y.routes ∧ (claimM n s y).routes.length ≤ 2 ∧ (∀ r ∈ (claimM n s y).routes, r.length ≤ 9) ∧ (claimM n s y).bounds.length ≤ 2 ∧ (claimM n s y).worst.length ≤ 2 ∧ (claimM n s y).slots.length ≤ 2 ∧ (∀ r ∈ (claimM n s y).slots, r.length ≤ 64) := by
  have hfe := flowE_ok hy.flow
  unfold claimM
  rw [if_pos h]
  unfold claimT
  refine ⟨rfl, hy.len.2, fun r hr => (routeF_ok (hy.route r hr)).1.2, ?_, ?_, ?_, fun r hr => ?_⟩
  · simp only [List.length_map]; exact hy.len.2
  · simp only [List.length_map]; exact hy.len.2
  · simp only [List.length_map]; exact hy.len.2
  · obtain ⟨r0, hr0, rfl⟩ := List.mem_map.1 hr
    have h1 := routeM_slots hok (s := s) (f := y.flow) (by omega) r0
    have h2 := (routeF_ok (hy.route r0 hr0)).1.2
    omega
theorem id_uniq {q : List Req} (h : q.Pairwise fun a b => a.flow.id < b.flow.id) {a b : Req} (ha : a ∈ q) (hb : b ∈ q) (he : a.flow.id = b.flow.id) : a = b := by
  obtain ⟨i, hi⟩ := List.getElem?_of_mem ha
  obtain ⟨j, hj⟩ := List.getElem?_of_mem hb
  have hil := (List.getElem?_eq_some_iff.1 hi).1
  have hjl := (List.getElem?_eq_some_iff.1 hj).1
  rcases Nat.lt_trichotomy i j with h1 | h1 | h1
  · have := List.pairwise_iff_getElem.1 h i j hil hjl h1
    rw [(List.getElem?_eq_some_iff.1 hi).2, (List.getElem?_eq_some_iff.1 hj).2] at this
    omega
  · subst h1
    rw [hi] at hj; injection hj
  · have := List.pairwise_iff_getElem.1 h j i hjl hil h1
    rw [(List.getElem?_eq_some_iff.1 hi).2, (List.getElem?_eq_some_iff.1 hj).2] at this
    omega
theorem adm_claims {n : Net} {q : List Req} {s t : Sched} {x : Req} (h : admM n q s x = (t, 0)) {w : Req} (hw : w ∈ q) : claimM n s w ∈ (insQ q x).map (claimM n t) ∧ ∀ z ∈ (insQ q x).map (claimM n t), (claimM n s w).flow = z.flow → claimM n s w = z := by
  obtain ⟨h1, h2, h3, h4, h5, h6⟩ := adm_parts h
  obtain ⟨k1, k2, k3, _⟩ := adm_serves h
  obtain ⟨m1, m2, m3, m4⟩ := make_parts h1
  obtain ⟨_, _, p3, _⟩ := make_parts (n := n) (q := insQ q x) (s := t) (by rw [k2])
  have hup := ids_up h3
  have hwi : w ∈ insQ q x := insAt_mem.2 (.inr hw)
  refine ⟨List.mem_map.2 ⟨w, hwi, k3 w hw⟩, fun z hz he => ?_⟩
  obtain ⟨v, hv, rfl⟩ := List.mem_map.1 hz
  rw [claim_flow (m3 w hw), claim_flow (p3 v hv)] at he
  have := id_uniq hup hwi hv he
  subst this
  exact (k3 w hw).symm
end HM
namespace HM
open Go Go.RowKit
deriving instance DecidableEq for Sched
deriving instance DecidableEq for Req
def n41 : Net := ⟨3, [[0, 9, 9], [9, 0, 9], [9, 9, 0]], 1, 1000, [⟨0, 1, 0⟩, ⟨1, 0, 0⟩, ⟨1, 2, 0⟩, ⟨2, 1, 0⟩], [9, 9, 9, 9]⟩
def q41 : List Req := [⟨⟨5, 0, 1, 3, 0, 3⟩, [[0, 1]]⟩]
def s41 : Sched := ⟨3, 1, [⟨0, 0, 0, 1, 5⟩]⟩
def x41 : Req := ⟨⟨6, 1, 2, 3, 0, 3⟩, [[1, 2]]⟩
def t41 : Sched := ⟨3, 1, [⟨0, 0, 0, 1, 5⟩, ⟨1, 0, 1, 2, 6⟩]⟩
theorem e_room41 : roomM n41 s41 ⟨1, 2, 0⟩ = ([⟨1, 0, 1, 2, 0⟩, ⟨2, 0, 1, 2, 0⟩], 0) := by decide +kernel
theorem e_mk41 : (makeM n41 q41 s41).2.2 = 0 := by decide +kernel
theorem e_req41 : (reqE n41 (insQ q41 x41)).2 = 0 := by decide +kernel
theorem e_place41 : placeA n41 x41.flow (relN s41 x41.flow) x41.routes s41 = some t41 := by decide +kernel
theorem e_admit41 : admM n41 q41 s41 x41 = (t41, 0) := by
  unfold admM
  rw [if_neg (by rw [e_mk41]; decide), if_neg (by decide), if_neg (by rw [e_req41]; decide), if_neg (by decide), e_place41]
  rfl
theorem e_drop41 : dropM t41 5 = (⟨3, 1, [⟨1, 0, 1, 2, 6⟩]⟩, 0) := by decide +kernel
end HM
