/- Runs and changes in plain words. -/
import Derived.Test.YtdjglaoahmaljaaGreatDoorDa
/- Steps of lists that are run through: pairs, words, parts. -/
namespace HM
open Go Go.RowKit
theorem pairwise_take_succ {α : Type} {R : α → α → Prop} {l : List α} {k : Nat} {x : α} (h : l[k]? = some x) : (l.take (k + 1)).Pairwise R ↔ (l.take k).Pairwise R ∧ ∀ a ∈ l.take k, R a x := by
  rw [take_succ h, List.pairwise_append]
  simp
theorem pairB_take {n : Net} {ls : List Link} {k : Nat} {x : Link} (h : ls[k]? = some x) (h1 : pairB n (ls.take k) = true) (h2 : ∀ j y, j < k → ls[j]? = some y → togB n y x = false) : pairB n (ls.take (k + 1)) = true := by
  unfold pairB at h1 ⊢
  rw [decide_eq_true_eq] at h1 ⊢
  refine (pairwise_take_succ h).2 ⟨h1, fun a ha => ?_⟩
  obtain ⟨j, hj⟩ := List.getElem?_of_mem ha
  have hl := (List.getElem?_eq_some_iff.1 hj).1
  rw [List.length_take] at hl
  rw [List.getElem?_take_of_lt (by omega)] at hj
  exact h2 j a (by omega) hj
theorem pairB_no {n : Net} {ls : List Link} {j k : Nat} {x y : Link} (hjk : j < k) (hx : ls[j]? = some x) (hy : ls[k]? = some y) (h : togB n x y = true) : pairB n ls = false := by
  unfold pairB
  rw [decide_eq_false_iff_not, List.pairwise_iff_getElem]
  intro hp
  obtain ⟨p1, p2⟩ := List.getElem?_eq_some_iff.1 hx
  obtain ⟨p3, p4⟩ := List.getElem?_eq_some_iff.1 hy
  have := hp j k p1 p3 hjk
  rw [p2, p4, h] at this; cases this
theorem lexB_drop_ne {a b : List Nat} {i x y : Nat} (hx : a[i]? = some x) (hy : b[i]? = some y) (h : x ≠ y) : lexB (a.drop i) (b.drop i) = decide (x < y) := by
  rw [dropGet hx, dropGet hy]
  unfold lexB
  rw [if_neg h]
theorem lexB_drop_eq {a b : List Nat} {i x : Nat} (hx : a[i]? = some x) (hy : b[i]? = some x) : lexB (a.drop i) (b.drop i) = lexB (a.drop (i + 1)) (b.drop (i + 1)) := by
  rw [dropGet hx, dropGet hy]
  conv => lhs; unfold lexB
  rw [if_pos rfl]
theorem lexB_drop_end {a b : List Nat} {i : Nat} (h : i = a.length ∨ i = b.length) (ha : i ≤ a.length) (hb : i ≤ b.length) : lexB (a.drop i) (b.drop i) = decide (a.length < b.length) := by
  rcases h with rfl | rfl
  · rw [List.drop_length]
    by_cases h : a.length < b.length
    · rw [decide_eq_true h]
      obtain ⟨y, hy⟩ := getLt h
      rw [dropGet hy]; rfl
    · rw [decide_eq_false h, List.drop_eq_nil_of_le (by omega)]; rfl
  · rw [List.drop_length, decide_eq_false (by omega)]
    cases a.drop b.length <;> rfl
theorem bitsI_succ (i b : Nat) : bitsI (i + 1) b = if b.testBit i then bitsI i b ++ [i] else bitsI i b := by
  unfold bitsI
  rw [List.range_succ, List.filter_append]
  split
  · rename_i h; rw [List.filter_cons_of_pos h]; rfl
  · rename_i h; rw [List.filter_cons_of_neg h, List.filter_nil, List.append_nil]
theorem bitsI_len (i b : Nat) : (bitsI i b).length ≤ i := by
  have := List.length_filter_le (fun j => b.testBit j) (List.range i)
  rwa [List.length_range] at this
theorem gL_len (al : List Link) (g : List Nat) : (gL al g).length = g.length := by simp [gL]
theorem gL_app (al : List Link) (g h : List Nat) : gL al (g ++ h) = gL al g ++ gL al h := by simp [gL]
theorem sub_drop_ne {α : Type} [DecidableEq α] {l m : List α} {i j : Nat} {x y : α} (hx : l[i]? = some x) (hy : m[j]? = some y) (h : y ≠ x) : List.Sublist (l.drop i) (m.drop j) ↔ List.Sublist (l.drop i) (m.drop (j + 1)) := by
  rw [dropGet hx, dropGet hy]
  constructor
  · intro hs
    cases hs with
    | cons _ h' => exact h'
    | cons_cons _ h' => exact absurd rfl h
  · intro hs; exact hs.cons y
theorem sub_drop_eq {α : Type} {l m : List α} {i j : Nat} {x : α} (hx : l[i]? = some x) (hy : m[j]? = some x) : List.Sublist (l.drop i) (m.drop j) ↔ List.Sublist (l.drop (i + 1)) (m.drop (j + 1)) := by
  rw [dropGet hx, dropGet hy]
  exact List.cons_sublist_cons
theorem sub_drop_no {α : Type} {l m : List α} {i : Nat} {x : α} (hx : l[i]? = some x) : ¬ List.Sublist (l.drop i) (m.drop m.length) := by
  rw [dropGet hx, List.drop_length]
  intro h; cases h
theorem range_sub {k m : Nat} (h : k ≤ m) : List.Sublist (List.range k) (List.range m) := by
  obtain ⟨d, rfl⟩ := Nat.exists_eq_add_of_le h
  rw [List.range_add]
  exact List.sublist_append_left _ _
theorem range_cat {g s : List Nat} {k r : Nat} (hg : List.Sublist g (List.range k)) (hs : List.Sublist s (List.range' k r)) : List.Sublist (g ++ s) (List.range (k + r)) := by
  have e : List.range (k + r) = List.range k ++ List.range' k r := by
    rw [List.range_add]
    congr 1
    rw [List.range'_eq_map_range]
  rw [e]
  exact hg.append hs
theorem loopG_keep (tg : Nat → Nat → Bool) (w : List Nat → Int) (P : List Nat → Prop) : ∀ (r g b : List Nat), P b → (∀ s, List.Sublist s r → P (g ++ s)) → P (loopG tg w r g b)
  | [], _, _, h, _ => h
  | x :: r, g, b, h, hs => by
    unfold loopG
    refine loopG_keep tg w P r g _ ?_ fun s h1 => hs s (h1.cons x)
    split
    · exact h
    · refine loopG_keep tg w P r (g ++ [x]) _ ?_ fun s h1 => ?_
      · unfold pickF
        split
        · exact hs [x] (by simp)
        · exact h
      · have := hs (x :: s) (h1.cons_cons x)
        rw [List.append_assoc]; exact this
theorem loopG_subs {tg : Nat → Nat → Bool} {w : List Nat → Int} {g b : List Nat} {k r : Nat} (hg : List.Sublist g (List.range k)) (hb : List.Sublist b (List.range (k + r))) : List.Sublist (loopG tg w (List.range' k r) g b) (List.range (k + r)) :=
  loopG_keep tg w (fun l => List.Sublist l (List.range (k + r))) _ _ _ hb fun _ hs => range_cat hg hs
theorem sub_snoc {g : List Nat} {i : Nat} (h : List.Sublist g (List.range i)) : List.Sublist (g ++ [i]) (List.range (i + 1)) := by
  rw [List.range_succ]
  exact h.append (List.Sublist.refl _)
/-- the links that some of the requests have -/
def anyU (q : List Req) (l : Link) : Bool := q.any fun x => usesQ x l.src l.dst
theorem anyU_succ {q : List Req} {k : Nat} {x : Req} (h : q[k]? = some x) (l : Link) : anyU (q.take (k + 1)) l = (anyU (q.take k) l || usesQ x l.src l.dst) := by
  unfold anyU
  rw [take_succ h, List.any_append]; simp
theorem filter_succ {α : Type} (p : α → Bool) {l : List α} {k : Nat} {x : α} (h : l[k]? = some x) : (l.take (k + 1)).filter p = if p x then (l.take k).filter p ++ [x] else (l.take k).filter p := by
  rw [take_succ h, List.filter_append]
  split
  · rename_i hp; rw [List.filter_cons_of_pos hp]; rfl
  · rename_i hp; rw [List.filter_cons_of_neg hp, List.filter_nil, List.append_nil]
end HM

/- Hyperperiods; the least length without a reason. -/
namespace HM
open Go Go.RowKit

/-- the least common multiple of the periods -/
def hyp (l : List Flow) : Nat := l.foldl (fun a f => Nat.lcm a f.period.toNat) 1
theorem hyp_take {l : List Flow} {k : Nat} {f : Flow} (h : l[k]? = some f) : hyp (l.take (k + 1)) = Nat.lcm (hyp (l.take k)) f.period.toNat := by
  unfold hyp; rw [take_succ h, List.foldl_append]; rfl
theorem hyp_dvd : ∀ (l : List Flow) (m : Nat), hyp l ∣ m ↔ ∀ f ∈ l, f.period.toNat ∣ m := by
  intro l
  suffices ∀ (a m : Nat), l.foldl (fun a f => Nat.lcm a f.period.toNat) a ∣ m ↔ a ∣ m ∧ ∀ f ∈ l, f.period.toNat ∣ m by
    intro m
    rw [hyp, this]; simp
  induction l with
  | nil => intro a m; simp
  | cons f l ih =>
    intro a m
    rw [List.foldl_cons, ih, Nat.lcm_dvd_iff]
    simp only [List.mem_cons, forall_eq_or_imp]
    constructor
    · rintro ⟨⟨h1, h2⟩, h3⟩; exact ⟨h1, h2, h3⟩
    · rintro ⟨h1, h2, h3⟩; exact ⟨⟨h1, h2⟩, h3⟩
theorem hyp_pos {l : List Flow} (h : ∀ f ∈ l, 1 ≤ f.period) : 1 ≤ hyp l := by
  suffices ∀ (a : Nat), 1 ≤ a → 1 ≤ l.foldl (fun a f => Nat.lcm a f.period.toNat) a from this 1 (Nat.le_refl _)
  induction l with
  | nil => intro a ha; exact ha
  | cons f l ih =>
    intro a ha
    rw [List.foldl_cons]
    have := h f (by simp)
    exact ih (fun g hg => h g (List.mem_cons_of_mem _ hg)) _ (Nat.lcm_pos (by omega) (by omega))
theorem hyp_take_le {l : List Flow} (h : ∀ f ∈ l, 1 ≤ f.period) (k : Nat) : hyp (l.take k) ≤ hyp l := by
  refine Nat.le_of_dvd (hyp_pos h) ((hyp_dvd _ _).2 fun f hf => (hyp_dvd l (hyp l)).1 (Nat.dvd_refl _) f (List.mem_of_mem_take hf))
def hyperM (l : List Flow) : Int × Int := if (flowsE 32 l).2 ≠ 0 then (0, 1) else if 512 < hyp l then (0, 21) else (hyp l, 0)
theorem flowsE_per {nodes : Int} {l : List Flow} (h : (flowsE nodes l).2 = 0) : ∀ f ∈ l, 1 ≤ f.period ∧ f.period ≤ 512 := by
  intro f hf
  obtain ⟨k, hk⟩ := List.getElem?_of_mem hf
  have hkl := (List.getElem?_eq_some_iff.1 hk).1
  unfold flowsE at h
  split at h
  · cases h
  split at h
  · cases h
  have h3 := firstAt_ok.1 h k hkl
  unfold flowAt at h3
  rw [hk] at h3
  simp only at h3
  have hfx : flowE nodes f = 0 := by
    split at h3
    · rename_i hh; exact absurd h3 hh
    · omega
  have := flowE_ok hfx
  omega
/-- that a number is a multiple of all periods -/
def multB (l : List Flow) (n : Nat) : Bool := l.all fun f => decide ((n : Int) % f.period = 0)
theorem multB_hyp {l : List Flow} (h : ∀ f ∈ l, 1 ≤ f.period ∧ f.period ≤ 512) (n : Nat) : multB l n = true ↔ hyp l ∣ n := by
  rw [hyp_dvd]
  unfold multB
  simp only [List.all_eq_true, decide_eq_true_eq]
  refine forall_congr' fun f => forall_congr' fun hf => ?_
  have := h f hf
  obtain ⟨p, hp⟩ : ∃ p : Nat, f.period = p := ⟨f.period.toNat, by omega⟩
  rw [hp, Int.toNat_natCast, ← Int.natCast_dvd_natCast, Int.dvd_iff_emod_eq_zero]
theorem multB_succ {l : List Flow} {k : Nat} {f : Flow} (h : l[k]? = some f) (n : Nat) : multB (l.take (k + 1)) n = (multB (l.take k) n && decide ((n : Int) % f.period = 0)) := by
  unfold multB
  rw [take_succ h, List.all_append]; simp
/-- the first multiple of all periods from a number on: the reference's way -/
theorem hyper_hit {l : List Flow} (h : (flowsE 32 l).2 = 0) {n : Nat} (h1 : 1 ≤ n) (h2 : n ≤ 512) (h0 : ∀ m, 1 ≤ m → m < n → multB l m = false) (hn : multB l n = true) : hyperM l = ((n : Int), 0) := by
  have hp := flowsE_per h
  have hd := (multB_hyp hp n).1 hn
  have hle := Nat.le_of_dvd (by omega) hd
  have hpos := hyp_pos fun f hf => (hp f hf).1
  have he : hyp l = n := by
    rcases Nat.lt_or_ge (hyp l) n with hlt | hge
    · have := h0 _ hpos hlt
      rw [(multB_hyp hp _).2 (Nat.dvd_refl _)] at this; cases this
    · omega
  unfold hyperM
  rw [if_neg (by omega), if_neg (by omega), he]
theorem hyper_no {l : List Flow} (h : (flowsE 32 l).2 = 0) (h0 : ∀ m, 1 ≤ m → m ≤ 512 → multB l m = false) : hyperM l = (0, 21) := by
  have hp := flowsE_per h
  have hpos := hyp_pos fun f hf => (hp f hf).1
  unfold hyperM
  rw [if_neg (by omega), if_pos]
  rcases Nat.lt_or_ge 512 (hyp l) with hlt | hge
  · exact hlt
  · have := h0 _ hpos hge
    rw [(multB_hyp hp _).2 (Nat.dvd_refl _)] at this; cases this

-- the least length
def reasonG (n : Net) (q : List Req) (len offs : Int) : Rsn × Bool × Int := reasonM n q len offs (grpO n q len offs)
def freeAt (n : Net) (q : List Req) (offs : Int) (h k : Nat) : Option Nat := if (reasonG n q (h * (k + 1) : Nat) offs).2.1 then none else some (h * (k + 1))
def leastL (n : Net) (q : List Req) (offs : Int) : Int × Int :=
  if (reqE n q).2 ≠ 0 then (0, 1) else if offs < 1 ∨ 16 < offs then (0, 2) else if (hyperM (flowsQ q)).2 ≠ 0 then (0, 21)
  else match firstO (freeAt n q offs (hyp (flowsQ q))) (512 / hyp (flowsQ q)) with
    | some k => (k, 0)
    | none => (0, 21)
theorem needC_mul {len : Int} {x : Req} {l : Link} (m : Int) (h : len % x.flow.period = 0) : needC (len * m) x l = needC len x l * m := by
  obtain ⟨k, rfl⟩ := Int.dvd_of_emod_eq_zero h
  unfold needC
  by_cases hp : x.flow.period = 0
  · rw [hp]; simp
  · rw [show (l.loss + 1) * (x.flow.period * k * m) = x.flow.period * ((l.loss + 1) * k * m) by ac_rfl, show (l.loss + 1) * (x.flow.period * k) = x.flow.period * ((l.loss + 1) * k) by ac_rfl, Int.mul_ediv_cancel_left _ hp, Int.mul_ediv_cancel_left _ hp]
theorem needM_mul {q : List Req} {len : Int} (m : Int) (h : ∀ x ∈ q, len % x.flow.period = 0) (l : Link) : needM q (len * m) l = m * needM q len l := by
  unfold needM
  rw [← sumW_mul]
  refine sumW_congr fun x hx => ?_
  split
  · rw [needC_mul m (h x hx), Int.mul_comm]
  · simp
theorem sums_mul {q : List Req} {len : Int} (m : Int) (h : ∀ x ∈ q, len % x.flow.period = 0) (ls : List Link) : sumW (needM q (len * m)) ls = m * sumW (needM q len) ls := by
  rw [← sumW_mul]
  exact sumW_congr fun l _ => needM_mul m h l
theorem isR_mul {a b : Rsn} {m : Int} (hm : 1 ≤ m) (h1 : b.need = m * a.need) (h2 : b.have_ = m * a.have_) : isR b = isR a := by
  unfold isR
  rw [h1, h2, decide_eq_decide]
  constructor
  · intro h; exact Int.lt_of_mul_lt_mul_left h (by omega)
  · intro h; exact Int.mul_lt_mul_of_pos_left h (by omega)
theorem pickF_mul {w v : List Nat → Int} {m : Int} (hm : 1 ≤ m) (h : ∀ g, v g = m * w g) (b x : List Nat) : pickF v b x = pickF w b x := by
  unfold pickF
  have : v b < v x ↔ w b < w x := by
    rw [h, h]
    constructor
    · intro h; exact Int.lt_of_mul_lt_mul_left h (by omega)
    · intro h; exact Int.mul_lt_mul_of_pos_left h (by omega)
  by_cases hh : w b < w x
  · rw [if_pos hh, if_pos (this.2 hh)]
  · rw [if_neg hh, if_neg (fun h' => hh (this.1 h'))]
theorem loopG_mul (tg : Nat → Nat → Bool) {w v : List Nat → Int} {m : Int} (hm : 1 ≤ m) (h : ∀ g, v g = m * w g) : ∀ (r g b : List Nat), loopG tg v r g b = loopG tg w r g b
  | [], _, _ => rfl
  | x :: r, g, b => by
    unfold loopG
    rw [pickF_mul hm h, loopG_mul tg hm h r (g ++ [x]), loopG_mul tg hm h r g]
theorem grp_mul {n : Net} {q : List Req} {len offs : Int} (hok : NetOk n) {m : Int} (hm : 1 ≤ m) (h : ∀ x ∈ q, len % x.flow.period = 0) (h0 : 0 ≤ len * offs) : (grpM n q (len * m) offs).2 = (grpM n q len offs).2 := by
  have hb : bestI n q (len * m) = bestI n q len := loopG_mul _ hm (fun g => sums_mul m h _) _ _ _
  unfold grpM
  split
  · rfl
  have hpos : 0 ≤ len * m * offs := by
    rw [show len * m * offs = len * offs * m by ac_rfl]; exact Int.mul_nonneg h0 (by omega)
  show isR _ = isR _
  rw [isR_best hok q _ _ hpos, isR_best hok q _ _ h0, hb, decide_eq_decide]
  have e : wI q (len * m) (allM n q) (bestI n q len) = m * wI q len (allM n q) (bestI n q len) := sums_mul m h _
  rw [e, show len * m * offs = m * (len * offs) by ac_rfl]
  constructor
  · intro h; exact Int.lt_of_mul_lt_mul_left h (by omega)
  · intro h; exact Int.mul_lt_mul_of_pos_left h (by omega)
theorem asR_isNone {r : Rsn} : (asR r).isNone = !isR r := by unfold asR; cases isR r <;> rfl
theorem firstO_isNone {α β : Type} {f : Nat → Option α} {g : Nat → Option β} (h : ∀ j, (f j).isNone = (g j).isNone) : ∀ k, (firstO f k).isNone = (firstO g k).isNone
  | 0 => rfl
  | k + 1 => by
    have ih := firstO_isNone h k
    have hk := h k
    unfold firstO
    cases h1 : firstO f k <;> cases h2 : firstO g k <;> rw [h1, h2] at ih <;> simp_all
/-- a longer length: a reason exactly if there is one for the shorter one -/
theorem reason_mul {n : Net} {q : List Req} {len offs : Int} (hs : SzOk n q len) (ho : ¬ (offs < 1 ∨ 16 < offs)) {m : Int} (hm : 1 ≤ m) (hs2 : sizedQ n q (len * m) = 0) : (reasonG n q (len * m) offs).2.1 = (reasonG n q len offs).2.1 := by
  have hok : NetOk n := (reqE_ok hs.req).1
  have hl := hs.l1
  have hbn : (byNodeM n q (len * m)).isNone = (byNodeM n q len).isNone := by
    unfold byNodeM
    refine firstO_isNone (fun j => ?_) _
    rw [asR_isNone, asR_isNone]
    congr 1
    refine isR_mul hm ?_ (by show len * m = m * len; ac_rfl)
    show sumQ n q (len * m) (atN j) = m * sumQ n q len (atN j)
    rw [sumQ_need, sumQ_need, sums_mul m hs.mis]
  have hg : (grpO n q (len * m) offs).isNone = (grpO n q len offs).isNone := by
    unfold grpO
    rw [grp_mul hok hm hs.mis (Int.mul_nonneg (by omega) (by omega))]
    split <;> rfl
  unfold reasonG
  rw [reasonM_ok hs2 ho, reasonM_ok hs.mk' ho]
  cases h1 : byNodeM n q (len * m) <;> cases h2 : byNodeM n q len <;> rw [h1, h2] at hbn <;> (try cases hbn)
  · cases h3 : byWindowM n q with
    | some r => rfl
    | none => cases h4 : grpO n q (len * m) offs <;> cases h5 : grpO n q len offs <;> rw [h4, h5] at hg <;> (first | rfl | cases hg)
  all_goals rfl
theorem hyp_sized {n : Net} {q : List Req} (h : (reqE n q).2 = 0) (hh : hyp (flowsQ q) ≤ 512) {k : Nat} (hk : hyp (flowsQ q) * (k + 1) ≤ 512) : SzOk n q ((hyp (flowsQ q) * (k + 1) : Nat) : Int) := by
  obtain ⟨_, _, hx, hfl⟩ := reqE_ok h
  have hp := flowsE_per hfl
  have hpos := hyp_pos fun f hf => (hp f hf).1
  have h1 : 1 ≤ hyp (flowsQ q) * (k + 1) := Nat.mul_pos hpos (by omega)
  refine ⟨h, by omega, by omega, fun x hxq => ?_⟩
  have hf : x.flow ∈ flowsQ q := List.mem_map.2 ⟨x, hxq, rfl⟩
  have := (hyp_dvd _ _).1 (Nat.dvd_mul_right (hyp (flowsQ q)) (k + 1)) x.flow hf
  have hb := hp _ hf
  obtain ⟨p, hp⟩ : ∃ p : Nat, x.flow.period = p := ⟨x.flow.period.toNat, by omega⟩
  rw [hp, Int.toNat_natCast] at this
  rw [hp]
  exact Int.emod_eq_zero_of_dvd (Int.natCast_dvd_natCast.2 this)
theorem div_le_mul {h k : Nat} (h1 : 1 ≤ h) : k < 512 / h ↔ h * (k + 1) ≤ 512 := by
  rw [Nat.lt_iff_add_one_le, Nat.le_div_iff_mul_le (by omega), Nat.mul_comm]
/-- the first length decides -/
theorem least_first {n : Net} {q : List Req} {offs : Int} (h : (reqE n q).2 = 0) (ho : ¬ (offs < 1 ∨ 16 < offs)) (hh : (hyperM (flowsQ q)).2 = 0) (hs : hyp (flowsQ q) ≤ 512) : leastL n q offs = if (reasonG n q (hyp (flowsQ q) : Nat) offs).2.1 then (0, 21) else ((hyp (flowsQ q) : Int), 0) := by
  obtain ⟨_, _, hx, hfl⟩ := reqE_ok h
  have hp := flowsE_per hfl
  have hpos := hyp_pos fun f hf => (hp f hf).1
  unfold leastL
  rw [if_neg (by omega), if_neg ho, if_neg (by omega)]
  have h1 : ∀ k, k < 512 / hyp (flowsQ q) → (reasonG n q (hyp (flowsQ q) * (k + 1) : Nat) offs).2.1 = (reasonG n q (hyp (flowsQ q) : Nat) offs).2.1 := fun k hk => by
    have hk2 := (div_le_mul hpos).1 hk
    have z := hyp_sized h hs hk2
    have z0 := hyp_sized h hs (k := 0) (by omega)
    rw [Nat.zero_add, Nat.mul_one] at z0
    have := reason_mul z0 ho (m := ((k + 1 : Nat) : Int)) (by omega) (by rw [← Int.natCast_mul]; exact z.mk')
    rw [← Int.natCast_mul] at this
    exact this
  have h0 : 0 < 512 / hyp (flowsQ q) := (div_le_mul hpos).2 (by omega)
  cases hr : (reasonG n q (hyp (flowsQ q) : Nat) offs).2.1 with
  | true =>
    rw [firstO_none fun j hj => by unfold freeAt; rw [h1 j hj, hr]; rfl]; rfl
  | false =>
    rw [firstO_hit (i := 0) (x := hyp (flowsQ q)) (fun j hj => absurd hj (Nat.not_lt_zero _)) (by unfold freeAt; rw [h1 0 h0, hr]; simp) h0]; rfl
end HM

/- What a reason that was found is like. -/
namespace HM
open Go Go.RowKit
theorem grp_links (n : Net) (q : List Req) (len offs : Int) : (grpM n q len offs).1.links.length ≤ n.links.length := by
  unfold grpM
  split
  · exact Nat.zero_le _
  · show (bestC n q len offs (bestI n q len)).links.length ≤ _
    unfold bestC
    split
    · exact Nat.zero_le _
    · exact ((gL_sub (best_sub n q len)).trans (all_sub n q)).length_le
theorem reasonG_cases (n : Net) (q : List Req) (len offs : Int) : ((reasonG n q len offs).1 = rsn0 ∧ (reasonG n q len offs).2.1 = false) ∨ ((reasonG n q len offs).2.1 = true ∧ (reasonG n q len offs).2.2 = 0 ∧ (reasonG n q len offs).1.links.length ≤ n.links.length) := by
  unfold reasonG reasonM
  split
  · exact .inl ⟨rfl, rfl⟩
  split
  · exact .inl ⟨rfl, rfl⟩
  split
  · rename_i r hr
    obtain ⟨i, _, h2, _⟩ := firstO_some hr
    obtain ⟨rfl, _⟩ := isR_asR h2
    exact .inr ⟨rfl, rfl, Nat.zero_le _⟩
  split
  · rename_i r hr
    obtain ⟨i, _, h2, _⟩ := firstO_some hr
    unfold winQ at h2
    split at h2
    · obtain ⟨k, _, h4, _⟩ := firstO_some h2
      unfold winAt at h4
      split at h4
      · obtain ⟨rfl, _⟩ := isR_asR h4
        exact .inr ⟨rfl, rfl, Nat.zero_le _⟩
      · cases h4
    · cases h2
  split
  · rename_i r hr
    unfold grpO at hr
    split at hr
    · injection hr with hr; subst hr
      exact .inr ⟨rfl, rfl, grp_links n q len offs⟩
    · cases hr
  · exact .inl ⟨rfl, rfl⟩
theorem reasonG_links (n : Net) (hn : n.links.length ≤ 281474976710656) (q : List Req) (len offs : Int) : (reasonG n q len offs).1.links.length ≤ 281474976710656 := by
  rcases reasonG_cases n q len offs with ⟨h, _⟩ | ⟨_, _, h⟩
  · rw [h]; exact Nat.zero_le _
  · omega
theorem reasonG_ok {n : Net} {q : List Req} {len offs : Int} (h : (reasonG n q len offs).2.2 = 0) : sizedQ n q len = 0 ∧ ¬ (offs < 1 ∨ 16 < offs) := by
  unfold reasonG reasonM at h
  split at h
  · rename_i h1; exact absurd h h1
  rename_i h1
  split at h
  · cases h
  rename_i h2
  exact ⟨by omega, h2⟩
end HM

/- What the reference's check of a reason says. -/
namespace HM
open Go Go.RowKit
/-- a reason that is claimed speaks of something -/
def realW (n : Net) (q : List Req) (r : Rsn) (ab : Bool) : Bool :=
  (decide (r.kind = 1) && (decide (0 ≤ r.node) && decide (r.node < n.nodes))) ||
  (decide (r.kind = 2) && (decide (0 ≤ r.idx) && decide (0 ≤ r.route) && (match q[r.idx.toNat]? with
    | some x => decide (r.route < x.routes.length)
    | none => false))) || (decide (r.kind = 3) && ab)
def provesB (n : Net) (q : List Req) (len offs : Int) (r : Rsn) (ab : Bool) : Bool := realW n q r ab && decide (r = wantM n q len offs r ab)
theorem proves_node {n : Net} {q : List Req} {len offs : Int} {r : Rsn} {ab : Bool} (h : r.kind = 1 ∧ 0 ≤ r.node ∧ r.node < n.nodes) : provesB n q len offs r ab = decide (r = nodeR n q len r.node) := by
  unfold provesB realW
  rw [want_node h, decide_eq_true h.1, decide_eq_true h.2.1, decide_eq_true h.2.2]; rfl
theorem proves_win {n : Net} {q : List Req} {len offs : Int} {r : Rsn} {ab : Bool} (h : r.kind = 2 ∧ 0 ≤ r.idx ∧ 0 ≤ r.route) {x : Req} (hx : q[r.idx.toNat]? = some x) {y : List Int} (hy : x.routes[r.route.toNat]? = some y) : provesB n q len offs r ab = decide (r = windowR n x r.idx r.route y) := by
  have hl := (List.getElem?_eq_some_iff.1 hy).1
  unfold provesB realW
  rw [want_win h hx hy, decide_eq_true h.1, decide_eq_true h.2.1, decide_eq_true h.2.2, hx]
  simp only
  rw [decide_eq_true (show r.route < (x.routes.length : Int) by omega)]
  simp
theorem proves_grp {n : Net} {q : List Req} {len offs : Int} {r : Rsn} (h : r.kind = 3) : provesB n q len offs r true = decide (r = groupR n q len offs r.links) := by
  unfold provesB realW
  rw [want_grp h, decide_eq_true h]; simp
theorem proves_no {n : Net} {q : List Req} {len offs : Int} {r : Rsn} {ab : Bool} (h1 : ¬ (r.kind = 1 ∧ 0 ≤ r.node ∧ r.node < n.nodes)) (h2 : r.kind = 2 → 0 ≤ r.idx → 0 ≤ r.route → ∀ x, q[r.idx.toNat]? = some x → x.routes[r.route.toNat]? = none) (h3 : ¬ (r.kind = 3 ∧ ab = true)) : provesB n q len offs r ab = false := by
  unfold provesB
  suffices realW n q r ab = false by rw [this]; rfl
  cases hr : realW n q r ab with
  | false => rfl
  | true =>
    exfalso
    unfold realW at hr
    simp only [Bool.or_eq_true, Bool.and_eq_true, decide_eq_true_eq] at hr
    rcases hr with (hr | ⟨g1, ⟨g2, g3⟩, g4⟩) | hr
    · exact h1 hr
    · split at g4
      · rename_i x hx
        have := h2 g1 g2 g3 x hx
        rw [List.getElem?_eq_none_iff] at this
        simp only [decide_eq_true_eq] at g4
        omega
      · cases g4
    · exact h3 hr
theorem verify_proves {n : Net} {q : List Req} {len offs : Int} {r : Rsn} {ab : Bool} (h1 : sizedQ n q len = 0) (h2 : ¬ (offs < 1 ∨ 16 < offs)) : verifyM n q len offs r ab = if isR r = true ∧ provesB n q len offs r ab = true then 0 else 20 := by
  unfold verifyM
  rw [if_neg (by simp [h1]), if_neg h2]
  by_cases hr : r = wantM n q len offs r ab
  · cases hp : realW n q r ab with
    | true =>
      have : provesB n q len offs r ab = true := by unfold provesB; rw [hp, decide_eq_true hr]; rfl
      rw [← hr, this]; simp
    | false =>
      have hw : wantM n q len offs r ab = rsn0 := by
        unfold realW at hp
        simp only [Bool.or_eq_false_iff, Bool.and_eq_false_iff, decide_eq_false_iff_not] at hp
        refine want_zero (fun h => ?_) (fun g1 g2 g3 x hx => ?_) (fun h => ?_)
        · rcases hp.1.1 with g | g | g
          · exact g h.1
          · exact g h.2.1
          · exact g h.2.2
        · rcases hp.1.2 with g | (g | g) | g
          · exact absurd g1 g
          · exact absurd g2 g
          · exact absurd g3 g
          · rw [hx] at g
            simp only [decide_eq_false_iff_not] at g
            exact List.getElem?_eq_none (by omega)
        · rcases hp.2 with g | g
          · exact g h.1
          · rw [h.2] at g; cases g
      have h0 : isR rsn0 = false := rfl
      rw [if_neg (by rw [hw, h0]; simp), if_neg (by unfold provesB; rw [hp]; simp)]
  · rw [if_neg (fun h => hr h.2), if_neg]
    unfold provesB
    rw [decide_eq_false hr]; simp
/-- a group, as the reference looks at it -/
theorem apart_ref {n : Net} (h : NetOk n) (q : List Req) (ls : List Link) : apartB n q ls = (decide (List.Sublist ls (allM n q)) && decide (0 < ls.length) && pairB n ls) := by
  rw [Bool.eq_iff_iff, apartB_eq h]
  unfold pairB
  simp only [Bool.and_eq_true, decide_eq_true_eq]
  rw [← List.length_pos_iff]
  constructor
  · rintro ⟨h1, h2, h3⟩; exact ⟨⟨h2, h1⟩, h3⟩
  · rintro ⟨⟨h2, h1⟩, h3⟩; exact ⟨h1, h2, h3⟩
end HM

/- The group that the reference finds. -/
namespace HM
open Go Go.RowKit
def grpL (n : Net) (q : List Req) (len : Int) : List Link := if 10 < (allM n q).length then [] else gL (allM n q) (bestI n q len)
theorem grpL_sub (n : Net) (q : List Req) (len : Int) : List.Sublist (grpL n q len) n.links := by
  unfold grpL
  split
  · exact List.nil_sublist _
  · exact (gL_sub (best_sub n q len)).trans (all_sub n q)
theorem grpO_eq {n : Net} (h : NetOk n) (q : List Req) (len offs : Int) (h0 : 0 ≤ len * offs) : grpO n q len offs = if len * offs < sumW (needM q len) (grpL n q len) then some ⟨3, 0, 0, 0, grpL n q len, sumW (needM q len) (grpL n q len), len * offs⟩ else none := by
  unfold grpO grpM grpL
  split
  · rw [if_neg (by simp)]
    simp only [sumW]
    exact (if_neg (by omega)).symm
  · have hr := isR_best h q len offs h0
    have e : wI q len (allM n q) (bestI n q len) = sumW (needM q len) (gL (allM n q) (bestI n q len)) := rfl
    simp only
    rw [hr, e]
    by_cases hlt : len * offs < sumW (needM q len) (gL (allM n q) (bestI n q len))
    · rw [decide_eq_true hlt, if_pos rfl, if_pos hlt]
      have hne : bestI n q len ≠ [] := fun e => by
        rw [e] at hlt
        simp only [gL, List.map_nil, sumW] at hlt
        omega
      unfold bestC
      rw [if_neg hne]
      unfold groupR
      rw [sumQ_grp h q len ((gL_sub (best_sub n q len)).trans (all_sub n q))]
    · rw [decide_eq_false hlt, if_neg (by simp), if_neg hlt]
end HM
