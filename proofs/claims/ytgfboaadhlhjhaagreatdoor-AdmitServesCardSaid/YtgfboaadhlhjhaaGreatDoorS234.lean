/- What only one schedule has; equal claims. -/
import Derived.Test.YtgfboaadhlhjhaaGreatDoorS34
import Derived.Test.YtgfboaadhlhjhaaGreatDoorS196
import Derived.Test.YtgfboaadhlhjhaaGreatDoorS122
import Derived.Test.YtgfboaadhlhjhaaGreatDoorS1
import Derived.Test.YtgfboaadhlhjhaaGreatDoorDc
set_option maxRecDepth 100000
namespace HM
open Go Go.RowKit Go.Proofs
section
variable (L : World → Prop)
def onlyL (a b : Sched) : List Cell := a.cells.filter fun c => !decide (c ∈ b.cells)
theorem c_only1 (c : Cell) (b : Sched) (hb : b.cells.length ≤ 281474976710656) : PCall Tryz.prog L 112 [c.av, .cptr b.av 0] (.bool (decide (c ∈ b.cells))) := by
  refine PCall.intro mixed [] (nt := 8) Tryz.func112 rfl rfl (by simp) ?_
  refine Wk ?_
  first | refine CallK.data rfl (c_ContainsCl L b.cells c hb) rfl ?_ | refine CallP.data rfl (c_ContainsCl L b.cells c hb) rfl ?_
  refine Wk ?_
  exact resP.mk rfl (Sees.bool rfl)
set_option maxHeartbeats 4000000 in
theorem c_only (a b : Sched) (ha : a.cells.length ≤ 1048576) (hb : b.cells.length ≤ 281474976710656) : PCall Tryz.prog L 59 [a.av, b.av] (encCells (onlyL a b)) := by
  refine PCall.intro mixed [] (nt := 10) Tryz.func59 rfl rfl (by simp) ?_
  by_cases hne : a.cells = []
  · obtain ⟨len, offs, cells⟩ := a
    simp only at hne
    subst hne
    refine Wk ?_
    first | refine CallK.data rfl (c_Clone0Cell L) rfl ?_ | refine CallP.data rfl (c_Clone0Cell L) rfl ?_
    refine Wk ?_
    refine CallK.inl rfl (ICall.intro mixed [] (nt := 42) Tryz.func45 rfl rfl (by simp) ?_)
    refine Wk ?_
    refine CallK.box rfl (c_IndexFuncCell L [] (fun c => decide (c ∈ b.cells)) 112 [.cptr b.av 0] (by simp) rfl rfl (fun c _ => c_only1 L c b hb)) (fz2 rfl (fzf1 rfl)) rfl ?_
    refine Wk ?_
    exact resP.mk rfl (Sees.of_eq rfl)
  · refine Wk ?_
    refine CallK.fresh rfl (c_CloneCell L a.cells hne (by omega)) (by rfl) (cellOk.els _) (cellOk.scal (fun _ => rfl) _) (fun h => absurd (by simpa using h) hne) (fun d => ?_)
    refine Wk ?_
    rw [List.length_map]
    refine CallK.inl rfl (i_DeleteCell L _ _ _ _ _ a.cells (fun c => decide (c ∈ b.cells)) _ [.ptr 1 0] [.cptr b.av 0] d (by omega) rfl rfl ⟨?_, ?_, ?_⟩ (fun _ _ _ _ => rfl) (fun c _ => c_only1 L c b hb) fun ex => ?_)
    · exact ⟨trivial, trivial, fzs_okk (es := [encCells a.cells]) rfl⟩
    · exact ⟨trivial, trivial, fzs_okk (es := [encCells b.cells]) rfl⟩
    · exact ⟨(by decide : 1 < 3), trivial⟩
    refine Wk ?_
    exact ⟨_, cellOk.fzb rfl rfl, Sees.of_eq rfl⟩
theorem c_Differ (a b : Sched) (ha : a.cells.length ≤ 1048576) (hb : b.cells.length ≤ 1048576) (h1 : formB a = true) (h2 : formB b = true) (h3 : b.len = a.len) (h4 : b.offs = a.offs) : PCall Tryz.prog L 20 [a.av, b.av] (.tup [encCells (onlyL a b), encCells (onlyL b a), .int .i64 0]) := by
  have e1 : (a.len != b.len) = false := by rw [h3]; simp
  have e2 : (a.offs != b.offs) = false := by rw [h4]; simp
  refine PCall.intro mixed [] (nt := 33) Tryz.func20 rfl rfl (by simp) ?_
  refine Wk ?_
  first | refine CallK.data rfl (c_form L a) rfl ?_ | refine CallP.data rfl (c_form L a) rfl ?_
  rw [h1]
  refine Wk ?_
  first | refine CallK.data rfl (c_form L b) rfl ?_ | refine CallP.data rfl (c_form L b) rfl ?_
  rw [h2]
  repeat ((conv => whnf); first | refine sJ ?_ | refine And.intro (by first | exact trivial | kernel_rfl) ?_ | rw [e1] | rw [e2])
  try (conv => whnf)
  first | refine CallK.data rfl (c_only L a b ha (by omega)) rfl ?_ | refine CallP.data rfl (c_only L a b ha (by omega)) rfl ?_
  refine Wk ?_
  first | refine CallK.data rfl (c_only L b a hb (by omega)) rfl ?_ | refine CallP.data rfl (c_only L b a hb (by omega)) rfl ?_
  refine Wk ?_
  exact resP.mk rfl (Sees.of_eq rfl)
structure Claim.small (c : Claim) : Prop where
  routes : c.routes.length ≤ 1000
  route : ∀ r ∈ c.routes, r.length ≤ 1000
  bounds : c.bounds.length ≤ 1000
  worst : c.worst.length ≤ 1000
  slots : c.slots.length ≤ 1000
  slot : ∀ r ∈ c.slots, r.length ≤ 1000
theorem c_Same33e (l : List (List Int)) (hl : l.length ≤ 1000) (hr : ∀ r ∈ l, r.length ≤ 1000) : PCall Tryz.prog L 65 [encRows l, encRows l] (.bool true) := by
  refine PCall.intro mixed [] (nt := 27) Tryz.func65 rfl rfl (by simp) ?_
  have e0 : (((l.map encIs).length : Int) != ((l.map encIs).length : Int)) = false := by simp
  repeat ((conv => whnf); first | refine sJ ?_ | refine And.intro (by first | exact trivial | kernel_rfl) ?_ | rw [e0])
  try (conv => whnf)
  refine LoopK.run mixed [] (fun (k : Nat) => k ≤ l.length) (fun k => [(0, encRows l), (1, encRows l), (5, .int .i64 k)]) (fun k => St.none) (fun k => l.length - k) 0 (by omega) ?_ ?_
  · refine Fits.mk' rfl rfl rfl rfl ?_ ?_ ?_ ?_ ?_ <;> repeat' (first | exact trivial | refine And.intro ?_ ?_ | exact Sees.of_eq rfl | exact lt_b rfl | rfl )
  rintro k hk
  by_cases hkl : k < l.length
  · obtain ⟨r, hgr⟩ := getLt hkl
    have hmr := getMap (f := encIs) hgr
    have g0 : decide ((k : Int) < ((l.map encIs).length : Int)) = true := decide_eq_true (by rw [List.length_map]; omega)
    repeat ((conv => whnf); first | refine sJ ?_ | refine And.intro (by first | exact trivial | exact inbMap hkl | kernel_rfl) ?_ | rw [g0] | rw [hmr])
    try (conv => whnf)
    first | refine CallK.data rfl (c_SameInts31 L r r (by have := hr r (List.mem_of_getElem? hgr); omega)) rfl ?_ | refine CallP.data rfl (c_SameInts31 L r r (by have := hr r (List.mem_of_getElem? hgr); omega)) rfl ?_
    rw [decide_eq_true rfl]
    refine Wk ?_
    refine ⟨k + 1, by omega, by omega, ?_⟩
    refine Fits.mk' rfl rfl rfl rfl ?_ ?_ ?_ ?_ ?_ <;> repeat' (first | exact trivial | refine And.intro ?_ ?_ | exact Sees.of_eq rfl | exact lt_b rfl | rfl | exact Sees.int (succI hkl (by omega)))
  · have hkn : k = l.length := by omega
    subst hkn
    have g0 : decide ((l.length : Int) < ((l.map encIs).length : Int)) = false := decide_eq_false (by rw [List.length_map]; omega)
    repeat ((conv => whnf); first | refine sJ ?_ | refine And.intro (by first | exact trivial | kernel_rfl) ?_ | rw [g0])
    try (conv => whnf)
    exact resP.mk rfl (Sees.bool rfl)
set_option maxHeartbeats 4000000 in
theorem c_SameClaim (a b : Claim) (ha : a.small) (hab : a.flow = b.flow → a = b) : PCall Tryz.prog L 27 [a.av, b.av] (.bool (a.flow == b.flow)) := by
  by_cases he : a.flow = b.flow
  rotate_left
  · have e0 : (a.flow != b.flow) = true := by simpa using he
    refine PCall.intro mixed [] (nt := 63) Tryz.func27 rfl rfl (by simp) ?_
    repeat ((conv => whnf); first | refine sJ ?_ | refine And.intro (by first | exact trivial | kernel_rfl) ?_ | rw [e0])
    try (conv => whnf)
    exact resP.mk rfl (Sees.bool (by simpa using he))
  have hb := hab he
  subst hb
  have e0 : (a.flow != a.flow) = false := by simp
  have e1 : (((a.slots.map encIs).length : Int) != ((a.slots.map encIs).length : Int)) = false := by simp
  refine PCall.intro mixed [] (nt := 63) Tryz.func27 rfl rfl (by simp) ?_
  repeat ((conv => whnf); first | refine sJ ?_ | refine And.intro (by first | exact trivial | kernel_rfl) ?_ | rw [e0])
  try (conv => whnf)
  first | refine CallK.data rfl (c_Same33e L a.routes ha.routes ha.route) rfl ?_ | refine CallP.data rfl (c_Same33e L a.routes ha.routes ha.route) rfl ?_
  refine Wk ?_
  first | refine CallK.data rfl (c_SameInts31 L a.bounds a.bounds (by have := ha.bounds; omega)) rfl ?_ | refine CallP.data rfl (c_SameInts31 L a.bounds a.bounds (by have := ha.bounds; omega)) rfl ?_
  rw [decide_eq_true rfl]
  refine Wk ?_
  first | refine CallK.data rfl (c_SameInts31 L a.worst a.worst (by have := ha.worst; omega)) rfl ?_ | refine CallP.data rfl (c_SameInts31 L a.worst a.worst (by have := ha.worst; omega)) rfl ?_
  rw [decide_eq_true rfl]
  repeat ((conv => whnf); first | refine sJ ?_ | refine And.intro (by first | exact trivial | kernel_rfl) ?_ | rw [e1])
  try (conv => whnf)
  have hsl := ha.slots
  refine LoopK.run mixed [] (fun k : Nat => k ≤ a.slots.length) (fun k => [(2, .ptr 0 0), (3, .ptr 1 0), (5, .int .i64 k)]) (fun _ => ⟨[.cells a.cs 64, .cells a.cs 64], [], 0, 0, fun _ => 0⟩) (fun k => a.slots.length - k) 0 (by omega) ?_ ?_
  · refine Fits.mk' rfl rfl rfl rfl ?_ ?_ ?_ ?_ ?_ <;> repeat' (first | exact trivial | refine And.intro ?_ ?_ | exact Sees.of_eq rfl | exact lt_b rfl | rfl | exact SeesL.rfl' _)
  rintro k hk
  by_cases hkl : k < a.slots.length
  · obtain ⟨r, hgr⟩ := getLt hkl
    have hmr := getMap (f := encIs) hgr
    have g0 : decide ((k : Int) < ((a.slots.map encIs).length : Int)) = true := decide_eq_true (by rw [List.length_map]; omega)
    repeat ((conv => whnf); first | refine sJ ?_ | refine And.intro (by first | exact trivial | exact inbMap hkl | kernel_rfl) ?_ | rw [g0] | rw [hmr])
    try (conv => whnf)
    first | refine CallK.data rfl (c_SameInts31 L r r (by have := ha.slot r (List.mem_of_getElem? hgr); omega)) rfl ?_ | refine CallP.data rfl (c_SameInts31 L r r (by have := ha.slot r (List.mem_of_getElem? hgr); omega)) rfl ?_
    rw [decide_eq_true rfl]
    refine Wk ?_
    refine ⟨k + 1, by omega, by omega, ?_⟩
    refine Fits.mk' rfl rfl rfl rfl ?_ ?_ ?_ ?_ ?_ <;> repeat' (first | exact trivial | refine And.intro ?_ ?_ | exact Sees.of_eq rfl | exact lt_b rfl | rfl | exact SeesL.rfl' _ | exact Sees.int (succI hkl (by omega)))
  · have hkn : k = a.slots.length := by omega
    subst hkn
    have g0 : decide ((a.slots.length : Int) < ((a.slots.map encIs).length : Int)) = false := decide_eq_false (by rw [List.length_map]; omega)
    repeat ((conv => whnf); first | refine sJ ?_ | refine And.intro (by first | exact trivial | kernel_rfl) ?_ | rw [g0])
    try (conv => whnf)
    exact resP.mk rfl (Sees.bool (by simp))
theorem c_IndexFuncClaim (l : List Claim) (p : Claim → Bool) (g : Nat) (caps : List AV) (hl : l.length ≤ 281474976710656) (hcb : callable Tryz.prog g = true) (hc : fzs caps = some caps) (hp : ∀ x ∈ l, PCall Tryz.prog L g (Claim.av x :: caps) (.bool (p x))) :
    PCall Tryz.prog L 64 [.sl false (l.map Claim.av), .fn g caps] (.int .i64 (idxF p l)) := by
  refine PCall.intro mixed [] (nt := 19) Tryz.func64 rfl rfl (by simp) ?_
  refine Wk ?_
  refine LoopK.run mixed [] (fun (k : Nat) => k ≤ l.length ∧ ∀ j x, j < k → l[j]? = some x → p x = false) (fun k => [(0, .sl false (l.map Claim.av)), (1, .fn g caps), (7, .int .i64 l.length), (8, .int .i64 k)]) (fun k => St.none) (fun k => l.length - k) 0 ⟨by simp, by simp⟩ ?_ ?_
  · refine Fits.mk' rfl rfl rfl rfl ?_ ?_ ?_ ?_ ?_ <;> repeat' (first | exact trivial | refine And.intro ?_ ?_ | exact Sees.of_eq rfl | exact lt_b rfl | rfl | exact Sees.int (by simp) | exact fzs_okk hc)
  rintro k ⟨hk, hinv⟩
  refine Wk ?_
  refine BrK.mk (fun hb => ?_) (fun hb => ?_) <;> (try rw [hb])
  · have hlt : k < l.length := by simpa using hb
    obtain ⟨x, hgx⟩ := getLt hlt
    have hmx := getMap (f := Claim.av) hgx
    repeat ((conv => whnf); first | refine sJ ?_ | refine And.intro (by first | exact inbMap hlt | kernel_rfl) ?_ | rw [hmx])
    try (conv => whnf)
    refine CallK.data hcb (hp x (List.mem_of_getElem? hgx)) (by show (match fz _, fzs caps with | some a, some b => some (a :: b) | _, _ => none) = _; rw [hc]; rfl) ?_
    refine Wk ?_
    refine BrK.mk (fun h2 => ?_) (fun h2 => ?_) <;> (try rw [h2])
    · refine Wk ?_
      exact resP.mk rfl (Sees.int (idxF_some hlt hinv hgx h2).symm)
    · refine Wk ?_
      refine ⟨k + 1, ⟨by omega, fun j y hj hy => ?_⟩, by omega, ?_⟩
      · rcases Nat.lt_succ_iff_lt_or_eq.1 hj with h | rfl
        · exact hinv j y h hy
        · rw [hgx] at hy; injection hy with hy; subst hy; exact h2
      · refine Fits.mk' rfl rfl rfl rfl ?_ ?_ ?_ ?_ ?_ <;> repeat' (first | exact trivial | refine And.intro ?_ ?_ | exact Sees.of_eq rfl | exact lt_b rfl | rfl | exact Sees.int (succI hlt hl) | exact fzs_okk hc)
  · have hk' : k = l.length := by simp at hb; omega
    subst hk'
    refine Wk ?_
    exact resP.mk rfl (Sees.int (idxF_none hinv).symm)
theorem c_ContainsFuncClaim (l : List Claim) (p : Claim → Bool) (g : Nat) (caps : List AV) (hl : l.length ≤ 281474976710656) (hcb : callable Tryz.prog g = true) (hc : fzs caps = some caps) (hp : ∀ x ∈ l, PCall Tryz.prog L g (Claim.av x :: caps) (.bool (p x))) :
    PCall Tryz.prog L 25 [.sl false (l.map Claim.av), .fn g caps] (.bool (l.any p)) := by
  refine PCall.intro mixed [] (nt := 9) Tryz.func25 rfl rfl (by simp) ?_
  refine Wk ?_
  refine CallK.data rfl (c_IndexFuncClaim L l p g caps hl hcb hc hp) (by show (match fz _, fzs [AV.fn g caps] with | some a, some b => some (a :: b) | _, _ => none) = _; rw [show fzs [AV.fn g caps] = some [AV.fn g caps] from by simp [fz, fzs, hc]]; rfl) ?_
  refine Wk ?_
  exact resP.mk rfl (Sees.bool (idxF_any p l))
theorem c_srv1 (c : Cell) (x : Req) : PCall Tryz.prog L 24 [c.av, .cptr x.av 0] (.bool (c.flow != x.flow.id)) := by
  refine PCall.intro mixed [] (nt := 10) Tryz.func24 rfl rfl (by simp) ?_
  refine Wk ?_
  exact resP.mk rfl (Sees.bool rfl)
theorem c_srv2 (z y : Claim) (hy : y.small) (h : y.flow = z.flow → y = z) : PCall Tryz.prog L 26 [z.av, .cptr y.av 0] (.bool (y.flow == z.flow)) := by
  refine PCall.intro mixed [] (nt := 7) Tryz.func26 rfl rfl (by simp) ?_
  refine Wk ?_
  first | refine CallK.data rfl (c_SameClaim L y z hy h) rfl ?_ | refine CallP.data rfl (c_SameClaim L y z hy h) rfl ?_
  refine Wk ?_
  exact resP.mk rfl (Sees.bool rfl)
end
end HM
