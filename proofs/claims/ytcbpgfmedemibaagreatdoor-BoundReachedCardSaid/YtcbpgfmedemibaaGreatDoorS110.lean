/- Breaches: the program. -/
import Derived.Test.YtcbpgfmedemibaaGreatDoorS109
import Derived.Test.YtcbpgfmedemibaaGreatDoorS70
import Derived.Test.YtcbpgfmedemibaaGreatDoorFh

set_option maxRecDepth 100000
namespace HM
open Go Go.RowKit Go.Proofs
section
variable (L : World → Prop)
def bSl (n : Net) (r : RunL) (k : Nat) : List (Nat × AV) := [(2, .cptr n.av 0), (3, .cptr r.av 0), (5, .mp 2), (6, .mp 3), (20, encAtts r.atts), (21, .int .i64 r.atts.length), (22, .int .i64 k)]
def bSt (b : BS) : St := ⟨[.dead, .dead, .map (some 4) b.ks (b.vs.map encO), .map (some 4) b.fk (b.fv.map encP)], b.fr, 0, 0, fun _ => 3⟩

theorem getK_mem {α : Type} {ks : List (List Int)} {vs : List α} {x : List Int} {v : α} (h : getK ks vs x = some v) : v ∈ vs := by
  unfold getK at h
  cases hp : posOf ks x with
  | none => rw [hp] at h; cases h
  | some i => rw [hp] at h; exact List.mem_of_getElem? h
theorem tm_key : tmap Tryz.prog 148 = some (some 4, 24) := by kernel_rfl

set_option maxHeartbeats 4000000 in
theorem c_Breaches (n : Net) (hn : n.small) (r : RunL) (hr : r.atts.length ≤ 1099511627776) : PCall Tryz.prog L 31 [n.av, r.av] (encBrcs (brcsM n r)) := by
  refine PCall.intro mixed [1] (nt := 106) Tryz.func31 rfl rfl (by simp) ?_
  refine Wk ?_
  refine SeqK.sem mixed [] ?_
  refine Wk ?_
  refine SemK.freezeB 0 rfl rfl ?_
  refine SemK.freezeB 1 rfl rfl ?_
  refine twC_sound (ct := [16]) mixed _ _ _ _ ?_
  refine Wk ?_
  first | refine CallK.data rfl (c_netCheck L n hn) rfl ?_ | refine CallP.data rfl (c_netCheck L n hn) rfl ?_
  refine Wk ?_
  refine BrK.mk (fun h0 => ?_) (fun h0 => ?_) <;> (try rw [h0])
  · have h0' : netE n ≠ 0 := by simpa using h0
    refine Wk ?_
    exact resP.mk rfl (Sees.of_eq (by rw [brcsM, if_neg h0']; rfl))
  have h0' : netE n = 0 := by simpa using h0
  repeat ((conv => whnf); first | refine sJ ?_ | refine And.intro (by first | exact trivial | kernel_rfl) ?_ | rw [tm_key])
  try (conv => whnf)
  refine SeqK.sem mixed [] ?_
  refine Wk ?_
  refine LoopK.run mixed [13] (fun k : Nat => k ≤ r.atts.length) (fun k => bSl n r k) (fun k => bSt (runB n (r.atts.take k))) (fun k => r.atts.length - k) 0 (by omega) ?_ ?_
  · refine Fits.mk' rfl rfl rfl rfl ?_ ?_ ?_ ?_ ?_ <;> repeat' (first | exact trivial | refine And.intro ?_ ?_ | exact Sees.of_eq rfl | exact lt_b rfl | rfl | exact SeesO.rfl' _ | exact SeesL.rfl' _ | exact Sees.int (by simp))
  rintro k hk
  have hok := runB_ok n (r.atts.take k)
  unfold bSt bSl
  refine Wk ?_
  refine BrK.mk (fun hb => ?_) (fun hb => ?_) <;> (try rw [hb])
  · have hkt : k < r.atts.length := by simpa using hb
    obtain ⟨a, hga⟩ := getLt hkt
    have hma := getMap (f := Att.av) hga
    have hnext : runB n (r.atts.take (k + 1)) = stepB n (runB n (r.atts.take k)) a := by rw [take_succ hga, runB_snoc]
    obtain ⟨b, hbb⟩ : ∃ b, b = runB n (r.atts.take k) := ⟨_, rfl⟩
    rw [← hbb] at hok hnext ⊢
    have hidx : indexN n a.cell.src a.cell.dst = linkK n a.key := by rw [indexN, if_pos h0']; rfl
    repeat ((conv => whnf); first | refine sJ ?_ | refine And.intro (by first | exact inbMap hkt | kernel_rfl) ?_ | rw [hma])
    try (conv => whnf)
    first | refine CallK.data rfl (c_index L n hn a.cell.src a.cell.dst) rfl ?_ | refine CallP.data rfl (c_index L n hn a.cell.src a.cell.dst) rfl ?_
    rw [hidx]
    refine Wk ?_
    by_cases hlk : linkK n a.key < 0
    · have hnb : stepB n b a = b := by rw [stepB, if_pos (.inl hlk)]
      rw [hnb] at hnext
      rw [decide_eq_true hlk]
      refine Wk ?_
      refine ⟨k + 1, by omega, by omega, ?_⟩
      rw [hnext]
      refine Fits.mk' rfl rfl rfl rfl ?_ ?_ ?_ ?_ ?_ <;> repeat' (first | exact trivial | refine And.intro ?_ ?_ | exact Sees.of_eq rfl | exact lt_b rfl | rfl | exact FitF.rfl' _ | exact FitT.of_all (fun _ => rfl) _ | exact okk_encO hok _ | exact okk_encP hok _ | exact SeesO.rfl' _ | exact SeesL.rfl' _ | exact Sees.int (succI hkt (by omega)))
    rw [decide_eq_false hlk]
    cases hg : getK b.fk b.fv a.key with
    | some p =>
      have has : assoc b.fk (b.fv.map encP) a.key = some (encP p) := by rw [assoc_map, hg]; rfl
      have hnb : stepB n b a = b := by rw [stepB, if_pos (.inr (by rw [hg]; rfl))]
      rw [hnb] at hnext
      have hie : (List.map encI p.1).isEmpty = false := by
        have := (hok.ne p (getK_mem hg)).1
        cases hp1 : p.1 with
        | nil => exact absurd hp1 this
        | cons _ _ => rfl
      repeat ((conv => whnf); first | refine sJ ?_ | refine And.intro (by first | exact trivial | kernel_rfl) ?_ | rw [tm_key] | (rw [assoc_at has]; rotate_left; rfl) | rw [hie])
      try (conv => whnf)
      refine ⟨k + 1, by omega, by omega, ?_⟩
      rw [hnext]
      refine Fits.mk' rfl rfl rfl rfl ?_ ?_ ?_ ?_ ?_ <;> repeat' (first | exact trivial | refine And.intro ?_ ?_ | exact Sees.of_eq rfl | exact lt_b rfl | rfl | exact FitF.rfl' _ | exact FitT.of_all (fun _ => rfl) _ | exact okk_encO hok _ | exact okk_encP hok _ | exact SeesO.rfl' _ | exact SeesL.rfl' _ | exact Sees.int (succI hkt (by omega)))
    | none =>
      have has : assoc b.fk (b.fv.map encP) a.key = none := by rw [assoc_map, hg]; rfl
      repeat ((conv => whnf); first | refine sJ ?_ | refine And.intro (by first | exact trivial | kernel_rfl) ?_ | rw [tm_key] | (rw [assoc_at has]; rotate_left; rfl))
      try (conv => whnf)
      refine BrK.mk (fun h1 => ?_) (fun h1 => ?_) <;> (try rw [h1])
      · have h1' : a.out = 1 := by simpa using h1
        repeat ((conv => whnf); first | refine sJ ?_ | refine And.intro (by first | exact trivial | kernel_rfl) ?_ | rw [tm_key])
        try (conv => whnf)
        refine ⟨k + 1, by omega, by omega, ?_⟩
        have hnb : stepB n b a = { b with ks := setKs b.ks a.key, vs := putV b.ks b.vs a.key none } := by rw [stepB, if_neg (fun h => h.elim hlk (fun h => by rw [hg] at h; cases h)), if_pos h1']
        have hok2 := hok.step a
        rw [← hnext] at hok2
        rw [hnb] at hnext
        rw [hnext] at hok2 ⊢
        refine Fits.mk' rfl rfl rfl rfl ?_ ?_ ?_ ?_ ?_ <;> repeat' (first | exact trivial | refine And.intro ?_ ?_ | exact Sees.of_eq rfl | exact lt_b rfl | rfl | exact FitF.rfl' _ | exact FitT.of_all (fun _ => rfl) _ | exact okk_encO hok2 _ | exact okk_encP hok2 _ | exact SeesO.rfl' _ | exact SeesL.rfl' _ | exact Sees.int (succI hkt (by omega)) | exact SeesL.of_eq (setVs_map encO _ _ _ none))
      have h1' : a.out ≠ 1 := by simpa using h1
      obtain ⟨p, hp⟩ : ∃ p, p = appO b.fr (b.row a.key) a.slot := ⟨_, rfl⟩
      repeat ((conv => whnf); first | refine sJ ?_ | refine And.intro (by first | exact trivial | kernel_rfl) ?_ | rw [tm_key])
      try (conv => whnf)
      refine SeqK.cutS mixed [] ((8, .ptr 4 0) :: (9, .ptr 5 0) :: (10, .int .i64 (linkK n a.key)) :: bSl n r k) ⟨[.dead, .dead, .map (some 4) (setKs b.ks a.key) ((putV b.ks b.vs a.key (some p)).map encO), .map (some 4) b.fk (b.fv.map encP), .cells a.av.cells 150, .cells [.int .i64 a.cell.flow, .int .i64 a.frame, .int .i64 a.cell.src, .int .i64 a.cell.dst] 152], frO b.fr (b.row a.key), 0, 0, fun _ => 3⟩ (twC_sound (ct := []) mixed _ _ _ _ ?_) ?_
      · have hk1 := okk_step1 hok 6 a.key a.slot
        have hk2 := okk_step2 hok 6 a.key
        rw [← hp] at hk1
        have hch : ∀ q, b.row a.key = some q → b.fr[q.2]? = some (q.1.length, 1) := fun q hq => by
          have hl0 : 0 ≤ linkK n a.key := by omega
          have := hok.rw_ a.key hl0 (by rw [← hok.fo _ hl0, hg]; rfl)
          rw [hq] at this
          exact this.2
        have hlen : ∀ q, b.row a.key = some q → q.1.length ≤ k := fun q hq => by
          have := hok.rl _ q hq
          rw [List.length_take] at this; omega
        repeat ((conv => whnf); first | refine sJ ?_ | refine And.intro (by first | exact trivial | kernel_rfl) ?_ | rw [tm_key])
        try (conv => whnf)
        intro stamp
        refine OptK.mk (fun i hi => ?_) (fun hi => ?_)
        · have hi' : posOf b.ks a.key = some i := hi
          obtain ⟨v, hv⟩ := getLt (l := b.vs) (k := i) (hok.l1 ▸ posOf_lt hi')
          have hrow : b.row a.key = v := by simp only [BS.row, getK, hi', Option.bind_some, hv, Option.getD_some]
          have hks : b.ks = setKs b.ks a.key := by simp only [setKs, hi']
          have hvs : putV b.ks b.vs a.key (some p) = b.vs.set i (some p) := by simp only [putV, hi']
          refine OptK.mk (fun u hu => ?_) (fun _ => trivial)
          rw [List.getElem?_map, hv, Option.map_some] at hu
          injection hu with hu
          subst hu
          rw [hvs, hrow] at hk1
          rw [hrow] at hk2 hp
          rw [hvs, ← hks, hrow]
          cases v with
          | none =>
            repeat ((conv => whnf); first | refine sJ ?_ | refine And.intro (by first | exact trivial | kernel_rfl) ?_ )
            try (conv => whnf)
            refine Fits.mk' rfl rfl rfl rfl ?_ ?_ ?_ ?_ ?_ <;> repeat' (first | exact trivial | refine And.intro ?_ ?_ | exact Sees.of_eq rfl | exact lt_b rfl | rfl | exact FitF.rfl' _ | exact FitT.of_all (fun c => (updT_same (updT_same (fun _ => rfl)) c).symm) _ | exact hk1 | exact hk2 | exact SeesO.rfl' _ | exact SeesL.rfl' _ | exact SeesL.of_eq (by rw [hp, List.map_set]; rfl))
          | some q =>
            have hq := hlen q hrow
            have hcq := hch q hrow
            have hql := (List.getElem?_eq_some_iff.1 hcq).1
            have hcq2 : (b.fr ++ [(1, 1)])[q.2]? = some ((List.map encI q.1).length, 0 + 1) := by rw [List.getElem?_append_left hql, List.length_map]; exact hcq
            repeat ((conv => whnf); first | refine sJ ?_ | refine And.intro (by first | exact trivial | exact Els.map (f := encI) (fun _ => ⟨rfl, rfl⟩) | exact (show _ * 8 ≤ _ by simp only [List.length_map, List.length_cons, List.length_nil]; omega) | exact (by simp only [List.length_map, List.length_cons, List.length_nil, maxLen]; omega) | exact hcq2 | exact updT_same (fun _ => rfl) _ | kernel_rfl) ?_ )
            try (conv => whnf)
            have hff : FitF ((b.fr ++ [(1, 1)]).set q.2 ((List.map encI q.1 ++ [AV.int .i64 a.slot]).length, 0 + 1)) (b.fr.set q.2 (q.1.length + 1, 1)) := by
              rw [List.length_append, List.length_map]
              exact FitF.setApp _ hql
            refine Fits.mk' rfl rfl rfl rfl ?_ ?_ ?_ ?_ ?_ <;> repeat' (first | exact trivial | refine And.intro ?_ ?_ | exact Sees.of_eq rfl | exact lt_b rfl | rfl | exact hff | exact FitT.of_all (fun c => (updT_same (fun _ => rfl) c).symm) _ | exact hk1 | exact hk2 | exact SeesO.rfl' _ | exact SeesL.rfl' _ | exact SeesL.of_eq (by rw [hp, List.map_set]; show _ = (List.map encO b.vs).set i (.own ((q.1 ++ [a.slot]).map encI) q.2); rw [List.map_append]; rfl))
        · have hi' : posOf b.ks a.key = none := hi
          have hrow : b.row a.key = none := by simp only [BS.row, getK, hi']; rfl
          have hks : b.ks ++ [a.key] = setKs b.ks a.key := by simp only [setKs, hi']
          have hvs : putV b.ks b.vs a.key (some p) = b.vs ++ [some p] := by simp only [putV, hi']
          rw [hvs, hrow] at hk1
          rw [hrow] at hk2 hp
          rw [hvs, ← hks, hrow]
          repeat ((conv => whnf); first | refine sJ ?_ | refine And.intro (by first | exact trivial | kernel_rfl) ?_ )
          try (conv => whnf)
          refine Fits.mk' rfl rfl rfl rfl ?_ ?_ ?_ ?_ ?_ <;> repeat' (first | exact trivial | refine And.intro ?_ ?_ | exact Sees.of_eq rfl | exact lt_b rfl | rfl | exact FitF.rfl' _ | exact FitT.of_all (fun c => (updT_same (updT_same (fun _ => rfl)) c).symm) _ | exact hk1 | exact hk2 | exact SeesO.rfl' _ | exact SeesL.rfl' _ | exact SeesL.of_eq (by rw [hp, List.map_append, List.set_append_right _ _ (by rw [List.length_map, hok.l1]; exact Nat.le_refl _), hok.l1, List.length_map, Nat.sub_self]; rfl))
      · clear has
        have hl0 : 0 ≤ linkK n a.key := by omega
        obtain ⟨i, l, e1, e2, _, _⟩ := findL_at (n := n) (a := a.cell.src) (b := a.cell.dst) hl0
        have hil := (List.getElem?_eq_some_iff.1 e2).1
        have hml := getMap (f := Link.av) e2
        have hli : linkK n a.key = (i : Int) := e1
        have hlo : lossK n a.key = l.loss := by
          show lossL n a.cell.src a.cell.dst = _
          rw [lossL, e1, Int.toNat_natCast, e2]
        have has2 : assoc (setKs b.ks a.key) ((putV b.ks b.vs a.key (some p)).map encO) a.key = some (encP p) := by rw [assoc_map, get_put hok.l1, if_pos rfl]; rfl
        rw [hli]
        repeat ((conv => whnf); first | refine sJ ?_ | refine And.intro (by first | exact trivial | exact inbMap hil | kernel_rfl) ?_ | rw [tm_key] | (rw [assoc_at has2]; rotate_left; rfl) | rw [hml])
        try (conv => whnf)
        rw [List.length_map]
        have hok2 := hok.step a
        rw [← hnext] at hok2
        have hnb : stepB n b a = if l.loss < (p.1.length : Nat) then ⟨setKs b.ks a.key, putV b.ks b.vs a.key (some p), setKs b.fk a.key, putV b.fk b.fv a.key p, frO b.fr (b.row a.key)⟩ else ⟨setKs b.ks a.key, putV b.ks b.vs a.key (some p), b.fk, b.fv, frO b.fr (b.row a.key)⟩ := by
          rw [stepB, if_neg (fun h => h.elim hlk (fun h => by rw [hg] at h; cases h)), if_neg h1', ← hp, hlo]
        rw [hnb] at hnext
        by_cases hgt : l.loss < (p.1.length : Nat)
        · rw [if_pos hgt] at hnext
          rw [hnext] at hok2
          rw [decide_eq_true hgt]
          repeat ((conv => whnf); first | refine sJ ?_ | refine And.intro (by first | exact trivial | kernel_rfl) ?_ | rw [tm_key] | (rw [assoc_at has2]; rotate_left; rfl))
          try (conv => whnf)
          refine ⟨k + 1, by omega, by omega, ?_⟩
          rw [hnext]
          refine Fits.mk' rfl rfl rfl rfl ?_ ?_ ?_ ?_ ?_ <;> repeat' (first | exact trivial | refine And.intro ?_ ?_ | exact Sees.of_eq rfl | exact lt_b rfl | rfl | exact FitF.rfl' _ | exact FitT.of_all (fun _ => rfl) _ | exact okk_encO hok2 _ | exact okk_encP hok2 _ | exact SeesO.rfl' _ | exact SeesL.rfl' _ | exact Sees.int (succI hkt (by omega)) | exact SeesL.of_eq (setVs_map encP _ _ _ p))
        · rw [if_neg hgt] at hnext
          rw [hnext] at hok2
          rw [decide_eq_false hgt]
          refine Wk ?_
          refine ⟨k + 1, by omega, by omega, ?_⟩
          rw [hnext]
          refine Fits.mk' rfl rfl rfl rfl ?_ ?_ ?_ ?_ ?_ <;> repeat' (first | exact trivial | refine And.intro ?_ ?_ | exact Sees.of_eq rfl | exact lt_b rfl | rfl | exact FitF.rfl' _ | exact FitT.of_all (fun _ => rfl) _ | exact okk_encO hok2 _ | exact okk_encP hok2 _ | exact SeesO.rfl' _ | exact SeesL.rfl' _ | exact Sees.int (succI hkt (by omega)))
  · have hkn : k = r.atts.length := by simp at hb; omega
    subst hkn
    rw [List.take_length] at hok ⊢
    have hbr : brcsM n r = refB n r.atts r.atts.length := by rw [brcsM, if_pos h0']
    have hfin := fun ds => brcs_eq (n := n) (ats := r.atts) (ds := ds)
    have hfl := hok.fl
    rw [hbr]
    obtain ⟨b, hbb⟩ : ∃ b, b = runB n r.atts := ⟨_, rfl⟩
    rw [← hbb] at hok hfl hfin ⊢
    refine Wk ?_
    refine SemK.freezeM 3 rfl (fzs_encP _) ?_
    refine SemK.weak (l := [(6, .cmp (some 4) b.fk (b.fv.map encF))]) (S1 := ⟨[.dead], [], 0, 0, fun _ => 0⟩) ?_ ?_
    · refine Fits.mk' rfl rfl rfl rfl ?_ ?_ ?_ ?_ ?_ <;> repeat' (first | exact trivial | refine And.intro ?_ ?_ | exact Sees.of_eq rfl | exact lt_b rfl | rfl | exact FitF.nil _)
    refine twC_sound (ct := [21]) mixed _ _ _ _ ?_
    refine Wk ?_
    refine SeqK.sem mixed [] ?_
    refine Wk ?_
    refine LoopK.runR mixed [] (fun s : List Nat × Nat => s.1.Nodup ∧ ∀ i ∈ s.1, i < b.fk.length) (fun s => [(11, if s.1 = [] then .grown .nils 0 else .vsl 2 0 s.1.length 5), (84, .ptr 1 0)]) (fun s => ⟨[.dead, .iter (some 4) b.fk (b.fv.map encF) s.1] ++ (if s.1 = [] then [] else [.cells (flatE ((outS b s.1).map Brc.av) ++ List.replicate (s.2 * 5) .undef) 154]), [], 0, 0, fun _ => 0⟩) (fun s => b.fk.length - s.1.length) ([], 0) ⟨.nil, by simp⟩ ?_ ?_
    · refine Fits.mk' rfl rfl rfl rfl ?_ ?_ ?_ ?_ ?_ <;> repeat' (first | exact trivial | refine And.intro ?_ ?_ | exact Sees.of_eq rfl | exact lt_b rfl | rfl | exact FitF.nil _ | exact Sees.nilG)
    rintro ⟨seen, d⟩ ⟨hnd, hlt⟩
    dsimp only at hnd hlt ⊢
    refine Wk ?_
    refine ⟨fun i kk v hi hkk hv => ?_, fun hall => ?_⟩
    · rw [List.getElem?_map] at hv
      cases hp : b.fv[i]? with
      | none => rw [hp] at hv; cases hv
      | some p =>
      rw [hp] at hv
      injection hv with hv
      subst hv
      obtain ⟨a, ha, rfl, hlk⟩ := hok.from_ kk (List.mem_of_getElem? hkk)
      have hif := (List.getElem?_eq_some_iff.1 hkk).1
      have hsn := outS_snoc b seen hkk hp
      have hnd2 : (seen ++ [i]).Nodup := List.nodup_append.2 ⟨hnd, by simp, fun x hx y hy => by simp at hy; subst hy; exact fun e => hi (e ▸ hx)⟩
      have hlt2 : ∀ j ∈ seen ++ [i], j < b.fk.length := fun j hj => by
        rcases List.mem_append.1 hj with hj | hj
        · exact hlt j hj
        · simp at hj; subst hj; exact hif
      have hsl := nodup_len hnd2 hlt2
      rw [List.length_append, List.length_singleton] at hsl
      have hgl : (seen ++ [i]).getLast? = some i := by simp
      have hvv : (b.fv.map encF)[i]? = some (encF p) := by rw [List.getElem?_map, hp]; rfl
      by_cases hs : seen = []
      · rw [if_pos hs, if_pos hs]
        have hout : outS b seen = [] := by rw [hs]; rfl
        rw [hout] at hsn
        have hne2 : seen ++ [i] ≠ [] := by simp
        have hl1 : (seen ++ [i]).length = 1 := by rw [hs]; rfl
        repeat ((conv => whnf); first | refine sJ ?_ | refine And.intro (by first | exact trivial | kernel_rfl) ?_ | rw [hgl] | rw [hkk] | rw [hvv] | refine And.intro ⟨rfl, Els.of_b rfl, Nat.succ_pos _, Nat.le_of_ble_eq_true rfl, Nat.le_of_ble_eq_true rfl⟩ ?_)
        try (conv => whnf)
        intro d2
        refine Wk ?_
        refine ⟨(seen ++ [i], d2), swp 2 3, ⟨hnd2, hlt2⟩, by dsimp only; rw [hl1, hs]; simp; omega, ?_⟩
        dsimp only
        rw [if_neg hne2, if_neg hne2, hsn, hl1]
        refine FitsR.mk' rfl rfl rfl rfl rfl rfl ?_ ?_ ?_ ?_ ?_ <;> repeat' (first | exact trivial | exact FitF.nil _ | exact okks_append (brcOk.okk _ _ _) (okks_undef _ _ _) | exact SeesL.of_eq (by rw [brcOk.ren]; rfl) | refine And.intro ?_ ?_ | exact SeesL.of_eq rfl | exact Sees.of_eq rfl | exact lt_b rfl | rfl)
      · rw [if_neg hs, if_neg hs]
        have hne2 : seen ++ [i] ≠ [] := by simp
        have hol := outS_len b seen
        have hfl5 := brcOk.flen (outS b seen)
        repeat ((conv => whnf); first | refine sJ ?_ | refine And.intro (by first | exact trivial | kernel_rfl) ?_ | rw [hgl] | rw [hkk] | rw [hvv])
        try (conv => whnf)
        refine And.intro ⟨rfl, rfl, Els.of_b rfl, Nat.succ_pos _, (show (_ + 1) * 56 ≤ _ by omega), (show _ + 1 ≤ maxLen by simp only [maxLen]; omega), (by rw [List.length_append, hfl5, hol]; exact Nat.le_add_right _ _)⟩ ?_
        refine AppK.mk (fun hroom => ?_) (fun _ => ?_)
        · refine Wk ?_
          refine ⟨(seen ++ [i], d - 1), swp 2 2, ⟨hnd2, hlt2⟩, by dsimp only; rw [List.length_append, List.length_singleton]; omega, ?_⟩
          dsimp only
          rw [if_neg hne2, if_neg hne2, hsn, List.length_append, List.length_singleton]
          rw [List.length_append, hfl5, hol] at hroom
          have hpush := brcOk.push (outS b seen) (Brc.of a.key p.1) d (by rw [List.length_append, hfl5, hol]; exact hroom)
          rw [hol] at hpush
          refine FitsR.mk' rfl rfl rfl rfl rfl rfl ?_ ?_ ?_ ?_ ?_ <;> repeat' (first | exact trivial | exact FitF.nil _ | exact okks_append (brcOk.okk _ _ _) (okks_undef _ _ _) | exact SeesL.of_eq (by rw [brcOk.ren, ← hpush]; rfl) | refine And.intro ?_ ?_ | exact SeesL.of_eq rfl | exact Sees.of_eq rfl | exact lt_b rfl | rfl)
        · intro d2
          refine Wk ?_
          refine ⟨(seen ++ [i], d2), swp 2 4, ⟨hnd2, hlt2⟩, by dsimp only; rw [List.length_append, List.length_singleton]; omega, ?_⟩
          dsimp only
          rw [if_neg hne2, if_neg hne2, hsn, List.length_append, List.length_singleton]
          have hcut := brcOk.cut (outS b seen) (List.replicate (d * 5) .undef)
          rw [hol] at hcut
          refine FitsR.mk' rfl rfl rfl rfl rfl rfl ?_ ?_ ?_ ?_ ?_ <;> repeat' (first | exact trivial | exact FitF.nil _ | exact okks_append (brcOk.okk _ _ _) (okks_undef _ _ _) | exact SeesL.of_eq (by rw [brcOk.ren, ← flatE_push]; show List.take (seen.length * 5) _ ++ _ ++ _ = _; rw [hcut]; rfl) | refine And.intro ?_ ?_ | exact SeesL.of_eq rfl | exact Sees.of_eq rfl | exact lt_b rfl | rfl)
    · have hall' : ∀ j, j < b.fk.length → j ∈ seen := hall
      have hperm := outS_all hok.l2 hnd hlt hall'
      by_cases hs : seen = []
      · rw [if_pos hs, if_pos hs]
        rw [hs] at hperm
        have hfe := hfin [] hperm .nil
        refine Wk ?_
        refine SemK.weak (l := [(11, .nils)]) (S1 := ⟨[], [], 0, 0, fun _ => 0⟩) ?_ ?_
        · refine Fits.mk' rfl rfl rfl rfl ?_ ?_ ?_ ?_ ?_ <;> repeat' (first | exact trivial | refine And.intro ?_ ?_ | exact Sees.of_eq rfl | exact lt_b rfl | rfl | exact FitF.nil _ | exact Sees.gNil)
        refine twC_sound (ct := []) mixed _ _ _ _ ?_
        refine Wk ?_
        refine CallK.inl rfl (ICall.sort0 k_sortB0 ?_)
        refine Wk ?_
        exact resP.mk rfl (Sees.of_eq (by rw [← hfe]; rfl))
      · rw [if_neg hs, if_neg hs]
        have hol := outS_len b seen
        have hsl := nodup_len hnd hlt
        refine Wk ?_
        refine SemK.weak (l := [(11, .vsl 2 0 seen.length 5)]) (S1 := ⟨[.dead, .dead, .cells (flatE ((outS b seen).map Brc.av) ++ List.replicate (d * 5) .undef) 154], [], 0, 0, fun _ => 0⟩) ?_ ?_
        · refine Fits.mk' rfl rfl rfl rfl ?_ ?_ ?_ ?_ ?_ <;> repeat' (first | exact trivial | refine And.intro ?_ ?_ | exact Sees.of_eq rfl | exact lt_b rfl | rfl | exact FitF.nil _ | exact okks_append (brcOk.okk _ _ _) (okks_undef _ _ _) | exact SeesL.rfl' _)
        refine twC_sound (ct := []) mixed _ _ _ _ ?_
        refine Wk ?_
        rw [← hol]
        refine CallK.inl rfl (i_sortB rfl (by omega) fun ds hds hso => ?_)
        have hfe := hfin ds (hds.trans hperm) hso
        refine Wk ?_
        exact resP.mk (brcOk.fzb rfl hds.length_eq) (Sees.of_eq (by rw [hfe]; rfl))
end
end HM
