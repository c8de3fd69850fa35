/- A player: the beginning. -/
import Derived.Test.YtcbpgfmedemibaaGreatDoorS77
import Derived.Test.YtcbpgfmedemibaaGreatDoorDb
import Derived.Test.YtcbpgfmedemibaaGreatDoorS78
import Derived.Test.YtcbpgfmedemibaaGreatDoorFh
import Derived.Shelf.Small.Wraps
import Derived.Test.YtcbpgfmedemibaaGreatDoorDc
/- A player: the beginning. -/
set_option maxRecDepth 100000
namespace HM
open Go Go.RowKit Go.Proofs

section
variable (L : World → Prop) {kx : KX}
def fstAV : AV := .agg [.int .i64 (-1), .nilm, .nilm, .nilm, .bool false]
/-- a new player, part of whose states are there -/
structure NewI (kx : KX) (S : St) (pb : Nat) (l : List Flow) (s : Sched) (x : List Rule) (k : Nat) (sv : AV) : Prop where
  p : S.bx[pb]? = some (.cells (plC l s x sv .nils .nils) 145)
  kb : ∀ e ∈ kx.ks, S.bx[e.1]? = some (.cells e.2.1 e.2.2)
  q : (k = 0 ∧ sv = .grown .nils 0) ∨ ∃ qb ex, sv = .vsl qb 0 k 5 ∧ S.bx[qb]? = some (.cells (flatE (List.replicate k fstAV) ++ ex) 209)
theorem repWide (k : Nat) : Wide 5 (List.replicate k fstAV) := fun e he => by
  obtain ⟨_, rfl⟩ := List.mem_replicate.1 he
  rfl
theorem rep_flen (k : Nat) : (flatE (List.replicate k fstAV)).length = k * 5 := by
  have := (repWide k).flen
  rwa [List.length_replicate] at this
theorem rep_snoc (k : Nat) (ex : List AV) : flatE (List.replicate k fstAV) ++ (flatE [fstAV] ++ ex) = flatE (List.replicate (k + 1) fstAV) ++ ex := by
  rw [List.replicate_succ', flatE_app, List.append_assoc]
theorem NewI.first {kx : KX} {S : St} {pb : Nat} {l : List Flow} {s : Sched} {x : List Rule} {sv : AV} (h : NewI kx S pb l s x 0 sv) (y1 : Nat × Nat) (e : TypeId) (n m d : Nat) (hn : n = S.bx.length) (hm : m = 1) :
    NewI kx (((S.addF y1 e).addB (.cells (flatE [fstAV] ++ List.replicate d .undef) 209)).setB pb (.cells (plC l s x (.vsl n 0 m 5) .nils .nils) 145)) pb l s x 1 (.vsl n 0 m 5) := by
  subst hn; subst hm
  have hlt := (List.getElem?_eq_some_iff.1 h.p).1
  refine ⟨St.setB_get (St.addB_old (S := S.addF y1 e) h.p), fun z hz => by rw [St.setB_ne (ne_cc h.p (h.kb z hz) (kx.hk z hz).1.symm)]; exact St.addB_old (S := S.addF y1 e) (h.kb z hz), .inr ⟨S.bx.length, List.replicate d .undef, rfl, ?_⟩⟩
  rw [St.setB_ne (by omega)]
  exact St.addB_get (S.addF y1 e) _
theorem NewI.room {kx : KX} {S : St} {pb : Nat} {l : List Flow} {s : Sched} {x : List Rule} {k qb : Nat} {ex : List AV} {sv : AV} (h : NewI kx S pb l s x k sv) (hq : S.bx[qb]? = some (.cells (flatE (List.replicate k fstAV) ++ ex) 209)) (y1 : Nat × Nat) (e : TypeId) (hr : (k + 1) * 5 ≤ (flatE (List.replicate k fstAV) ++ ex).length) :
    NewI kx (((S.addF y1 e).setB qb (.cells (splice (flatE (List.replicate k fstAV) ++ ex) (k * 5) (flatE [fstAV])) 209)).setB pb (.cells (plC l s x (.vsl qb 0 (k + 1) 5) .nils .nils) 145)) pb l s x (k + 1) (.vsl qb 0 (k + 1) 5) := by
  have hne : qb ≠ pb := (ne_cc h.p hq (by first | decide | exact (show (145 : Nat) ≠ _ by decide) | exact (show _ ≠ (145 : Nat) by decide) | exact (show _ ≠ (209 : Nat) by decide) | exact (show _ ≠ (147 : Nat) by decide))).symm
  have hfl := rep_flen k
  rw [List.length_append] at hr
  refine ⟨St.setB_get (by rw [St.setB_ne hne]; exact h.p), fun z hz => by rw [St.setB_ne (ne_cc h.p (h.kb z hz) (kx.hk z hz).1.symm), St.setB_ne (ne_cc hq (h.kb z hz) (kx.hk z hz).2.1.symm)]; exact h.kb z hz, .inr ⟨qb, ex.drop 5, rfl, ?_⟩⟩
  rw [St.setB_ne hne.symm, St.setB_get (S := S.addF y1 e) hq]
  have hz : (flatE [fstAV]).length = 5 := rfl
  rw [splice_eq _ _ _ (by rw [List.length_append, hz]; omega), hz, ← hfl, List.take_left, List.drop_append]
  have : List.drop ((flatE (List.replicate k fstAV)).length + 5) (flatE (List.replicate k fstAV)) = [] := List.drop_eq_nil_of_le (by omega)
  rw [this, List.nil_append, show (flatE (List.replicate k fstAV)).length + 5 - (flatE (List.replicate k fstAV)).length = 5 from by omega, List.append_assoc, rep_snoc]
theorem NewI.grow {kx : KX} {S : St} {pb : Nat} {l : List Flow} {s : Sched} {x : List Rule} {k : Nat} {ex : List AV} {sv : AV} (h : NewI kx S pb l s x k sv) (y1 : Nat × Nat) (e : TypeId) (n d : Nat) (hn : n = S.bx.length) :
    NewI kx (((S.addF y1 e).addB (.cells ((flatE (List.replicate k fstAV) ++ ex).take (k * 5) ++ flatE [fstAV] ++ List.replicate d .undef) 209)).setB pb (.cells (plC l s x (.vsl n 0 (k + 1) 5) .nils .nils) 145)) pb l s x (k + 1) (.vsl n 0 (k + 1) 5) := by
  subst hn
  have hlt := (List.getElem?_eq_some_iff.1 h.p).1
  refine ⟨St.setB_get (St.addB_old (S := S.addF y1 e) h.p), fun z hz => by rw [St.setB_ne (ne_cc h.p (h.kb z hz) (kx.hk z hz).1.symm)]; exact St.addB_old (S := S.addF y1 e) (h.kb z hz), .inr ⟨S.bx.length, List.replicate d .undef, rfl, ?_⟩⟩
  rw [St.setB_ne (by omega), ← rep_flen k, List.take_left, List.append_assoc, rep_snoc]
  exact St.addB_get (S.addF y1 e) _

set_option maxHeartbeats 4000000 in
theorem i_newPlayer (S : St) (l : List Flow) (s : Sched) (x : List Rule) {K : AV → St → Prop} (hl : l.length ≤ 16) (hk : ∀ e ∈ kx.ks, S.bx[e.1]? = some (.cells e.2.1 e.2.2))
    (hK0 : ∀ S' pb sv, NewI kx S' pb l s x l.length sv → K (.ptr pb 0) S') :
    ICall Tryz.prog L 82 [encFlows l, s.av, encScript x] S K := by
  refine ICall.intro mixed [2] (nt := 29) Tryz.func82 rfl rfl (by simp) ?_
  repeat ((conv => whnf); first | refine sJ ?_ | refine And.intro (by first | exact trivial | kernel_rfl) ?_ )
  try (conv => whnf)
  refine SeqK.cutN mixed [] [] (fun (pb : Nat) S1 => S1.bx[pb]? = some (.cells (plC l s x .nils .nils .nils) 145) ∧ ∀ e ∈ kx.ks, S1.bx[e.1]? = some (.cells e.2.1 e.2.2)) (fun pb => [(0, encFlows l), (7, .ptr pb 0)]) ?_ ?_
  · repeat ((conv => whnf); first | refine sJ ?_ | refine And.intro (by first | exact trivial | kernel_rfl) ?_ | rw [St.addB_get])
    try (conv => whnf)
    exact ⟨_, ⟨St.addB_get _ _, fun e he => St.addB_old (St.addB_old (S := S.inner) (hk e he))⟩, Sees.of_eq rfl, Sees.of_eq rfl, trivial⟩
  · rintro pb S1 ⟨hp1, hk1⟩
    repeat ((conv => whnf); first | refine sJ ?_ | refine And.intro (by first | exact trivial | kernel_rfl) ?_ )
    try (conv => whnf)
    refine LoopK.recast (id := pb) (.cells (plC l s x (.grown .nils 0) .nils .nils) 145) hp1 rfl ⟨rfl, Sees.rfl' _, Sees.rfl' _, Sees.rfl' _, Sees.rfl' _, Sees.rfl' _, Sees.nilG, Sees.rfl' _, Sees.rfl' _, trivial⟩ ?_
    refine LoopK.runS mixed [] (fun (k : Nat) S1 => k ≤ l.length ∧ ∃ sv, NewI kx S1 pb l s x k sv) (fun k => [(7, .ptr pb 0), (14, .int .i64 l.length), (15, .int .i64 k)]) (fun k => l.length - k) 0 ⟨by omega, _, St.setB_get hp1, fun z hz => by rw [St.setB_ne (ne_cc hp1 (hk1 z hz) (kx.hk z hz).1.symm)]; exact hk1 z hz, .inl ⟨rfl, rfl⟩⟩ ?_ ?_
    · exact ⟨Sees.of_eq rfl, Sees.int (by simp), Sees.of_eq rfl, trivial⟩
    rintro k S2 ⟨hk, sv, hN⟩
    have hp2 := hN.p
    have hml : (1 : Nat) ≤ maxLen := by simp only [maxLen]; omega
    refine Wk ?_
    refine BrK.mk (fun hb => ?_) (fun hb => ?_) <;> (try rw [hb])
    · have hlt : k < l.length := by simpa using hb
      have hw : IntKind.i64.wrap ((k : Int) + 1) = ((k + 1 : Nat) : Int) := (succI hlt (by omega))
      rcases hN.q with ⟨rfl, hsv⟩ | ⟨qb, ex, hsv, hq⟩
      · have hF := fun y1 e n m d => hN.first y1 e n m d
        rw [hsv] at hp2
        have hpA : ∀ y' e, (S2.addF y' e).bx[pb]? = _ := fun _ _ => hp2
        have hpB : ∀ y' e o, ((S2.addF y' e).addB o).bx[pb]? = _ := fun y' e o => St.addB_old (S := S2.addF y' e) hp2
        repeat' ((conv => whnf); first | exact trivial | refine sJ ?_ | refine And.intro (by first | exact trivial | kernel_rfl) ?_ | refine And.intro ?_ ?_ | rw [hp2] | rw [hpA] | rw [hpB] | (intro k) | exact hml)
        all_goals (conv => whnf)
        all_goals exact ⟨1, ⟨by omega, _, hF _ _ _ _ _ rfl rfl⟩, by omega, Sees.of_eq rfl, Sees.of_eq rfl, Sees.int hw, trivial⟩
      · have hF := fun y1 e n d => hN.grow (ex := ex) y1 e n d
        have hR := fun y1 e => hN.room hq y1 e
        rw [hsv] at hp2
        have hne : qb ≠ pb := (ne_cc hp2 hq (by first | decide | exact (show (145 : Nat) ≠ _ by decide) | exact (show _ ≠ (145 : Nat) by decide) | exact (show _ ≠ (209 : Nat) by decide) | exact (show _ ≠ (147 : Nat) by decide))).symm
        have hpA : ∀ y' e, (S2.addF y' e).bx[pb]? = _ := fun _ _ => hp2
        have hpB : ∀ y' e o, ((S2.addF y' e).addB o).bx[pb]? = _ := fun y' e o => St.addB_old (S := S2.addF y' e) hp2
        have hpD : ∀ y' e o, ((S2.addF y' e).setB qb o).bx[pb]? = _ := fun y' e o => (St.setB_ne hne).trans hp2
        have hqA : ∀ y' e, (S2.addF y' e).bx[qb]? = _ := fun _ _ => hq
        have hfl : k * (4 + 1) ≤ (flatE (List.replicate k fstAV) ++ ex).length := by
          rw [List.length_append, rep_flen]; omega
        repeat' ((conv => whnf); first | exact trivial | refine sJ ?_ | refine And.intro (by first | exact trivial | exact (show (_ + 1) * 40 ≤ _ by omega) | exact (by simp only [List.length_cons, List.length_nil, maxLen]; omega) | kernel_rfl) ?_ | refine And.intro ?_ ?_ | rw [hp2] | rw [hpA] | rw [hpB] | rw [hpD] | rw [hqA] | (intro d) | (refine AppK.mk (fun hr => ?_) (fun hr => ?_)) | exact hfl)
        all_goals (conv => whnf)
        all_goals first
          | exact ⟨k + 1, ⟨by omega, _, hF _ _ _ _ rfl⟩, by omega, Sees.of_eq rfl, Sees.of_eq rfl, Sees.int hw, trivial⟩
          | exact ⟨k + 1, ⟨by omega, _, hR _ _ (by assumption)⟩, by omega, Sees.of_eq rfl, Sees.of_eq rfl, Sees.int hw, trivial⟩
    · have hk' : k = l.length := by simp at hb; omega
      subst hk'
      refine Wk ?_
      exact hK0 _ _ _ ⟨hN.p, hN.kb, hN.q⟩
end
end HM

/- A player: a slot. -/
set_option maxRecDepth 100000
namespace HM
open Go Go.RowKit Go.Proofs

instance : Inhabited Del := ⟨⟨0, 0, 0⟩⟩
def Del.enc (d : Del) : List Value := [.int .i64 d.flow, .int .i64 d.frame, .int .i64 d.slot]
theorem Del.enc_ok (G : Gh) (fr : Frs) (w : World) (x : Del) (vs : List Value) : VRs G fr w x.av.cells vs ↔ vs = x.enc := by
  simp only [Del.av, AV.cells, VRs, VR, Del.enc]
  constructor
  · rintro ⟨u, us, rfl, rfl, u2, us2, rfl, rfl, u3, us3, rfl, rfl, rfl⟩; rfl
  · rintro rfl
    exact ⟨_, _, rfl, rfl, _, _, rfl, rfl, _, _, rfl, rfl, rfl⟩
def cfD (a b : Del) : Int := Lib.compareInt a.flow b.flow
theorem ltD (a b : Del) : ltOf cfD a b = decide (a.flow < b.flow) := by
  unfold ltOf cfD Lib.compareInt
  by_cases h1 : a.flow < b.flow
  · simp [h1]
  · by_cases h2 : b.flow < a.flow <;> simp [h1, h2]
theorem swoD : Go.Sort.SWO (ltOf cfD) where
  irrefl x := by rw [ltD]; simp
  trans x y z h1 h2 := by rw [ltD] at *; simp at *; omega
  ntrans x y z h1 h2 := by rw [ltD] at *; simp at *; omega
set_option maxHeartbeats 1000000 in
theorem k_cmpD (x y : Del) (W : World) : Calls Tryz.prog 147 #[.agg x.enc.toArray, .agg y.enc.toArray] W fun e w' => e = .returned (.int .i64 (cfD x y)) ∧ ∃ q os', w' = Go.Sort.grow (W.drewN q) os' := by
  have hcon := fun W' => Tryz.cmp_Compare_int x.flow y.flow W'
  unfold cfD
  generalize Lib.compareInt x.flow y.flow = r at hcon ⊢
  unfold Del.enc
  go_enter Tryz.func147, Tryz.ntmps147
  go_wp2_with (go_at_call 43; refine (hcon _).mono ?_; rintro e w' ⟨rfl, rfl⟩)
  go_ret
  exact ⟨rfl, 0, _, by rw [Go.Sort.alloc_eq_grow, Go.Sort.alloc_eq_grow, Go.Sort.grow_grow]; rfl⟩
theorem k_sortD (blk off cap : Nat) (d : Array (Del × Unit)) (w : World) (hH : Go.Sort.HoldsK (fun p : Del × Unit => p.1.enc) 3 w blk off d) (hblk : blk < w.heap.size) (hsz : d.size < 4611686018427387904) :
    Calls Tryz.prog 146 #[.slice (some ⟨blk, off, none⟩) d.size cap, .func (.func 147) #[] #[]] w fun e w' => e = .returned (.tuple #[]) ∧ ∃ d' n os, Go.Sort.PermIn 0 d.size d d' ∧ Go.Sort.SortedIn (fun p q : Del × Unit => ltOf cfD p.1 q.1) 0 d.size d' ∧ w' = sortWorldK (fun p : Del × Unit => p.1.enc) 3 w blk off n d' os :=
  AnyQ.slices_SortFunc Tryz.sort146 3 Tryz.isAgg147 Tryz.sizeOf147 (fun p : Del × Unit => p.1.enc) (fun _ => rfl) (fun x v hv => by simp [Del.enc] at hv; rcases hv with rfl | rfl | rfl <;> rfl) (fun p q : Del × Unit => cfD p.1 q.1) ⟨fun x => swoD.irrefl x.1, fun x y z => swoD.trans x.1 y.1 z.1, fun x y z => swoD.ntrans x.1 y.1 z.1⟩ 147 #[] blk off cap d w
    (enters_of Tryz.func147 (by kernel_rfl) rfl) (fun _ _ _ _ x y => k_cmpD x.1 y.1 _) hH hblk hsz
theorem k_sortD0 (p : Option Addr) (cap : Nat) (fv : Value) (w : World) : Calls Tryz.prog 146 #[.slice p 0 cap, fv] w fun e w' => e = .returned (.tuple #[]) ∧ w' = w :=
  AnyF.slices_SortFunc_none Tryz.sort146 p cap fv w
end HM

/- A player: a slot as a whole. -/
set_option maxRecDepth 100000
namespace HM
open Go Go.RowKit Go.Proofs

section
variable (L : World → Prop) {kx : KX}
set_option maxHeartbeats 4000000 in
theorem i_slot (S : St) (pb ch : Nat) (l : List Flow) (s : Sched) (x : List Rule) (Q : PL) (t : Nat) (r : RunL) {K : AV → St → Prop} (hI : PIn (PTk kx) S pb ch l s x Q) (hl : FlowsOk l) (hs : (scriptM x).2 = 0) (hSim : SimE l ((t : Int) - 1) Q r) (ht : t ≤ 1073741824) (hc : s.cells.length ≤ 1048576)
    (ha : Q.atts.length ≤ 536870912) (hd : Q.dels.length ≤ 536870912) (hK0 : ∀ S', PIn (PTk kx) S' pb ch l s x (slotS l s x Q t) → K (.tup []) S') :
    ICall Tryz.prog L 83 [.ptr pb 0, .int .i64 t] S K := by
  have hQ := hSim.len
  have h0 := hSim.start hl (by omega)
  rw [show ((t : Int) - 1 + 1) = t from by omega] at h0
  obtain ⟨Q1, hQ1⟩ : ∃ Q1 : PL, Q1 = ⟨releaseS l t Q.sts, Q.atts, Q.dels⟩ := ⟨_, rfl⟩
  rw [← hQ1] at h0
  refine ICall.intro mixed [2] (nt := 40) Tryz.func83 rfl rfl (by simp) ?_
  repeat ((conv => whnf); first | refine sJ ?_ | refine And.intro (by first | exact trivial | kernel_rfl) ?_ )
  try (conv => whnf)
  refine CallK.inl rfl ?_
  refine i_release L (kx := kx) _ pb ch l s x Q t (PInv.frames hI rfl rfl rfl) hl.len hQ (by omega) hl.ok fun S1 hI1 => ?_
  rw [← hQ1] at hI1
  obtain ⟨g, sv, dv, hP1⟩ := hI1
  have hp1 := hP1.p
  repeat ((conv => whnf); first | refine sJ ?_ | refine And.intro (by first | exact trivial | kernel_rfl) ?_ )
  try (conv => whnf)
  refine SeqK.cutN mixed [] [7] (fun (_ : Unit) S2 => PIn (PTk kx) S2 pb ch l s x Q1) (fun _ => [(0, .ptr pb 0), (1, .int .i64 t), (4, .int .i64 Q.dels.length)]) ?_ ?_
  · have hQd : Q1.dels = Q.dels := by rw [hQ1]
    rcases hP1.d with ⟨h1, h2⟩ | ⟨db, ex, h1, h2⟩
    · rw [h2] at hp1
      repeat ((conv => whnf); first | refine sJ ?_ | refine And.intro (by first | exact trivial | kernel_rfl) ?_ | rw [hp1])
      try (conv => whnf)
      exact ⟨(), ⟨g, sv, dv, hP1⟩, Sees.of_eq rfl, Sees.of_eq rfl, Sees.int (by rw [← hQd, h1]; rfl), trivial⟩
    · rw [h1] at hp1
      repeat ((conv => whnf); first | refine sJ ?_ | refine And.intro (by first | exact trivial | kernel_rfl) ?_ | rw [hp1])
      try (conv => whnf)
      exact ⟨(), ⟨g, sv, dv, hP1⟩, Sees.of_eq rfl, Sees.of_eq rfl, Sees.int (by rw [hQd]), trivial⟩
  clear hp1 hP1
  rintro ⟨⟩ S2 ⟨g2, sv2, dv2, hP2⟩
  have hp2 := hP2.p
  repeat ((conv => whnf); first | refine sJ ?_ | refine And.intro (by first | exact trivial | kernel_rfl) ?_ | rw [hp2])
  try (conv => whnf)
  obtain ⟨cs, hcs⟩ : ∃ cs, cs = atM s t := ⟨_, rfl⟩
  have hcl : cs.length ≤ 1048576 := by rw [hcs]; exact Nat.le_trans (at_len s t) hc
  refine SeqK.cutN mixed [] [] (fun (_ : Unit) S3 => PIn (PTk kx) S3 pb ch l s x (cs.foldl (attemptS l x t) Q1)) (fun _ => [(0, .ptr pb 0), (1, .int .i64 t), (4, .int .i64 Q.dels.length)]) ?_ ?_
  · repeat ((conv => whnf); first | refine sJ ?_ | refine And.intro (by first | exact trivial | kernel_rfl) ?_ | rw [hp2])
    try (conv => whnf)
    first | refine CallK.data rfl (c_At L s t (by omega) (by omega)) rfl ?_ | refine CallP.data rfl (c_At L s t (by omega) (by omega)) rfl ?_
    rw [← hcs]
    repeat ((conv => whnf); first | refine sJ ?_ | refine And.intro (by first | exact trivial | kernel_rfl) ?_ )
    try (conv => whnf)
    refine LoopK.runS mixed [] (fun (k : Nat) S3 => k ≤ cs.length ∧ PIn (PTk kx) S3 pb ch l s x ((cs.take k).foldl (attemptS l x t) Q1)) (fun k => [(0, .ptr pb 0), (1, .int .i64 t), (4, .int .i64 Q.dels.length), (21, encCells cs), (22, .int .i64 cs.length), (23, .int .i64 k)]) (fun k => cs.length - k) 0 ⟨by omega, g2, sv2, dv2, hP2⟩ ?_ ?_
    · exact ⟨Sees.of_eq rfl, Sees.of_eq rfl, Sees.of_eq rfl, Sees.of_eq rfl, Sees.int (by simp), Sees.of_eq rfl, trivial⟩
    rintro k S3 ⟨hk, hI3⟩
    refine Wk ?_
    refine BrK.mk (fun hb => ?_) (fun hb => ?_) <;> (try rw [hb])
    · have hlt : k < cs.length := by simpa using hb
      obtain ⟨c, hgc⟩ := getLt hlt
      have hmc := getMap (f := Cell.av) hgc
      have hSk := Sim.fold hl (by omega : (t : Int) ≤ 1099511627776) (by omega) x (cs.take k) h0
      obtain ⟨Qk, hQk⟩ : ∃ Qk, Qk = (cs.take k).foldl (attemptS l x t) Q1 := ⟨_, rfl⟩
      have hlen := fold_len l x t (cs.take k) Q1
      rw [← hQk] at hSk hlen hI3
      obtain ⟨hok, htr⟩ := hSk.ask
      have hQ1a : Q1.atts = Q.atts := by rw [hQ1]
      have hQ1d : Q1.dels = Q.dels := by rw [hQ1]
      rw [hQ1a, hQ1d, List.length_take] at hlen
      repeat ((conv => whnf); first | refine sJ ?_ | refine And.intro (by first | exact trivial | exact inbMap hlt | kernel_rfl) ?_ | rw [hmc] | rw [St.addB_get] | rw [St.setB_get (St.addB_get _ _)])
      try (conv => whnf)
      refine CallK.inl rfl ?_
      refine i_attempt L (kx := kx) _ pb ch l s x Qk c t ?_ hl.len hSk.len hs hok (fun i p hp h0 a b => ?_) (by omega) (by omega) (by omega) fun S4 hI4 => ?_
      · obtain ⟨g3, sv3, dv3, hP3⟩ := hI3
        refine ⟨g3, sv3, dv3, hP3.more (fun id o ho => ?_) rfl rfl⟩
        have := (List.getElem?_eq_some_iff.1 ho).1
        rw [St.setB_ne (by omega)]
        exact St.addB_old ho
      · have := htr i p hp h0 a b
        omega
      · rw [hQk, ← fold_step l x t hgc] at hI4
        refine Wk ?_
        exact ⟨k + 1, ⟨by omega, hI4⟩, by omega, Sees.of_eq rfl, Sees.of_eq rfl, Sees.of_eq rfl, Sees.of_eq rfl, Sees.of_eq rfl, Sees.int (succI hlt (by omega)), trivial⟩
    · have hk' : k = cs.length := by simp at hb; omega
      subst hk'
      rw [List.take_length] at hI3
      refine Wk ?_
      exact ⟨(), hI3, Sees.of_eq rfl, Sees.of_eq rfl, Sees.of_eq rfl, trivial⟩
  · clear hp2 hP2
    rintro ⟨⟩ S3 ⟨g3, sv3, dv3, hP3⟩
    have hSn := Sim.fold hl (by omega : (t : Int) ≤ 1099511627776) (by omega) x cs h0
    obtain ⟨Qn, hQn⟩ : ∃ Qn, Qn = cs.foldl (attemptS l x t) Q1 := ⟨_, rfl⟩
    rw [← hQn] at hSn hP3
    have hlq := fold_len l x t cs Q1
    rw [← hQn, show Q1.dels = Q.dels from by rw [hQ1]] at hlq
    obtain ⟨new, hnew, hend⟩ := hSn.slotEnd
    have hslot : slotS l s x Q t = ⟨Qn.sts, Qn.atts, Qn.dels.take Q.dels.length ++ (Qn.dels.drop Q.dels.length).mergeSort (fun a b => decide (a.flow ≤ b.flow))⟩ := by
      rw [slotS, ← hQ1, ← hcs, ← hQn]
    have hp3 := hP3.p
    rcases hP3.d with ⟨h1, h2⟩ | ⟨db, ex, h1, h2⟩
    · rw [h2] at hp3
      have hb0 : Q.dels = [] := by rw [h1] at hnew; exact (List.append_eq_nil_iff.1 hnew.symm).1
      have hn0 : new = [] := by rw [h1] at hnew; exact (List.append_eq_nil_iff.1 hnew.symm).2
      rw [hb0]
      repeat ((conv => whnf); first | refine sJ ?_ | refine And.intro (by first | exact trivial | kernel_rfl) ?_ | rw [hp3])
      try (conv => whnf)
      refine CallK.inl rfl ?_
      refine ICall.sort0 k_sortD0 ?_
      repeat ((conv => whnf); first | refine sJ ?_ | refine And.intro (by first | exact trivial | kernel_rfl) ?_ )
      try (conv => whnf)
      refine hK0 _ ?_
      rw [hslot, hend [] (by rw [hn0]) .nil, List.append_nil, hb0]
      have : Qn = ⟨Qn.sts, Qn.atts, []⟩ := by rw [← h1]
      rw [← this]
      exact PInv.frames ⟨g3, sv3, dv3, hP3⟩ rfl rfl rfl
    · rw [h1] at hp3
      have hlen : Qn.dels.length = Q.dels.length + new.length := by rw [hnew]; simp
      have hic : InC (Q.dels.length : Int) Qn.dels.length := ⟨by omega, by omega⟩
      repeat ((conv => whnf); first | refine sJ ?_ | refine And.intro (by first | exact trivial | exact hic | kernel_rfl) ?_ | rw [hp3])
      try (conv => whnf)
      refine CallK.inl rfl ?_
      have h2' : S3.bx[db]? = some (.cells (flatE (Q.dels.map Del.av) ++ flatE (new.map Del.av) ++ ex) 147) := by
        rw [h2, hnew, List.map_append, flatE_app]; rfl
      have hfl := (delWide Q.dels).flen
      rw [List.length_map] at hfl
      refine ICall.sort (av := Del.av) (enc := Del.enc) (lt := ltOf cfD) (by decide) (fun _ => rfl) Del.enc_ok k_sortD k_sortD0 h2' (by omega) (by rw [hfl]; simp) (by omega) fun ds hp hps => ?_
      repeat ((conv => whnf); first | refine sJ ?_ | refine And.intro (by first | exact trivial | kernel_rfl) ?_ )
      try (conv => whnf)
      refine hK0 _ ?_
      have hps' : ds.Pairwise fun a b => a.flow ≤ b.flow := hps.imp fun {a b} hab => by
        rw [ltD] at hab
        simpa using hab
      rw [hslot, hend ds hp hps']
      have hlen2 : (Q.dels ++ ds).length = Qn.dels.length := by rw [List.length_append, hlen, hp.length_eq]
      have hfin := hP3.sortD h1 h2 hlen2
      rw [List.map_append, flatE_app] at hfin
      exact PInv.frames hfin rfl rfl rfl
end
end HM
