/- A run. -/
import Derived.Test.YtcbpgfmedemibaaGreatDoorS79
import Derived.Test.YtcbpgfmedemibaaGreatDoorS70
import Derived.Test.YtcbpgfmedemibaaGreatDoorDc

set_option maxRecDepth 100000
namespace HM
open Go Go.RowKit Go.Proofs

def kxRun (id : Nat) : KX := ⟨[(id, [.nils, .nils], 71)], by
  intro e he
  obtain rfl : e = _ := List.mem_singleton.1 he
  exact ⟨(show (71 : Nat) ≠ 145 by decide), (show (71 : Nat) ≠ 209 by decide), (show (71 : Nat) ≠ 147 by decide)⟩⟩
theorem NewI.start {kx : KX} {S : St} {pb : Nat} {l : List Flow} {s : Sched} {x : List Rule} {sv : AV} (h : NewI kx S pb l s x l.length sv) :
    PIn (PTk kx) (((S.addF (0, 8) 150).setB pb (.cells (plC l s x sv (.own [] S.fr.length) .nils) 145)).setB pb (.cells (plC l s x sv (.own [] S.fr.length) (.grown .nils 0)) 145)) pb S.fr.length l s x ⟨l.map fun _ => PS.first, [], []⟩ := by
  refine ⟨fun _ _ => 0, sv, .grown .nils 0, ?_, ?_, fun i p hp h0 => ?_, fun i p i' p' hp _ h0 => ?_, ?_, ?_, fun z hz => ?_, .inl ⟨rfl, rfl⟩⟩
  · exact St.setB_get (St.setB_get (S := S.addF (0, 8) _) h.p)
  · rcases h.q with ⟨h1, h2⟩ | ⟨qb, ex, h1, h2⟩
    · exact .inl ⟨by rw [List.length_eq_zero_iff.1 h1]; rfl, h2⟩
    · refine .inr ⟨qb, ex, by rw [List.length_map]; exact h1, ?_⟩
      have hne : pb ≠ qb := ne_cc h.p h2 (by decide)
      rw [St.setB_ne hne, St.setB_ne hne, states0 l _ fstAV (fun _ => rfl)]
      exact h2
  · exfalso
    have : p = PS.first := by
      simp only [List.getElem?_map, Option.map_eq_some_iff] at hp
      obtain ⟨_, _, rfl⟩ := hp; rfl
    subst this
    exact absurd h0 (by decide)
  · exfalso
    have : p = PS.first := by
      simp only [List.getElem?_map, Option.map_eq_some_iff] at hp
      obtain ⟨_, _, rfl⟩ := hp; rfl
    subst this
    exact absurd h0 (by decide)
  · show (S.fr ++ [(0, 8)])[S.fr.length]? = some (0, 8)
    simp
  · show (updT S.ty S.fr.length _) S.fr.length = _
    simp [updT]; rfl
  · rw [St.setB_ne (ne_cc h.p (h.kb z hz) (kx.hk z hz).1.symm), St.setB_ne (ne_cc h.p (h.kb z hz) (kx.hk z hz).1.symm)]
    exact h.kb z hz

/-- a cut behind which one may still look at the store in another way -/
theorem SeqK.cutNS {P : Program} {L : World → Prop} {nt : Nat} (hm : P.follows .mixedOrders = true) (ct : List Nat) {c d : Code} {a : Nat → AV} {S : St} {Q : Exit → (Nat → AV) → St → Prop} {σ : Type} (I : σ → St → Prop) (sl : σ → List (Nat × AV))
    (hc : twC P L nt ct c a S (seqQ (fun a' S' => ∃ s, I s S' ∧ FitN a' (sl s)) Q)) (hd : ∀ s S, I s S → SemK P L nt d (ofL (sl s)) S Q) : SeqK P L nt c d a S Q := by
  refine ⟨⟨fun w0 G act w hR => ?_⟩⟩
  refine wpIn_seq (Go.wpIn_mono ((twC_sound hm c a S _ hc).out w0 G act w hR) fun e a' w' ⟨G', a1, S', hR', hq⟩ => ?_)
  cases e with
  | normal =>
    obtain ⟨s, hI, hfit⟩ := hq
    exact (hd s S' hI).out w0 _ a' w' (hR'.slots hfit)
  | _ => exact ⟨G', a1, S', hR', hq⟩
theorem resP_run {X : St} {al : List Att} {ds : List Del} {ch db n : Nat} {ex : List AV} {t : TypeId} (hdb : X.bx[db]? = some (.cells (flatE (ds.map Del.av) ++ ex) t)) (hn : ds.length = n) : resP (.tup [(⟨al, ds⟩ : RunL).av, .int .i64 0]) (.tup [.agg [.own (al.map Att.av) ch, .vsl db 0 n 3], .int .i64 0]) X :=
  resP.mk (r0 := .tup [.agg [.sl false (al.map Att.av), .sl false (ds.map Del.av)], .int .i64 0]) (by
    have e1 : fzbs X [.own (al.map Att.av) ch, .vsl db 0 n 3] = some [.sl false (al.map Att.av), .sl false (ds.map Del.av)] := fz2 rfl (fz2 (delOk.fzb hdb hn) rfl)
    have e2 : fzb X (.agg [.own (al.map Att.av) ch, .vsl db 0 n 3]) = some (.agg [.sl false (al.map Att.av), .sl false (ds.map Del.av)]) := by
      show Option.map AV.agg (fzbs X [.own (al.map Att.av) ch, .vsl db 0 n 3]) = _
      rw [e1]; rfl
    show Option.map AV.tup (fzbs X [.agg [.own (al.map Att.av) ch, .vsl db 0 n 3], .int .i64 0]) = _
    rw [fz2 e2 (b' := [.int .i64 0]) rfl]; rfl) (Sees.of_eq rfl)

set_option maxHeartbeats 4000000 in
theorem c_Play (l : List Flow) (s : Sched) (x : List Rule) (slots : Int) (hl : l.length ≤ 281474976710656) (hx : ∀ r ∈ x, r.outs.length ≤ 281474976710656) (hxl : x.length ≤ 281474976710656) :
    PCall Tryz.prog LW 29 [encFlows l, s.av, encScript x, .int .i64 slots] (.tup [(playM l s x slots).1.av, .int .i64 (playM l s x slots).2]) := by
  refine PCall.intro mixed [10] (nt := 38) Tryz.func29 rfl rfl (by simp) ?_
  repeat ((conv => whnf); first | refine sJ ?_ | refine And.intro (by first | exact trivial | kernel_rfl) ?_ )
  try (conv => whnf)
  first | refine CallK.data rfl (c_ready l s x slots hl hx hxl) rfl ?_ | refine CallP.data rfl (c_ready l s x slots hl hx hxl) rfl ?_
  repeat ((conv => whnf); first | refine sJ ?_ | refine And.intro (by first | exact trivial | kernel_rfl) ?_ )
  try (conv => whnf)
  refine BrK.mk (fun h1 => ?_) (fun h1 => ?_) <;> (try rw [h1])
  · have h1' : readyM l s x slots ≠ 0 := by simpa using h1
    have hpm : playM l s x slots = (⟨[], []⟩, readyM l s x slots) := by rw [playM, if_pos h1']
    repeat ((conv => whnf); first | refine sJ ?_ | refine And.intro (by first | exact trivial | kernel_rfl) ?_ )
    try (conv => whnf)
    rw [hpm]
    exact resP.mk rfl (Sees.of_eq rfl)
  have h1' : readyM l s x slots = 0 := by simpa using h1
  have hpm : playM l s x slots = (⟨(playS l s x slots.toNat).atts, (playS l s x slots.toNat).dels⟩, 0) := by rw [playM, if_neg (by simp [h1'])]
  obtain ⟨hfl, hform, hscr, hs0, hs1⟩ : (flowsE 32 l).2 = 0 ∧ formB s = true ∧ (scriptM x).2 = 0 ∧ 0 ≤ slots ∧ slots ≤ 4096 := by
    unfold readyM at h1'
    split at h1'
    · cases h1'
    rename_i hn
    split at h1'
    · cases h1'
    rename_i hn2
    refine ⟨?_, ?_, ?_, by omega, by omega⟩
    · exact Classical.byContradiction fun hh => hn (.inl hh)
    · cases hf : formB s with
      | true => rfl
      | false => exact absurd (.inr (.inl hf)) hn
    · exact Classical.byContradiction fun hh => hn (.inr (.inr hh))
  have hF := flowsOk_of hfl
  have hcl := (form_all hform).2.1
  repeat ((conv => whnf); first | refine sJ ?_ | refine And.intro (by first | exact trivial | kernel_rfl) ?_ )
  try (conv => whnf)
  refine CallK.inl rfl ?_
  refine i_newPlayer LW (kx := kxRun 1) _ l s x hF.len (fun e he => ?_) fun S1 pb sv hN => ?_
  · obtain rfl : e = _ := List.mem_singleton.1 he
    rfl
  have hp1 := hN.p
  repeat ((conv => whnf); first | refine sJ ?_ | refine And.intro (by first | exact trivial | kernel_rfl) ?_ )
  try (conv => whnf)
  refine SeqK.cutNS mixed [] (fun (_ : Unit) S3 => PIn (PTk (kxRun 1)) S3 pb S1.fr.length l s x (playS l s x slots.toNat)) (fun _ => [(8, .ptr 1 0), (11, .ptr pb 0)]) ?_ ?_
  rotate_left
  · rintro ⟨⟩ S2 ⟨g2, sv2, dv2, hP2⟩
    rw [hpm]
    have hp2 := hP2.p
    have hr2 : S2.bx[1]? = some (.cells [.nils, .nils] 71) := hP2.k (1, [.nils, .nils], 71) (List.mem_singleton.2 rfl)
    rcases hP2.d with ⟨h3, h4⟩ | ⟨db, ex, h3, h4⟩
    · rw [h4] at hp2
      refine SemK.recast (id := pb) (.cells (plC l s x sv2 (.own ((playS l s x slots.toNat).atts.map Att.av) S1.fr.length) .nils) 145) hp2 rfl ⟨rfl, Sees.rfl' _, Sees.rfl' _, Sees.rfl' _, Sees.rfl' _, Sees.rfl' _, Sees.rfl' _, Sees.rfl' _, Sees.gNil, trivial⟩ ?_
      have hne : pb ≠ 1 := ne_cc hp2 hr2 (show (145 : Nat) ≠ 71 by decide)
      have hr3 : ∀ o, (S2.setB pb o).bx[1]? = some (.cells [.nils, .nils] 71) := fun o => by rw [St.setB_ne hne]; exact hr2
      refine twC_sound (ct := []) mixed _ _ _ _ ?_
      repeat ((conv => whnf); first | refine sJ ?_ | refine And.intro (by first | exact trivial | kernel_rfl) ?_ | rw [St.setB_get hp2] | rw [hr3] | rw [St.setB_get (hr3 _)])
      try (conv => whnf)
      rw [h3]
      exact resP.mk rfl (Sees.of_eq rfl)
    · rw [h3] at hp2
      have hne : 1 ≠ db := ne_cc hr2 h4 (show (71 : Nat) ≠ 147 by decide)
      refine twC_sound (ct := []) mixed _ _ _ _ ?_
      repeat ((conv => whnf); first | refine sJ ?_ | refine And.intro (by first | exact trivial | kernel_rfl) ?_ | rw [hp2] | rw [hr2] | rw [St.setB_get hr2])
      try (conv => whnf)
      exact resP_run ((St.setB_ne hne).trans h4) rfl
  repeat ((conv => whnf); first | refine sJ ?_ | refine And.intro (by first | exact trivial | kernel_rfl) ?_ )
  try (conv => whnf)
  refine LoopK.bornC pb 6 8 150 hp1 rfl ?_
  refine LoopK.recast (id := pb) (.cells (plC l s x sv (.own [] S1.fr.length) (.grown .nils 0)) 145) (St.setB_get (S := S1.addF (0, 8) _) hp1) rfl ⟨rfl, Sees.rfl' _, Sees.rfl' _, Sees.rfl' _, Sees.rfl' _, Sees.rfl' _, Sees.rfl' _, Sees.rfl' _, Sees.nilG, trivial⟩ ?_
  refine LoopK.runS mixed [] (fun (k : Nat) S2 => (k : Int) ≤ slots ∧ PIn (PTk (kxRun 1)) S2 pb S1.fr.length l s x (playS l s x k)) (fun k => [(8, .ptr 1 0), (11, .ptr pb 0), (26, .int .i64 slots), (27, .int .i64 k)]) (fun k => slots.toNat - k) 0 ⟨by omega, hN.start⟩ ?_ ?_
  · exact ⟨Sees.of_eq rfl, Sees.of_eq rfl, Sees.of_eq rfl, Sees.of_eq rfl, trivial⟩
  rintro k S2 ⟨hk, hI2⟩
  refine Wk ?_
  refine BrK.mk (fun hb => ?_) (fun hb => ?_) <;> (try rw [hb])
  · have hlt : (k : Int) < slots := by simpa using hb
    repeat ((conv => whnf); first | refine sJ ?_ | refine And.intro (by first | exact trivial | kernel_rfl) ?_ )
    try (conv => whnf)
    refine CallK.inl rfl ?_
    have hsim := playV_R hF (fun _ => s) x k (by omega)
    have hpl := play_len (l := l) (fun _ => s) x (m := 512) (fun _ => hcl) k
    rw [playV_S] at hsim hpl
    refine i_slot LW (kx := kxRun 1) _ pb S1.fr.length l s x (playS l s x k) k _ hI2 hF hscr hsim (by omega) (by omega) (by omega) (by omega) fun S3 hI3 => ?_
    repeat ((conv => whnf); first | refine sJ ?_ | refine And.intro (by first | exact trivial | kernel_rfl) ?_ )
    try (conv => whnf)
    exact ⟨k + 1, ⟨by omega, hI3⟩, by omega, Sees.of_eq rfl, Sees.of_eq rfl, Sees.of_eq rfl, Sees.int (by rw [w64] <;> omega), trivial⟩
  · have hk' : (k : Int) = slots := by simp at hb; omega
    have hkn : slots.toNat = k := by omega
    rw [← hkn] at hI2
    refine Wk ?_
    exact ⟨(), hI2, Sees.of_eq rfl, Sees.of_eq rfl, trivial⟩
end HM
