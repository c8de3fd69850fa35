/- A run. -/
import Derived.Test.YtnklfdnccomndaaGreatDoorS79
import Derived.Test.YtnklfdnccomndaaGreatDoorS70
import Derived.Test.YtnklfdnccomndaaGreatDoorDb

set_option maxRecDepth 100000
namespace HM
open Go Go.RowKit Go.Proofs

def kxRun (id : Nat) : KX := ⟨[(id, [.nils, .nils], 48)], by
  intro e he
  obtain rfl : e = _ := List.mem_singleton.1 he
  exact ⟨(show (48 : Nat) ≠ 83 by decide), (show (48 : Nat) ≠ 109 by decide), (show (48 : Nat) ≠ 115 by decide)⟩⟩
theorem NewI.start {kx : KX} {S : St} {pb : Nat} {l : List Flow} {s : Sched} {x : List Rule} {sv : AV} (h : NewI kx S pb l s x l.length sv) :
    PIn (PTk kx) (((S.addF (0, 8) 143).setB pb (.cells (plC l s x sv (.own [] S.fr.length) .nils) 83)).setB pb (.cells (plC l s x sv (.own [] S.fr.length) (.grown .nils 0)) 83)) pb S.fr.length l s x ⟨l.map fun _ => PS.first, [], []⟩ := by
  refine ⟨fun _ _ => 0, sv, .grown .nils 0, ?_, ?_, fun i p hp h0 => ?_, fun i p i' p' hp _ h0 => ?_, ?_, ?_, fun z hz => ?_, .inl ⟨rfl, rfl⟩⟩
  · exact St.setB_get (St.setB_get (S := S.addF (0, 8) _) h.p)
  · rcases h.q with ⟨h1, h2⟩ | ⟨qb, ex, h1, h2⟩
    · exact .inl ⟨by rw [List.length_eq_zero_iff.1 h1]; rfl, h2⟩
    · refine .inr ⟨qb, ex, by rw [List.length_map]; exact h1, ?_⟩
      have hne : pb ≠ qb := ne_cc h.p h2 (by decide)
      rw [St.setB_ne hne, St.setB_ne hne, states0 l _ fstAV (fun _ => rfl)]
      exact h2
  · exfalso
    have : p = PS.first := by
      simp only [List.getElem?_map, Option.map_eq_some_iff] at hp
      obtain ⟨_, _, rfl⟩ := hp; rfl
    subst this
    exact absurd h0 (by decide)
  · exfalso
    have : p = PS.first := by
      simp only [List.getElem?_map, Option.map_eq_some_iff] at hp
      obtain ⟨_, _, rfl⟩ := hp; rfl
    subst this
    exact absurd h0 (by decide)
  · show (S.fr ++ [(0, 8)])[S.fr.length]? = some (0, 8)
    simp
  · show (updT S.ty S.fr.length _) S.fr.length = _
    simp [updT]; rfl
  · rw [St.setB_ne (ne_cc h.p (h.kb z hz) (kx.hk z hz).1.symm), St.setB_ne (ne_cc h.p (h.kb z hz) (kx.hk z hz).1.symm)]
    exact h.kb z hz

/-- a cut behind which one may still look at the store in another way -/
theorem SeqK.cutNS {P : Program} {L : World → Prop} {nt : Nat} (hm : P.follows .mixedOrders = true) (ct : List Nat) {c d : Code} {a : Nat → AV} {S : St} {Q : Exit → (Nat → AV) → St → Prop} {σ : Type} (I : σ → St → Prop) (sl : σ → List (Nat × AV))
    (hc : twC P L nt ct c a S (seqQ (fun a' S' => ∃ s, I s S' ∧ FitN a' (sl s)) Q)) (hd : ∀ s S, I s S → SemK P L nt d (ofL (sl s)) S Q) : SeqK P L nt c d a S Q := by
  refine ⟨⟨fun w0 G act w hR => ?_⟩⟩
  refine wpIn_seq (Go.wpIn_mono ((twC_sound hm c a S _ hc).out w0 G act w hR) fun e a' w' ⟨G', a1, S', hR', hq⟩ => ?_)
  cases e with
  | normal =>
    obtain ⟨s, hI, hfit⟩ := hq
    exact (hd s S' hI).out w0 _ a' w' (hR'.slots hfit)
  | _ => exact ⟨G', a1, S', hR', hq⟩
theorem resP_run {X : St} {al : List Att} {ds : List Del} {ch db n : Nat} {ex : List AV} {t : TypeId} (hdb : X.bx[db]? = some (.cells (flatE (ds.map Del.av) ++ ex) t)) (hn : ds.length = n) : resP (.tup [(⟨al, ds⟩ : RunL).av, .int .i64 0]) (.tup [.agg [.own (al.map Att.av) ch, .vsl db 0 n 3], .int .i64 0]) X :=
  resP.mk (r0 := .tup [.agg [.sl false (al.map Att.av), .sl false (ds.map Del.av)], .int .i64 0]) (by
    have e1 : fzbs X [.own (al.map Att.av) ch, .vsl db 0 n 3] = some [.sl false (al.map Att.av), .sl false (ds.map Del.av)] := fz2 rfl (fz2 (delOk.fzb hdb hn) rfl)
    have e2 : fzb X (.agg [.own (al.map Att.av) ch, .vsl db 0 n 3]) = some (.agg [.sl false (al.map Att.av), .sl false (ds.map Del.av)]) := by
      show Option.map AV.agg (fzbs X [.own (al.map Att.av) ch, .vsl db 0 n 3]) = _
      rw [e1]; rfl
    show Option.map AV.tup (fzbs X [.agg [.own (al.map Att.av) ch, .vsl db 0 n 3], .int .i64 0]) = _
    rw [fz2 e2 (b' := [.int .i64 0]) rfl]; rfl) (Sees.of_eq rfl)

end HM
