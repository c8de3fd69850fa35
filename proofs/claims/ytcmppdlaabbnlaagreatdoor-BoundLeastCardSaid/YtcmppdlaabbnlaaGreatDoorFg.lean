/- Further rules of the walk; arguments. -/
import Derived.Test.YtcmppdlaabbnlaaGreatDoorFf
import Derived.Laws.Externs
import Derived.ChangeSlices
import Derived.SizedLaws
import Derived.ChangeArms
import Derived.ProofKit
/- A chain whose head is frozen; functions that have no text of their own; contracts out of ones of the kit's. -/
namespace HM
open Go Go.RowKit

/-- the row of a chain is frozen (its cells stay): nothing is appended in place any more -/
theorem RelS.froze {L : World → Prop} {w0 : Orig L} {G : Gh} {S : St} {w : World} (h : RelS w0 G S w) {ch g F z : Nat} (hF : S.fr[ch]? = some (F, z)) (hχ : G.χ ch = some g) (w' : World) (hos : w'.os = w.os) (htape : w'.tape = w.tape) (hout : w'.output = w.output) (hsz : w'.heap.size = w.heap.size)
    (hold : ∀ k, k ≠ g → w'.heap[k]? = w.heap[k]?) (hg : ∀ arr t fz, w.heap[g]? = some (.cells arr t fz) → ∃ fz', w'.heap[g]? = some (.cells arr t fz')) :
    RelS w0 G { S with fr := S.fr.set ch (F + 1, z) } w' ∧ KeepD G S.fr w G (S.fr.set ch (F + 1, z)) w' := by
  obtain ⟨_, ⟨arr, fz, hrow⟩, c3, c4⟩ := (h.ch ch F z hF).2 g hχ
  have hlt := (List.getElem?_eq_some_iff.1 hF).1
  have hglt := (Array.getElem?_eq_some_iff.1 hrow).1
  obtain ⟨fz', hrow'⟩ := hg _ _ _ hrow
  have c1 := ((h.ch ch F z hF).2 g hχ).1
  have hk : KeepD G S.fr w G (S.fr.set ch (F + 1, z)) w' :=
    { hs := by omega
      ok := fun _ _ _ hh => hh
      dn := h.dn
      cell := fun b o _ _ => by
        by_cases e : b = g
        · subst e; simp [World.cell?, hrow, hrow']
        · exact World.cell?_of_block (w := w) (a := ⟨b, o, none⟩) (hold b e)
      ρ := fun _ _ hh => hh
      rs := fun id b arr t hr ha => ⟨arr, by rw [hold b (fun e => c3 id (by rw [hr, e]))]; exact ha, rfl⟩
      mp := fun b es cl _ _ hh => (hold b (by rintro rfl; rw [hrow] at hh; cases hh)).trans hh
      χ := fun k F' z' hF' => by
        by_cases hkc : k = ch
        · subst hkc
          rw [hF] at hF'; injection hF' with hF'; injection hF' with e1 e2; subst e1; subst e2
          exact ⟨F + 1, by simp [hlt], by omega, fun he => by omega⟩
        · refine ⟨F', by rw [List.getElem?_set_ne (fun h => hkc h.symm)]; exact hF', Nat.le_refl _, fun _ => ⟨rfl, fun b hb => ⟨hold b ?_, fun _ he => he⟩⟩⟩
          rintro rfl
          exact hkc (((h.ch k F' z' hF').2 b hb).2.2.2 ch F z hF hχ)
      df := fun D hD => (hold D (by rintro rfl; rw [hrow] at hD; cases hD)).trans hD
      lp := fun D r hD => ⟨r, (hold D (by rintro rfl; rw [hrow] at hD; cases hD)).trans hD⟩ }
  refine ⟨⟨h.below.trans ⟨hos, htape, hout, by omega, fun k hk' => hold k (by omega)⟩, by have := h.bsz; omega, h.dn, h.ob, h.kp.trans hk, by simpa using h.n0, fun id o hx hd => ?_, h.ri, fun id b hr => by rw [hsz]; exact h.rd id b hr, fun k F' z' hF' => ?_, h.hl⟩, hk⟩
  · obtain ⟨b, ob, hr, hheap, hv⟩ := h.bx id o hx hd
    exact ⟨b, ob, hr, (hold b (fun e => c3 id (by rw [hr, e]))).trans hheap, hv.keep hk.toKeep⟩
  · have key : ∀ (k F' z' : Nat), (S.fr.set ch (F + 1, z))[k]? = some (F', z') → ∃ F'' z'', S.fr[k]? = some (F'', z'') ∧ (k ≠ ch → F' = F'') := by
      intro k F' z' hh
      by_cases hkc : k = ch
      · subst hkc; exact ⟨_, _, hF, fun h => absurd rfl h⟩
      · rw [List.getElem?_set_ne (fun h => hkc h.symm)] at hh; exact ⟨_, _, hh, fun _ => rfl⟩
    obtain ⟨F2, z2, hF2, hsame⟩ := key k F' z' hF'
    obtain ⟨h1, h2⟩ := h.ch k F2 z2 hF2
    refine ⟨fun hn => ?_, fun b hb => ?_⟩
    · by_cases hkc : k = ch
      · subst hkc; rw [hχ] at hn; cases hn
      · rw [hsame hkc]; exact h1 hn
    · obtain ⟨h3, ⟨arr', fz2, h4⟩, h5, h6⟩ := h2 b hb
      refine ⟨h3, ?_, h5, fun c' F3 z3 hF3 he => ?_⟩
      · by_cases e : b = g
        · subst e
          obtain ⟨fz3, h7⟩ := hg _ _ _ h4
          exact ⟨_, _, h7⟩
        · exact ⟨arr', fz2, (hold b e).trans h4⟩
      · obtain ⟨F4, z4, hF4, _⟩ := key c' F3 z3 hF3
        exact h6 c' F4 z4 hF4 he

/-- a function without a text, that hands back what it is given -/
theorem CallK.same {P : Program} {L : World → Prop} {S : St} {g : FuncId} {fn : Func} {x : AV} {K : AV → St → Prop} (hf : P.funcs[g]? = some fn) (hname : (fn.name == "runtime.NumGoroutine") = false) (hb : fn.body.isNone = true) (hn : Extern.findNext fn = none) (he : Extern.find fn = some Extern.AbiNoEscape.same)
    (hK : K x S) : CallK P L S (.fn g []) [x] K := by
  refine ⟨fun ro w0 G w fvv vals hS ⟨cvs, hfv, hcv⟩ hargs => ?_⟩
  subst hfv
  have hcv : cvs.toList = [] := hcv
  have hcv : cvs = #[] := by simpa using hcv
  subst hcv
  obtain ⟨u, us, rfl, hu, hus⟩ := hargs
  have hus : us = [] := hus
  subst hus
  intro o act f args ts next Q ho hfe hv hnext
  have hva : args.map act.eval = #[u] := by apply Array.ext'; simpa using hv
  have hrun : (execOp act.eval o).run P w = .ok (.value u) w := by
    simp only [execOp, ho, Sem.run_bind, resolve, hfe, Deferred.ofValue, Sem.run_pure, Result.andThen_ok, invoke]
    rw [show (#[] : Array Value) ++ args.map act.eval ++ #[] = #[u] from by rw [hva]; rfl]
    rw [run_callFunc_extern hf hname hb hn he]
    rfl
  exact wp_plain (fun c hc => by rw [ho] at hc; cases hc) hrun (hnext u w ⟨G, S, x, hS, KeepD.refl hS.dn, hu, hK⟩)

/-- a contract on data, out of one of the kit's that hands back plain data -/
theorem PCall.of_calls {P : Program} {L : World → Prop} {f : FuncId} {args : List AV} {r : AV}
    (h : ∀ (w : World) (G : Gh) (vals : List Value), L w → VRs G [] w args vals → Calls P f vals.toArray w fun e w' => ∃ v, e = .returned v ∧ Below w.heap.size w w' ∧ ∀ G' fr', VR G' fr' w' r v) : PCall P L f args r := by
  intro w G hL hρ hdn vals hv
  exact (h w G vals (hL w (Below.refl _ _)) hv).mono fun e w' ⟨v, h1, h2, h3⟩ => ⟨v, h1, h2, h3 _ _⟩

end HM

/- A slot that holds nil before a loop: a slice to be appended to. -/
namespace HM
open Go Go.RowKit

/-- slot t holds a slice of the chain ch -/
def bornA (a : Nat → AV) (t ch : Nat) : Nat → AV := fun t' => match Nat.beq t' t with
  | true => .own [] ch
  | false => a t'

theorem LoopK.born {P : Program} {L : World → Prop} {nt : Nat} {c : Code} {a : Nat → AV} {S : St} {Q : Exit → (Nat → AV) → St → Prop} (t : Nat) (z : Nat) (e : TypeId) (ht : a t = .nils)
    (h : LoopK P L nt c (bornA a t S.fr.length) (S.addF (0, z) e) Q) : LoopK P L nt c a S Q := by
  refine ⟨⟨fun w0 G act w hR => ?_⟩⟩
  obtain ⟨hS, hT1, hT2, hT3, hT4⟩ := hR
  obtain ⟨G', u1, u2, u3⟩ := hS.unborn z e
  have hT := RelT.keep (a := a) ⟨hT1, hT2, hT3, hT4⟩ u2
  obtain ⟨k1, k2, k3, k4⟩ := hT
  refine h.out.out w0 G' act w ⟨u1, k1, k2, k3, fun t' => ?_⟩
  unfold bornA
  split
  · rename_i hb
    have hb := Nat.eq_of_beq_eq_true hb
    subst hb
    have h0 := hT4 t'
    rw [ht] at h0
    have h0 : _ = Value.slice none 0 0 := h0
    rw [h0]
    exact u3
  · exact k4 t'
end HM

/- A range over a function, its record under a name. -/
namespace HM
open Go Go.RowKit

theorem RangeK.named {P : Program} {L : World → Prop} {nt : Nat} {g : Operand} {ps : Array Tmp} {asg body : Code} {a : Nat → AV} {S : St} {Q : Exit → (Nat → AV) → St → Prop} {f : FuncId} {caps : List AV} (hg : evO a g = .fn f caps) (hc : callable P f = true)
    (h : ∀ Lp : LoopA, Lp = ⟨nt, a, ps, asg, body, .ready, none⟩ → ICall P L f (.yld S.bx.length :: caps) (S.with (.loop Lp)) fun _ S2 => endK Q a S.bx.length S2) : RangeK P L nt g ps asg body a S Q :=
  RangeK.intro hg hc (h _ rfl)

def okL (k m : Nat) : List (Nat × AV) → Prop
  | [] => True
  | (_, v) :: l => v.okk k m ∧ okL k m l
theorem ofL_okk {k m : Nat} : ∀ {l : List (Nat × AV)}, okL k m l → ∀ t, (ofL l t).okk k m
  | [], _, _ => trivial
  | (s, v) :: l, h, t => by
    simp only [ofL]
    split
    · exact h.1
    · exact ofL_okk h.2 t
theorem loop_okk {k m : Nat} {Lp : LoopA} {l : List (Nat × AV)} (ha : Lp.a = ofL l) (h : okL k m l) : Ob.okk k m (.loop Lp) := fun t => by rw [ha]; exact ofL_okk h t
end HM

/- A round, with the loop's record under a name. -/
namespace HM
open Go Go.RowKit

def rndN (K : AV → St → Prop) (id : Nat) (S0 : St) (Lp : LoopA) : Exit → (Nat → AV) → St → Prop
  | .normal, _, S => S.bx[id]? = some (.loop { Lp with st := .busy }) ∧ K (.bool true) ((S.put id (.loop Lp)).outer S0)
  | .ret, _, S => S.bx[id]? = some (.loop { Lp with st := .busy }) ∧ K (.bool false) ((S.put id (.loop { Lp with st := .done, pend := some .ret })).outer S0)
  | .exit i, _, S => S.bx[id]? = some (.loop { Lp with st := .busy }) ∧ K (.bool false) ((S.put id (.loop { Lp with st := .done, pend := some (.exit i) })).outer S0)
  | _, _, _ => False

theorem CallK.round {P : Program} {L : World → Prop} (hm : P.follows .mixedOrders = true) (ct : List Nat) {S : St} {id : Nat} {args : List AV} {K : AV → St → Prop} {Lp : LoopA} {nt : Nat} {a : Nat → AV} {ps : Array Tmp} {asg body : Code} (hLp : Lp = ⟨nt, a, ps, asg, body, .ready, none⟩) (hL : S.bx[id]? = some (.loop Lp)) (hn' : args.length = ps.size) (hp' : ps.toList.all (fun p => decide (p < nt)) = true)
    (h' : twC P L nt ct asg (setPs a ps.toList args) S.inner (seqQ (fun a' S' => S'.bx[id]? = some (.loop Lp) ∧ twC P L nt ct body a' (S'.put id (.loop { Lp with st := .busy })) (rndN K id S Lp)) fun _ _ _ => False)) : CallK P L S (.yld id) args K := by
  have hn : args.length = Lp.ps.size := by rw [hLp]; exact hn'
  have hp : Lp.ps.toList.all (fun p => decide (p < Lp.nt)) = true := by rw [hLp]; exact hp'
  have h : twC P L Lp.nt ct Lp.asg (setPs Lp.a Lp.ps.toList args) S.inner (seqQ (fun a' S' => S'.bx[id]? = some (.loop Lp) ∧ twC P L Lp.nt ct Lp.body a' (S'.put id (.loop { Lp with st := .busy })) (rndN K id S Lp)) fun _ _ _ => False) := by
    clear hn hp hn' hp' hL
    obtain ⟨nt', a', ps', asg', body', st', pend'⟩ := Lp
    simp only [LoopA.mk.injEq] at hLp
    obtain ⟨rfl, rfl, rfl, rfl, rfl, rfl, rfl⟩ := hLp
    exact h'
  refine ⟨fun ro w0 G w fvv vals hS ⟨b, hρ, hfv⟩ hargs => ?_⟩
  subst hfv
  intro o act f as ts next Q ho hfe hv hnext
  obtain ⟨r, hr, hor⟩ := hS.recd hρ hL
  obtain ⟨r', he, h1, h2, h3, h4, h5, h6, h7⟩ := hor
  injection he with he; subst he
  have hlen := hargs.length
  have hrun : (execOp act.eval o).run P w = .ok (.round b r.fn ((r.params.zip vals.toArray).foldl (fun tmps (t, a) => tmps.setIfInBounds t a) r.tmps) r.assign r.body) w := by
    have hy := run_yield (P := P) (args := vals.toArray) hr (by rw [h3]; simp; omega)
    have hva : vals.toArray = as.map act.eval := by rw [← hv]; apply Array.ext'; simp
    rw [hva] at hy ⊢
    simp only [execOp, ho, Sem.run_bind, resolve, hfe, Deferred.ofValue, Sem.run_pure, Result.andThen_ok, invoke]
    simpa using hy
  refine ⟨fun _ _ => trivial, ?_⟩
  rw [Oper.semAt_eq _ _ _ (fun c hc' => by rw [ho] at hc'; cases hc'), hrun]
  refine ⟨fun hd => by simp [FW, Fence.wide] at hd, ?_⟩
  refine roundIn_of_wpIn (F := FW ro) trivial ?_
  have htm : ((r.params.zip vals.toArray).foldl (fun tmps (t, a) => tmps.setIfInBounds t a) r.tmps) = ((r.params.toList.zip vals).foldl (fun tmps (x : Tmp × Value) => tmps.setIfInBounds x.1 x.2) r.tmps) := by
    rw [← Array.foldl_toList]; simp
  rw [htm, h3, h4, h5]
  have hplt : ∀ p ∈ Lp.ps.toList, p < r.tmps.size := fun p hp' => by rw [h6]; simpa using List.all_eq_true.1 hp p hp'
  obtain ⟨s1, s2⟩ := setPs_VR Lp.ps.toList args vals Lp.a r.tmps hplt hargs h7
  have hR : Rel (w0.enter G S w (some b)) G S.inner Lp.nt (setPs Lp.a Lp.ps.toList args) { tmps := (Lp.ps.toList.zip vals).foldl (fun tmps (x : Tmp × Value) => tmps.setIfInBounds x.1 x.2) r.tmps, defers := [] } w := by
    refine ⟨hS.enter (some b), by rw [s2, h6], ⟨by simp, by simp⟩, fun l hl => ?_, s1⟩
    simp only [Orig.fi, Orig.enter] at hl
    injection hl with hl; subst hl
    exact ⟨r, hr⟩
  have hw := (twC_sound hm Lp.asg _ _ _ h).out _ _ _ _ hR
  refine Go.wpIn_mono hw fun e act1 w1 ⟨G1, a1, S1, hR1, hq⟩ => ?_
  cases e with
  | normal =>
    obtain ⟨hL1, hq⟩ := hq
    have hst : Lp.st = .ready := by rw [hLp]
    have hpend : Lp.pend = none := by rw [hLp]
    · · let L1 := Lp
        have hρ1 : G1.ρ id = some b := hR1.1.kp.ρ id b hρ
        obtain ⟨r1, hr1, hor1⟩ := hR1.1.recd hρ1 hL1
        obtain ⟨t1, t2⟩ := hR1.1.setRec hρ1 hL1 hr1 hor1 .busy L1.pend
        have hrs : r1.state = .ready := by obtain ⟨r', he, g1, _⟩ := hor1; injection he with he; subst he; rw [g1, hst]
        have hrp : r1.pending = L1.pend := by obtain ⟨r', he, g1, g2, _⟩ := hor1; injection he with he; subst he; exact g2
        refine ⟨_, run_beginRound hr1 hrs, ?_⟩
        rw [← hrp] at t1 t2
        have hR2 : Rel (w0.enter G S w (some b)) G1 (S1.put id (.loop { L1 with st := .busy })) Lp.nt a1 act1 (w1.putObj b (.loop { r1 with state := .busy })) := by
          refine ⟨?_, hR1.2.keep t2⟩
          have : ({ L1 with st := LoopState.busy, pend := r1.pending } : LoopA) = { L1 with st := .busy } := by rw [hrp]
          rw [this] at t1
          exact t1
        have hw2 := (twC_sound hm Lp.body _ _ _ hq).out _ _ _ _ hR2
        refine Go.wpIn_mono hw2 fun e act2 w2 ⟨G2, a2, S2, hR3, hq2⟩ => ?_
        have hρ2 : G2.ρ id = some b := hR3.1.kp.ρ id b hρ
        have fin : ∀ (jump : Option Code), S2.bx[id]? = some (.loop { Lp with st := .busy }) ∧ K (.bool jump.isNone) ((S2.put id (.loop { Lp with st := if jump.isNone then .ready else .done, pend := jump })).outer S) → ∃ v w', (Instr.endRound b jump).run P w2 = .ok v w' ∧ next (act.put o.dst v) w' := by
          intro jump ⟨hL2, hk⟩
          obtain ⟨r2, hr2, hor2⟩ := hR3.1.recd hρ2 hL2
          obtain ⟨u1, u2⟩ := hR3.1.setRec hρ2 hL2 hr2 hor2 (if jump.isNone then .ready else .done) jump
          obtain ⟨u3, u4⟩ := hS.leave u1
          exact ⟨_, _, run_endRound jump hr2, hnext _ _ ⟨G2, _, .bool jump.isNone, u3, u4, rfl, hk⟩⟩
        cases e with
        | normal => exact fin none ⟨hq2.1, by
            have : ({ Lp with st := if (none : Option Code).isNone then LoopState.ready else LoopState.done, pend := none } : LoopA) = Lp := by
              cases Lp; simp at hst hpend; subst hst; subst hpend; rfl
            rw [this]; exact hq2.2⟩
        | ret => exact fin (some .ret) hq2
        | exit i => exact fin (some (.exit i)) hq2
        | goto _ => exact hq2.elim
        | panic _ => exact hq2.elim
        | outgrown => exact hq2.elim
  | _ => exact hq.elim


/-- the end of a loop that nothing has left -/
theorem endK_ready {Q : Exit → (Nat → AV) → St → Prop} {a : Nat → AV} {id : Nat} {S : St} {Lp : LoopA} (hL : S.bx[id]? = some (.loop Lp)) (h1 : Lp.st = .ready) (h2 : Lp.pend = none) (h : Q .normal a (S.put id .dead)) : endK Q a id S := by
  unfold endK
  rw [hL]
  simp only [h1, h2]
  exact h
theorem endK_ret {Q : Exit → (Nat → AV) → St → Prop} {a : Nat → AV} {id : Nat} {S : St} {Lp : LoopA} (hL : S.bx[id]? = some (.loop { Lp with st := .done, pend := some .ret })) (h : Q .ret a (S.put id .dead)) : endK Q a id S := by
  unfold endK
  rw [hL]
  exact h
theorem endK_exit {Q : Exit → (Nat → AV) → St → Prop} {a : Nat → AV} {id i : Nat} {S : St} {Lp : LoopA} (hL : S.bx[id]? = some (.loop { Lp with st := .done, pend := some (.exit i) })) (h : Q (.exit i) a (S.put id .dead)) : endK Q a id S := by
  unfold endK
  rw [hL]
  exact h
end HM

/- A region whose order is drawn, each order walked by itself. -/
namespace HM
open Go Go.RowKit

def rdyOne (ops : List Oper) (l : List Bool) (i : Nat) : Bool := match ops[i]? with
  | some o => !(l.getD i true) && o.after.toList.all fun e => !Region.binds .any e || l.getD e.on false
  | none => false
def rdyL (ops : List Oper) (l : List Bool) : List Nat := (List.range ops.length).filter (rdyOne ops l)

def allR : List Nat → (Nat → Prop) → Prop
  | [], _ => True
  | i :: l, f => f i ∧ allR l f
theorem allR_mem {f : Nat → Prop} : ∀ {l : List Nat}, allR l f → ∀ i ∈ l, f i
  | [], _, _, h => by simp at h
  | _ :: _, h, i, hi => by
    rcases List.mem_cons.1 hi with rfl | hi
    · exact h.1
    · exact allR_mem h.2 i hi

/-- every order -/
def twAny (P : Program) (L : World → Prop) (ops : Array Oper) : Nat → List Bool → (Nat → AV) → St → ((Nat → AV) → St → Prop) → Prop
  | 0, _, a, S, K => K a S
  | n + 1, l, a, S, K => match rdyL ops.toList l with
    | [] => K a S
    | i :: is => allR (i :: is) fun i => match ops.toList[i]? with
      | some o => gdK ops a o (OpK P L false a S o fun v S' => twAny P L ops n (l.set i true) (updo a o.dst v) S' K) (twAny P L ops n (l.set i true) (updo a o.dst (.tup [])) S K)
      | none => False

theorem rdyL_eq (ops : Array Oper) (listed : Array Bool) : Region.ready .any ops listed = rdyL ops.toList listed.toList := by
  unfold Region.ready rdyL
  rw [Array.length_toList]
  refine List.filter_congr fun i hi => ?_
  have hlt : i < ops.size := by simpa using hi
  unfold rdyOne
  rw [Array.getElem?_toList, Array.getElem?_eq_getElem hlt]
  simp only [Option.map_some, Option.getD_some, Array.getD_eq_getD_getElem?, List.getD_eq_getElem?_getD, Array.getElem?_toList, Array.all_toList]

theorem anyEach {P : Program} {ro : Option Nat} {ops : Array Oper} {nt : Nat} (hreg : regOk nt ops = true) {L : World → Prop} {w0 : Orig L} {K : (Nat → AV) → St → Prop} {Q : Exit → Act → World → Prop}
    (hQ : ∀ G a S act w, Rel w0 G S nt a act w → K a S → Q .normal act w) :
    ∀ (fuel : Nat) (listed : Array Bool), listed.size = ops.size → listed.toList.countP (fun b => !b) = fuel → ∀ (a : Nat → AV) (S : St) (G : Gh) (act : Act) (w : World), Rel w0 G S nt a act w →
      twAny P L ops fuel listed.toList a S K → wpAnyIn (FW ro) 0 P .any ops Q fuel listed act w := by
  intro fuel
  induction fuel with
  | zero =>
    intro listed hsz hcnt a S G act w hR h
    have hall : ∀ i, i < ops.size → listed.getD i false = true := by
      intro i hi
      have h1 := List.countP_eq_zero.1 hcnt (listed[i]'(by omega)) (by simp)
      rw [Array.getD_eq_getD_getElem?, Array.getElem?_eq_getElem (by omega)]
      simpa using h1
    refine ⟨?_, hQ G a S act w hR h⟩
    cases hr : Region.ready .any ops listed with
    | nil => rfl
    | cons i l =>
      obtain ⟨o, ho, h1, _⟩ := ready_spec (ops := ops) (listed := listed) (i := i) (by rw [hr]; simp)
      have hlt := (Array.getElem?_eq_some_iff.1 ho).1
      have := hall i hlt
      rw [Array.getD_eq_getD_getElem?, Array.getElem?_eq_getElem (by omega)] at this h1
      simp at this h1
      rw [this] at h1; cases h1
  | succ fuel ih =>
    intro listed hsz hcnt a S G act w hR h
    unfold twAny at h
    refine ⟨fun hr => ?_, fun i hi => ?_⟩
    · rw [rdyL_eq] at hr
      rw [hr] at h
      exact hQ G a S act w hR h
    · obtain ⟨o, ho, hunl, haft⟩ := ready_spec hi
      have hlt := (Array.getElem?_eq_some_iff.1 ho).1
      rw [rdyL_eq] at hi
      cases hr : rdyL ops.toList listed.toList with
      | nil => rw [hr] at hi; cases hi
      | cons i0 is =>
        rw [hr] at h hi
        have h := allR_mem h i hi
        rw [Array.getElem?_toList, ho] at h
        simp only at h
        have hcnt' : (listed.setIfInBounds i true).toList.countP (fun b => !b) = fuel := by
          have hil : i < listed.toList.length := by simp; omega
          have hval : listed.toList[i] = false := by
            rw [Array.getD_eq_getD_getElem?, Array.getElem?_eq_getElem (by omega)] at hunl
            simpa using hunl
          have e1 : listed.toList = listed.toList.take i ++ false :: listed.toList.drop (i + 1) := by
            rw [← hval, ← List.drop_eq_getElem_cons hil, List.take_append_drop]
          rw [Array.toList_setIfInBounds, List.set_eq_take_append_cons_drop, if_pos hil]
          rw [e1] at hcnt
          simp only [List.countP_append, List.countP_cons] at hcnt ⊢
          simp at hcnt ⊢
          omega
        have hdt : ∀ t, o.dst = some t → t < nt := regOk_spec hreg o (List.mem_of_getElem? (show ops.toList[i]? = some o by simpa using ho))
        obtain ⟨hS, hT⟩ := hR
        rw [← Array.toList_setIfInBounds] at h
        unfold wpOpIn
        rw [ho]
        simp only
        rcases gdK_wanted hT hreg h with ⟨hw, h⟩ | ⟨hw, h⟩
        · rw [if_pos hw]
          refine wpIn_mono1 (OpK_sound (ro := ro) Q hS hT hdt h) fun act' w' ⟨G', S', e, h1, _, h3, hK⟩ => ?_
          exact ih _ (by simp [hsz]) hcnt' _ S' G' act' w' ⟨h1, h3⟩ hK
        · rw [if_neg (by simp [hw])]
          have := hT.put hdt (e := .tup []) (v := undef) ⟨#[], rfl, rfl⟩
          exact ⟨fun _ _ => trivial, ih _ (by simp [hsz]) hcnt' _ S G _ w ⟨hS, this⟩ h⟩

theorem SemK.regionAny {P : Program} {L : World → Prop} {nt id : Nat} (hm : P.follows .mixedOrders = true) {ops : Array Oper} {a : Nat → AV} {S : St} {Q : Exit → (Nat → AV) → St → Prop} (hreg : regOk nt ops = true)
    (h : twAny P L ops ops.size (List.replicate ops.size false) a S (Q .normal)) : SemK P L nt (.region id ops true) a S Q := by
  refine ⟨fun w0 G act w hR => ?_⟩
  refine wpIn_region_any hm ?_
  obtain ⟨d1, d2⟩ := hR.1.drew
  exact anyEach hreg (fun G a S act w hR hK => ⟨G, a, S, hR, hK⟩) ops.size _ (by simp) (by simp [List.countP_replicate]) a S G act _ ⟨d1, hR.2.keep d2⟩ (by simpa using h)
theorem SeqK.cutS {P : Program} {L : World → Prop} {nt : Nat} (hm : P.follows .mixedOrders = true) (ct' : List Nat) {c d : Code} {a : Nat → AV} {S : St} {Q : Exit → (Nat → AV) → St → Prop} (sl : List (Nat × AV)) (st : St)
    (hc : SemK P L nt c a S (seqQ (fun a' S' => Fits a' S' sl st) Q)) (hd : twC P L nt ct' d (ofL sl) st Q) : SeqK P L nt c d a S Q := by
  refine ⟨⟨fun w0 G act w hR => ?_⟩⟩
  refine wpIn_seq (Go.wpIn_mono (hc.out w0 G act w hR) fun e a' w' ⟨G', a1, S', hR', hq⟩ => ?_)
  cases e with
  | normal => exact (twC_sound hm d _ _ _ hd).out w0 _ a' w' (hR'.weak hq)
  | _ => exact ⟨G', a1, S', hR', hq⟩
end HM

/- From what an argument reads as to an abstract value. -/
namespace HM
open Go Go.RowKit

/-- what a type's values look like -/
inductive Ty where
  | int (k : IntKind)
  | bool
  | str
  | sl (d : Ty)
  | st (ds : List Ty)

mutual
def Ty.n : Ty → Nat
  | .st ds => nAll ds
  | _ => 1
def nAll : List Ty → Nat
  | [] => 0
  | d :: ds => d.n + nAll ds
end
def Ty.isSt : Ty → Bool
  | .st _ => true
  | _ => false
/-- a value out of its cells -/
def Ty.mk (d : Ty) (l : List AV) : AV := match d.isSt with
  | true => .agg l
  | false => l.headD .undef

mutual
def Ty.ok (P : Program) : Ty → TypeId → Prop
  | .int k, t => P.underlying t = some (.int k)
  | .bool, t => P.underlying t = some .bool
  | .str, t => P.underlying t = some .string
  | .sl d, t => ∃ e, P.underlying t = some (.slice e) ∧ P.cellsOf e = d.n ∧ 0 < d.n ∧ 1 ≤ P.bytesOf e ∧ d.ok P e
  | .st ds, t => ∃ fs, P.underlying t = some (.struct fs) ∧ P.cellsOf t = nAll ds ∧ okAll P ds 0 fs.toList
def okAll (P : Program) : List Ty → Nat → List Field → Prop
  | [], _, [] => True
  | d :: ds, o, f :: fs => f.offset = o ∧ P.cellsOf f.type = d.n ∧ d.ok P f.type ∧ okAll P ds (o + d.n) fs
  | _, _, _ => False
end

mutual
/-- the cells of a value of the type -/
def Ty.sh : Ty → List AV → Prop
  | .int k, l => ∃ n, l = [.int k n] ∧ (Lit.int k n).wf = true
  | .bool, l => ∃ b, l = [.bool b]
  | .str, l => ∃ s, l = [.str s] ∧ s.size ≤ 140737488355328
  | .sl d, l => ∃ els : List (List AV), l = [.sl false (els.map d.mk)] ∧ (∀ c ∈ els, d.sh c ∧ c.length = d.n) ∧ els.length ≤ 140737488355328
  | .st ds, l => shAll ds l
def shAll : List Ty → List AV → Prop
  | [], l => l = []
  | d :: ds, l => ∃ l1 l2, l = l1 ++ l2 ∧ l1.length = d.n ∧ d.sh l1 ∧ shAll ds l2
end

/-- nothing that lies is ever written -/
def gOld (w : World) : Gh := ⟨fun b _ => b < w.heap.size, fun _ => none, fun _ => none⟩

mutual
theorem Ty.cell : ∀ (d : Ty) {l : List AV}, d.sh l → l.length = d.n ∧ l.all AV.isCell = true
  | .int _, l, h => by obtain ⟨n, rfl, _⟩ := h; exact ⟨rfl, rfl⟩
  | .bool, l, h => by obtain ⟨n, rfl⟩ := h; exact ⟨rfl, rfl⟩
  | .str, l, h => by obtain ⟨n, rfl, _⟩ := h; exact ⟨rfl, rfl⟩
  | .sl _, l, h => by obtain ⟨n, rfl, _⟩ := h; exact ⟨rfl, rfl⟩
  | .st ds, l, h => cellAll ds h
theorem cellAll : ∀ (ds : List Ty) {l : List AV}, shAll ds l → l.length = nAll ds ∧ l.all AV.isCell = true
  | [], l, h => by simp [shAll] at h; subst h; exact ⟨rfl, rfl⟩
  | d :: ds, l, h => by
    obtain ⟨l1, l2, rfl, _, h1, h2⟩ := h
    obtain ⟨a1, a2⟩ := Ty.cell d h1
    obtain ⟨b1, b2⟩ := cellAll ds h2
    exact ⟨by simp [nAll, a1, b1], by simp [a2, b2]⟩
end

theorem VRs.app {G : Gh} {fr : Frs} {w : World} : ∀ {l1 l2 : List AV} {v1 v2 : List Value}, VRs G fr w l1 v1 → VRs G fr w l2 v2 → VRs G fr w (l1 ++ l2) (v1 ++ v2)
  | [], _, v1, _, h1, h2 => by simp [VRs] at h1; subst h1; simpa using h2
  | e :: l1, _, v1, _, h1, h2 => by
    obtain ⟨u, us, rfl, h3, h4⟩ := h1
    exact ⟨u, us ++ _, rfl, h3, VRs.app h4 h2⟩

/-- a value laid in memory -/
theorem Ty.mem {G : Gh} {fr : Frs} {w : World} (d : Ty) {l : List AV} {cs : List Value} {b o : Nat} (h : d.sh l) (hv : VRs G fr w l cs) (hm : ∀ j v, cs[j]? = some v → w.cell? ⟨b, o + j, none⟩ = some v) :
    (d.mk l).ncells = d.n ∧ ∃ u, VR G fr w (d.mk l) u ∧ u.cells.size = (d.mk l).ncells ∧ AtMem w b o u := by
  obtain ⟨h1, h2⟩ := d.cell h
  have hl := hv.length
  unfold Ty.mk
  cases hst : d.isSt with
  | true =>
    refine ⟨by simp [AV.ncells, AV.cells, h1], .agg cs.toArray, ⟨cs.toArray, rfl, by simpa using hv⟩, by simp [AV.ncells, AV.cells, Value.cells, hl], fun j c hj => hm j c (by simpa [Value.cells] using hj)⟩
  | false =>
    have hn : d.n = 1 := by cases d <;> simp [Ty.isSt] at hst <;> rfl
    match l, h1, h2, hv with
    | [], h1, _, _ => rw [hn] at h1; simp at h1
    | [c], _, h2, hv =>
      obtain ⟨u, us, rfl, hu, hus⟩ := hv
      have hus : us = [] := hus
      subst hus
      have hc : c.isCell = true := by simpa using h2
      have hnc : c.ncells = 1 := by cases c <;> first | rfl | (simp [AV.isCell] at hc)
      have hall : c.cells.all AV.isCell = true := by cases c <;> first | rfl | (simp [AV.isCell] at hc)
      have hsz := (hu.ac hall).1
      have hcell : u.cells = #[u] := by
        have hh := (hu.ac hall).2
        have hcc : c.cells = [c] := by cases c <;> first | rfl | (simp [AV.isCell] at hc)
        rw [hnc] at hsz
        cases u <;> first | rfl | skip
        all_goals (cases c <;> first | (simp [AV.isCell] at hc; done) | (simp [VR] at hu))
      exact ⟨hnc.trans hn.symm, u, hu, by simpa using hsz, fun j c' hj => by
        rw [hcell] at hj
        exact hm j c' (by simpa using hj)⟩
    | _ :: _ :: _, h1, _, _ => rw [hn] at h1; simp at h1

theorem addAdd (a : Addr) (i j : Nat) : (a.add i).add j = a.add (i + j) := by
  unfold Addr.add
  by_cases hi : i = 0 <;> by_cases hj : j = 0 <;> simp [hi, hj, Nat.add_assoc]
theorem spot_none {w : World} {a : Addr} {v : Value} (h : w.cell? a = some v) : a.spot = none ∧ a.block < w.heap.size := by
  unfold World.cell? at h
  split at h
  · rename_i hh
    split at h
    · cases h
    · rename_i h2
      exact ⟨by cases hsp : a.spot <;> simp [hsp] at h2 ⊢, (Array.getElem?_eq_some_iff.1 hh).1⟩
  · cases h

theorem weightsAll_mem {H : Type} {P : Program} {e : TypeId} {n : Nat} : ∀ {ds : List (DataW H)} {d : DataW H}, d ∈ ds → n ∈ d.weights P e → n ∈ DataW.weightsAll P e ds
  | _ :: _, d, hd, hn => by
    simp only [DataW.weightsAll, List.mem_append]
    rcases List.mem_cons.1 hd with rfl | hd
    · exact .inl hn
    · exact .inr (weightsAll_mem hd hn)

theorem buildMC {G : Gh} {fr : Frs} {w : World} (d : Ty) {b : Nat} : ∀ (els : List (List AV)) (o : Nat), (∀ i c, els[i]? = some c → d.sh c ∧ ∃ cs, VRs G fr w c cs ∧ ∀ j v, cs[j]? = some v → w.cell? ⟨b, o + i * d.n + j, none⟩ = some v) → MC G fr w (els.map d.mk) b o
  | [], _, _ => trivial
  | c :: els, o, h => by
    obtain ⟨h1, cs, h2, h3⟩ := h 0 c rfl
    obtain ⟨g1, g2⟩ := d.mem (b := b) (o := o) h1 h2 (fun j v hj => by have := h3 j v hj; simpa using this)
    refine ⟨g2, ?_⟩
    rw [g1]
    refine buildMC d els (o + d.n) fun i c' hc => ?_
    obtain ⟨k1, cs', k2, k3⟩ := h (i + 1) c' (by simpa using hc)
    refine ⟨k1, cs', k2, fun j v hj => ?_⟩
    have := k3 j v hj
    rw [Nat.add_mul, Nat.one_mul] at this
    rw [← this]
    congr 2
    omega

section
variable {H : Type} {enc : TypeId × Value → H} {P : Program} {w : World} {base : Nat} {spare : Nat → Bool} {held : Bool}

mutual
theorem Ty.read : ∀ (d : Ty) {fuel : Nat} {t : TypeId} {cs : List Value} {x : DataW H × List MemPlace}, d.ok P t → DataW.trod enc P w base spare held fuel t cs = some x → (∀ n ∈ x.1.weights P t, n ≤ reachBytes) →
    ∃ l, d.sh l ∧ VRs (gOld w) [] w l cs
  | .int k, fuel, t, cs, x, ho, h, hw => by
    obtain ⟨n, rfl, rfl, hwf⟩ := DataW.trod_int ho h
    exact ⟨_, ⟨n, rfl, hwf⟩, ⟨_, _, rfl, rfl, rfl⟩⟩
  | .bool, fuel, t, cs, x, ho, h, hw => by
    obtain ⟨b, rfl, rfl⟩ := DataW.trod_bool ho h
    exact ⟨_, ⟨b, rfl⟩, ⟨_, _, rfl, rfl, rfl⟩⟩
  | .str, fuel, t, cs, x, ho, h, hw => by
    obtain ⟨s, rfl, rfl, hs⟩ := DataW.trod_string ho h
    have hb := hw s.data.toList.length (by simp [DataW.weights])
    have hr : reachBytes ≤ 140737488355328 := by decide
    exact ⟨_, ⟨s, rfl, by have : s.data.toList.length = s.size := by simp
                          omega⟩, ⟨_, _, rfl, rfl, rfl⟩⟩
  | .sl d, fuel, t, cs, x, ho, h, hw => by
    obtain ⟨e, ht, hc, hpos, hby, hd⟩ := ho
    have hr : reachBytes ≤ 140737488355328 := by decide
    rcases DataW.trod_slice ht h with ⟨rfl, rfl⟩ | ⟨a, len, cap, elems, rest, n, rfl, rfl, rfl, hb, hl, hm, hlen, hel, _, _⟩
    · exact ⟨_, ⟨[], rfl, by simp, by simp⟩, ⟨_, _, rfl, ⟨none, 0, rfl, by simp, by simp, by simp⟩, rfl⟩⟩
    · have hwl := hw ((elems.map (·.1)).length * P.bytesOf e + (rest.map (·.1)).length * P.bytesOf e) (by rw [← Nat.add_mul]; simp [DataW.weights, ht])
      have hlen2 : len ≤ 140737488355328 := by
        have : len * 1 ≤ len * P.bytesOf e := Nat.mul_le_mul_left _ hby
        simp only [List.length_map, hlen] at hwl
        omega
      have each : ∀ i, i < len → ∃ c, d.sh c ∧ ∃ cs', VRs (gOld w) [] w c cs' ∧ w.cells? base (a.add (i * P.cellsOf e)) (P.cellsOf e) = some cs' := by
        intro i hi
        have h1 := hel i hi
        rw [List.getElem?_eq_getElem (by omega)] at h1
        obtain ⟨cs', h2, h3⟩ := Option.bind_eq_some_iff.1 h1
        obtain ⟨c, h4, h5⟩ := Ty.read d hd h3 (fun m hm => hw m (by
          simp only [DataW.weights, ht, List.mem_cons, List.mem_append]
          exact .inr (.inl (weightsAll_mem (List.mem_map.2 ⟨elems[i], List.getElem_mem _, rfl⟩) hm))))
        exact ⟨c, h4, cs', h5, h2⟩
      have choose : ∀ m, m ≤ len → ∃ els : List (List AV), els.length = m ∧ ∀ i c, els[i]? = some c → d.sh c ∧ ∃ cs', VRs (gOld w) [] w c cs' ∧ w.cells? base (a.add (i * P.cellsOf e)) (P.cellsOf e) = some cs' := by
        intro m
        induction m with
        | zero => intro _; exact ⟨[], rfl, fun i c hc => by simp at hc⟩
        | succ m ih =>
          intro hm
          obtain ⟨els, h1, h2⟩ := ih (by omega)
          obtain ⟨c, h3, h4⟩ := each m (by omega)
          refine ⟨els ++ [c], by simp [h1], fun i c' hc => ?_⟩
          by_cases hi : i < els.length
          · rw [List.getElem?_append_left hi] at hc; exact h2 i c' hc
          · have him : i = m := by
              have := (List.getElem?_eq_some_iff.1 hc).1
              simp at this; omega
            subst him
            rw [List.getElem?_append_right (by omega), h1, Nat.sub_self] at hc
            simp at hc; subst hc
            exact ⟨h3, h4⟩
      obtain ⟨els, hell, hels⟩ := choose len (Nat.le_refl _)
      have hshn : ∀ c ∈ els, d.sh c ∧ c.length = d.n := fun c hcm => by
        obtain ⟨i, hi⟩ := List.getElem?_of_mem hcm
        exact ⟨(hels i c hi).1, (d.cell (hels i c hi).1).1⟩
      refine ⟨[.sl false (els.map d.mk)], ⟨els, rfl, hshn, by omega⟩, _, _, rfl, ?_, rfl⟩
      refine ⟨some a, cap, by rw [List.length_map, hell], by rw [List.length_map, hell]; exact hl, by simp, fun hne => ?_⟩
      have hlp : 0 < len := by
        rw [← hell]
        exact List.length_pos_iff.2 fun hh => hne (by rw [hh]; rfl)
      have cell : ∀ i c, els[i]? = some c → ∃ cs', VRs (gOld w) [] w c cs' ∧ ∀ j v, cs'[j]? = some v → w.cell? (a.add (i * d.n + j)) = some v := fun i c hic => by
        obtain ⟨_, cs', h2, h3⟩ := hels i c hic
        obtain ⟨_, k2, k3⟩ := World.cells?_some h3
        refine ⟨cs', h2, fun j v hj => ?_⟩
        have := k3 j (by have := (List.getElem?_eq_some_iff.1 hj).1; omega)
        rw [addAdd, hc] at this
        rw [this, hj]
      obtain ⟨c0, hc0⟩ : ∃ c, els[0]? = some c := ⟨_, List.getElem?_eq_getElem (by omega)⟩
      have hsp : a.spot = none ∧ a.block < w.heap.size := by
        obtain ⟨cs', h2, h3⟩ := cell 0 c0 hc0
        have hl0 : cs'.length = d.n := by rw [h2.length]; exact (hshn c0 (List.mem_of_getElem? hc0)).2
        have h5 := h3 0 _ (List.getElem?_eq_getElem (by omega))
        rw [Nat.zero_mul] at h5
        have h6 : a.add (0 + 0) = a := by simp [Addr.add]
        rw [h6] at h5
        exact spot_none h5
      obtain ⟨ab, ao, asp⟩ := a
      obtain ⟨rfl, hlt⟩ := hsp
      refine ⟨ab, ao, d.n, rfl, hlt, fun x hx => ?_, hlt, ?_⟩
      · obtain ⟨c, hcm, rfl⟩ := List.mem_map.1 hx
        obtain ⟨i, hi⟩ := List.getElem?_of_mem hcm
        obtain ⟨cs', h2, h3⟩ := cell i c hi
        exact (d.mem (b := ab) (o := ao + i * d.n) (hshn c hcm).1 h2 (fun j v hj => by
          have := h3 j v hj
          rw [Addr.add_lit] at this
          rw [← this]; congr 2; omega)).1
      · exact buildMC (G := (gOld w).pure) d els ao fun i c hi => by
          obtain ⟨cs', h2, h3⟩ := cell i c hi
          refine ⟨(hshn c (List.mem_of_getElem? hi)).1, cs', h2, fun j v hj => ?_⟩
          have := h3 j v hj
          rw [Addr.add_lit] at this
          rw [← this]; congr 2; omega
  | .st ds, fuel, t, cs, x, ho, h, hw => by
    obtain ⟨fs, ht, hcn, hok⟩ := ho
    obtain ⟨xs, n, rfl, rfl, hl, hlen, hf⟩ := DataW.trod_struct ht h
    have := readAll ds hok (xs := xs) (by simpa using hlen) (fun i f hi => hf i f (by simpa using hi)) (fun m hm => hw m (by simpa [DataW.weights, ht] using hm))
    rw [List.drop_zero, List.take_of_length_le (by omega)] at this
    exact this
theorem readAll : ∀ (ds : List Ty) {o : Nat} {fs : List Field} {n : Nat} {cs : List Value} {xs : List (DataW H × List MemPlace)}, okAll P ds o fs → xs.length = fs.length →
    (∀ (i : Nat) (f : Field), fs[i]? = some f → DataW.trod enc P w base spare held n f.type ((cs.drop f.offset).take (P.cellsOf f.type)) = xs[i]?) → (∀ m ∈ DataW.weightsEach P (fs.map (fun f : Field => f.type)) (xs.map (·.1)), m ≤ reachBytes) →
    ∃ l, shAll ds l ∧ VRs (gOld w) [] w l ((cs.drop o).take (nAll ds))
  | [], o, fs, n, cs, xs, ho, hx, hf, hw => ⟨[], rfl, by simp [nAll, VRs]⟩
  | d :: ds, o, [], n, cs, xs, ho, hx, hf, hw => ho.elim
  | d :: ds, o, f :: fs, n, cs, [], ho, hx, hf, hw => by simp at hx
  | d :: ds, o, f :: fs, n, cs, x :: xs, ho, hx, hf, hw => by
    obtain ⟨h1, h2, h3, h4⟩ := ho
    have hr := hf 0 f rfl
    simp only [List.getElem?_cons_zero] at hr
    obtain ⟨l1, g1, g2⟩ := Ty.read d h3 hr (fun m hm => hw m (by simp only [List.map_cons, DataW.weightsEach, List.mem_append]; exact .inl hm))
    obtain ⟨l2, g3, g4⟩ := readAll ds h4 (xs := xs) (n := n) (cs := cs) (by simpa using hx) (fun i f' hi => by simpa using hf (i + 1) f' (by simpa using hi)) (fun m hm => hw m (by simp only [List.map_cons, DataW.weightsEach, List.mem_append]; exact .inr hm))
    refine ⟨l1 ++ l2, ⟨l1, l2, rfl, (d.cell g1).1, g1, g3⟩, ?_⟩
    have := g2.app g4
    rw [h1, h2] at this
    rw [nAll, List.take_add, List.drop_drop]
    exact this
end
end
end HM

/- The arguments of a call. -/
namespace HM
open Go Go.RowKit Go.ChangeShapes Go.WideShapes

def okArgs (P : Program) : List Ty → List TypeId → Prop
  | [], [] => True
  | d :: ds, t :: ts => d.ok P t ∧ okArgs P ds ts
  | _, _ => False
def shArgs : List Ty → List AV → Prop
  | [], [] => True
  | d :: ds, e :: es => (∃ l, d.sh l ∧ e = d.mk l) ∧ shArgs ds es
  | _, _ => False

section
variable {H : Type} {enc : TypeId × Value → H} {P : Program} {w : World} {b : Nat} {sp : Nat → Bool} {hd : Bool}

theorem Ty.one {d : Ty} {t : TypeId} {v : Value} {r : _root_.Go.Reach} {b0 : Nat} (ho : d.ok P t) (hv : Value.okWide P w r b0 t v) {l : List AV} (hs : d.sh l) (h : VRs (gOld w) [] w l v.cells.toList) : VR (gOld w) [] w (d.mk l) v := by
  cases d with
  | st ds =>
    obtain ⟨fs, ht, _, _⟩ := ho
    unfold Value.okWide at hv
    rw [ht] at hv
    obtain ⟨cs, rfl, _, _⟩ := hv
    exact ⟨cs, rfl, by simpa [Value.cells] using h⟩
  | int k =>
    obtain ⟨n, rfl⟩ := okWide_int ho hv
    obtain ⟨m, rfl, _⟩ := hs
    obtain ⟨u, us, h1, h2, h3⟩ := h
    simp [Value.cells] at h1
    rw [h1.1]; exact h2
  | bool =>
    obtain ⟨n, rfl⟩ := okWide_bool ho hv
    obtain ⟨m, rfl⟩ := hs
    obtain ⟨u, us, h1, h2, h3⟩ := h
    simp [Value.cells] at h1
    rw [h1.1]; exact h2
  | str =>
    obtain ⟨n, rfl⟩ := okWide_string ho hv
    obtain ⟨m, rfl, _⟩ := hs
    obtain ⟨u, us, h1, h2, h3⟩ := h
    simp [Value.cells] at h1
    rw [h1.1]; exact h2
  | sl d =>
    obtain ⟨e, ht, _⟩ := ho
    obtain ⟨m, rfl, _⟩ := hs
    obtain ⟨u, us, h1, h2, h3⟩ := h
    obtain ⟨A, n', c', rfl⟩ := okWide_slice ht hv
    have hc : (Value.slice A n' c').cells = #[.slice A n' c'] := rfl
    rw [hc] at h1
    simp at h1
    rw [h1.1]; exact h2

theorem readArgs {r : _root_.Go.Reach} {b0 : Nat} : ∀ (ds : List Ty) {ts : List TypeId} {vs : List Value} {dds : List (DataW H)} {ps : List MemPlace}, okArgs P ds ts → DataW.TrodAll enc P w b sp hd ts vs dds ps →
    (∀ (j : Nat) t v, ts[j]? = some t → vs[j]? = some v → Value.okWide P w r b0 t v) → (∀ m ∈ DataW.weightsEach P ts dds, m ≤ reachBytes) → ∃ es, shArgs ds es ∧ VRs (gOld w) [] w es vs
  | [], [], [], [], _, _, _, _, _ => ⟨[], trivial, rfl⟩
  | d :: ds, t :: ts, v :: vs, dd :: dds, _, ho, h, hv, hw => by
    obtain ⟨p, q, ⟨fuel, h1⟩, h2, _⟩ := h
    obtain ⟨l, g1, g2⟩ := Ty.read d ho.1 h1 (fun m hm => hw m (by simp only [DataW.weightsEach, List.mem_append]; exact .inl hm))
    obtain ⟨es, g3, g4⟩ := readArgs ds ho.2 h2 (fun j t v ht hv' => hv (j + 1) t v (by simpa using ht) (by simpa using hv')) (fun m hm => hw m (by simp only [DataW.weightsEach, List.mem_append]; exact .inr hm))
    exact ⟨d.mk l :: es, ⟨⟨l, g1, rfl⟩, g3⟩, _, _, rfl, Ty.one ho.1 (hv 0 t v rfl rfl) g1 g2, g4⟩
  | [], [], _ :: _, _, _, _, h, _, _ => by cases ‹List (DataW H)› <;> exact h.elim
  | [], [], [], _ :: _, _, _, h, _, _ => h.elim
  | [], _ :: _, _, _, _, ho, _, _, _ => ho.elim
  | _ :: _, [], _, _, _, ho, _, _, _ => ho.elim
  | _ :: _, _ :: _, [], _, _, _, h, _, _ => by cases ‹List (DataW H)› <;> exact h.elim
  | _ :: _, _ :: _, _ :: _, [], _, _, h, _, _ => h.elim
end
theorem trodAll_stays {H : Type} {enc : TypeId × Value → H} {P : Program} {W W' : World} (hl : laidOutB P = true) (hb : Below W.heap.size W W') {sp : Nat → Bool} : ∀ {ts : List TypeId} {vs : List Value} {ds : List (DataW H)} {ps : List MemPlace},
    (ts.all fun t => P.readableRec t && decide (t < P.types.size)) = true → DataW.TrodAll enc P W 0 (fun _ => true) true ts vs ds ps → (∀ p ∈ ps, p.block < W.heap.size) → (∀ p ∈ ps, sp p.block = true) → DataW.TrodAll enc P W' 0 sp true ts vs ds ps
  | [], [], [], _, _, h, _, _ => h
  | t :: ts, v :: vs, d :: ds, _, hr, h, hlt, hsp => by
    obtain ⟨p, q, h1, h2, rfl⟩ := h
    simp only [List.all_cons, Bool.and_eq_true, decide_eq_true_eq] at hr
    exact ⟨p, q, WideElems.Trod_stays hl hr.1.1 hr.1.2 h1 (fun x hx => hb.same (hlt x (by simp [hx]))) (fun x hx => hsp x (by simp [hx])), trodAll_stays hl hb hr.2 h2 (fun x hx => hlt x (by simp [hx])) (fun x hx => hsp x (by simp [hx])), rfl⟩
  | [], [], _ :: _, _, _, h, _, _ => h.elim
  | [], _ :: _, _, _, _, h, _, _ => by cases ‹List (DataW H)› <;> exact h.elim
  | _ :: _, [], _, _, _, h, _, _ => by cases ‹List (DataW H)› <;> exact h.elim
  | _ :: _, _ :: _, [], _, _, h, _, _ => h.elim
theorem trodAll_len {H : Type} {enc : TypeId × Value → H} {P : Program} {W : World} {b : Nat} {sp : Nat → Bool} {hd : Bool} : ∀ {ts : List TypeId} {vs : List Value} {ds : List (DataW H)} {ps : List MemPlace}, DataW.TrodAll enc P W b sp hd ts vs ds ps → ds.length = ts.length
  | [], [], [], _, _ => rfl
  | t :: ts, v :: vs, d :: ds, _, h => by
    obtain ⟨p, q, h1, h2, rfl⟩ := h
    simp [trodAll_len h2]
  | [], [], _ :: _, _, h => h.elim
  | [], _ :: _, _, _, h => by cases ‹List (DataW H)› <;> exact h.elim
  | _ :: _, [], _, _, h => by cases ‹List (DataW H)› <;> exact h.elim
  | _ :: _, _ :: _, [], _, h => h.elim
theorem len4 {α : Type} {l : List α} (h : l.length = 4) : ∃ a b c d, l = [a, b, c, d] := by
  match l, h with
  | [a, b, c, d], _ => exact ⟨a, b, c, d, rfl⟩
theorem len5 {α : Type} {l : List α} (h : l.length = 5) : ∃ a b c d e, l = [a, b, c, d, e] := by
  match l, h with
  | [a, b, c, d, e], _ => exact ⟨a, b, c, d, e, rfl⟩
end HM

/- Calls that hand back a slice of their own, which the caller may write. -/
namespace HM
open Go Go.RowKit

/-- WHAT SUCH A CALL COMES TO: nothing (an empty slice), or a block of its own, with these elements at its head -/
def FCall (P : Program) (L : World → Prop) (f : FuncId) (args : List AV) (es : List AV) (sz : Nat) (e : TypeId) : Prop :=
  ∀ (w : World) (G : Gh), (∀ w', Below w.heap.size w w' → L w') → G.ρ = (fun _ => none) → (∀ b e e', e' ≤ e → G.ok b e → G.ok b e') → ∀ vals : List Value, VRs G [] w args vals →
    Calls P f vals.toArray w fun r w' => Below w.heap.size w w' ∧ ((es = [] ∧ ∃ A c, r = .returned (.slice A 0 c)) ∨
      ∃ b c arr, r = .returned (.slice (some ⟨b, 0, none⟩) es.length c) ∧ w.heap.size ≤ b ∧ w'.heap[b]? = some (.cells arr e (0, 0)) ∧ es.length ≤ c ∧ c * sz = arr.size ∧ VRs ⟨fun _ _ => True, fun _ => none, fun _ => none⟩ [] w' (flatE es) (arr.toList.take (es.length * sz)))

theorem MC_take {G : Gh} {fr : Frs} {w : World} {b sz : Nat} {arr : Array Value} {t : TypeId} {es : List AV} (hm : MC G fr w es b 0) (hu : ∀ e ∈ es, e.ncells = sz) (hheap : w.heap[b]? = some (.cells arr t (0, 0))) (hle : es.length * sz ≤ arr.size) : VRs G fr w (flatE es) (arr.toList.take (es.length * sz)) := by
  obtain ⟨xs, hmv, hcell⟩ := hm.toMV
  have hl : xs.length = es.length * sz := by rw [hmv.length, tot_uni hu]
  have : arr.toList.take (es.length * sz) = xs := by
    apply List.ext_getElem?
    intro j
    rw [List.getElem?_take]
    by_cases hj : j < xs.length
    · rw [if_pos (by omega)]
      have h1 := hcell j xs[j] (List.getElem?_eq_getElem hj)
      rw [Nat.zero_add, cell_of_row w b j arr t (0, 0) hheap] at h1
      rw [List.getElem?_eq_getElem hj, ← h1]; simp
    · rw [if_neg (by omega), List.getElem?_eq_none (by omega)]
  rw [this]
  exact hmv.vrs

theorem FCall.of_ICall {P : Program} {L : World → Prop} {f : FuncId} {args es : List AV} {sz : Nat} {e : TypeId} (h : ICall P L f args St.none fun r S' => ∃ ch, r = .own es ch ∧ S'.fr[ch]? = some (es.length, sz) ∧ S'.ty ch = e) : FCall P L f args es sz e := by
  intro w G hL hρ hdn vals hv
  have hS : RelS (⟨w, hL, G.ok, G, [], w, 0, none⟩ : Orig L) G St.none w :=
    ⟨Below.refl _ _, Nat.le_refl _, hdn, fun _ _ _ h => h, KeepD.refl hdn, by simp [St.none, hρ], by simp [St.none], by simp [hρ], by simp [hρ], by simp [St.none], by simp [St.none]⟩
  refine (h _ G w hS vals hv).mono fun r w' ⟨v, r', G', S', he, h1, h2, h3, ch, h4, h5, h6⟩ => ?_
  subst h4
  refine ⟨h1.below, ?_⟩
  obtain ⟨F, z, hF, hle, hu, hv⟩ := h3
  rw [h5] at hF; injection hF with hF; injection hF with e1 e2; subst e1; subst e2
  rcases hv with ⟨rfl, hn, _⟩ | ⟨b, o, c, rfl, hc, hlt, hok, hm, hal⟩
  · exact .inl ⟨hn, none, 0, by rw [he]⟩
  · obtain ⟨hχ, rfl, arr, t, hrow, hcs, _⟩ := hal rfl
    obtain ⟨hbase, ⟨arr', fz, hrow'⟩, _⟩ := (h1.ch ch _ _ h5).2 b hχ
    rw [hrow] at hrow'; injection hrow' with hrow'; injection hrow' with f1 f2 f3
    have ht : t = e := f2.trans h6
    subst ht
    have hmul : es.length * sz ≤ arr.size := by rw [← hcs]; exact Nat.mul_le_mul_right _ hc
    refine .inr ⟨b, c, arr, he, hbase, hrow, hc, hcs, VRs.keep ?_ _ (MC_take hm hu hrow hmul)⟩
    exact ⟨Nat.le_refl _, fun _ _ _ _ => trivial, fun b e e' he hh => h1.dn b e e' he hh, fun _ _ _ _ => rfl, fun _ _ hh => by simp [Gh.pure] at hh, fun _ _ _ _ hh => by simp [Gh.pure] at hh, fun _ _ _ _ _ hh => hh, fun _ _ _ hF => by simp at hF⟩

/-- an object more, at a block that is there and that nothing speaks of -/
theorem RelS.adopt {L : World → Prop} {w0 : Orig L} {G : Gh} {S : St} {w : World} (h : RelS w0 G S w) (o : Ob) (ob : Obj) (hv : OR G S.fr w o ob) (b0 : Nat) (hb : w0.w.heap.size ≤ b0) (hheap : w.heap[b0]? = some ob) (hok : ∀ e, G.ok b0 e → e = 0) (hρ : ∀ id, G.ρ id ≠ some b0) (hχ : ∀ c F z, S.fr[c]? = some (F, z) → G.χ c ≠ some b0) :
    RelS w0 { G with ρ := fun id => if id = S.bx.length then some b0 else G.ρ id } (S.addB o) w ∧ KeepD G S.fr w { G with ρ := fun id => if id = S.bx.length then some b0 else G.ρ id } S.fr w := by
  have hlt0 := (Array.getElem?_eq_some_iff.1 hheap).1
  have hold : ∀ id b, G.ρ id = some b → id ≠ S.bx.length := fun id b hr => by have := (h.rd id b hr).1; omega
  have hk : KeepD G S.fr w { G with ρ := fun id => if id = S.bx.length then some b0 else G.ρ id } S.fr w :=
    ⟨⟨Nat.le_refl _, fun _ _ _ hh => hh, h.dn, fun _ _ _ _ => rfl, fun id b hr => by simp [hold id b hr, hr], fun _ _ arr _ _ hh => ⟨arr, hh, rfl⟩, fun _ _ _ _ _ hh => hh, fun _ F _ hF => ⟨F, hF, Nat.le_refl _, fun _ => ⟨rfl, fun _ _ => ⟨rfl, fun _ hh => hh⟩⟩⟩⟩, fun _ hh => hh, fun _ r hh => ⟨r, hh⟩⟩
  refine ⟨⟨h.below, h.bsz, h.dn, h.ob, h.kp.trans hk, ?_, fun id o' hx hd => ?_, fun id id' b l1 l2 h1 h2 => ?_, fun id b hr => ?_, fun c F z hF => ⟨(h.ch c F z hF).1, fun b hc => ?_⟩, fun id hx => ?_⟩, hk⟩
  · obtain ⟨n1, n2, n3, n4, n5⟩ := h.n0
    exact ⟨n1, n2, by simp [St.addB]; omega, n4, n5⟩
  · by_cases hid : id = S.bx.length
    · subst hid
      simp [St.addB] at hx
      subst hx
      exact ⟨b0, ob, by simp, hheap, hv.keep hk.toKeep⟩
    · have hlt : id < S.bx.length := by
        have := (List.getElem?_eq_some_iff.1 hx).1
        simp [St.addB] at this; omega
      simp only [St.addB, List.getElem?_append_left hlt] at hx
      obtain ⟨b, ob', hr, hh, hv'⟩ := h.bx id o' hx hd
      exact ⟨b, ob', by simp [hid, hr], hh, hv'.keep hk.toKeep⟩
  · dsimp only at h1 h2
    split at h1 <;> split at h2
    · omega
    · injection h1 with h1; subst h1; exact absurd h2 (hρ _)
    · injection h2 with h2; subst h2; exact absurd h1 (hρ _)
    · have e1 := (h.rd _ _ h1).1
      have e2 := (h.rd _ _ h2).1
      exact h.ri _ _ _ (live_append l1 e1) (live_append l2 e2) h1 h2
  · dsimp only at hr ⊢
    split at hr
    · injection hr with hr
      subst hr
      rename_i e
      exact ⟨by simp [St.addB, e], hlt0, hb, fun _ => hok⟩
    · obtain ⟨h1, h2, h3, h4⟩ := h.rd id b hr
      refine ⟨by simp [St.addB]; omega, h2, h3, fun hl e he => h4 (live_append hl h1) e he⟩
  · obtain ⟨h1, h2, h3, h4⟩ := (h.ch c F z hF).2 b hc
    refine ⟨h1, h2, fun id => ?_, h4⟩
    dsimp only
    split
    · intro he; injection he with he; subst he; exact hχ c F z hF hc
    · exact h3 id
  · dsimp only at hx ⊢
    rcases Nat.lt_or_ge id S.bx.length with hlt | hge
    · simp only [St.addB, List.getElem?_append_left hlt] at hx
      rw [if_neg (by omega)]
      exact h.hl id hx
    · simp only [St.addB] at hx
      rw [List.getElem?_append_right hge] at hx
      have := List.mem_of_getElem? hx
      simp at this
      subst this
      exact hv.elim

def freshO (es : List AV) (sz d : Nat) (e : TypeId) : Ob := .cells (flatE es ++ List.replicate (d * sz) .undef) e

theorem VRs.undefs (G : Gh) (fr : Frs) (w : World) : ∀ l : List Value, VRs G fr w (List.replicate l.length .undef) l
  | [] => rfl
  | x :: l => ⟨x, l, rfl, trivial, VRs.undefs G fr w l⟩

theorem VRs.scalar' {G G' : Gh} {fr fr' : Frs} {w w' : World} {es : List AV} {vs : List Value} (hs : scalars es = true) (h : VRs G fr w es vs) : VRs G' fr' w' es vs := VRs.scalar es hs h

/-- .. AT A CALL: the caller has an object more -/
theorem CallK.fresh {P : Program} {L : World → Prop} {S : St} {g : FuncId} {caps args fargs es : List AV} {sz : Nat} {e : TypeId} {K : AV → St → Prop} (hc : callable P g = true) (h : FCall P L g fargs es sz e) (hf : fzs (args ++ caps) = some fargs) (hE : Els sz es) (hsc : scalars (flatE es) = true)
    (h0 : es = [] → K (.sl false []) S) (hK : ∀ d, K (.vsl S.bx.length 0 es.length sz) (S.addB (freshO es sz d e))) : CallK P L S (.fn g caps) args K := by
  refine ⟨fun ro w0 G w fvv vals hS ⟨cvs, hfe, hcv⟩ hargs => ?_⟩
  subst hfe
  have hall := hargs.append hcv
  refine CallSem.fn hc ?_
  refine (h w G.pure (Orig.later hS) rfl hS.dn _ (fzs_sound _ hf hall)).mono fun r w' ⟨hb, hr⟩ => ?_
  rcases hr with ⟨rfl, A, c, rfl⟩ | ⟨b, c, arr, rfl, hbn, hheap, hc, hcs, hv⟩
  · obtain ⟨h1, h2⟩ := hS.of_below' hb
    exact ⟨_, rfl, _, S, .sl false [], h1, h2, ⟨A, c, rfl, by simp, by simp, by simp⟩, h0 rfl⟩
  · have hdn' : ∀ b' x x', x' ≤ x → (if b' = b then x = 0 else (b' < w.heap.size → G.ok b' x)) → (if b' = b then x' = 0 else (b' < w.heap.size → G.ok b' x')) := fun b' x x' hx hh => by
      split at hh
      · rename_i e; rw [if_pos e]; omega
      · rename_i e; rw [if_neg e]; exact fun hlt => hS.dn _ _ _ hx (hh hlt)
    obtain ⟨h1, h2⟩ := hS.of_below hb (fun b' x => if b' = b then x = 0 else (b' < w.heap.size → G.ok b' x)) (fun b' x hlt => by
      rw [if_neg (by omega)]; exact ⟨fun hh => hh hlt, fun hh _ => hh⟩) hdn'
    have hu : ∀ x ∈ es, x.ncells = sz := fun x hx => (hE x hx).1
    have hfl := flatE_len hu
    have hmul : es.length * sz ≤ c * sz := Nat.mul_le_mul_right _ hc
    have hd : (c - es.length) * sz = arr.size - es.length * sz := by rw [Nat.sub_mul, hcs]
    have hlen : arr.size = (flatE es ++ List.replicate ((c - es.length) * sz) AV.undef).length := by
      rw [List.length_append, hfl, List.length_replicate, hd]; omega
    have hor : OR { G with ok := fun b' x => if b' = b then x = 0 else (b' < w.heap.size → G.ok b' x) } S.fr w' (freshO es sz (c - es.length) e) (.cells arr e (0, 0)) := by
      refine ⟨arr, rfl, hlen, ?_⟩
      rw [List.take_of_length_le (by rw [← hlen]; simp)]
      have hsplit : arr.toList = arr.toList.take (es.length * sz) ++ arr.toList.drop (es.length * sz) := (List.take_append_drop _ _).symm
      rw [hsplit]
      refine (VRs.scalar' hsc hv).append ?_
      have hdl : (arr.toList.drop (es.length * sz)).length = (c - es.length) * sz := by rw [List.length_drop, hd]; simp
      rw [← hdl]
      exact VRs.undefs _ _ _ _
    obtain ⟨h3, h4⟩ := h1.adopt (freshO es sz (c - es.length) e) (.cells arr e (0, 0)) hor b (Nat.le_trans hS.bsz hbn) hheap (fun x hx => by simpa using hx) (fun id hr => by
      have := (hS.rd id b hr).2.1; omega) (fun ch F z hF hr => by have := hS.chlt ch F z hF b hr; omega)
    refine ⟨_, rfl, _, _, .vsl S.bx.length 0 es.length sz, h3, h2.trans h4, ?_, hK (c - es.length)⟩
    exact ⟨b, some ⟨b, 0, none⟩, c, arr, e, by simp, hheap, rfl, hc, by omega, fun _ => rfl⟩

end HM

/- An object that holds nil before a loop: a slice to be appended to. -/
namespace HM
open Go Go.RowKit

theorem RelS.recast {L : World → Prop} {w0 : Orig L} {G : Gh} {S : St} {w : World} (h : RelS w0 G S w) {id : Nat} {o o' : Ob} (hb : S.bx[id]? = some o) (hd : o.isDead = false) (hO : ∀ ob, OR G S.fr w o ob → OR G S.fr w o' ob) : RelS w0 G (S.setB id o') w := by
  have hl : S.live id := ⟨o, hb, hd⟩
  have hlt := (List.getElem?_eq_some_iff.1 hb).1
  have live : ∀ id', (S.setB id o').live id' → S.live id' := fun id' l1 => by
    by_cases e : id' = id
    · subst e; exact hl
    · exact live_set l1 e
  refine ⟨h.below, h.bsz, h.dn, h.ob, h.kp, by simpa [St.setB] using h.n0, fun id' o'' hx' hd' => ?_, fun id1 id2 b' l1 l2 h1 h2 => h.ri _ _ _ (live _ l1) (live _ l2) h1 h2, fun id' b' hr' => ?_, h.ch, fun id' hx' => ?_⟩
  · by_cases e : id' = id
    · subst e
      simp [St.setB, hlt] at hx'
      subst hx'
      obtain ⟨b, ob, hr, hheap, hv⟩ := h.bx id' o hb hd
      exact ⟨b, ob, hr, hheap, hO ob hv⟩
    · simp only [St.setB] at hx'
      rw [List.getElem?_set_ne (fun h => e h.symm)] at hx'
      exact h.bx id' o'' hx' hd'
  · obtain ⟨h1, h2, h3, h4⟩ := h.rd id' b' hr'
    exact ⟨by simpa [St.setB] using h1, h2, h3, fun hl' => h4 (live _ hl')⟩
  · by_cases e : id' = id
    · subst e
      simp [St.setB, hlt] at hx'
      subst hx'
      obtain ⟨b, ob, hr, hheap, hv⟩ := h.bx id' o hb hd
      exact (hO ob hv).elim
    · simp only [St.setB] at hx'
      rw [List.getElem?_set_ne (fun h => e h.symm)] at hx'
      exact h.hl id' hx'

theorem SemK.bornB {P : Program} {L : World → Prop} {nt : Nat} {c : Code} {a : Nat → AV} {S : St} {Q : Exit → (Nat → AV) → St → Prop} (id z : Nat) (e t : TypeId) (hb : S.bx[id]? = some (.cells [.nils] t))
    (h : SemK P L nt c a ((S.addF (0, z) e).setB id (.cells [.own [] S.fr.length] t)) Q) : SemK P L nt c a S Q := by
  refine ⟨fun w0 G act w hR => ?_⟩
  obtain ⟨hS, hT⟩ := hR
  obtain ⟨G', u1, u2, u3⟩ := hS.unborn z e
  have u4 := RelS.recast (o' := .cells [.own [] S.fr.length] t) u1 (id := id) hb rfl fun ob hO => by
    obtain ⟨arr, h1, h2, v, vs, h3, h4, h5⟩ := hO
    have h4 : v = .slice none 0 0 := h4
    subst h4
    exact ⟨arr, h1, h2, _, vs, h3, u3, h5⟩
  exact h.out w0 G' act w ⟨u4, hT.keep u2⟩
theorem RangeK.bornB {P : Program} {L : World → Prop} {nt : Nat} {g : Operand} {ps : Array Tmp} {asg body : Code} {a : Nat → AV} {S : St} {Q : Exit → (Nat → AV) → St → Prop} (id z : Nat) (e t : TypeId) (hb : S.bx[id]? = some (.cells [.nils] t))
    (h : RangeK P L nt g ps asg body a ((S.addF (0, z) e).setB id (.cells [.own [] S.fr.length] t)) Q) : RangeK P L nt g ps asg body a S Q := ⟨SemK.bornB id z e t hb h.out⟩
theorem LoopK.bornB {P : Program} {L : World → Prop} {nt : Nat} {c : Code} {a : Nat → AV} {S : St} {Q : Exit → (Nat → AV) → St → Prop} (id z : Nat) (e t : TypeId) (hb : S.bx[id]? = some (.cells [.nils] t))
    (h : LoopK P L nt c a ((S.addF (0, z) e).setB id (.cells [.own [] S.fr.length] t)) Q) : LoopK P L nt c a S Q := ⟨SemK.bornB id z e t hb h.out⟩
end HM

/- A region whose order is drawn: what does not look at the store comes first. -/
namespace HM
open Go Go.RowKit

def dstOf (ops : Array Oper) (i : Nat) : Option Tmp := (ops[i]?).bind (·.dst)
/-- what an operation looks at: its operands, its guard's word -/
def looks (ops : Array Oper) (o : Oper) : List Tmp := tmpsOf o ++ (match o.guard with
  | some (j, _) => (dstOf ops j).toList
  | none => [])
def stilChk (ops : Array Oper) (J : List Nat) : Bool :=
  decide ((ops.toList.filterMap (·.dst)).Nodup) &&
  (J.all fun i => decide (i < ops.size) && (dstOf ops i).isSome) &&
  ((List.range ops.size).all fun i => match ops[i]? with
    | some o => (o.after.toList.all fun e => !Region.binds .any e || decide (e.on < i)) &&
      ((looks ops o).all fun t => J.all fun k => (dstOf ops k != some t) || aft o k) &&
      (!J.contains i || (looks ops o).all fun t => (List.range ops.size).all fun k => J.contains k || (dstOf ops k != some t))
    | none => true)

structure Stil (ops : Array Oper) (J : List Nat) : Prop where
  nodup : ∀ (i j : Nat) (t : Tmp), dstOf ops i = some t → dstOf ops j = some t → i = j
  lt : ∀ i ∈ J, i < ops.size ∧ ∃ d, dstOf ops i = some d
  edge : ∀ (i : Nat) (o : Oper), ops[i]? = some o → ∀ e ∈ o.after, Region.binds .any e = true → e.on < i
  look : ∀ (i : Nat) (o : Oper), ops[i]? = some o → ∀ t ∈ looks ops o, ∀ k ∈ J, dstOf ops k = some t → Aft o k
  own : ∀ (i : Nat) (o : Oper), ops[i]? = some o → i ∈ J → ∀ t ∈ looks ops o, ∀ k, k ∉ J → dstOf ops k ≠ some t

theorem stilChk_spec {ops : Array Oper} {J : List Nat} (h : stilChk ops J = true) : Stil ops J := by
  simp only [stilChk, Bool.and_eq_true, decide_eq_true_eq, List.all_eq_true] at h
  obtain ⟨⟨h1, h2⟩, h3⟩ := h
  have get : ∀ (i : Nat) (o : Oper), ops[i]? = some o → _ := fun i o ho => h3 i (by simpa using (Array.getElem?_eq_some_iff.1 ho).1)
  refine ⟨fun i j t hi hj => ?_, fun i hi => ?_, fun i o ho e he hb => ?_, fun i o ho t ht k hk hd => ?_, fun i o ho hi t ht k hk hd => ?_⟩
  · unfold dstOf at hi hj
    obtain ⟨o, ho, hd⟩ := Option.bind_eq_some_iff.1 hi
    obtain ⟨o', ho', hd'⟩ := Option.bind_eq_some_iff.1 hj
    exact nodup_filterMap (·.dst) ops.toList h1 i j o o' t (by simpa using ho) (by simpa using ho') hd hd'
  · have := h2 i hi
    exact ⟨this.1, Option.isSome_iff_exists.1 this.2⟩
  · have := get i o ho
    rw [ho] at this
    simp only [Bool.and_eq_true] at this
    have h4 := List.all_eq_true.1 this.1.1 e (by simpa using he)
    simpa [hb] using h4
  · have := get i o ho
    rw [ho] at this
    simp only [Bool.and_eq_true] at this
    have h4 := List.all_eq_true.1 (List.all_eq_true.1 this.1.2 t ht) k hk
    simp only [hd, bne_self_eq_false, Bool.false_or] at h4
    exact aft_spec h4
  · have := get i o ho
    rw [ho] at this
    simp only [Bool.and_eq_true] at this
    have h4 := this.2
    have hc : J.contains i = true := by simpa using hi
    rw [hc] at h4
    simp only [Bool.not_true, Bool.false_or] at h4
    have hkl : k < ops.size := by
      unfold dstOf at hd
      obtain ⟨o, ho, _⟩ := Option.bind_eq_some_iff.1 hd
      exact (Array.getElem?_eq_some_iff.1 ho).1
    have h5 := List.all_eq_true.1 (List.all_eq_true.1 h4 t ht) k (by simpa using hkl)
    have hc2 : J.contains k = false := by simpa using hk
    simp [hc2, hd] at h5
    exact hk h5

theorem gdK_congr {ops : Array Oper} {a a' : Nat → AV} {o : Oper} {A B : Prop} (h : ∀ j w d, o.guard = some (j, w) → dstOf ops j = some d → a d = a' d) (hk : gdK ops a o A B) : gdK ops a' o A B := by
  unfold gdK at *
  cases hg : o.guard with
  | none => simpa [hg] using hk
  | some jw =>
    obtain ⟨j, w⟩ := jw
    simp only [hg] at hk ⊢
    cases hd : (ops[j]?).bind (·.dst) with
    | none => simp [hd] at hk
    | some d =>
      simp only [hd] at hk ⊢
      rw [← h j w d hg hd]
      exact hk

theorem BrK.mono {b : Bool} {A A' B B' : Prop} (h : BrK b A B) (ha : A → A') (hb : B → B') : BrK b A' B' := by
  cases b
  · exact hb h
  · exact ha h
theorem gdK_mono {ops : Array Oper} {a : Nat → AV} {o : Oper} {A A' B B' : Prop} (hk : gdK ops a o A B) (ha : A → A') (hb : B → B') : gdK ops a o A' B' := by
  unfold gdK at *
  split at hk
  · exact ha hk
  · split at hk
    · split at hk
      · split at hk
        · exact hk.mono ha hb
        · exact hk.mono hb ha
      · exact hb hk
      · exact hk.elim
    · exact hk.elim

/-- an operation with its guard, under assignments that agree where it looks -/
theorem op_congr {P : Program} {L : World → Prop} {ops : Array Oper} {a a' : Nat → AV} {S : St} {o : Oper} {K : AV → St → Prop} {B : Prop} (h : ∀ t ∈ looks ops o, a t = a' t) (hk : gdK ops a o (OpK P L false a S o K) B) : gdK ops a' o (OpK P L false a' S o K) B := by
  refine gdK_congr (fun j w d hg hd => h d ?_) (gdK_mono hk (fun hh => OpK_congr (fun x hx => ?_) hh) id)
  · unfold looks; simp [hg, hd]
  · cases x with
    | tmp t =>
      refine h t ?_
      unfold looks tmpsOf
      simp only [List.mem_append, List.mem_filterMap]
      exact .inl ⟨.tmp t, by simpa using hx, rfl⟩
    | const v => rfl
    | func f => rfl
    | global g => rfl

/-- the values of those that come first -/
def stil (P : Program) (L : World → Prop) (ops : Array Oper) : List Nat → (Nat → AV) → ((Nat → AV) → Prop) → Prop
  | [], a, K => K a
  | i :: J, a, K => match ops.toList[i]? with
    | some o => ∃ v, (∀ (S : St) (K' : AV → St → Prop), K' v S → gdK ops a o (OpK P L false a S o K') (K' (.tup []) S)) ∧ stil P L ops J (updo a o.dst v) K
    | none => False

def hid (ops : Array Oper) (J : List Nat) (l : Array Bool) (t : Nat) : Bool := J.any fun i => !(l.getD i true) && dstOf ops i == some t
def hide (ops : Array Oper) (J : List Nat) (l : Array Bool) (a : Nat → AV) : Nat → AV := fun t => if hid ops J l t then .undef else a t
def lvOf (J : List Nat) (l : List Bool) : List Bool := l.mapIdx fun i b => b || J.contains i

theorem hid_spec {ops : Array Oper} {J : List Nat} {l : Array Bool} {t : Nat} : hid ops J l t = true ↔ ∃ i ∈ J, l.getD i true = false ∧ dstOf ops i = some t := by
  unfold hid
  rw [List.any_eq_true]
  simp

theorem lvOf_len (J : List Nat) (l : List Bool) : (lvOf J l).length = l.length := by simp [lvOf]
theorem lvOf_get {J : List Nat} {l : List Bool} {i : Nat} (d : Bool) (h : i < l.length) : (lvOf J l).getD i d = (l.getD i d || J.contains i) := by
  simp [lvOf, List.getD_eq_getElem?_getD, h]
theorem lvOf_setJ {J : List Nat} {l : List Bool} {i : Nat} (h : i ∈ J) : lvOf J (l.set i true) = lvOf J l := by
  apply List.ext_getElem?
  intro j
  simp only [lvOf, List.getElem?_mapIdx, List.getElem?_set]
  by_cases e : i = j
  · subst e
    by_cases hl : i < l.length
    · simp [hl, h]
    · simp [hl]
  · simp [e]
theorem lvOf_set {J : List Nat} {l : List Bool} {i : Nat} : lvOf J (l.set i true) = (lvOf J l).set i true := by
  apply List.ext_getElem?
  intro j
  simp only [lvOf, List.getElem?_mapIdx, List.getElem?_set, List.length_mapIdx]
  by_cases e : i = j
  · subst e
    by_cases hl : i < l.length
    · simp [hl]
    · simp [hl]
  · simp [e]

theorem countP_set {l : List Bool} {i : Nat} (h : l[i]? = some false) : l.countP (fun b => !b) = (l.set i true).countP (fun b => !b) + 1 := by
  have hil : i < l.length := (List.getElem?_eq_some_iff.1 h).1
  have hval : l[i] = false := (List.getElem?_eq_some_iff.1 h).2
  have e1 : l = l.take i ++ false :: l.drop (i + 1) := by
    rw [← hval, ← List.drop_eq_getElem_cons hil, List.take_append_drop]
  rw [List.set_eq_take_append_cons_drop, if_pos hil]
  conv => lhs; rw [e1]
  simp only [List.countP_append, List.countP_cons]
  simp; omega

theorem all_listed {ops : Array Oper} {J : List Nat} (hst : Stil ops J) {listed : Array Bool} (hsz : listed.size = ops.size) (h : Region.ready .any ops listed = []) : ∀ i, i < ops.size → listed.getD i true = true := by
  intro i
  induction i using Nat.strongRecOn with
  | ind i ih =>
    intro hi
    cases hv : listed.getD i true with
    | true => rfl
    | false =>
      exfalso
      have hm : i ∈ Region.ready .any ops listed := by
        simp only [Region.ready, List.mem_filter, List.mem_range, Bool.and_eq_true, Bool.not_eq_true']
        refine ⟨hi, hv, ?_⟩
        rw [Array.getElem?_eq_getElem hi]
        simp only [Option.map_some, Option.getD_some]
        rw [Array.all_eq_true_iff_forall_mem]
        intro e he
        by_cases hb : Region.binds .any e = true
        · have hlt := hst.edge i ops[i] (Array.getElem?_eq_getElem hi) e he hb
          have := ih e.on hlt (by omega)
          have hlt2 : e.on < listed.size := by omega
          rw [Array.getD_eq_getD_getElem?, Array.getElem?_eq_getElem hlt2] at this ⊢
          simp at this ⊢
          exact .inr this
        · simp at hb; simp [hb]
      rw [h] at hm; cases hm

theorem stilEach {P : Program} {ro : Option Nat} {ops : Array Oper} {nt : Nat} (hreg : regOk nt ops = true) {J : List Nat} (hst : Stil ops J) {L : World → Prop} {w0 : Orig L} {K : (Nat → AV) → St → Prop} {Q : Exit → Act → World → Prop}
    (hQ : ∀ G a S act w, Rel w0 G S nt a act w → K a S → Q .normal act w) :
    ∀ (fuel : Nat) (listed : Array Bool), listed.size = ops.size → listed.toList.countP (fun b => !b) = fuel → ∀ (m : Nat) (a : Nat → AV) (S : St) (G : Gh) (act : Act) (w : World), Rel w0 G S nt (hide ops J listed a) act w → (lvOf J listed.toList).countP (fun b => !b) = m →
      (∀ i ∈ J, listed.getD i true = false → ∀ o d, ops[i]? = some o → o.dst = some d → ∀ (S : St) (K' : AV → St → Prop), K' (a d) S → gdK ops a o (OpK P L false a S o K') (K' (.tup []) S)) →
      twAny P L ops m (lvOf J listed.toList) a S K → wpAnyIn (FW ro) 0 P .any ops Q fuel listed act w := by
  intro fuel
  -- when all are listed
  have fin : ∀ (listed : Array Bool), listed.size = ops.size → (∀ i, i < ops.size → listed.getD i true = true) → ∀ (m : Nat) (a : Nat → AV) (S : St) (G : Gh) (act : Act) (w : World), Rel w0 G S nt (hide ops J listed a) act w → twAny P L ops m (lvOf J listed.toList) a S K → Q .normal act w := by
    intro listed hsz hall m a S G act w hR h
    have e1 : hide ops J listed a = a := by
      funext t
      unfold hide
      rw [if_neg]
      intro hh
      obtain ⟨i, hi, h1, _⟩ := hid_spec.1 hh
      rw [hall i (hst.lt i hi).1] at h1; cases h1
    rw [e1] at hR
    have e2 : rdyL ops.toList (lvOf J listed.toList) = [] := by
      unfold rdyL
      rw [List.filter_eq_nil_iff]
      intro i hi
      have hil : i < ops.size := by simpa using hi
      have hv := hall i hil
      unfold rdyOne
      rw [Array.getElem?_toList, Array.getElem?_eq_getElem hil]
      simp only
      rw [lvOf_get true (by simp; omega)]
      have : listed.toList.getD i true = true := by
        rw [List.getD_eq_getElem?_getD, Array.getElem?_toList]
        rw [Array.getD_eq_getD_getElem?] at hv
        exact hv
      rw [List.getD_eq_getElem?_getD, Array.getElem?_toList] at this
      simp [this]
    refine hQ G a S act w hR ?_
    cases m with
    | zero => exact h
    | succ m => unfold twAny at h; rw [e2] at h; exact h
  induction fuel with
  | zero =>
    intro listed hsz hcnt m a S G act w hR hm hJ h
    have hall : ∀ i, i < ops.size → listed.getD i true = true := by
      intro i hi
      have h1 := List.countP_eq_zero.1 hcnt (listed[i]'(by omega)) (by simp)
      rw [Array.getD_eq_getD_getElem?, Array.getElem?_eq_getElem (by omega)]
      simpa using h1
    refine ⟨?_, fin listed hsz hall m a S G act w hR h⟩
    cases hr : Region.ready .any ops listed with
    | nil => rfl
    | cons i l =>
      obtain ⟨o, ho, h1, _⟩ := ready_spec (ops := ops) (listed := listed) (i := i) (by rw [hr]; simp)
      have hlt := (Array.getElem?_eq_some_iff.1 ho).1
      rw [hall i hlt] at h1; cases h1
  | succ fuel ih =>
    intro listed hsz hcnt m a S G act w hR hm hJ h
    refine ⟨fun hr => fin listed hsz (all_listed hst hsz hr) m a S G act w hR h, fun i hi => ?_⟩
    obtain ⟨o, ho, hunl, haft⟩ := ready_spec hi
    have hlt := (Array.getElem?_eq_some_iff.1 ho).1
    have hv : listed.toList[i]? = some false := by
      rw [Array.getElem?_toList, Array.getElem?_eq_getElem (by omega)]
      rw [Array.getD_eq_getD_getElem?, Array.getElem?_eq_getElem (by omega)] at hunl
      simpa using hunl
    have hcnt' : (listed.setIfInBounds i true).toList.countP (fun b => !b) = fuel := by
      rw [Array.toList_setIfInBounds]
      have := countP_set hv
      omega
    have hdt : ∀ t, o.dst = some t → t < nt := regOk_spec hreg o (List.mem_of_getElem? (show ops.toList[i]? = some o by simpa using ho))
    -- where an operation that is ready looks, nothing is hidden
    have hsee : ∀ t ∈ looks ops o, a t = hide ops J listed a t := by
      intro t ht
      unfold hide
      rw [if_neg]
      intro hh
      obtain ⟨k, hk, h1, h2⟩ := hid_spec.1 hh
      obtain ⟨e, he, hb, hon⟩ := hst.look i o ho t ht k hk h2
      have := haft e he hb
      rw [hon] at this
      rw [Array.getD_eq_getD_getElem?] at this h1
      cases hx : listed[k]? with
      | none => rw [hx] at this; simp at this
      | some b => rw [hx] at this h1; simp at this h1; rw [this] at h1; cases h1
    have hdo : ∀ d, o.dst = some d → dstOf ops i = some d := fun d hd => by unfold dstOf; rw [ho]; simpa using hd
    obtain ⟨hS, hT⟩ := hR
    unfold wpOpIn
    rw [ho]
    simp only
    by_cases hiJ : i ∈ J
    · -- one of those that came first
      obtain ⟨_, d, hd⟩ := hst.lt i hiJ
      have hod : o.dst = some d := by unfold dstOf at hd; rw [ho] at hd; simpa using hd
      have hval := hJ i hiJ hunl o d ho hod S (fun e S' => e = a d ∧ S' = S)
      have hnew : updo (hide ops J listed a) o.dst (a d) = hide ops J (listed.setIfInBounds i true) a := by
        funext t
        rw [hod]
        simp only [updo, upd]
        by_cases e : t = d
        · subst e
          rw [if_pos rfl]
          unfold hide
          rw [if_neg]
          intro hh
          obtain ⟨k, hk, h1, h2⟩ := hid_spec.1 hh
          have := hst.nodup k i t h2 hd
          subst this
          rw [Array.getD_eq_getD_getElem?, Array.getElem?_setIfInBounds_self] at h1
          split at h1 <;> simp at h1
        · rw [if_neg e]
          unfold hide
          have : hid ops J listed t = hid ops J (listed.setIfInBounds i true) t := by
            rw [Bool.eq_iff_iff, hid_spec, hid_spec]
            constructor
            · rintro ⟨k, hk, h1, h2⟩
              have hne : i ≠ k := by rintro rfl; rw [hd] at h2; injection h2 with h2; exact e h2.symm
              exact ⟨k, hk, by rw [Array.getD_eq_getD_getElem?, Array.getElem?_setIfInBounds_ne hne, ← Array.getD_eq_getD_getElem?]; exact h1, h2⟩
            · rintro ⟨k, hk, h1, h2⟩
              have hne : i ≠ k := by rintro rfl; rw [hd] at h2; injection h2 with h2; exact e h2.symm
              exact ⟨k, hk, by rw [Array.getD_eq_getD_getElem?, Array.getElem?_setIfInBounds_ne hne, ← Array.getD_eq_getD_getElem?] at h1; exact h1, h2⟩
          rw [this]
      have hlv : lvOf J (listed.setIfInBounds i true).toList = lvOf J listed.toList := by rw [Array.toList_setIfInBounds]; exact lvOf_setJ hiJ
      have hJ' : ∀ k ∈ J, (listed.setIfInBounds i true).getD k true = false → ∀ o d, ops[k]? = some o → o.dst = some d → ∀ (S : St) (K' : AV → St → Prop), K' (a d) S → gdK ops a o (OpK P L false a S o K') (K' (.tup []) S) := fun k hk h1 => hJ k hk (by
        by_cases e : i = k
        · subst e
          rw [Array.getD_eq_getD_getElem?, Array.getElem?_setIfInBounds_self] at h1
          split at h1 <;> simp at h1
        · rw [Array.getD_eq_getD_getElem?, Array.getElem?_setIfInBounds_ne e, ← Array.getD_eq_getD_getElem?] at h1; exact h1)
      have hg := op_congr hsee (hval ⟨rfl, rfl⟩)
      rcases gdK_wanted hT hreg hg with ⟨hw, hg⟩ | ⟨hw, hg⟩
      · rw [if_pos hw]
        refine wpIn_mono1 (OpK_sound (ro := ro) Q hS hT hdt hg) fun act' w' ⟨G', S', e, h1, _, h3, hK1, hK2⟩ => ?_
        subst hK1; subst hK2
        rw [hnew] at h3
        exact ih _ (by simp [hsz]) hcnt' m a S' G' act' w' ⟨h1, h3⟩ (by rw [hlv]; exact hm) hJ' (by rw [hlv]; exact h)
      · rw [if_neg (by simp [hw])]
        have hT' := hT.put hdt (e := .tup []) (v := undef) ⟨#[], rfl, rfl⟩
        rw [hg.1, hnew] at hT'
        exact ⟨fun _ _ => trivial, ih _ (by simp [hsz]) hcnt' m a S G _ w ⟨hS, hT'⟩ (by rw [hlv]; exact hm) hJ' (by rw [hlv]; exact h)⟩
    · -- another one
      have hlvi : (lvOf J listed.toList)[i]? = some false := by
        simp only [lvOf, List.getElem?_mapIdx, hv, Option.map_some, Bool.false_or]
        simpa using hiJ
      have hmem : i ∈ rdyL ops.toList (lvOf J listed.toList) := by
        unfold rdyL
        rw [List.mem_filter]
        refine ⟨by simpa using hlt, ?_⟩
        unfold rdyOne
        rw [Array.getElem?_toList, ho]
        simp only [Bool.and_eq_true, Bool.not_eq_true']
        refine ⟨by rw [List.getD_eq_getElem?_getD, hlvi]; rfl, ?_⟩
        rw [List.all_eq_true]
        intro e he
        by_cases hb : Region.binds .any e = true
        · have h1 := haft e (by simpa using he) hb
          have hlt2 : e.on < listed.size := by
            rcases Nat.lt_or_ge e.on listed.size with hh | hh
            · exact hh
            · rw [Array.getD_eq_getD_getElem?, Array.getElem?_eq_none hh] at h1; simp at h1
          rw [lvOf_get false (by simpa using hlt2)]
          have : listed.toList.getD e.on false = true := by
            rw [List.getD_eq_getElem?_getD, Array.getElem?_toList, ← Array.getD_eq_getD_getElem?]; exact h1
          rw [Array.getD_eq_getD_getElem?] at h1
          simp [h1]
        · simp at hb; simp [hb]
      obtain ⟨m', rfl⟩ : ∃ m', m = m' + 1 := by
        have := countP_set hlvi
        exact ⟨_, by rw [← hm]; exact this⟩
      unfold twAny at h
      cases hr : rdyL ops.toList (lvOf J listed.toList) with
      | nil => rw [hr] at hmem; cases hmem
      | cons i0 is =>
        rw [hr] at h hmem
        have h := allR_mem h i hmem
        rw [Array.getElem?_toList, ho] at h
        simp only at h
        have hlv : lvOf J (listed.setIfInBounds i true).toList = (lvOf J listed.toList).set i true := by rw [Array.toList_setIfInBounds]; exact lvOf_set
        have hm' : (lvOf J (listed.setIfInBounds i true).toList).countP (fun b => !b) = m' := by
          rw [hlv]
          have := countP_set hlvi
          omega
        have hnew : ∀ e, updo (hide ops J listed a) o.dst e = hide ops J (listed.setIfInBounds i true) (updo a o.dst e) := by
          intro e
          have hsame : ∀ t, hid ops J listed t = hid ops J (listed.setIfInBounds i true) t := by
            intro t
            rw [Bool.eq_iff_iff, hid_spec, hid_spec]
            constructor
            · rintro ⟨k, hk, h1, h2⟩
              have hne : i ≠ k := by rintro rfl; exact hiJ hk
              exact ⟨k, hk, by rw [Array.getD_eq_getD_getElem?, Array.getElem?_setIfInBounds_ne hne, ← Array.getD_eq_getD_getElem?]; exact h1, h2⟩
            · rintro ⟨k, hk, h1, h2⟩
              have hne : i ≠ k := by rintro rfl; exact hiJ hk
              exact ⟨k, hk, by rw [Array.getD_eq_getD_getElem?, Array.getElem?_setIfInBounds_ne hne, ← Array.getD_eq_getD_getElem?] at h1; exact h1, h2⟩
          funext t
          cases hod : o.dst with
          | none => simp only [updo, hide, hsame t]
          | some d =>
            simp only [updo, upd, hide, hsame t]
            by_cases et : t = d
            · subst et
              rw [if_pos rfl, if_neg]
              · simp
              · intro hh
                obtain ⟨k, hk, _, h2⟩ := hid_spec.1 hh
                have := hst.nodup k i t h2 (hdo t hod)
                subst this; exact hiJ hk
            · simp [et]
        have hJ' : ∀ e, ∀ k ∈ J, (listed.setIfInBounds i true).getD k true = false → ∀ ok dk, ops[k]? = some ok → ok.dst = some dk → ∀ (S : St) (K' : AV → St → Prop), K' ((updo a o.dst e) dk) S → gdK ops (updo a o.dst e) ok (OpK P L false (updo a o.dst e) S ok K') (K' (.tup []) S) := by
          intro e k hk h1 ok dk hok hdk S K' hK'
          have hne : i ≠ k := by rintro rfl; exact hiJ hk
          rw [Array.getD_eq_getD_getElem?, Array.getElem?_setIfInBounds_ne hne, ← Array.getD_eq_getD_getElem?] at h1
          have hkd : dstOf ops k = some dk := by unfold dstOf; rw [hok]; simpa using hdk
          have same : ∀ t, (∀ d, o.dst = some d → t ≠ d) → a t = (updo a o.dst e) t := by
            intro t ht
            cases hod : o.dst with
            | none => rfl
            | some d => simp only [updo, upd]; rw [if_neg (ht d hod)]
          refine op_congr (fun t ht => same t fun d hd => ?_) (hJ k hk h1 ok dk hok hdk S K' ?_)
          · rintro rfl
            exact hst.own k ok hok hk t ht i hiJ (hdo t hd)
          · rw [same dk fun d hd => ?_]; exact hK'
            rintro rfl
            exact hne (hst.nodup i k dk (hdo dk hd) hkd)
        have hg := op_congr hsee h
        rcases gdK_wanted hT hreg hg with ⟨hw, hg⟩ | ⟨hw, hg⟩
        · rw [if_pos hw]
          refine wpIn_mono1 (OpK_sound (ro := ro) Q hS hT hdt hg) fun act' w' ⟨G', S', e, h1, _, h3, hK⟩ => ?_
          rw [hnew] at h3
          exact ih _ (by simp [hsz]) hcnt' m' _ S' G' act' w' ⟨h1, h3⟩ hm' (hJ' e) (by rw [hlv]; exact hK)
        · rw [if_neg (by simp [hw])]
          have hT' := hT.put hdt (e := .tup []) (v := undef) ⟨#[], rfl, rfl⟩
          rw [hnew] at hT'
          exact ⟨fun _ _ => trivial, ih _ (by simp [hsz]) hcnt' m' _ S G _ w ⟨hS, hT'⟩ hm' (hJ' _) (by rw [hlv]; exact hg)⟩

theorem stil_spec {P : Program} {L : World → Prop} {ops : Array Oper} {J : List Nat} (hst : Stil ops J) {K : (Nat → AV) → Prop} : ∀ (suf : List Nat), (∀ i ∈ suf, i ∈ J) → suf.Pairwise (· < ·) → ∀ a, stil P L ops suf a K →
    ∃ a', K a' ∧ (∀ t, (∀ i ∈ suf, dstOf ops i ≠ some t) → a' t = a t) ∧
      (∀ i ∈ suf, ∀ o d, ops[i]? = some o → o.dst = some d → ∀ (S : St) (K' : AV → St → Prop), K' (a' d) S → gdK ops a' o (OpK P L false a' S o K') (K' (.tup []) S))
  | [], _, _, a, h => ⟨a, h, fun _ _ => rfl, fun _ hi => by cases hi⟩
  | i :: suf, hsub, hpw, a, h => by
    unfold stil at h
    cases ho : ops.toList[i]? with
    | none => rw [ho] at h; exact h.elim
    | some o =>
      rw [ho] at h
      obtain ⟨v, hv, hr⟩ := h
      have ho' : ops[i]? = some o := by simpa using ho
      obtain ⟨hp1, hp2⟩ := List.pairwise_cons.1 hpw
      obtain ⟨a', hK, hag, hva⟩ := stil_spec hst suf (fun k hk => hsub k (by simp [hk])) hp2 _ hr
      have hag' : ∀ t, (∀ k ∈ i :: suf, dstOf ops k ≠ some t) → a' t = a t := fun t ht => by
        rw [hag t fun k hk => ht k (by simp [hk])]
        cases hod : o.dst with
        | none => rfl
        | some d =>
          simp only [updo, upd]
          rw [if_neg]
          rintro rfl
          exact ht i (by simp) (by unfold dstOf; rw [ho']; simpa using hod)
      refine ⟨a', hK, hag', fun k hk ok dk hok hdk S K' hK' => ?_⟩
      rcases List.mem_cons.1 hk with rfl | hk
      · rw [ho'] at hok; injection hok with hok; subst hok
        have hdd : dstOf ops k = some dk := by unfold dstOf; rw [ho']; simpa using hdk
        have e1 : a' dk = v := by
          rw [hag dk fun j hj hd => ?_]
          · simp [updo, upd, hdk]
          · have := hst.nodup k j dk hdd hd
            have := hp1 j hj
            omega
        rw [e1] at hK'
        refine op_congr (fun t ht => (hag' t fun j hj hd => ?_).symm) (hv S K' hK')
        obtain ⟨e, he, hb, hon⟩ := hst.look k o ho' t ht j (hsub j hj) hd
        have hlt := hst.edge k o ho' e he hb
        rcases List.mem_cons.1 hj with rfl | hj
        · omega
        · have := hp1 j hj
          omega
      · exact hva k hk ok dk hok hdk S K' hK'

/-- A region with a drawn order, of which some operations do not look at the store: these first. -/
theorem SemK.regionStil {P : Program} {L : World → Prop} {nt id : Nat} (hm : P.follows .mixedOrders = true) {ops : Array Oper} {a : Nat → AV} {S : St} {Q : Exit → (Nat → AV) → St → Prop} (J : List Nat) (m : Nat) (hreg : regOk nt ops = true) (hchk : stilChk ops J = true) (hinc : J.Pairwise (· < ·)) (hcnt : (lvOf J (List.replicate ops.size false)).countP (fun b => !b) = m)
    (h : stil P L ops J a fun a' => twAny P L ops m (lvOf J (List.replicate ops.size false)) a' S (Q .normal)) : SemK P L nt (.region id ops true) a S Q := by
  refine ⟨fun w0 G act w hR => ?_⟩
  refine wpIn_region_any hm ?_
  obtain ⟨d1, d2⟩ := hR.1.drew
  have hst := stilChk_spec hchk
  obtain ⟨a', hK, hag, hva⟩ := stil_spec hst J (fun _ h => h) hinc a h
  have hT := hR.2.keep d2
  have hT' : RelT w0.fi G S.fr {w with drawn := w.drawn + 1} nt (hide ops J (Array.replicate ops.size false) a') act := by
    refine ⟨hT.1, hT.2.1, hT.2.2.1, fun t => ?_⟩
    have := hT.2.2.2 t
    unfold hide
    split
    · trivial
    · rename_i hh
      rw [hag t fun i hi hd => hh (hid_spec.2 ⟨i, hi, by rw [Array.getD_eq_getD_getElem?, Array.getElem?_replicate, if_pos (hst.lt i hi).1]; rfl, hd⟩)]
      exact this
  refine stilEach hreg hst (K := Q .normal) (fun G a S act w hR hK => ⟨G, a, S, hR, hK⟩) ops.size _ (by simp) (by simp [List.countP_replicate]) m a' S G act _ ⟨d1, hT'⟩ (by simpa using hcnt) (fun i hi _ o d ho hd S K' hK' => hva i hi o d ho hd S K' hK') (by simpa using hK)

/-- a cut with a choice -/
theorem SeqK.cutE {P : Program} {L : World → Prop} {nt : Nat} (hm : P.follows .mixedOrders = true) (ct' : List Nat) {c d : Code} {a : Nat → AV} {S : St} {Q : Exit → (Nat → AV) → St → Prop} {σ : Type} (sl : σ → List (Nat × AV)) (st : σ → St)
    (hc : SemK P L nt c a S (seqQ (fun a' S' => ∃ s, Fits a' S' (sl s) (st s)) Q)) (hd : ∀ s, twC P L nt ct' d (ofL (sl s)) (st s) Q) : SeqK P L nt c d a S Q := by
  refine ⟨⟨fun w0 G act w hR => ?_⟩⟩
  refine wpIn_seq (Go.wpIn_mono (hc.out w0 G act w hR) fun e a' w' ⟨G', a1, S', hR', hq⟩ => ?_)
  cases e with
  | normal =>
    obtain ⟨s, hq⟩ := hq
    exact (twC_sound hm d _ _ _ (hd s)).out w0 _ a' w' (hR'.weak hq)
  | _ => exact ⟨G', a1, S', hR', hq⟩
end HM

/- A cut whose rest is not looked into. -/
namespace HM
open Go Go.RowKit
theorem SeqK.cutM {P : Program} {L : World → Prop} {nt : Nat} {c d : Code} {a : Nat → AV} {S : St} {Q : Exit → (Nat → AV) → St → Prop} (sl : List (Nat × AV)) (st : St)
    (hc : SemK P L nt c a S (seqQ (fun a' S' => Fits a' S' sl st) Q)) (hd : SemK P L nt d (ofL sl) st Q) : SeqK P L nt c d a S Q := by
  refine ⟨⟨fun w0 G act w hR => ?_⟩⟩
  refine wpIn_seq (Go.wpIn_mono (hc.out w0 G act w hR) fun e a' w' ⟨G', a1, S', hR', hq⟩ => ?_)
  cases e with
  | normal => exact hd.out w0 _ a' w' (hR'.weak hq)
  | _ => exact ⟨G', a1, S', hR', hq⟩
end HM
