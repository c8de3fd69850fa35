/- Calls and operations as a whole. -/
import Derived.Test.YtbmgaapcikpnkaaDoorFb
import Derived.CallsIn
import Derived.RangeFuncIn
import Derived.RangeFuncRecord
import Derived.RangeFuncLeaves
import Derived.Lib.Builder
import Derived.Laws.MakeOwn
/- Calls, operations as a whole, regions, code; and the step from a body to a contract. -/
namespace HM
open Go Go.RowKit

-- data out of boxes too

mutual
def fzb (S : St) : AV → Option AV
  | .ptr id off => match S.bx[id]? with
    | some (.cells cs _) => (fzs cs).map fun cs => .cptr (.agg cs) off
    | _ => none
  | .bsl id off n sz => match S.bx[id]? with
    | some (.cells cs _) => if sz = 1 then (if off + n ≤ cs.length then (fzs ((cs.drop off).take n)).bind fun es => if es.all AV.isCell then some (.sl false es) else none else none) else none
    | _ => none
  | .fn f caps => (fzbs S caps).map (.fn f)
  | .agg cs => (fzbs S cs).map .agg
  | .tup cs => (fzbs S cs).map .tup
  | .int k n => some (.int k n)
  | .bool b => some (.bool b)
  | .str s => some (.str s)
  | .nils => some (.sl false [])
  | .nilp => some .nilp
  | .nili => some .nili
  | .nilm => some .nilm
  | .yld _ => none
  | .mp _ => none
  | .sl _ es => some (.sl false es)
  | .own es _ => some (.sl false es)
  | .grown _ _ => none
  | .cptr e off => some (.cptr e off)
  | .undef => none
def fzbs (S : St) : List AV → Option (List AV)
  | [] => some []
  | e :: es => match fzb S e, fzbs S es with
    | some e', some es' => some (e' :: es')
    | _, _ => none
end

theorem Keep.okUp {G : Gh} {w : World} (dn : ∀ b e e', e' ≤ e → G.ok b e → G.ok b e') (ok' : Nat → Nat → Prop) (h : ∀ b e, G.ok b e → ok' b e) : Keep G.pure [] w { G.pure with ok := ok' } [] w :=
  ⟨Nat.le_refl _, fun b e _ hh => h b e hh, dn, fun _ _ _ _ => rfl, fun _ _ hh => hh, fun _ _ arr _ _ hh => ⟨arr, hh, rfl⟩, fun _ _ _ hF => by simp at hF⟩

mutual
theorem fzb_sound {L : World → Prop} {w0 : Orig L} {G : Gh} {S : St} {w : World} (hS : RelS w0 G S w) (ok' : Nat → Nat → Prop) (hup : ∀ b e, G.ok b e → ok' b e) (hnew : ∀ b e, w0.w.heap.size ≤ b → ok' b e) :
    ∀ (e : AV) {e' : AV} {v : Value}, fzb S e = some e' → VR G S.fr w e v → VR { G.pure with ok := ok' } [] w e' v
  | .ptr id off, e', v, h, hv => by
    simp only [fzb] at h
    split at h
    · rename_i cs t hb
      simp only [Option.map_eq_some_iff] at h
      obtain ⟨cs', hc, rfl⟩ := h
      obtain ⟨b, hr, rfl⟩ := hv
      obtain ⟨b', ob, hr', hheap, arr, rfl, hasz, hvs⟩ := hS.bx id _ hb rfl
      rw [hr] at hr'; injection hr' with hr'; subst hr'
      obtain ⟨_, hlt, hbase, _⟩ := hS.rd id b hr
      have h1 := VRs.keep (Keep.okUp hS.dn ok' hup) _ (fzs_sound cs hc hvs)
      refine ⟨b, 0, by simp, hlt, hnew _ _ hbase, .agg (arr.toList.take cs.length).toArray, ⟨_, rfl, h1⟩, ?_, fun j c hj => ?_⟩
      · have := h1.length
        simpa [AV.ncells, AV.cells, Value.cells] using this
      · rw [Nat.zero_add, cell_of_row w b j arr t (0, 0) hheap]
        exact take_get (n := cs.length) (by simpa [Value.cells] using hj)
    · cases h
  | .bsl id off n sz, e', v, h, hv => by
    simp only [fzb] at h
    split at h
    · rename_i cs t hb
      split at h
      · rename_i hsz
        subst hsz
        split at h
        · rename_i hle
          simp only [Option.bind_eq_some_iff] at h
          obtain ⟨es, hes, h⟩ := h
          split at h
          · rename_i hall
            simp at h; subst h
            obtain ⟨b, A, c, arr0, t0, hr, hheap0, rfl, hnc, hcap, hA⟩ := hv
            obtain ⟨b', ob, hr', hheap, arr, rfl, hasz, hvs⟩ := hS.bx id _ hb rfl
            rw [hr] at hr'; injection hr' with hr'; subst hr'
            obtain ⟨_, hlt, hbase, _⟩ := hS.rd id b hr
            have h1 := VRs.keep (Keep.okUp hS.dn ok' hup) _ (fzs_sound _ hes ((hvs.drop off).take n))
            have hlen : es.length = n := by
              have := fzs_length hes
              simp at this; omega
            refine ⟨A, c, by rw [hlen], by rw [hlen]; exact hnc, by simp, fun hne => ?_⟩
            have hn0 : 0 < n := by rw [← hlen]; exact List.length_pos_iff.2 hne
            have hone : ∀ e ∈ es, e.ncells = 1 := by
              intro e he
              have := List.all_eq_true.1 hall e he
              cases e <;> first | rfl | (simp [AV.isCell] at this)
            have hcells : ∀ e ∈ es, e.cells.all AV.isCell = true := by
              intro e he
              have := List.all_eq_true.1 hall e he
              cases e <;> first | rfl | (simp [AV.isCell] at this)
            refine ⟨b, off, 1, hA (by omega), hlt, hone, hnew _ _ hbase, ?_⟩
            have hmv := h1.toMV hcells
            have hflat : ((((arr.toList.take cs.length).drop off).take n).flatMap fun u => u.cells.toList) = ((arr.toList.take cs.length).drop off).take n := by
              have h2 : ∀ u ∈ ((arr.toList.take cs.length).drop off).take n, u.oneCell' = true := by
                intro u hu
                obtain ⟨i, hi⟩ := List.getElem?_of_mem hu
                have hil : i < es.length := by rw [← h1.length]; exact (List.getElem?_eq_some_iff.1 hi).1
                obtain ⟨u', hu2, hr2⟩ := h1.get (List.getElem?_eq_getElem hil)
                rw [hi] at hu2; injection hu2 with hu2; subst hu2
                exact hr2.oneCell (List.all_eq_true.1 hall _ (List.getElem_mem hil))
              generalize ((arr.toList.take cs.length).drop off).take n = l at h2
              induction l with
              | nil => rfl
              | cons x l ih =>
                simp only [List.flatMap_cons]
                rw [ih fun u hu => h2 u (by simp [hu]), cells_of_oneCell (h2 x (by simp))]
                rfl
            rw [hflat] at hmv
            refine hmv.toMC fun j u hj => ?_
            rw [cell_of_row w b (off + j) arr t (0, 0) hheap]
            rw [List.getElem?_take] at hj
            split at hj
            · rw [List.getElem?_drop] at hj
              exact take_get hj
            · cases hj
          · cases h
        · cases h
      · cases h
    · cases h
  | .fn f caps, e', v, h, hv => by
    simp only [fzb, Option.map_eq_some_iff] at h
    obtain ⟨caps', hc, rfl⟩ := h
    obtain ⟨vs, rfl, hs⟩ := hv
    exact ⟨vs, rfl, fzbs_sound hS ok' hup hnew caps hc hs⟩
  | .agg cs, e', v, h, hv => by
    simp only [fzb, Option.map_eq_some_iff] at h
    obtain ⟨cs', hc, rfl⟩ := h
    obtain ⟨vs, rfl, hs⟩ := hv
    exact ⟨vs, rfl, fzbs_sound hS ok' hup hnew cs hc hs⟩
  | .tup cs, e', v, h, hv => by
    simp only [fzb, Option.map_eq_some_iff] at h
    obtain ⟨cs', hc, rfl⟩ := h
    obtain ⟨vs, rfl, hs⟩ := hv
    exact ⟨vs, rfl, fzbs_sound hS ok' hup hnew cs hc hs⟩
  | .int k n, e', v, h, hv => by simp [fzb] at h; subst h; exact hv
  | .bool b, e', v, h, hv => by simp [fzb] at h; subst h; exact hv
  | .str s, e', v, h, hv => by simp [fzb] at h; subst h; exact hv
  | .nils, e', v, h, hv => by
    simp [fzb] at h; subst h
    exact ⟨none, 0, hv, by simp, by simp, by simp⟩
  | .nilp, e', v, h, hv => by simp [fzb] at h; subst h; exact hv
  | .nili, e', v, h, hv => by simp [fzb] at h; subst h; exact hv
  | .nilm, e', v, h, hv => by simp [fzb] at h; subst h; exact hv
  | .yld _, _, _, h, _ => by simp [fzb] at h
  | .mp _, _, _, h, _ => by simp [fzb] at h
  | .sl t es, e', v, h, hv => by
    simp [fzb] at h; subst h
    exact VR.keep (Keep.okUp hS.dn ok' hup) _ (fz_sound (.sl t es) (by simp [fz]) hv)
  | .grown _ _, _, _, h, _ => by simp [fzb] at h
  | .own es ch, e', v, h, hv => by
    simp [fzb] at h; subst h
    exact VR.keep (Keep.okUp hS.dn ok' hup) _ (fz_sound (.own es ch) (by simp [fz]) hv)
  | .cptr e off, e', v, h, hv => by
    simp [fzb] at h; subst h
    exact VR.keep (Keep.okUp hS.dn ok' hup) _ (fz_sound (.cptr e off) (by simp [fz]) hv)
  | .undef, _, _, h, _ => by simp [fzb] at h
theorem fzbs_sound {L : World → Prop} {w0 : Orig L} {G : Gh} {S : St} {w : World} (hS : RelS w0 G S w) (ok' : Nat → Nat → Prop) (hup : ∀ b e, G.ok b e → ok' b e) (hnew : ∀ b e, w0.w.heap.size ≤ b → ok' b e) :
    ∀ (es : List AV) {es' : List AV} {vs : List Value}, fzbs S es = some es' → VRs G S.fr w es vs → VRs { G.pure with ok := ok' } [] w es' vs
  | [], es', vs, h, hv => by simp [fzbs] at h; subst h; exact hv
  | e :: es, es', vs, h, hv => by
    simp only [fzbs] at h
    split at h
    · rename_i e1 es1 h1 h2
      simp at h; subst h
      obtain ⟨u, us, rfl, hu, hus⟩ := hv
      exact ⟨u, us, rfl, fzb_sound hS ok' hup hnew e h1 hu, fzbs_sound hS ok' hup hnew es h2 hus⟩
    · cases h
end

-- values that name no memory

mutual
def AV.scalar : AV → Bool
  | .int _ _ => true
  | .bool _ => true
  | .str _ => true
  | .nilp => true
  | .nili => true
  | .agg cs => scalars cs
  | .tup cs => scalars cs
  | _ => false
def scalars : List AV → Bool
  | [] => true
  | e :: es => e.scalar && scalars es
end

mutual
theorem VR.scalar {G G' : Gh} {fr fr' : Frs} {w w' : World} : ∀ (e : AV) {v : Value}, e.scalar = true → VR G fr w e v → VR G' fr' w' e v
  | .int _ _, _, _, h => h
  | .bool _, _, _, h => h
  | .str _, _, _, h => h
  | .nilp, _, _, h => h
  | .nili, _, _, h => h
  | .nilm, _, hs, _ => by simp [AV.scalar] at hs
  | .yld _, _, hs, _ => by simp [AV.scalar] at hs
  | .mp _, _, hs, _ => by simp [AV.scalar] at hs
  | .agg cs, v, hs, h => by
    obtain ⟨vs, rfl, h⟩ := h
    exact ⟨vs, rfl, VRs.scalar cs hs h⟩
  | .tup cs, v, hs, h => by
    obtain ⟨vs, rfl, h⟩ := h
    exact ⟨vs, rfl, VRs.scalar cs hs h⟩
  | .nils, _, hs, _ => by simp [AV.scalar] at hs
  | .sl _ _, _, hs, _ => by simp [AV.scalar] at hs
  | .own _ _, _, hs, _ => by simp [AV.scalar] at hs
  | .grown _ _, _, hs, _ => by simp [AV.scalar] at hs
  | .bsl _ _ _ _, _, hs, _ => by simp [AV.scalar] at hs
  | .ptr _ _, _, hs, _ => by simp [AV.scalar] at hs
  | .cptr _ _, _, hs, _ => by simp [AV.scalar] at hs
  | .fn _ _, _, hs, _ => by simp [AV.scalar] at hs
  | .undef, _, hs, _ => by simp [AV.scalar] at hs
theorem VRs.scalar {G G' : Gh} {fr fr' : Frs} {w w' : World} : ∀ (es : List AV) {vs : List Value}, scalars es = true → VRs G fr w es vs → VRs G' fr' w' es vs
  | [], _, _, h => h
  | e :: es, vs, hs, h => by
    obtain ⟨u, us, rfl, h1, h2⟩ := h
    simp [scalars] at hs
    exact ⟨u, us, rfl, VR.scalar e hs.1 h1, VRs.scalar es hs.2 h2⟩
end

-- contracts

/-- WHAT A CALL COMES TO: on data, whatever the world: the function hands back data, and nothing that existed has turned. -/
def PCall (P : Program) (L : World → Prop) (f : FuncId) (args : List AV) (r : AV) : Prop :=
  ∀ (w : World) (G : Gh), (∀ w', Below w.heap.size w w' → L w') → G.ρ = (fun _ => none) → (∀ b e e', e' ≤ e → G.ok b e → G.ok b e') → ∀ vals : List Value, VRs G [] w args vals →
    Calls P f vals.toArray w fun e w' => ∃ v, e = .returned v ∧ Below w.heap.size w w' ∧ VR { G with ok := fun b e => b < w.heap.size → G.ok b e } [] w' r v

/-- .. on a store that the call may turn -/
def ICall (P : Program) (L : World → Prop) (f : FuncId) (args : List AV) (S : St) (K : AV → St → Prop) : Prop :=
  ∀ (w0 : Orig L) (G : Gh) (w : World), RelS w0 G S w → ∀ vals : List Value, VRs G S.fr w args vals →
    Calls P f vals.toArray w fun e w' => ∃ v r G' S', e = .returned v ∧ RelS w0 G' S' w' ∧ KeepD G S.fr w G' S'.fr w' ∧ VR G' S'.fr w' r v ∧ K r S'

/-- the fence: everything is let in; the round -/
def FW (ro : Option Nat) : Fence := { Fence.wide with round := ro }

/-- what a call of a value does -/
def CallSem (P : Program) (ro : Option Nat) (fv : Value) (vals : List Value) (w : World) (R : Value → World → Prop) : Prop :=
  ∀ (o : Oper) (act : Act) (f : Operand) (args : Array Operand) (ts : Array TypeId) (next : Act → World → Prop) (Q : Exit → Act → World → Prop), o.op = .call { callee := .value f, args, argTypes := ts } → act.eval f = fv → args.toList.map act.eval = vals →
    (∀ v w', R v w' → next (act.put o.dst v) w') → o.wpIn (FW ro) 0 P act w next Q

def callable (P : Program) (g : FuncId) : Bool := match P.funcs[g]? with
  | some fn => fn.name != "runtime.NumGoroutine" && fn.body.isSome
  | none => false

theorem CallSem.fn {P : Program} {ro : Option Nat} {g : FuncId} {cvs : Array Value} {vals : List Value} {w : World} {R : Value → World → Prop} (hc : callable P g = true)
    (h : Calls P g (vals ++ cvs.toList).toArray w fun e w' => ∃ v, e = .returned v ∧ R v w') : CallSem P ro (.func (.func g) #[] cvs) vals w R := by
  intro o act f args ts next Q ho hf hv hK
  have hcb : ∃ fn, P.funcs[g]? = some fn ∧ fn.name ≠ "runtime.NumGoroutine" ∧ fn.body.isNone = false := by
    unfold callable at hc
    split at hc
    · rename_i fn hfn
      simp at hc
      exact ⟨fn, hfn, hc.1, by cases hh : fn.body <;> simp [hh] at hc ⊢⟩
    · cases hc
  obtain ⟨fn, hfn, hname, hb⟩ := hcb
  have hrun : (execOp act.eval o).run P w = .ok (.enter g (vals ++ cvs.toList).toArray) w := by
    rw [← hv]
    simp only [execOp, ho, Sem.run_bind, resolve, hf, Deferred.ofValue, Sem.run_pure, Result.andThen_ok, invoke, callFunc, run_program]
    simp [hfn, hname, hb]
  refine ⟨fun _ _ => trivial, ?_⟩
  rw [Oper.semAt_eq _ _ _ (fun c hc' => by rw [ho] at hc'; cases hc'), hrun]
  refine ⟨fun hd => by simp [FW, Fence.wide] at hd, ?_⟩
  have h2 : CallsIn Fence.wide (0 - 1) P g (vals ++ cvs.toList).toArray w fun
      | .returned v, w'' => next (act.put o.dst v) w''
      | .panicked chain, w'' => Q (.panic chain) act w''
      | .outgrown, _ => LetsOut Q := callsIn_wide.2 (h.mono fun e w' ⟨v, he, hR⟩ => by subst he; exact hK v w' hR)
  exact h2

/-- A CALL OF A VALUE, on abstract data -/
structure CallK (P : Program) (L : World → Prop) (S : St) (fv : AV) (args : List AV) (K : AV → St → Prop) : Prop where
  out : ∀ (ro : Option Nat) (w0 : Orig L) (G : Gh) (w : World) (fvv : Value) (vals : List Value), RelS w0 G S w → VR G S.fr w fv fvv → VRs G S.fr w args vals →
    CallSem P ro fvv vals w fun v w' => ∃ G' S' e, RelS w0 G' S' w' ∧ KeepD G S.fr w G' S'.fr w' ∧ VR G' S'.fr w' e v ∧ K e S'

theorem CallK.mono {P : Program} {L : World → Prop} {S : St} {fv : AV} {args : List AV} {K K' : AV → St → Prop} (h : CallK P L S fv args K) (hk : ∀ e S', K e S' → K' e S') : CallK P L S fv args K' :=
  ⟨fun ro w0 G w fvv vals hS hf ha o act f args ts next Q ho hfe hv hn => h.out ro w0 G w fvv vals hS hf ha o act f args ts next Q ho hfe hv fun v w' ⟨G', S', e, h1, h2, h3, h4⟩ => hn v w' ⟨G', S', e, h1, h2, h3, hk _ _ h4⟩⟩

/-- .. that leaves the store alone -/
structure CallP (P : Program) (L : World → Prop) (S : St) (fv : AV) (args : List AV) (K : AV → Prop) : Prop where
  out : ∃ g caps fargs r, fv = .fn g caps ∧ (fzs (args ++ caps) = some fargs ∨ (fzbs S (args ++ caps) = some fargs ∧ r.scalar = true)) ∧ PCall P L g fargs r ∧ callable P g = true ∧ K r

theorem CallP.data {P : Program} {L : World → Prop} {S : St} {g : FuncId} {caps args fargs : List AV} {r : AV} {K : AV → Prop} (hc : callable P g = true) (h : PCall P L g fargs r) (hf : fzs (args ++ caps) = some fargs) (hK : K r) : CallP P L S (.fn g caps) args K :=
  ⟨⟨g, caps, fargs, r, rfl, .inl hf, h, hc, hK⟩⟩
theorem CallP.box {P : Program} {L : World → Prop} {S : St} {g : FuncId} {caps args fargs : List AV} {r : AV} {K : AV → Prop} (hc : callable P g = true) (h : PCall P L g fargs r) (hf : fzbs S (args ++ caps) = some fargs) (hs : r.scalar = true) (hK : K r) : CallP P L S (.fn g caps) args K :=
  ⟨⟨g, caps, fargs, r, rfl, .inr ⟨hf, hs⟩, h, hc, hK⟩⟩

theorem Orig.later {L : World → Prop} {w0 : Orig L} {G : Gh} {S : St} {w : World} (hS : RelS w0 G S w) : ∀ w', Below w.heap.size w w' → L w' := fun w' hb => w0.hL w' (hS.below.trans (hb.mono hS.bsz))

theorem RelS.of_below' {L : World → Prop} {w0 : Orig L} {G : Gh} {S : St} {w w' : World} (h : RelS w0 G S w) (hb : Below w.heap.size w w') :
    RelS w0 { G with ok := fun b e => b < w.heap.size → G.ok b e } S w' ∧ KeepD G S.fr w { G with ok := fun b e => b < w.heap.size → G.ok b e } S.fr w' :=
  h.of_below hb (fun b e => b < w.heap.size → G.ok b e) (fun _ _ hlt => ⟨fun hh => hh hlt, fun hh _ => hh⟩) (fun b e e' he hh hlt => h.dn b e e' he (hh hlt))

theorem CallP.toK {P : Program} {L : World → Prop} {S : St} {fv : AV} {args : List AV} {K : AV → Prop} (h : CallP P L S fv args K) : CallK P L S fv args fun e S' => S' = S ∧ K e := by
  obtain ⟨g, caps, fargs, r, rfl, hz, hc, hcb, hK⟩ := h.out
  refine ⟨fun ro w0 G w fvv vals hS ⟨cvs, hfe, hcv⟩ hargs => ?_⟩
  subst hfe
  have hall := hargs.append hcv
  refine CallSem.fn hcb ?_
  rcases hz with hz | ⟨hz, hsc⟩
  · refine (hc w G.pure (Orig.later hS) rfl hS.dn _ (fzs_sound _ hz hall)).mono fun e w' ⟨v, he, hb, hv⟩ => ?_
    subst he
    obtain ⟨h1, h2⟩ := hS.of_below' hb
    exact ⟨v, rfl, _, S, r, h1, h2, VR.unpure_aux.1 r hv, rfl, hK⟩
  · refine (hc w { G.pure with ok := fun _ _ => True } (Orig.later hS) rfl (fun _ _ _ _ _ => trivial) _ (fzbs_sound hS (fun _ _ => True) (fun _ _ _ => trivial) (fun _ _ _ => trivial) _ hz hall)).mono fun e w' ⟨v, he, hb, hv⟩ => ?_
    subst he
    obtain ⟨h1, h2⟩ := hS.of_below' hb
    exact ⟨v, rfl, _, S, r, h1, h2, VR.scalar r hsc hv, rfl, hK⟩

theorem CallK.data {P : Program} {L : World → Prop} {S : St} {g : FuncId} {caps args fargs : List AV} {r : AV} {K : AV → St → Prop} (hc : callable P g = true) (h : PCall P L g fargs r) (hf : fzs (args ++ caps) = some fargs) (hK : K r S) : CallK P L S (.fn g caps) args K :=
  (CallP.toK (CallP.data hc h hf (K := fun e => K e S) hK)).mono fun e S' ⟨h1, h2⟩ => by subst h1; exact h2
theorem CallK.box {P : Program} {L : World → Prop} {S : St} {g : FuncId} {caps args fargs : List AV} {r : AV} {K : AV → St → Prop} (hc : callable P g = true) (h : PCall P L g fargs r) (hf : fzbs S (args ++ caps) = some fargs) (hs : r.scalar = true) (hK : K r S) : CallK P L S (.fn g caps) args K :=
  (CallP.toK (CallP.box hc h hf hs (K := fun e => K e S) hK)).mono fun e S' ⟨h1, h2⟩ => by subst h1; exact h2
theorem CallK.inl {P : Program} {L : World → Prop} {S : St} {g : FuncId} {caps args : List AV} {K : AV → St → Prop} (hc : callable P g = true) (h : ICall P L g (args ++ caps) S K) : CallK P L S (.fn g caps) args K := by
  refine ⟨fun ro w0 G w fvv vals hS ⟨cvs, hfe, hcv⟩ hargs => ?_⟩
  subst hfe
  refine CallSem.fn hc ?_
  exact (h w0 G w hS _ (hargs.append hcv)).mono fun e w' ⟨v, r, G', S', he, h1, h2, h3, h4⟩ => ⟨v, he, G', S', r, h1, h2, h3, h4⟩

end HM

/- Conversions, values of arrays, made slices. -/
namespace HM
open Go Go.RowKit

def convK (P : Program) (S : St) (src dst : TypeId) (x : AV) (K : AV → Prop) : Prop :=
  match x with
  | .int _ n => match (P.underlying src).isSome, P.underlying dst with
    | true, some (.int k) => K (.int k (k.wrap n))
    | _, _ => False
  | .ptr id off => match S.bx[id]? with
    | some (.cells cs ty) => match P.underlying src, P.underlying dst with
      | some (.pointer t), some .unsafePointer => match tsz P t with
        | some (_ + 1) => Nat.blt off cs.length = true ∧ K (.ptr id off)
        | _ => False
      | some .unsafePointer, some (.pointer u) => (P.info? u).isSome = true ∧ liesAt P P.depth ty (cs.length / P.cellsOf ty) off u 1 = true ∧ K (.ptr id off)
      | _, _ => False
    | _ => False
  | _ => False

theorem convK_sound {P : Program} {L : World → Prop} {w0 : Orig L} {G : Gh} {S : St} {w : World} (hS : RelS w0 G S w) {src dst : TypeId} {x : AV} {K : AV → Prop} {u : Value} (hu : VR G S.fr w x u) (h : convK P S src dst x K) :
    ∃ e r, K e ∧ VR G S.fr w e r ∧ (convert src dst u).run P w = .ok r w := by
  unfold convK at h
  split at h
  · rename_i k n
    obtain rfl : u = _ := hu
    split at h
    · rename_i k' hs hd
      have hk : P.intKind dst = k' := by simp [Program.intKind, hd]
      have := run_convert_int (P := P) (w := w) src dst k n hs (by rw [hk]; exact hd)
      rw [hk] at this
      exact ⟨_, _, h, rfl, this⟩
    · exact h.elim
  · rename_i id off
    split at h
    · rename_i cs ty hb
      obtain ⟨b, hr, rfl⟩ := hu
      obtain ⟨b', ob, hr', hheap, arr, rfl, hasz, hv⟩ := hS.bx id _ hb rfl
      rw [hr] at hr'; injection hr' with hr'; subst hr'
      have hsh : w.shape? b = some (ty, arr.size) := by simp [World.shape?, hheap]
      split at h
      · rename_i t hs hd
        split at h
        · rename_i m hsz
          obtain ⟨hlt, hK⟩ := h
          unfold tsz at hsz
          obtain ⟨j, hj, hjs⟩ := Option.map_eq_some_iff.1 hsz
          have hlt' : off < cs.length := by simpa [Nat.blt_eq] using hlt
          exact ⟨_, _, hK, ⟨b, hr, rfl⟩, Lib.run_to_unsafe w ⟨b, off, none⟩ hs hd hj (by omega) hsh (by show off < arr.size; omega)⟩
        · exact h.elim
      · rename_i t hs hd
        obtain ⟨hi, hl, hK⟩ := h
        obtain ⟨j, hj⟩ := Option.isSome_iff_exists.1 hi
        exact ⟨_, _, hK, ⟨b, hr, rfl⟩, Lib.run_from_unsafe w ⟨b, off, none⟩ hs hd hj hsh (by rw [hasz]; exact hl)⟩
      · exact h.elim
    · exact h.elim
  · exact h.elim

def indexK (P : Program) (t : TypeId) (x i : AV) (K : AV → Prop) : Prop :=
  match i, x with
  | .int _ n, .agg cs => match tarr P t with
    | some (len, e) => match tsz P e with
      | some sz => InB n len ∧ ldCells P e cs (n.toNat * sz) K
      | none => False
    | none => False
  | .int _ n, .str s => match P.underlying t with
    | some .string => InB n s.size ∧ K (.int .u8 (s.data.toList.getD n.toNat 0).toNat)
    | _ => False
  | _, _ => False

theorem indexK_sound {P : Program} {G : Gh} {S : St} {w : World} {t : TypeId} {x i : AV} {K : AV → Prop} {u v : Value} (hu : VR G S.fr w x u) (hi : VR G S.fr w i v) (h : indexK P t x i K) :
    ∃ e r, K e ∧ VR G S.fr w e r ∧ (Instr.index t u v).run P w = .ok r w := by
  unfold indexK at h
  split at h
  · rename_i k n cs
    obtain rfl : v = _ := hi
    split at h
    · rename_i len e ha
      have hund : P.underlying t = some (.array len e) := by
        unfold tarr at ha; split at ha
        · rename_i hh; simp at ha; obtain ⟨rfl, rfl⟩ := ha; exact hh
        · cases ha
      split at h
      · rename_i sz hsz
        obtain ⟨⟨h0, h1⟩, h⟩ := h
        obtain ⟨vs, rfl, hvs⟩ := hu
        have hlen := hvs.length
        simp at hlen
        unfold ldCells at h
        split at h
        · rename_i m hag hn
          obtain ⟨hle, hK⟩ := h
          refine ⟨_, .agg ((vs.toList.drop (n.toNat * sz)).take m).toArray, hK, ⟨_, rfl, by simpa using (hvs.drop _).take _⟩, ?_⟩
          simp [Instr.index, asIntOf, run_underlying hund, h0, h1, run_sizeOf hsz, run_part hn w vs (off := n.toNat * sz) (by omega) (v := .agg ((vs.toList.drop (n.toNat * sz)).take m).toArray) (by simp [ofCells, hag])]
        · rename_i hag
          split at h
          · rename_i v hv
            rw [AV.force_eq] at h
            obtain ⟨r, hr, hvr⟩ := hvs.get hv
            have hr' : vs[n.toNat * sz]? = some r := by simpa using hr
            exact ⟨v, r, h, hvr, by simp [Instr.index, asIntOf, run_underlying hund, h0, h1, run_sizeOf hsz, part, run_isAgg hag, hr']⟩
          · exact h.elim
        · exact h.elim
      · exact h.elim
    · exact h.elim
  · rename_i k n s
    obtain rfl : v = _ := hi
    obtain rfl : u = _ := hu
    split at h
    · rename_i hund
      obtain ⟨⟨h0, h1⟩, hK⟩ := h
      have hlt : n.toNat < s.size := by omega
      have hlt2 : n.toNat < s.data.toList.length := by simpa using hlt
      have hget : s[n.toNat]? = some (s.data.toList.getD n.toNat 0) := by
        rw [List.getD_eq_getElem?_getD, List.getElem?_eq_getElem hlt2]
        simp only [Option.getD_some]
        rw [getElem?_pos s n.toNat hlt]
        rfl
      exact ⟨_, _, hK, rfl, by simp [Instr.index, asIntOf, run_underlying hund, h0, hget]⟩
    · exact h.elim
  · exact h.elim

def makeSliceK (P : Program) (S : St) (t : TypeId) (l c : AV) (K : AV → St → Prop) : Prop :=
  match tslice P t, l, c with
  | some e, .int _ n, .int _ m => match (P.info? e).map (fun i => (i.zero.map Value.cells, i.size)) with
    | some (some z, 1) => match z.toList with
      | [z0] => n = m ∧ NonNeg n ∧ n ≤ 1099511627776 ∧ (∃ i, P.info? e = some i ∧ i.bytes ≤ 128) ∧ K (.bsl S.bx.length 0 n.toNat 1) (S.addB (.cells (List.replicate n.toNat (ofC z0)) e))
      | _ => False
    | _ => False
  | _, _, _ => False

theorem VRs.replicate {G : Gh} {fr : Frs} {w : World} {e : AV} {v : Value} (h : VR G fr w e v) : ∀ n, VRs G fr w (List.replicate n e) (List.replicate n v)
  | 0 => rfl
  | n + 1 => by
    simp only [List.replicate_succ]
    exact ⟨_, _, rfl, h, VRs.replicate h n⟩

theorem makeSliceK_sound {P : Program} {L : World → Prop} {w0 : Orig L} {G : Gh} {S : St} {w : World} (hS : RelS w0 G S w) {t : TypeId} {l c : AV} {lv cv : Value} (hl : VR G S.fr w l lv) (hc : VR G S.fr w c cv) {K : AV → St → Prop} (h : makeSliceK P S t l c K) :
    OutK w0 G S w K ((Instr.makeSlice t lv cv).run P w) := by
  unfold makeSliceK at h
  split at h
  · rename_i e k n k' m hsl
    have hund : P.underlying t = some (.slice e) := by
      unfold tslice at hsl; split at hsl
      · rename_i hh; simp at hsl; subst hsl; exact hh
      · cases hsl
    obtain rfl : lv = _ := hl
    obtain rfl : cv = _ := hc
    split at h
    · rename_i z hz
      split at h
      · rename_i z0 hz0
        obtain ⟨rfl, hn0, hn1, ⟨i, hi, hby⟩, hK⟩ := h
        simp only [NonNeg] at hn0
        simp only [hi, Option.map_some, Option.some.injEq, Prod.mk.injEq, Option.map_eq_some_iff] at hz
        obtain ⟨⟨zv, hzv, hzc⟩, hsize⟩ := hz
        have hzz : zv.cells = #[z0] := by rw [hzc]; apply Array.ext'; simpa using hz0
        have hbytes : (i.bytes : Int) * n ≤ 281474976710656 := by
          have h1 : (i.bytes : Int) ≤ 128 := by omega
          have := Int.mul_le_mul h1 hn1 hn0 (by omega)
          omega
        have hr := run_make (P := P) w t e i zv hund hi hzv k k' n n hn0 (Int.le_refl _) hbytes (by omega)
        rw [hr]
        have hcells : (madeCells zv.cells (n.toNat * i.size)).toList = List.replicate n.toNat z0 := by
          rw [hzz, hsize, Nat.mul_one]
          apply List.ext_getElem
          · simp [madeCells]
          · intro j h1 h2
            simp [madeCells, Nat.mod_one]
        obtain ⟨G', h1, h2, h3⟩ := hS.box (.cells (List.replicate n.toNat (ofC z0)) e) (.cells (madeCells zv.cells (n.toNat * i.size)) e) ⟨_, rfl, by
            have := congrArg List.length hcells
            simpa using this, by rw [hcells, List.length_replicate, List.take_of_length_le (by simp)]; exact VRs.replicate (VR_ofC _ _ _ _) _⟩
        refine ⟨_, _, G', _, .bsl S.bx.length 0 n.toNat 1, rfl, h1, h2, ⟨w.heap.size, _, n.toNat, _, e, h3, heap_alloc_new w _, rfl, Nat.le_refl _, ?_, fun _ => rfl⟩, hK⟩
        have := congrArg List.length hcells
        simp at this
        omega
      · exact h.elim
    · exact h.elim
  · exact h.elim

end HM

/- Operations as a whole, regions, code; and the step from a body to a contract. -/
namespace HM
open Go Go.RowKit

def builtinK (P : Program) (S : St) (b : Builtin) (ts : List TypeId) (args : List AV) (K : AV → St → Prop) : Prop :=
  match b, ts, args with
  | .len, [t], [x] => lenK P t x (fun v => K v S)
  | .append, [t, u], [s, .str b] => appendStrK P S t u s b K
  | .append, [t, u], [.nils, .int .i64 n] => growK P S t u n K
  | .cap, [t], [.nils] => (tslice P t).isSome = true ∧ K (.int .i64 0) S
  | .append, [t, t'], [s, x] => t = t' ∧ appendK P S t s x K
  | .min, _, [.int k x, .int k' y] => k = k' ∧ K (.int k (if y < x then y else x)) S
  | .max, _, [.int k x, .int k' y] => k = k' ∧ K (.int k (if y > x then y else x)) S
  | _, _, _ => False

def fieldK (P : Program) (t : TypeId) (x : AV) (f : Nat) (K : AV → Prop) : Prop :=
  match tfield P t f, x with
  | some (o, ft), .agg cs => ldCells P ft cs o K
  | _, _ => False

def isPtr : AV → Bool
  | .ptr _ _ => true
  | .cptr _ _ => true
  | _ => false

def OpK (P : Program) (L : World → Prop) (d : Bool) (a : Nat → AV) (S : St) (o : Oper) (K : AV → St → Prop) : Prop :=
  match o.op with
  | .move x => (evO a x).force fun v => K v S
  | .assign x => (evO a x).force fun v => K v S
  | .pick c x y => match evO a c with
    | .bool b => BrK b ((evO a x).force fun v => K v S) ((evO a y).force fun v => K v S)
    | _ => False
  | .alloc t => opAlloc P S t K
  | .box t x => (evO a x).force fun v => opBox S t v K
  | .build t parts => buildK P t (parts.toList.map fun p => (p.1, evO a p.2)) (fun v => K v S)
  | .buildSlice t n parts => match d with
    | true => buildSliceK P t n (parts.toList.map fun p => (p.1, evO a p.2)) (fun v => K v S)
    | false => buildSliceO P S t n (parts.toList.map fun p => (p.1, evO a p.2)) K
  | .load t x => opLoad P S t (evO a x) K
  | .store t x v => (evO a v).force fun v => opStore P S t (evO a x) v K
  | .binOp op t x y _ => match isNilC y with
    | true => nilCmpK P op t (evO a x) (fun v => K v S)
    | false => binK P op t (evO a x) (evO a y) (fun v => K v S)
  | .unOp op _ x => unK op (evO a x) (fun v => K v S)
  | .nilCheck x => isPtr (evO a x) = true ∧ K (evO a x) S
  | .makeFunc fn first caps => makeFuncK fn (first.toList.map (evO a)) (caps.toList.map (evO a)) (fun v => K v S)
  | .slice t x lo hi none => sliceK P S t (evO a x) (lo.map (evO a)) (hi.map (evO a)) (fun v => K v S)
  | .fieldAddr s x f => fieldAddrK P s (evO a x) f (fun v => K v S)
  | .field t x f => fieldK P t (evO a x) f (fun v => K v S)
  | .indexAddr t x i => indexAddrK P t (evO a x) (evO a i) (fun v => K v S)
  | .extract x i => extractK (evO a x) i (fun v => K v S)
  | .convert src dst x => convK P S src dst (evO a x) (fun v => K v S)
  | .index t x i => indexK P t (evO a x) (evO a i) (fun v => K v S)
  | .makeSlice t l c => makeSliceK P S t (evO a l) (evO a c) K
  | .call { callee := .value f, args, argTypes := _ } => match d with
    | true => CallP P L S (evO a f) (args.toList.map (evO a)) (fun r => K r S)
    | false => CallK P L S (evO a f) (args.toList.map (evO a)) K
  | .call { callee := .builtin b, args, argTypes } => builtinK P S b argTypes.toList (args.toList.map (evO a)) K
  | _ => False

/-- where a walk stands behind an operation -/
def After {L : World → Prop} (w0 : Orig L) (G : Gh) (S : St) (w : World) (nt : Nat) (a : Nat → AV) (d : Option Nat) (K : AV → St → Prop) (act' : Act) (w' : World) : Prop :=
  ∃ G' S' e, RelS w0 G' S' w' ∧ KeepD G S.fr w G' S'.fr w' ∧ RelT w0.fi G' S'.fr w' nt (updo a d e) act' ∧ K e S'

theorem wp_plain {P : Program} {ro : Option Nat} {o : Oper} {act : Act} {w w' : World} {next : Act → World → Prop} {Q : Exit → Act → World → Prop} (hnd : ∀ c, o.op ≠ .defer c) {v : Value} (hr : (execOp act.eval o).run P w = .ok (.value v) w') (h : next (act.put o.dst v) w') :
    o.wpIn (FW ro) 0 P act w next Q := by
  refine ⟨fun _ _ => trivial, ?_⟩
  rw [Oper.semAt_eq _ _ _ hnd, hr]
  exact h

theorem wp_value {P : Program} {ro : Option Nat} {o : Oper} {act : Act} {w : World} {Q : Exit → Act → World → Prop} {L : World → Prop} {w0 : Orig L} {G : Gh} {S : St} {nt : Nat} {a : Nat → AV} {K : AV → St → Prop} (hnd : ∀ c, o.op ≠ .defer c) (hT : RelT w0.fi G S.fr w nt a act) (hd : ∀ t, o.dst = some t → t < nt)
    (s : Sem Value) (he : execOp act.eval o = (do pure (.value (← s)))) (h : OutK w0 G S w K (s.run P w)) : o.wpIn (FW ro) 0 P act w (After w0 G S w nt a o.dst K) Q := by
  obtain ⟨v, w', G', S', e, hr, h1, h2, h3, h4⟩ := h
  exact wp_plain hnd (by rw [he, Sem.run_bind, hr]; rfl) ⟨G', S', e, h1, h2, (hT.keep h2).put hd h3, h4⟩

theorem wp_pureV {P : Program} {ro : Option Nat} {o : Oper} {act : Act} {w : World} {Q : Exit → Act → World → Prop} {L : World → Prop} {w0 : Orig L} {G : Gh} {S : St} {nt : Nat} {a : Nat → AV} {K : AV → St → Prop} (hnd : ∀ c, o.op ≠ .defer c) (hS : RelS w0 G S w) (hT : RelT w0.fi G S.fr w nt a act) (hd : ∀ t, o.dst = some t → t < nt)
    (s : Sem Value) (he : execOp act.eval o = (do pure (.value (← s)))) (h : ∃ e r, K e S ∧ VR G S.fr w e r ∧ s.run P w = .ok r w) : o.wpIn (FW ro) 0 P act w (After w0 G S w nt a o.dst K) Q := by
  obtain ⟨e, r, hK, hv, hr⟩ := h
  exact wp_value hnd hT hd s he (by rw [hr]; exact OutK.same hS hv hK)

theorem RelT.evals {lo : Nat × Option Nat} {G : Gh} {fr : Frs} {w : World} {nt : Nat} {a : Nat → AV} {act : Act} (h : RelT lo G fr w nt a act) : ∀ xs : List Operand, VRs G fr w (xs.map (evO a)) (xs.map act.eval)
  | [] => rfl
  | x :: xs => ⟨_, _, rfl, h.eval x, h.evals xs⟩

theorem CallK_sound {P : Program} {ro : Option Nat} {o : Oper} {act : Act} {w : World} {Q : Exit → Act → World → Prop} {L : World → Prop} {w0 : Orig L} {G : Gh} {S : St} {nt : Nat} {a : Nat → AV} {K : AV → St → Prop} (hS : RelS w0 G S w) (hT : RelT w0.fi G S.fr w nt a act) (hd : ∀ t, o.dst = some t → t < nt)
    (f : Operand) (args : Array Operand) (ts : Array TypeId) (ho : o.op = .call { callee := .value f, args, argTypes := ts }) (h : CallK P L S (evO a f) (args.toList.map (evO a)) K) : o.wpIn (FW ro) 0 P act w (After w0 G S w nt a o.dst K) Q :=
  h.out ro w0 G w (act.eval f) (args.toList.map act.eval) hS (hT.eval f) (hT.evals args.toList) o act f args ts _ Q ho rfl rfl fun _ _ ⟨G', S', e, h1, h2, h3, h4⟩ => ⟨G', S', e, h1, h2, (hT.keep h2).put hd h3, h4⟩

theorem sliceK0_sound {P : Program} {L : World → Prop} {w0 : Orig L} {G : Gh} {S : St} {w : World} (hS : RelS w0 G S w) {t : TypeId} {x : AV} {lo hi : Option AV} {lov hiv : Option Value} {K : AV → Prop} {u : Value} (hu : VR G S.fr w x u)
    (hlo : ∀ l, lo = some l → ∃ v, lov = some v ∧ VR G S.fr w l v) (hlo0 : lo = none → lov = none) (hhi : ∀ l, hi = some l → ∃ v, hiv = some v ∧ VR G S.fr w l v) (hhi0 : hi = none → hiv = none) (h : sliceK0 P S t x lo hi K) :
    ∃ e r, K e ∧ VR G S.fr w e r ∧ (Instr.sliceAt t u lov hiv none).run P w = .ok r w := by
  unfold sliceK0 at h
  split at h
  · rename_i x1 n e ha
    have hund : P.underlying t = some (.array n e) := by
      unfold tarr at ha; split at ha
      · rename_i hh; simp at ha; obtain ⟨rfl, rfl⟩ := ha; exact hh
      · cases ha
    split at h
    · rename_i sz id off hsz
      rw [hlo0 rfl, hhi0 rfl]
      split at h
      · rename_i cs ty hb
        obtain ⟨hle, hK⟩ := h
        obtain ⟨b, hr, rfl⟩ := hu
        obtain ⟨b', ob, hr', hheap, arr, rfl, hasz, hv⟩ := hS.bx id _ hb rfl
        rw [hr] at hr'; injection hr' with hr'; subst hr'
        have hl := hv.length
        refine ⟨_, .slice (some ⟨b, off, none⟩) n n, hK, ⟨b, _, n, arr, ty, hr, hheap, rfl, Nat.le_refl _, by simp at hl; omega, fun _ => rfl⟩, ?_⟩
        simp [Instr.sliceAt, run_underlying hund, Instr.sureAddr, Instr.sliceBounds, run_sizeOf hsz, Addr.add_zero']
      · exact h.elim
    · exact h.elim
  · rename_i e ha hs
    have hund : P.underlying t = some (.slice e) := by
      unfold tslice at hs; split at hs
      · rename_i hh; simp at hs; subst hs; exact hh
      · cases hs
    split at h
    · rename_i k es hsz hes
      obtain ⟨A, c, rfl, hc, hA⟩ := hu.elems hes
      obtain ⟨hE, h⟩ := h
      have key : ∀ l h : Nat, l ≤ h → h ≤ es.length → VR G S.fr w (.sl false ((es.take h).drop l)) (.slice (if c = l then A else A.map (·.add (l * (k + 1)))) (h - l) (c - l)) :=
        fun l h hl hh => slice_data hS.dn hA hc l h (k + 1) hl hh fun y hy => (hE y hy).1
      split at h
      · rw [hlo0 rfl, hhi0 rfl]
        exact ⟨_, _, h, key 0 es.length (Nat.zero_le _) (Nat.le_refl _), by simp [Instr.sliceAt, run_underlying hund, Instr.slice, Instr.sliceBounds, run_sizeOf hsz]⟩
      · rename_i kk l
        obtain ⟨⟨h1, h2⟩, hK⟩ := h
        obtain ⟨v, rfl, hv⟩ := hlo _ rfl
        obtain rfl : v = _ := hv
        rw [hhi0 rfl]
        exact ⟨_, _, hK, key l.toNat es.length (by omega) (Nat.le_refl _), by simp [Instr.sliceAt, run_underlying hund, Instr.slice, Instr.sliceBounds, Instr.sliceBound, asIntOf, h1, h2, run_sizeOf hsz]⟩
      · rename_i kk l
        obtain ⟨⟨h1, h2⟩, hK⟩ := h
        obtain ⟨v, rfl, hv⟩ := hhi _ rfl
        obtain rfl : v = _ := hv
        rw [hlo0 rfl]
        have h3 : l ≤ (c : Int) := by omega
        exact ⟨_, _, hK, key 0 l.toNat (Nat.zero_le _) (by omega), by simp [Instr.sliceAt, run_underlying hund, Instr.slice, Instr.sliceBounds, Instr.sliceBound, asIntOf, h1, h3, run_sizeOf hsz]⟩
      · rename_i kk l kk' l'
        obtain ⟨⟨h1, h2⟩, ⟨h3, h4⟩, hK⟩ := h
        obtain ⟨v, rfl, hv⟩ := hhi _ rfl
        obtain rfl : v = _ := hv
        obtain ⟨v, rfl, hv⟩ := hlo _ rfl
        obtain rfl : v = _ := hv
        have h5 : l' ≤ (c : Int) := by omega
        have h6 : l ≤ l' := by omega
        exact ⟨_, _, hK, key l.toNat l'.toNat (by omega) (by omega), by simp [Instr.sliceAt, run_underlying hund, Instr.slice, Instr.sliceBounds, Instr.sliceBound, asIntOf, h1, h5, h3, h6, run_sizeOf hsz, Int.toNat_of_nonneg h1]⟩
      · exact h.elim
    · exact h.elim
  · exact h.elim

theorem sliceK_sound {P : Program} {L : World → Prop} {w0 : Orig L} {G : Gh} {S : St} {w : World} (hS : RelS w0 G S w) {t : TypeId} {x : AV} {lo hi : Option AV} {lov hiv : Option Value} {K : AV → Prop} {u : Value} (hu : VR G S.fr w x u)
    (hlo : ∀ l, lo = some l → ∃ v, lov = some v ∧ VR G S.fr w l v) (hlo0 : lo = none → lov = none) (hhi : ∀ l, hi = some l → ∃ v, hiv = some v ∧ VR G S.fr w l v) (hhi0 : hi = none → hiv = none) (h : sliceK P S t x lo hi K) :
    ∃ e r, K e ∧ VR G S.fr w e r ∧ (Instr.sliceAt t u lov hiv none).run P w = .ok r w := by
  unfold sliceK at h
  split at h
  · rename_i e hg
    obtain ⟨hs, hK⟩ := h
    obtain ⟨n, hs⟩ := Option.isSome_iff_exists.1 hs
    obtain ⟨el, hsl, hsz⟩ := Option.bind_eq_some_iff.1 hs
    have hund : P.underlying t = some (.slice el) := by
      unfold tslice at hsl; split at hsl
      · rename_i hh; simp at hsl; subst hsl; exact hh
      · cases hsl
    unfold sliceG at hg
    split at hg
    · rename_i e1 m kk
      simp at hg; subst hg
      obtain ⟨A, c, rfl, hc, h3⟩ := hu
      obtain ⟨v, rfl, hv⟩ := hhi _ rfl
      obtain rfl : v = _ := hv
      rw [hlo0 rfl]
      refine ⟨_, _, hK, h3, ?_⟩
      by_cases h0 : c = 0
      · subst h0
        simp [Instr.sliceAt, run_underlying hund, Instr.slice, Instr.sliceBounds, Instr.sliceBound, asIntOf, run_sizeOf hsz]
      · simp [Instr.sliceAt, run_underlying hund, Instr.slice, Instr.sliceBounds, Instr.sliceBound, asIntOf, run_sizeOf hsz, h0, Addr.add_zero']
    · rename_i kk
      simp at hg; subst hg
      obtain rfl : u = _ := hu
      obtain ⟨v, rfl, hv⟩ := hhi _ rfl
      obtain rfl : v = _ := hv
      rw [hlo0 rfl]
      exact ⟨_, _, hK, rfl, by simp [Instr.sliceAt, run_underlying hund, Instr.slice, Instr.sliceBounds, Instr.sliceBound, asIntOf, run_sizeOf hsz]⟩
    · cases hg
  · exact sliceK0_sound hS hu hlo hlo0 hhi hhi0 h

end HM

/- Operations, regions, code; and the step from a body to a contract. -/
namespace HM
open Go Go.RowKit

theorem fieldK_sound {P : Program} {G : Gh} {S : St} {w : World} {t : TypeId} {x : AV} {f : Nat} {K : AV → Prop} {u : Value} (hu : VR G S.fr w x u) (h : fieldK P t x f K) :
    ∃ e r, K e ∧ VR G S.fr w e r ∧ (Instr.field t u f).run P w = .ok r w := by
  unfold fieldK at h
  split at h
  · rename_i o ft cs hf
    unfold tfield at hf
    split at hf
    · rename_i fs hund
      simp only [Option.map_eq_some_iff] at hf
      obtain ⟨fd, hfd, he⟩ := hf
      simp at he
      obtain ⟨rfl, rfl⟩ := he
      obtain ⟨vs, rfl, hvs⟩ := hu
      have hlen := hvs.length
      simp at hlen
      unfold ldCells at h
      split at h
      · rename_i n ha hn
        obtain ⟨hle, hK⟩ := h
        refine ⟨_, .agg ((vs.toList.drop fd.offset).take n).toArray, hK, ⟨_, rfl, by simpa using (hvs.drop _).take _⟩, ?_⟩
        simp [Instr.field, run_underlying hund, hfd, asAgg, run_part hn w vs (off := fd.offset) (by omega) (v := .agg ((vs.toList.drop fd.offset).take n).toArray) (by simp [ofCells, ha])]
      · rename_i ha
        split at h
        · rename_i v hv
          rw [AV.force_eq] at h
          obtain ⟨r, hr, hvr⟩ := hvs.get hv
          have hr' : vs[fd.offset]? = some r := by simpa using hr
          exact ⟨v, r, h, hvr, by simp [Instr.field, run_underlying hund, hfd, asAgg, part, run_isAgg ha, hr']⟩
        · exact h.elim
      · exact h.elim
    · cases hf
  · exact h.elim

theorem evals_parts {lo : Nat × Option Nat} {G : Gh} {fr : Frs} {w : World} {nt : Nat} {a : Nat → AV} {act : Act} (h : RelT lo G fr w nt a act) (parts : Array (Nat × Operand)) :
    ((parts.map fun p => (p.1, act.eval p.2)).toList.map (·.1) = (parts.toList.map fun p => (p.1, evO a p.2)).map (·.1)) ∧
    VRs G fr w ((parts.toList.map fun p => (p.1, evO a p.2)).map (·.2)) ((parts.map fun p => (p.1, act.eval p.2)).toList.map (·.2)) := by
  refine ⟨by simp, ?_⟩
  have := h.evals (parts.toList.map (·.2))
  simp only [List.map_map, Array.toList_map] at this ⊢
  exact this

theorem OpK_sound {P : Program} {ro : Option Nat} {d : Bool} {o : Oper} {act : Act} {w : World} (Q : Exit → Act → World → Prop) {L : World → Prop} {w0 : Orig L} {G : Gh} {S : St} {nt : Nat} {a : Nat → AV} {K : AV → St → Prop} (hS : RelS w0 G S w) (hT : RelT w0.fi G S.fr w nt a act) (hd : ∀ t, o.dst = some t → t < nt)
    (h : OpK P L d a S o K) : o.wpIn (FW ro) 0 P act w (After w0 G S w nt a o.dst K) Q := by
  obtain ⟨dst, op, type, pos, after, guard⟩ := o
  cases op <;> simp only [OpK] at h
  case move x => rw [AV.force_eq] at h; exact wp_pureV (by simp) hS hT hd (pure (act.eval x)) (by simp [execOp]) ⟨_, _, h, hT.eval x, rfl⟩
  case assign x => rw [AV.force_eq] at h; exact wp_pureV (by simp) hS hT hd (pure (act.eval x)) (by simp [execOp]) ⟨_, _, h, hT.eval x, rfl⟩
  case pick c x y =>
    split at h
    · rename_i b hb
      have hc := hT.eval c
      rw [hb] at hc
      obtain hc : act.eval c = _ := hc
      cases b
      · rw [BrK_false, AV.force_eq] at h
        exact wp_pureV (by simp) hS hT hd (pure (act.eval y)) (by simp [execOp, hc, asBool]) ⟨_, _, h, hT.eval y, rfl⟩
      · rw [BrK_true, AV.force_eq] at h
        exact wp_pureV (by simp) hS hT hd (pure (act.eval x)) (by simp [execOp, hc, asBool]) ⟨_, _, h, hT.eval x, rfl⟩
    · exact h.elim
  case alloc t => exact wp_value (by simp) hT hd (Instr.alloc t true (.tuple #[])) rfl (opAlloc_sound hS h)
  case box t x => rw [AV.force_eq] at h; exact wp_value (by simp) hT hd (Instr.box t (act.eval x)) rfl (opBox_sound hS (hT.eval x) h)
  case build t parts =>
    obtain ⟨h1, h2⟩ := evals_parts hT parts
    exact wp_pureV (by simp) hS hT hd (Instr.build t (parts.map fun p => (p.1, act.eval p.2))) (by simp only [execOp]) (buildK_sound _ h1 h2 h)
  case buildSlice t n parts =>
    obtain ⟨h1, h2⟩ := evals_parts hT parts
    split at h
    case h_2 => exact wp_value (by simp) hT hd (Instr.buildSlice t n (parts.map fun p => (p.1, act.eval p.2))) (by simp only [execOp]) (buildSliceO_sound hS _ h1 h2 h)
    refine wp_value (by simp) hT hd (Instr.buildSlice t n (parts.map fun p => (p.1, act.eval p.2))) (by simp only [execOp]) ?_
    obtain ⟨v, w', G', S', e, hr, k1, k2, k3, rfl, k4⟩ := buildSliceK_sound hS _ h1 h2 h
    exact ⟨v, w', G', _, e, hr, k1, k2, k3, k4⟩
  case load t x => exact wp_value (by simp) hT hd (Instr.loadAt t (act.eval x)) rfl (opLoad_sound hS (hT.eval x) h)
  case store t x v =>
    rw [AV.force_eq] at h
    obtain ⟨w', G', S', hr, h1, h2, h3⟩ := opStore_sound (P := P) hS (hT.eval x) (hT.eval v) h
    refine ⟨fun _ _ => trivial, ?_⟩
    rw [Oper.semAt_eq _ _ _ (by simp)]
    simp only [execOp, Sem.run_bind, hr, Result.andThen_ok, Sem.run_pure]
    exact ⟨G', S', .undef, h1, h2, (hT.keep h2).put hd trivial, h3⟩
  case nilCheck x =>
    obtain ⟨hp, hK⟩ := h
    have hx := hT.eval x
    refine wp_pureV (by simp) hS hT hd (pure (act.eval x)) ?_ ⟨_, _, hK, hx, rfl⟩
    generalize evO a x = e at hp hx
    cases e <;> simp [isPtr] at hp
    · obtain ⟨b, _, hv⟩ := hx
      simp [execOp, hv]
    · obtain ⟨b, o, hv, _⟩ := hx
      simp [execOp, hv]
  case binOp op t x y yt =>
    split at h
    · rename_i hn
      have hy : act.eval y = .slice none 0 0 := by
        unfold isNilC at hn
        split at hn
        · rfl
        · cases hn
      obtain ⟨e, r, hK, hv, hr⟩ := nilCmpK_sound (P := P) (hT.eval x) x y h
      exact wp_pureV (by simp) hS hT hd (do eqGuard op t x y (act.eval x) (act.eval y); binOp op t (act.eval x) (act.eval y)) rfl ⟨e, r, hK, hv _ _, by rw [hy]; exact hr⟩
    obtain ⟨e, r, hK, hv, hr⟩ := binK_sound (P := P) G S.fr w (hT.eval x) (hT.eval y) x y h
    exact wp_pureV (by simp) hS hT hd (do eqGuard op t x y (act.eval x) (act.eval y); binOp op t (act.eval x) (act.eval y)) rfl ⟨e, r, hK, hv _ _, hr⟩
  case unOp op t x =>
    obtain ⟨e, r, hK, hv, hr⟩ := unK_sound (P := P) (hT.eval x) h
    exact wp_pureV (by simp) hS hT hd (Op.unary op (act.eval x)) rfl ⟨e, r, hK, hv _ _, hr⟩
  case makeFunc fn first caps =>
    refine wp_pureV (by simp) hS hT hd (Instr.makeFunc fn (first.map act.eval) (caps.map act.eval)) rfl ?_
    unfold makeFuncK at h
    split at h
    · rename_i f hfirst
      have hf0 : first = #[] := by
        apply Array.ext'
        simpa using hfirst
      subst hf0
      exact ⟨_, .func (.func f) #[] (caps.map act.eval), h, ⟨_, rfl, by simpa using hT.evals caps.toList⟩, by simp [Instr.makeFunc]⟩
    · exact h.elim
  case slice t x lo hi mx =>
    cases mx with
    | some m => exact h.elim
    | none =>
      simp only at h
      exact wp_pureV (by simp) hS hT hd (Instr.sliceAt t (act.eval x) (lo.map act.eval) (hi.map act.eval) none) rfl
        (sliceK_sound hS (hT.eval x) (fun l hl => by cases lo <;> simp at hl; subst hl; exact ⟨_, rfl, hT.eval _⟩) (fun hl => by cases lo <;> simp at hl ⊢) (fun l hl => by cases hi <;> simp at hl; subst hl; exact ⟨_, rfl, hT.eval _⟩) (fun hl => by cases hi <;> simp at hl ⊢) h)
  case fieldAddr s x f => exact wp_pureV (by simp) hS hT hd (Instr.fieldAt s (act.eval x) f) rfl (fieldAddrK_sound (hT.eval x) h)
  case field t x f => exact wp_pureV (by simp) hS hT hd (Instr.field t (act.eval x) f) rfl (fieldK_sound (hT.eval x) h)
  case indexAddr t x i => exact wp_pureV (by simp) hS hT hd (Instr.indexAt t (act.eval x) (act.eval i)) rfl (indexAddrK_sound hS.dn (hT.eval x) (hT.eval i) h)
  case convert src dst x => exact wp_pureV (by simp) hS hT hd (convert src dst (act.eval x)) rfl (convK_sound hS (hT.eval x) h)
  case index t x i => exact wp_pureV (by simp) hS hT hd (Instr.index t (act.eval x) (act.eval i)) rfl (indexK_sound (S := S) (hT.eval x) (hT.eval i) h)
  case makeSlice t l c => exact wp_value (by simp) hT hd (Instr.makeSlice t (act.eval l) (act.eval c)) rfl (makeSliceK_sound hS (hT.eval l) (hT.eval c) h)
  case extract x i => exact wp_pureV (by simp) hS hT hd (Instr.extract (act.eval x) i) rfl (extractK_sound (hT.eval x) h)
  case call c =>
    obtain ⟨callee, args, argTypes⟩ := c
    cases callee with
    | value f =>
      cases d with
      | true =>
        simp only at h
        refine CallK_sound hS hT hd f args argTypes rfl ((CallP.toK h).mono fun e S' hh => ?_)
        obtain ⟨h1, h2⟩ := hh
        subst h1
        exact h2
      | false => exact CallK_sound hS hT hd f args argTypes rfl h
    | invoke r m => exact h.elim
    | builtin b =>
      simp only at h
      have hev := hT.evals args.toList
      have hexec : execOp act.eval { dst := dst, op := .call { callee := .builtin b, args, argTypes }, type := type, pos := pos, after := after, guard := guard } =
          (do let d ← resolve act.eval { callee := .builtin b, args, argTypes } type; invoke d.target d.args) := rfl
      unfold builtinK at h
      split at h
      · rename_i t x hts hargs
        have ht : argTypes = #[t] := by apply Array.ext'; simpa using hts
        obtain ⟨x', rfl⟩ : ∃ x', args = #[x'] := by
          have hl : args.toList.length = 1 := by simpa using congrArg List.length hargs
          obtain ⟨y, hy⟩ := List.length_eq_one_iff.1 hl
          exact ⟨y, by apply Array.ext'; simpa using hy⟩
        subst ht
        simp at hargs
        subst hargs
        exact wp_pureV (by simp) hS hT hd (Builtin.len_ #[t] type #[act.eval x']) (by rw [hexec]; simp [resolve, invoke, builtin]) (lenK_sound (hT.eval x') h)
      · rename_i t u s b hts hargs
        have ht : argTypes = #[t, u] := by apply Array.ext'; simpa using hts
        obtain ⟨s', x', rfl⟩ : ∃ s' x', args = #[s', x'] := by
          have hl : args.toList.length = 2 := by simpa using congrArg List.length hargs
          match hh : args.toList, hl with
          | [y, z], _ => exact ⟨y, z, by apply Array.ext'; simpa using hh⟩
        subst ht
        simp at hargs
        obtain ⟨rfl, hb⟩ := hargs
        have hx := hT.eval x'
        rw [hb] at hx
        obtain hx : act.eval x' = _ := hx
        exact wp_value (by simp) hT hd (Builtin.append_ #[t, u] type #[act.eval s', act.eval x']) (by rw [hexec]; simp [resolve, invoke, builtin]) (by rw [hx]; exact appendStrK_sound hS (hT.eval s') h)
      · rename_i t u n hts hargs
        have ht : argTypes = #[t, u] := by apply Array.ext'; simpa using hts
        obtain ⟨s', x', rfl⟩ : ∃ s' x', args = #[s', x'] := by
          have hl : args.toList.length = 2 := by simpa using congrArg List.length hargs
          match hh : args.toList, hl with
          | [y, z], _ => exact ⟨y, z, by apply Array.ext'; simpa using hh⟩
        subst ht
        simp at hargs
        obtain ⟨ha, hb⟩ := hargs
        have hx := hT.eval x'
        rw [hb] at hx
        obtain hx : act.eval x' = _ := hx
        have hy := hT.eval s'
        rw [ha] at hy
        obtain hy : act.eval s' = _ := hy
        exact wp_value (by simp) hT hd (Builtin.append_ #[t, u] type #[act.eval s', act.eval x']) (by rw [hexec]; simp [resolve, invoke, builtin]) (by rw [hx, hy]; exact growK_sound hS h)
      · rename_i t hts hargs
        obtain ⟨hs, hK⟩ := h
        have ht : argTypes = #[t] := by apply Array.ext'; simpa using hts
        obtain ⟨s', rfl⟩ : ∃ s', args = #[s'] := by
          have hl : args.toList.length = 1 := by simpa using congrArg List.length hargs
          match hh : args.toList, hl with
          | [y], _ => exact ⟨y, by apply Array.ext'; simpa using hh⟩
        subst ht
        simp at hargs
        have hy := hT.eval s'
        rw [hargs] at hy
        obtain hy : act.eval s' = _ := hy
        obtain ⟨e, hsl⟩ := Option.isSome_iff_exists.1 hs
        have hund : P.underlying t = some (.slice e) := by
          unfold tslice at hsl; split at hsl
          · rename_i hh; simp at hsl; subst hsl; exact hh
          · cases hsl
        exact wp_value (by simp) hT hd (Builtin.cap_ #[t] type #[act.eval s']) (by rw [hexec]; simp [resolve, invoke, builtin]) (by
          rw [hy]
          have hr : (Builtin.cap_ #[t] type #[.slice none 0 0]).run P w = .ok (.int .i64 0) w := by simp [Builtin.cap_, run_underlying hund, goInt]
          rw [hr]
          exact OutK.same hS (e := .int .i64 0) rfl hK)
      · rename_i t t' s x hne hne2 hts hargs
        obtain ⟨rfl, h⟩ := h
        have ht : argTypes = #[t, t] := by apply Array.ext'; simpa using hts
        obtain ⟨s', x', rfl⟩ : ∃ s' x', args = #[s', x'] := by
          have hl : args.toList.length = 2 := by simpa using congrArg List.length hargs
          match hh : args.toList, hl with
          | [y, z], _ => exact ⟨y, z, by apply Array.ext'; simpa using hh⟩
        subst ht
        simp at hargs
        obtain ⟨rfl, rfl⟩ := hargs
        exact wp_value (by simp) hT hd (Builtin.append_ #[t, t] type #[act.eval s', act.eval x']) (by rw [hexec]; simp [resolve, invoke, builtin]) (appendK_sound hS (hT.eval s') (hT.eval x') h)
      · rename_i k x k' y hargs
        obtain ⟨rfl, hK⟩ := h
        obtain ⟨s', x', rfl⟩ : ∃ s' x', args = #[s', x'] := by
          have hl : args.toList.length = 2 := by simpa using congrArg List.length hargs
          match hh : args.toList, hl with
          | [y, z], _ => exact ⟨y, z, by apply Array.ext'; simpa using hh⟩
        simp at hargs
        have e1 := hT.eval s'; rw [hargs.1] at e1
        have e2 := hT.eval x'; rw [hargs.2] at e2
        obtain e1 : act.eval s' = _ := e1
        obtain e2 : act.eval x' = _ := e2
        exact wp_pureV (by simp) hS hT hd (Builtin.min_ argTypes type #[act.eval s', act.eval x']) (by rw [hexec]; simp [resolve, invoke, builtin]) ⟨_, _, hK, rfl, by rw [e1, e2]; exact run_min_int2 w argTypes type k k x y⟩
      · rename_i k x k' y hargs
        obtain ⟨rfl, hK⟩ := h
        obtain ⟨s', x', rfl⟩ : ∃ s' x', args = #[s', x'] := by
          have hl : args.toList.length = 2 := by simpa using congrArg List.length hargs
          match hh : args.toList, hl with
          | [y, z], _ => exact ⟨y, z, by apply Array.ext'; simpa using hh⟩
        simp at hargs
        have e1 := hT.eval s'; rw [hargs.1] at e1
        have e2 := hT.eval x'; rw [hargs.2] at e2
        obtain e1 : act.eval s' = _ := e1
        obtain e2 : act.eval x' = _ := e2
        exact wp_pureV (by simp) hS hT hd (Builtin.max_ argTypes type #[act.eval s', act.eval x']) (by rw [hexec]; simp [resolve, invoke, builtin]) ⟨_, _, hK, rfl, by rw [e1, e2]; exact run_max_int2 w argTypes type k k x y⟩
      · exact h.elim

end HM
