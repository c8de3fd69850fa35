/- Calls and operations as a whole. -/
import Derived.Test.YtckcedndijobaaaGreatDoorFb
import Derived.CallsIn
import Derived.RangeFuncIn
import Derived.RangeFuncRecord
import Derived.RangeFuncLeaves
import Derived.Lib.Builder
import Derived.Laws.MakeOwn
import Derived.ChangeKeysEq
import Derived.WideMake
import Derived.Lib.AppendZerosOnto
import Derived.Maps.RangeRun
namespace HM
open Go Go.RowKit
def chunkA (sz:Nat):Nat→List AV→List AV
 | 0,_=>[]
 | n+1,l=>.agg (l.take sz) :: chunkA sz n (l.drop sz)
mutual
def fzb (S:St):AV→Option AV
 | .ptr id off=>match S.bx[id]? with
  | some (.cells cs _)=>(fzs cs).map fun cs=>.cptr (.agg cs) off
  | _=>none
 | .bsl id off n sz=>match S.bx[id]? with
  | some (.cells cs _)=>if sz=1 then(if off+n≤cs.length then(fzs ((cs.drop off).take n)).bind fun es=>if es.all AV.isCell then some (.sl false es) else none else none) else none
  | _=>none
 | .vsl id off n sz=>match S.bx[id]? with
  | some (.cells cs _)=>if off+n*sz≤cs.length∧1≤sz then(fzs ((cs.drop off).take (n*sz))).bind fun es=>if es.all AV.isCell then(if sz=1 then some (.sl false es) else some (.sl false (chunkA sz n es))) else none else none
  | _=>none
 | .fn f caps=>(fzbs S caps).map (.fn f)
 | .agg cs=>(fzbs S cs).map .agg
 | .tup cs=>(fzbs S cs).map .tup
 | .int k n=>some (.int k n)
 | .bool b=>some (.bool b)
 | .str s=>some (.str s)
 | .nils=>some (.sl false [])
 | .nilp=>some .nilp
 | .nili=>some .nili
 | .nilm=>some .nilm
 | .yld _=>none
 | .bfn _ _ _=>none
 | .mp id=>match S.bx[id]? with
  | some (.map sh ks vs)=>(fzs vs).map fun vs=>.cmp sh ks vs
  | _=>none
 | .cmp sh ks vs=>some (.cmp sh ks vs)
 | .sl _ es=>some (.sl false es)
 | .own es _=>some (.sl false es)
 | .grown _ _=>none
 | .cptr e off=>some (.cptr e off)
 | .undef=>none
def fzbs (S:St):List AV→Option (List AV)
 | []=>some []
 | e :: es=>match fzb S e,fzbs S es with
  | some e',some es'=>some (e' :: es')
  | _,_=>none
end
theorem chunkA_length (sz:Nat):∀(n:Nat) (l:List AV),(chunkA sz n l).length=n
 | 0,_=>rfl
 | n+1,l=>by simp[chunkA,chunkA_length sz n]
theorem chunkA_cells (sz:Nat):∀(n:Nat) (l:List AV),l.length=n*sz→∀e∈chunkA sz n l,e.ncells=sz
 | 0,_,_,e,he=>by simp[chunkA]at he
 | n+1,l,h,e,he=>by
  rw[Nat.add_mul]at h
  simp only[chunkA,List.mem_cons]at he
  rcases he with rfl|he
  ·simp[AV.ncells,AV.cells];omega
  ·exact chunkA_cells sz n (l.drop sz) (by simp;omega) e he
theorem chunkA_MC {G:Gh}{fr:Frs}{w:World}{b:Nat}(sz:Nat):∀(n:Nat) (l:List AV) (vs:List Value),VRs G fr w l vs→l.length=n*sz→∀{o:Nat},(∀(j:Nat) (u:Value),vs[j]? = some u→w.cell? ⟨b,o+j,none⟩=some u)→MC G fr w (chunkA sz n l) b o
 | 0,_,_,_,_,_,_=>trivial
 | n+1,l,vs,h,hl,o,hc=>by
  rw[Nat.add_mul]at hl
  have hvl:=h.length
  have hn:(AV.agg (l.take sz)).ncells=sz:=by simp[AV.ncells,AV.cells];omega
  refine⟨⟨.agg (vs.take sz).toArray,⟨_,rfl,by simpa using h.take sz⟩,by rw[hn];simp[Value.cells];omega,fun j c hj=>hc j c ?_⟩,?_⟩
  ·simp only[Value.cells,List.getElem?_toArray,List.getElem?_take]at hj
   split at hj
   ·exact hj
   ·cases hj
  ·rw[hn]
   refine chunkA_MC sz n (l.drop sz) (vs.drop sz) (h.drop sz) (by simp;omega) fun j u hj=>?_
   rw[Nat.add_assoc]
   exact hc (sz+j) u (by rw[List.getElem?_drop]at hj;exact hj)
theorem Keep.okUp {G:Gh}{w:World}(dn:∀b e e',e'≤e→G.ok b e→G.ok b e')(ok':Nat→Nat→Prop)(h:∀b e,G.ok b e→ok' b e):Keep G.pure [] w {G.pure with ok:=ok'} [] w:=
 ⟨Nat.le_refl _,fun b e _ hh=>h b e hh,dn,fun _ _ _ _=>rfl,fun _ _ hh=>hh,fun _ _ arr _ _ hh=>⟨arr,hh,rfl⟩,fun _ _ _ _ _ hh=>hh,fun _ _ _ hF=>by simp at hF⟩
mutual
theorem fzb_sound {L:World→Prop}{w0:Orig L}{G:Gh}{S:St}{w:World}(hS:RelS w0 G S w)(ok':Nat→Nat→Prop)(hup:∀b e,G.ok b e→ok' b e)(hnew:∀b e,w0.w.heap.size≤b→ok' b e) :
  ∀(e:AV) {e':AV} {v:Value},fzb S e=some e'→VR G S.fr w e v→VR {G.pure with ok:=ok'} [] w e' v
 | .ptr id off,e',v,h,hv=>by
  simp only[fzb]at h
  split at h
  ·rename_i cs t hb
   simp only[Option.map_eq_some_iff]at h
   obtain⟨cs',hc,rfl⟩:=h
   obtain⟨b,hr,rfl⟩:=hv
   obtain⟨b',ob,hr',hheap,arr,rfl,hasz,hvs⟩:=hS.bx id _ hb rfl
   rw[hr]at hr';injection hr' with hr';subst hr'
   obtain⟨_,hlt,hbase,_⟩:=hS.rd id b hr
   have h1:=VRs.keep (Keep.okUp hS.dn ok' hup) _ (fzs_sound cs hc hvs)
   refine⟨b,0,by simp,hlt,hnew _ _ hbase,.agg (arr.toList.take cs.length).toArray,⟨_,rfl,h1⟩,?_,fun j c hj=>?_⟩
   ·have:=h1.length
    simpa[AV.ncells,AV.cells,Value.cells] using this
   ·rw[Nat.zero_add,cell_of_row w b j arr t (0,0) hheap]
    exact take_get (n:=cs.length) (by simpa[Value.cells] using hj)
  ·cases h
 | .bsl id off n sz,e',v,h,hv=>by
  simp only[fzb]at h
  split at h
  ·rename_i cs t hb
   split at h
   ·rename_i hsz
    subst hsz
    split at h
    ·rename_i hle
     simp only[Option.bind_eq_some_iff]at h
     obtain⟨es,hes,h⟩:=h
     split at h
     ·rename_i hall
      simp at h;subst h
      obtain⟨b,A,c,arr0,t0,hr,hheap0,rfl,hnc,hcap,hA⟩:=hv
      obtain⟨b',ob,hr',hheap,arr,rfl,hasz,hvs⟩:=hS.bx id _ hb rfl
      rw[hr]at hr';injection hr' with hr';subst hr'
      obtain⟨_,hlt,hbase,_⟩:=hS.rd id b hr
      have h1:=VRs.keep (Keep.okUp hS.dn ok' hup) _ (fzs_sound _ hes ((hvs.drop off).take n))
      have hlen:es.length=n:=by
       have:=fzs_length hes
       simp at this;omega
      refine⟨A,c,by rw[hlen],by rw[hlen];exact hnc,by simp,fun hne=>?_⟩
      have hn0:0 < n:=by rw[←hlen];exact List.length_pos_iff.2 hne
      have hone:∀e∈es,e.ncells=1:=by
       intro e he
       have:=List.all_eq_true.1 hall e he
       cases e<;>first|rfl|(simp[AV.isCell]at this)
      have hcells:∀e∈es,e.cells.all AV.isCell=true:=by
       intro e he
       have:=List.all_eq_true.1 hall e he
       cases e<;>first|rfl|(simp[AV.isCell]at this)
      refine⟨b,off,1,hA (by omega),hlt,hone,hnew _ _ hbase,?_⟩
      have hmv:=h1.toMV hcells
      have hflat:((((arr.toList.take cs.length).drop off).take n).flatMap fun u=>u.cells.toList)=((arr.toList.take cs.length).drop off).take n:=by
       have h2:∀u∈((arr.toList.take cs.length).drop off).take n,u.oneCell'=true:=by
        intro u hu
        obtain⟨i,hi⟩:=List.getElem?_of_mem hu
        have hil:i < es.length:=by rw[←h1.length];exact(List.getElem?_eq_some_iff.1 hi).1
        obtain⟨u',hu2,hr2⟩:=h1.get (List.getElem?_eq_getElem hil)
        rw[hi]at hu2;injection hu2 with hu2;subst hu2
        exact hr2.oneCell (List.all_eq_true.1 hall _ (List.getElem_mem hil))
       generalize ((arr.toList.take cs.length).drop off).take n=l at h2
       induction l with
       | nil=>rfl
       | cons x l ih=>
        simp only[List.flatMap_cons]
        rw[ih fun u hu=>h2 u (by simp[hu]),cells_of_oneCell (h2 x (by simp))]
        rfl
      rw[hflat]at hmv
      refine hmv.toMC fun j u hj=>?_
      rw[cell_of_row w b (off+j) arr t (0,0) hheap]
      rw[List.getElem?_take]at hj
      split at hj
      ·rw[List.getElem?_drop]at hj
       exact take_get hj
      ·cases hj
     ·cases h
    ·cases h
   ·cases h
  ·cases h
 | .vsl id off n sz,e',v,h,hv=>by
  simp only[fzb]at h
  split at h
  ·rename_i cs t hb
   split at h
   ·rename_i hle
    obtain⟨hle,hsz1⟩:=hle
    simp only[Option.bind_eq_some_iff]at h
    obtain⟨es,hes,h⟩:=h
    split at h
    ·rename_i hall
     obtain⟨b,A,c,arr0,t0,hr,hheap0,rfl,hnc,hcap,hA⟩:=hv
     obtain⟨b',ob,hr',hheap,arr,rfl,hasz,hvs⟩:=hS.bx id _ hb rfl
     rw[hr]at hr';injection hr' with hr';subst hr'
     obtain⟨_,hlt,hbase,_⟩:=hS.rd id b hr
     have h1:=VRs.keep (Keep.okUp hS.dn ok' hup) _ (fzs_sound _ hes ((hvs.drop off).take (n*sz)))
     have hlen:es.length=n*sz:=by
      have:=fzs_length hes
      simp at this;omega
     have hcell:∀(j:Nat) (u:Value),(((arr.toList.take cs.length).drop off).take (n*sz))[j]? = some u→w.cell? ⟨b,off+j,none⟩=some u:=fun j u hj=>by
      rw[cell_of_row w b (off+j) arr t (0,0) hheap]
      rw[List.getElem?_take]at hj
      split at hj
      ·rw[List.getElem?_drop]at hj
       exact take_get hj
      ·cases hj
     split at h
     ·rename_i hsz
      subst hsz
      rw[Nat.mul_one]at hlen
      simp at h;subst h
      refine⟨A,c,by rw[hlen],by rw[hlen];exact hnc,by simp,fun hne=>?_⟩
      have hn0:0 < n:=by rw[←hlen];exact List.length_pos_iff.2 hne
      have hone:∀e∈es,e.ncells=1:=by
       intro e he
       have:=List.all_eq_true.1 hall e he
       cases e<;>first|rfl|(simp[AV.isCell]at this)
      have hcells:∀e∈es,e.cells.all AV.isCell=true:=by
       intro e he
       have:=List.all_eq_true.1 hall e he
       cases e<;>first|rfl|(simp[AV.isCell]at this)
      refine⟨b,off,1,hA (by omega),hlt,hone,hnew _ _ hbase,?_⟩
      have hmv:=h1.toMV hcells
      have hflat:((((arr.toList.take cs.length).drop off).take (n*1)).flatMap fun u=>u.cells.toList)=((arr.toList.take cs.length).drop off).take (n*1):=by
       have h2:∀u∈((arr.toList.take cs.length).drop off).take (n*1),u.oneCell'=true:=by
        intro u hu
        obtain⟨i,hi⟩:=List.getElem?_of_mem hu
        have hil:i < es.length:=by rw[←h1.length];exact(List.getElem?_eq_some_iff.1 hi).1
        obtain⟨u',hu2,hr2⟩:=h1.get (List.getElem?_eq_getElem hil)
        rw[hi]at hu2;injection hu2 with hu2;subst hu2
        exact hr2.oneCell (List.all_eq_true.1 hall _ (List.getElem_mem hil))
       generalize ((arr.toList.take cs.length).drop off).take (n*1)=l at h2
       induction l with
       | nil=>rfl
       | cons x l ih=>
        simp only[List.flatMap_cons]
        rw[ih fun u hu=>h2 u (by simp[hu]),cells_of_oneCell (h2 x (by simp))]
        rfl
      rw[hflat]at hmv
      exact hmv.toMC hcell
     ·rename_i hsz
      simp at h;subst h
      have hcl:(chunkA sz n es).length=n:=chunkA_length sz n es
      refine⟨A,c,by rw[hcl],by rw[hcl];exact hnc,by simp,fun hne=>?_⟩
      have hn0:0 < n:=by rw[←hcl];exact List.length_pos_iff.2 hne
      refine⟨b,off,sz,hA (by omega),hlt,chunkA_cells sz n es (by omega),hnew _ _ hbase,?_⟩
      exact chunkA_MC sz n es _ h1 (by omega) (o:=off) hcell
    ·cases h
   ·cases h
  ·cases h
 | .fn f caps,e',v,h,hv=>by
  simp only[fzb,Option.map_eq_some_iff]at h
  obtain⟨caps',hc,rfl⟩:=h
  obtain⟨vs,rfl,hs⟩:=hv
  exact⟨vs,rfl,fzbs_sound hS ok' hup hnew caps hc hs⟩
 | .agg cs,e',v,h,hv=>by
  simp only[fzb,Option.map_eq_some_iff]at h
  obtain⟨cs',hc,rfl⟩:=h
  obtain⟨vs,rfl,hs⟩:=hv
  exact⟨vs,rfl,fzbs_sound hS ok' hup hnew cs hc hs⟩
 | .tup cs,e',v,h,hv=>by
  simp only[fzb,Option.map_eq_some_iff]at h
  obtain⟨cs',hc,rfl⟩:=h
  obtain⟨vs,rfl,hs⟩:=hv
  exact⟨vs,rfl,fzbs_sound hS ok' hup hnew cs hc hs⟩
 | .int k n,e',v,h,hv=>by simp[fzb]at h;subst h;exact hv
 | .bool b,e',v,h,hv=>by simp[fzb]at h;subst h;exact hv
 | .str s,e',v,h,hv=>by simp[fzb]at h;subst h;exact hv
 | .nils,e',v,h,hv=>by
  simp[fzb]at h;subst h
  exact⟨none,0,hv,by simp,by simp,by simp⟩
 | .nilp,e',v,h,hv=>by simp[fzb]at h;subst h;exact hv
 | .nili,e',v,h,hv=>by simp[fzb]at h;subst h;exact hv
 | .nilm,e',v,h,hv=>by simp[fzb]at h;subst h;exact hv
 | .yld _,_,_,h,_=>by simp[fzb]at h
 | .bfn _ _ _,_,_,h,_=>by simp[fzb]at h
 | .mp id,e',v,h,hv=>by
  simp only[fzb]at h
  split at h
  ·rename_i sh ks vs hb
   simp only[Option.map_eq_some_iff]at h
   obtain⟨vs',hc,rfl⟩:=h
   obtain⟨b,hr,rfl⟩:=hv
   obtain⟨b',ob,hr',hheap,es,cl,rfl,hk,hvs⟩:=hS.bx id _ hb rfl
   rw[hr]at hr';injection hr' with hr';subst hr'
   obtain⟨_,hlt,hbase,_⟩:=hS.rd id b hr
   exact⟨b,es,cl,rfl,hlt,hnew _ _ hbase,hheap,hk,VRs.keep (Keep.okUp hS.dn ok' hup) _ (fzs_sound vs hc hvs)⟩
  ·cases h
 | .cmp sh ks vs,e',v,h,hv=>by
  simp[fzb]at h;subst h
  exact VR.keep (Keep.okUp hS.dn ok' hup) _ (fz_sound (.cmp sh ks vs) (by simp[fz]) hv)
 | .sl t es,e',v,h,hv=>by
  simp[fzb]at h;subst h
  exact VR.keep (Keep.okUp hS.dn ok' hup) _ (fz_sound (.sl t es) (by simp[fz]) hv)
 | .grown _ _,_,_,h,_=>by simp[fzb]at h
 | .own es ch,e',v,h,hv=>by
  simp[fzb]at h;subst h
  exact VR.keep (Keep.okUp hS.dn ok' hup) _ (fz_sound (.own es ch) (by simp[fz]) hv)
 | .cptr e off,e',v,h,hv=>by
  simp[fzb]at h;subst h
  exact VR.keep (Keep.okUp hS.dn ok' hup) _ (fz_sound (.cptr e off) (by simp[fz]) hv)
 | .undef,_,_,h,_=>by simp[fzb]at h
theorem fzbs_sound {L:World→Prop}{w0:Orig L}{G:Gh}{S:St}{w:World}(hS:RelS w0 G S w)(ok':Nat→Nat→Prop)(hup:∀b e,G.ok b e→ok' b e)(hnew:∀b e,w0.w.heap.size≤b→ok' b e) :
  ∀(es:List AV) {es':List AV} {vs:List Value},fzbs S es=some es'→VRs G S.fr w es vs→VRs {G.pure with ok:=ok'} [] w es' vs
 | [],es',vs,h,hv=>by simp[fzbs]at h;subst h;exact hv
 | e :: es,es',vs,h,hv=>by
  simp only[fzbs]at h
  split at h
  ·rename_i e1 es1 h1 h2
   simp at h;subst h
   obtain⟨u,us,rfl,hu,hus⟩:=hv
   exact⟨u,us,rfl,fzb_sound hS ok' hup hnew e h1 hu,fzbs_sound hS ok' hup hnew es h2 hus⟩
  ·cases h
end
mutual
def AV.scalar:AV→Bool
 | .int _ _=>true
 | .bool _=>true
 | .str _=>true
 | .nilp=>true
 | .nili=>true
 | .agg cs=>scalars cs
 | .tup cs=>scalars cs
 | _=>false
def scalars:List AV→Bool
 | []=>true
 | e :: es=>e.scalar&&scalars es
end
mutual
theorem VR.scalar {G G':Gh}{fr fr':Frs}{w w':World}:∀(e:AV) {v:Value},e.scalar=true→VR G fr w e v→VR G' fr' w' e v
 | .int _ _,_,_,h=>h
 | .bool _,_,_,h=>h
 | .str _,_,_,h=>h
 | .nilp,_,_,h=>h
 | .nili,_,_,h=>h
 | .nilm,_,hs,_=>by simp[AV.scalar]at hs
 | .yld _,_,hs,_=>by simp[AV.scalar]at hs
 | .bfn _ _ _,_,hs,_=>by simp[AV.scalar]at hs
 | .mp _,_,hs,_=>by simp[AV.scalar]at hs
 | .cmp _ _ _,_,hs,_=>by simp[AV.scalar]at hs
 | .agg cs,v,hs,h=>by
  obtain⟨vs,rfl,h⟩:=h
  exact⟨vs,rfl,VRs.scalar cs hs h⟩
 | .tup cs,v,hs,h=>by
  obtain⟨vs,rfl,h⟩:=h
  exact⟨vs,rfl,VRs.scalar cs hs h⟩
 | .nils,_,hs,_=>by simp[AV.scalar]at hs
 | .sl _ _,_,hs,_=>by simp[AV.scalar]at hs
 | .own _ _,_,hs,_=>by simp[AV.scalar]at hs
 | .grown _ _,_,hs,_=>by simp[AV.scalar]at hs
 | .bsl _ _ _ _,_,hs,_=>by simp[AV.scalar]at hs
 | .vsl _ _ _ _,_,hs,_=>by simp[AV.scalar]at hs
 | .ptr _ _,_,hs,_=>by simp[AV.scalar]at hs
 | .cptr _ _,_,hs,_=>by simp[AV.scalar]at hs
 | .fn _ _,_,hs,_=>by simp[AV.scalar]at hs
 | .undef,_,hs,_=>by simp[AV.scalar]at hs
theorem VRs.scalar {G G':Gh}{fr fr':Frs}{w w':World}:∀(es:List AV) {vs:List Value},scalars es=true→VRs G fr w es vs→VRs G' fr' w' es vs
 | [],_,_,h=>h
 | e :: es,vs,hs,h=>by
  obtain⟨u,us,rfl,h1,h2⟩:=h
  simp[scalars]at hs
  exact⟨u,us,rfl,VR.scalar e hs.1 h1,VRs.scalar es hs.2 h2⟩
end
def PCall (P:Program)(L:World→Prop)(f:FuncId)(args:List AV)(r:AV):Prop:=
 ∀(w:World) (G:Gh),(∀w',Below w.heap.size w w'→L w')→G.ρ=(fun _=>none)→(∀b e e',e'≤e→G.ok b e→G.ok b e')→∀vals:List Value,VRs G [] w args vals →
  Calls P f vals.toArray w fun e w'=>∃v,e=.returned v∧Below w.heap.size w w'∧VR {G with ok:=fun b e=>b < w.heap.size→G.ok b e} [] w' r v
def ICall (P:Program)(L:World→Prop)(f:FuncId)(args:List AV)(S:St)(K:AV→St→Prop):Prop:=
 ∀(w0:Orig L) (G:Gh) (w:World),RelS w0 G S w→∀vals:List Value,VRs G S.fr w args vals →
  Calls P f vals.toArray w fun e w'=>∃v r G' S',e=.returned v∧RelS w0 G' S' w'∧KeepD G S.fr w G' S'.fr w'∧VR G' S'.fr w' r v∧K r S'
def FW (ro:Option Nat):Fence:={Fence.wide with round:=ro}
def CallSem (P:Program)(ro:Option Nat)(fv:Value)(vals:List Value)(w:World)(R:Value→World→Prop):Prop:=
 ∀(o:Oper) (act:Act) (f:Operand) (args:Array Operand) (ts:Array TypeId) (next:Act→World→Prop) (Q:Exit→Act→World→Prop),o.op=.call {callee:=.value f,args,argTypes:=ts}→act.eval f=fv→args.toList.map act.eval=vals →
  (∀v w',R v w'→next (act.put o.dst v) w')→o.wpIn (FW ro) 0 P act w next Q
def callable (P:Program)(g:FuncId):Bool:=match P.funcs[g]? with
 | some fn=>fn.name != "runtime.NumGoroutine" && fn.body.isSome
 | none=>false
theorem CallSem.fn {P:Program}{ro:Option Nat}{g:FuncId}{cvs:Array Value}{vals:List Value}{w:World}{R:Value→World→Prop}(hc:callable P g=true)
  (h:Calls P g (vals++cvs.toList).toArray w fun e w'=>∃v,e=.returned v∧R v w'):CallSem P ro (.func (.func g) #[] cvs) vals w R:=by
 intro o act f args ts next Q ho hf hv hK
 have hcb:∃fn,P.funcs[g]? = some fn∧fn.name ≠ "runtime.NumGoroutine" ∧ fn.body.isNone=false:=by
  unfold callable at hc
  split at hc
  ·rename_i fn hfn
   simp at hc
   exact⟨fn,hfn,hc.1,by cases hh:fn.body<;>simp[hh]at hc ⊢⟩
  ·cases hc
 obtain⟨fn,hfn,hname,hb⟩:=hcb
 have hrun:(execOp act.eval o).run P w=.ok (.enter g (vals++cvs.toList).toArray) w:=by
  rw[←hv]
  simp only[execOp,ho,Sem.run_bind,resolve,hf,Deferred.ofValue,Sem.run_pure,Result.andThen_ok,invoke,callFunc,run_program]
  simp[hfn,hname,hb]
 refine⟨fun _ _=>trivial,?_⟩
 rw[Oper.semAt_eq _ _ _ (fun c hc'=>by rw[ho]at hc';cases hc'),hrun]
 refine⟨fun hd=>by simp[FW,Fence.wide]at hd,?_⟩
 have h2:CallsIn Fence.wide (0-1) P g (vals++cvs.toList).toArray w fun
   | .returned v,w''=>next (act.put o.dst v) w''
   | .panicked chain,w''=>Q (.panic chain) act w''
   | .outgrown,_=>LetsOut Q:=callsIn_wide.2 (h.mono fun e w' ⟨v,he,hR⟩=>by subst he;exact hK v w' hR)
 exact h2
theorem CallSem.bfn {P:Program}{ro:Option Nat}{g:FuncId}{x:Value}{vals:List Value}{w:World}{R:Value→World→Prop}(hc:callable P g=true)
  (h:Calls P g (x :: vals).toArray w fun e w'=>∃v,e=.returned v∧R v w'):CallSem P ro (.func (.func g) #[x] #[]) vals w R:=by
 intro o act f args ts next Q ho hf hv hK
 have hcb:∃fn,P.funcs[g]? = some fn∧fn.name ≠ "runtime.NumGoroutine" ∧ fn.body.isNone=false:=by
  unfold callable at hc
  split at hc
  ·rename_i fn hfn
   simp at hc
   exact⟨fn,hfn,hc.1,by cases hh:fn.body<;>simp[hh]at hc ⊢⟩
  ·cases hc
 obtain⟨fn,hfn,hname,hb⟩:=hcb
 have hrun:(execOp act.eval o).run P w=.ok (.enter g (x :: vals).toArray) w:=by
  rw[←hv]
  simp only[execOp,ho,Sem.run_bind,resolve,hf,Deferred.ofValue,Sem.run_pure,Result.andThen_ok,invoke,callFunc,run_program]
  simp[hfn,hname,hb]
 refine⟨fun _ _=>trivial,?_⟩
 rw[Oper.semAt_eq _ _ _ (fun c hc'=>by rw[ho]at hc';cases hc'),hrun]
 refine⟨fun hd=>by simp[FW,Fence.wide]at hd,?_⟩
 have h2:CallsIn Fence.wide (0-1) P g (x :: vals).toArray w fun
   | .returned v,w''=>next (act.put o.dst v) w''
   | .panicked chain,w''=>Q (.panic chain) act w''
   | .outgrown,_=>LetsOut Q:=callsIn_wide.2 (h.mono fun e w' ⟨v,he,hR⟩=>by subst he;exact hK v w' hR)
 exact h2
structure CallK (P:Program)(L:World→Prop)(S:St)(fv:AV)(args:List AV)(K:AV→St→Prop):Prop where
 out:∀(ro:Option Nat) (w0:Orig L) (G:Gh) (w:World) (fvv:Value) (vals:List Value),RelS w0 G S w→VR G S.fr w fv fvv→VRs G S.fr w args vals →
  CallSem P ro fvv vals w fun v w'=>∃G' S' e,RelS w0 G' S' w'∧KeepD G S.fr w G' S'.fr w'∧VR G' S'.fr w' e v∧K e S'
theorem CallK.mono {P:Program}{L:World→Prop}{S:St}{fv:AV}{args:List AV}{K K':AV→St→Prop}(h:CallK P L S fv args K)(hk:∀e S',K e S'→K' e S'):CallK P L S fv args K':=
 ⟨fun ro w0 G w fvv vals hS hf ha o act f args ts next Q ho hfe hv hn=>h.out ro w0 G w fvv vals hS hf ha o act f args ts next Q ho hfe hv fun v w' ⟨G',S',e,h1,h2,h3,h4⟩=>hn v w' ⟨G',S',e,h1,h2,h3,hk _ _ h4⟩⟩
structure CallP (P:Program)(L:World→Prop)(S:St)(fv:AV)(args:List AV)(K:AV→Prop):Prop where
 out:∃g caps fargs r,fv=.fn g caps∧(fzs (args++caps)=some fargs∨(fzbs S (args++caps)=some fargs∧r.scalar=true))∧PCall P L g fargs r∧callable P g=true∧K r
theorem CallP.data {P:Program}{L:World→Prop}{S:St}{g:FuncId}{caps args fargs:List AV}{r:AV}{K:AV→Prop}(hc:callable P g=true)(h:PCall P L g fargs r)(hf:fzs (args++caps)=some fargs)(hK:K r):CallP P L S (.fn g caps) args K:=
 ⟨⟨g,caps,fargs,r,rfl,.inl hf,h,hc,hK⟩⟩
theorem CallP.box {P:Program}{L:World→Prop}{S:St}{g:FuncId}{caps args fargs:List AV}{r:AV}{K:AV→Prop}(hc:callable P g=true)(h:PCall P L g fargs r)(hf:fzbs S (args++caps)=some fargs)(hs:r.scalar=true)(hK:K r):CallP P L S (.fn g caps) args K:=
 ⟨⟨g,caps,fargs,r,rfl,.inr ⟨hf,hs⟩,h,hc,hK⟩⟩
theorem Orig.later {L:World→Prop}{w0:Orig L}{G:Gh}{S:St}{w:World}(hS:RelS w0 G S w):∀w',Below w.heap.size w w'→L w':=fun w' hb=>w0.hL w' (hS.below.trans (hb.mono hS.bsz))
theorem RelS.of_below' {L:World→Prop}{w0:Orig L}{G:Gh}{S:St}{w w':World}(h:RelS w0 G S w)(hb:Below w.heap.size w w') :
  RelS w0 {G with ok:=fun b e=>b < w.heap.size→G.ok b e} S w'∧KeepD G S.fr w {G with ok:=fun b e=>b < w.heap.size→G.ok b e} S.fr w':=
 h.of_below hb (fun b e=>b < w.heap.size→G.ok b e) (fun _ _ hlt=>⟨fun hh=>hh hlt,fun hh _=>hh⟩) (fun b e e' he hh hlt=>h.dn b e e' he (hh hlt))
theorem CallP.toK {P:Program}{L:World→Prop}{S:St}{fv:AV}{args:List AV}{K:AV→Prop}(h:CallP P L S fv args K):CallK P L S fv args fun e S'=>S'=S∧K e:=by
 obtain⟨g,caps,fargs,r,rfl,hz,hc,hcb,hK⟩:=h.out
 refine⟨fun ro w0 G w fvv vals hS ⟨cvs,hfe,hcv⟩ hargs=>?_⟩
 subst hfe
 have hall:=hargs.append hcv
 refine CallSem.fn hcb ?_
 rcases hz with hz|⟨hz,hsc⟩
 ·refine(hc w G.pure (Orig.later hS) rfl hS.dn _ (fzs_sound _ hz hall)).mono fun e w' ⟨v,he,hb,hv⟩=>?_
  subst he
  obtain⟨h1,h2⟩:=hS.of_below' hb
  exact⟨v,rfl,_,S,r,h1,h2,VR.unpure_aux.1 r hv,rfl,hK⟩
 ·refine(hc w {G.pure with ok:=fun _ _=>True} (Orig.later hS) rfl (fun _ _ _ _ _=>trivial) _ (fzbs_sound hS (fun _ _=>True) (fun _ _ _=>trivial) (fun _ _ _=>trivial) _ hz hall)).mono fun e w' ⟨v,he,hb,hv⟩=>?_
  subst he
  obtain⟨h1,h2⟩:=hS.of_below' hb
  exact⟨v,rfl,_,S,r,h1,h2,VR.scalar r hsc hv,rfl,hK⟩
theorem CallK.data {P:Program}{L:World→Prop}{S:St}{g:FuncId}{caps args fargs:List AV}{r:AV}{K:AV→St→Prop}(hc:callable P g=true)(h:PCall P L g fargs r)(hf:fzs (args++caps)=some fargs)(hK:K r S):CallK P L S (.fn g caps) args K:=
 (CallP.toK (CallP.data hc h hf (K:=fun e=>K e S) hK)).mono fun e S' ⟨h1,h2⟩=>by subst h1;exact h2
theorem CallK.box {P:Program}{L:World→Prop}{S:St}{g:FuncId}{caps args fargs:List AV}{r:AV}{K:AV→St→Prop}(hc:callable P g=true)(h:PCall P L g fargs r)(hf:fzbs S (args++caps)=some fargs)(hs:r.scalar=true)(hK:K r S):CallK P L S (.fn g caps) args K:=
 (CallP.toK (CallP.box hc h hf hs (K:=fun e=>K e S) hK)).mono fun e S' ⟨h1,h2⟩=>by subst h1;exact h2
theorem CallK.inl {P:Program}{L:World→Prop}{S:St}{g:FuncId}{caps args:List AV}{K:AV→St→Prop}(hc:callable P g=true)(h:ICall P L g (args++caps) S K):CallK P L S (.fn g caps) args K:=by
 refine⟨fun ro w0 G w fvv vals hS ⟨cvs,hfe,hcv⟩ hargs=>?_⟩
 subst hfe
 refine CallSem.fn hc ?_
 exact(h w0 G w hS _ (hargs.append hcv)).mono fun e w' ⟨v,r,G',S',he,h1,h2,h3,h4⟩=>⟨v,he,G',S',r,h1,h2,h3,h4⟩
theorem CallK.bound {P:Program}{L:World→Prop}{S:St}{g:FuncId}{id off:Nat}{args:List AV}{K:AV→St→Prop}(hc:callable P g=true)(h:ICall P L g (.ptr id off :: args) S K):CallK P L S (.bfn g id off) args K:=by
 refine⟨fun ro w0 G w fvv vals hS ⟨b,hr,hfe⟩ hargs=>?_⟩
 subst hfe
 refine CallSem.bfn hc ?_
 exact(h w0 G w hS _ ⟨_,_,rfl,⟨b,hr,rfl⟩,hargs⟩).mono fun e w' ⟨v,r,G',S',he,h1,h2,h3,h4⟩=>⟨v,he,G',S',r,h1,h2,h3,h4⟩
theorem ICall.ofBox {P:Program}{L:World→Prop}{S:St}{g:FuncId}{args fargs:List AV}{r:AV}{K:AV→St→Prop}(h:PCall P L g fargs r)(hf:fzbs S args=some fargs)(hs:r.scalar=true)(hK:K r S):ICall P L g args S K:=by
 intro w0 G w hS vals hv
 refine(h w {G.pure with ok:=fun _ _=>True} (Orig.later hS) rfl (fun _ _ _ _ _=>trivial) _ (fzbs_sound hS (fun _ _=>True) (fun _ _ _=>trivial) (fun _ _ _=>trivial) _ hf hv)).mono fun e w' ⟨v,he,hb,hv⟩=>?_
 subst he
 obtain⟨h1,h2⟩:=hS.of_below' hb
 exact⟨v,r,_,S,rfl,h1,h2,VR.scalar r hs hv,hK⟩
theorem CallK.boundD {P:Program}{L:World→Prop}{S:St}{g:FuncId}{id off:Nat}{args fargs:List AV}{r:AV}{K:AV→St→Prop}(hc:callable P g=true)(h:PCall P L g fargs r)(hf:fzbs S (.ptr id off :: args)=some fargs)(hs:r.scalar=true)(hK:K r S):CallK P L S (.bfn g id off) args K:=
 CallK.bound hc (ICall.ofBox h hf hs hK)
open Go Go.RowKit
def convK (P:Program)(S:St)(src dst:TypeId)(x:AV)(K:AV→Prop):Prop:=
 match x with
 | .int _ n=>match (P.underlying src).isSome,P.underlying dst with
  | true,some (.int k)=>K (.int k (k.wrap n))
  | _,_=>False
 | .ptr id off=>match S.bx[id]? with
  | some (.cells cs ty)=>match P.underlying src,P.underlying dst with
   | some (.pointer t),some .unsafePointer=>match tsz P t with
    | some (_+1)=>Nat.blt off cs.length=true∧K (.ptr id off)
    | _=>False
   | some .unsafePointer,some (.pointer u)=>(P.info? u).isSome=true∧liesAt P P.depth ty (cs.length / P.cellsOf ty) off u 1=true∧K (.ptr id off)
   | _,_=>False
  | _=>False
 | _=>False
theorem convK_sound {P:Program}{L:World→Prop}{w0:Orig L}{G:Gh}{S:St}{w:World}(hS:RelS w0 G S w){src dst:TypeId}{x:AV}{K:AV→Prop}{u:Value}(hu:VR G S.fr w x u)(h:convK P S src dst x K) :
  ∃e r,K e∧VR G S.fr w e r∧(convert src dst u).run P w=.ok r w:=by
 unfold convK at h
 split at h
 ·rename_i k n
  obtain rfl:u=_:=hu
  split at h
  ·rename_i k' hs hd
   have hk:P.intKind dst=k':=by simp[Program.intKind,hd]
   have:=run_convert_int (P:=P) (w:=w) src dst k n hs (by rw[hk];exact hd)
   rw[hk]at this
   exact⟨_,_,h,rfl,this⟩
  ·exact h.elim
 ·rename_i id off
  split at h
  ·rename_i cs ty hb
   obtain⟨b,hr,rfl⟩:=hu
   obtain⟨b',ob,hr',hheap,arr,rfl,hasz,hv⟩:=hS.bx id _ hb rfl
   rw[hr]at hr';injection hr' with hr';subst hr'
   have hsh:w.shape? b=some (ty,arr.size):=by simp[World.shape?,hheap]
   split at h
   ·rename_i t hs hd
    split at h
    ·rename_i m hsz
     obtain⟨hlt,hK⟩:=h
     unfold tsz at hsz
     obtain⟨j,hj,hjs⟩:=Option.map_eq_some_iff.1 hsz
     have hlt':off < cs.length:=by simpa[Nat.blt_eq] using hlt
     exact⟨_,_,hK,⟨b,hr,rfl⟩,Lib.run_to_unsafe w ⟨b,off,none⟩ hs hd hj (by omega) hsh (by show off < arr.size;omega)⟩
    ·exact h.elim
   ·rename_i t hs hd
    obtain⟨hi,hl,hK⟩:=h
    obtain⟨j,hj⟩:=Option.isSome_iff_exists.1 hi
    exact⟨_,_,hK,⟨b,hr,rfl⟩,Lib.run_from_unsafe w ⟨b,off,none⟩ hs hd hj hsh (by rw[hasz];exact hl)⟩
   ·exact h.elim
  ·exact h.elim
 ·exact h.elim
def indexK (P:Program)(t:TypeId)(x i:AV)(K:AV→Prop):Prop:=
 match i,x with
 | .int _ n,.agg cs=>match tarr P t with
  | some (len,e)=>match tsz P e with
   | some sz=>InB n len∧ldCells P e cs (n.toNat*sz) K
   | none=>False
  | none=>False
 | .int _ n,.str s=>match P.underlying t with
  | some .string=>InB n s.size∧K (.int .u8 (s.data.toList.getD n.toNat 0).toNat)
  | _=>False
 | _,_=>False
theorem indexK_sound {P:Program}{G:Gh}{S:St}{w:World}{t:TypeId}{x i:AV}{K:AV→Prop}{u v:Value}(hu:VR G S.fr w x u)(hi:VR G S.fr w i v)(h:indexK P t x i K) :
  ∃e r,K e∧VR G S.fr w e r∧(Instr.index t u v).run P w=.ok r w:=by
 unfold indexK at h
 split at h
 ·rename_i k n cs
  obtain rfl:v=_:=hi
  split at h
  ·rename_i len e ha
   have hund:P.underlying t=some (.array len e):=by
    unfold tarr at ha;split at ha
    ·rename_i hh;simp at ha;obtain⟨rfl,rfl⟩:=ha;exact hh
    ·cases ha
   split at h
   ·rename_i sz hsz
    obtain⟨⟨h0,h1⟩,h⟩:=h
    obtain⟨vs,rfl,hvs⟩:=hu
    have hlen:=hvs.length
    simp at hlen
    unfold ldCells at h
    split at h
    ·rename_i m hag hn
     obtain⟨hle,hK⟩:=h
     refine⟨_,.agg ((vs.toList.drop (n.toNat*sz)).take m).toArray,hK,⟨_,rfl,by simpa using (hvs.drop _).take _⟩,?_⟩
     simp[Instr.index,asIntOf,run_underlying hund,h0,h1,run_sizeOf hsz,run_part hn w vs (off:=n.toNat*sz) (by omega) (v:=.agg ((vs.toList.drop (n.toNat*sz)).take m).toArray) (by simp[ofCells,hag])]
    ·rename_i hag
     split at h
     ·rename_i v hv
      rw[AV.force_eq]at h
      obtain⟨r,hr,hvr⟩:=hvs.get hv
      have hr':vs[n.toNat*sz]? = some r:=by simpa using hr
      exact⟨v,r,h,hvr,by simp[Instr.index,asIntOf,run_underlying hund,h0,h1,run_sizeOf hsz,part,run_isAgg hag,hr']⟩
     ·exact h.elim
    ·exact h.elim
   ·exact h.elim
  ·exact h.elim
 ·rename_i k n s
  obtain rfl:v=_:=hi
  obtain rfl:u=_:=hu
  split at h
  ·rename_i hund
   obtain⟨⟨h0,h1⟩,hK⟩:=h
   have hlt:n.toNat < s.size:=by omega
   have hlt2:n.toNat < s.data.toList.length:=by simpa using hlt
   have hget:s[n.toNat]? = some (s.data.toList.getD n.toNat 0):=by
    rw[List.getD_eq_getElem?_getD,List.getElem?_eq_getElem hlt2]
    simp only[Option.getD_some]
    rw[getElem?_pos s n.toNat hlt]
    rfl
   exact⟨_,_,hK,rfl,by simp[Instr.index,asIntOf,run_underlying hund,h0,hget]⟩
  ·exact h.elim
 ·exact h.elim
def makeSliceK (P:Program)(S:St)(t:TypeId)(l c:AV)(K:AV→St→Prop):Prop:=
 match tslice P t,l,c with
 | some e,.int _ n,.int _ m=>match (P.info? e).map (fun i=>(i.zero.map Value.cells,i.size)) with
  | some (some z,1)=>match z.toList with
   | [z0]=>n=m∧NonNeg n∧n≤1099511627776∧(∃i,P.info? e=some i∧i.bytes≤128)∧K (.bsl S.bx.length 0 n.toNat 1) (S.addB (.cells (List.replicate n.toNat (ofC z0)) e))
   | _=>False
  | _=>False
 | _,_,_=>False
theorem VRs.replicate {G:Gh}{fr:Frs}{w:World}{e:AV}{v:Value}(h:VR G fr w e v):∀n,VRs G fr w (List.replicate n e) (List.replicate n v)
 | 0=>rfl
 | n+1=>by
  simp only[List.replicate_succ]
  exact⟨_,_,rfl,h,VRs.replicate h n⟩
theorem makeSliceK_sound {P:Program}{L:World→Prop}{w0:Orig L}{G:Gh}{S:St}{w:World}(hS:RelS w0 G S w){t:TypeId}{l c:AV}{lv cv:Value}(hl:VR G S.fr w l lv)(hc:VR G S.fr w c cv){K:AV→St→Prop}(h:makeSliceK P S t l c K) :
  OutK w0 G S w K ((Instr.makeSlice t lv cv).run P w):=by
 unfold makeSliceK at h
 split at h
 ·rename_i e k n k' m hsl
  have hund:P.underlying t=some (.slice e):=by
   unfold tslice at hsl;split at hsl
   ·rename_i hh;simp at hsl;subst hsl;exact hh
   ·cases hsl
  obtain rfl:lv=_:=hl
  obtain rfl:cv=_:=hc
  split at h
  ·rename_i z hz
   split at h
   ·rename_i z0 hz0
    obtain⟨rfl,hn0,hn1,⟨i,hi,hby⟩,hK⟩:=h
    simp only[NonNeg]at hn0
    simp only[hi,Option.map_some,Option.some.injEq,Prod.mk.injEq,Option.map_eq_some_iff]at hz
    obtain⟨⟨zv,hzv,hzc⟩,hsize⟩:=hz
    have hzz:zv.cells=#[z0]:=by rw[hzc];apply Array.ext';simpa using hz0
    have hbytes:(i.bytes:Int)*n≤281474976710656:=by
     have h1:(i.bytes:Int)≤128:=by omega
     have:=Int.mul_le_mul h1 hn1 hn0 (by omega)
     omega
    have hr:=run_make (P:=P) w t e i zv hund hi hzv k k' n n hn0 (Int.le_refl _) hbytes (by omega)
    rw[hr]
    have hcells:(madeCells zv.cells (n.toNat*i.size)).toList=List.replicate n.toNat z0:=by
     rw[hzz,hsize,Nat.mul_one]
     apply List.ext_getElem
     ·simp[madeCells]
     ·intro j h1 h2
      simp[madeCells,Nat.mod_one]
    obtain⟨G',h1,h2,h3⟩:=hS.box (.cells (List.replicate n.toNat (ofC z0)) e) (.cells (madeCells zv.cells (n.toNat*i.size)) e) ⟨_,rfl,by
      have:=congrArg List.length hcells
      simpa using this,by rw[hcells,List.length_replicate,List.take_of_length_le (by simp)];exact VRs.replicate (VR_ofC _ _ _ _) _⟩
    refine⟨_,_,G',_,.bsl S.bx.length 0 n.toNat 1,rfl,h1,h2,⟨w.heap.size,_,n.toNat,_,e,h3,heap_alloc_new w _,rfl,Nat.le_refl _,?_,fun _=>rfl⟩,hK⟩
    have:=congrArg List.length hcells
    simp at this
    omega
   ·exact h.elim
  ·exact h.elim
 ·exact h.elim
open Go Go.RowKit
def intFs (P:Program):Nat→List Field→Bool
 | _,[]=>true
 | i,f :: fs=>(f.name != "_")&&(f.offset==i)&&(match P.underlying f.type with|some (.int .i64)=>true|_=>false)&&intFs P (i+1) fs
def tkey (P:Program)(t:TypeId):Option (Option Nat):=match P.underlying t with
 | some (.int .i64)=>some none
 | some (.array n e)=>match P.underlying e,tsz P e with
  | some (.int .i64),some 1=>some (some n)
  | _,_=>none
 | some (.struct fs)=>match P.stoodInHeld t,intFs P 0 fs.toList with
  | false,true=>some (some fs.size)
  | _,_=>none
 | _=>none
def tmap (P:Program)(t:TypeId):Option (Option Nat×TypeId):=match P.underlying t with
 | some (.map k e)=>(tkey P k).map fun s=>(s,e)
 | _=>none
theorem keyVal_agg {n:Nat}(l:List Int):keyVal (some n) l=.agg (l.map (Value.int .i64)).toArray:=rfl
theorem run_part_int {P:Program}{e:TypeId}(hu:P.underlying e=some (.int .i64))(w:World)(l:List Int)(i:Nat){x:Int}(hx:l[i]? = some x) :
  (part e (l.map (Value.int .i64)).toArray i).run P w=.ok (.int .i64 x) w:=by
 have ha:tagg P e=some false:=by simp[tagg,hu]
 simp[part,run_isAgg ha,hx]
theorem run_check_int {P:Program}{e:TypeId}(hu:P.underlying e=some (.int .i64))(w:World)(b:Bool)(n:Nat)(x:Int):(Instr.checkKey b (n+1) e (.int .i64 x)).run P w=.ok () w:=by
 simp[Instr.checkKey,run_underlying hu]
theorem intFs_get {P:Program}:∀{fs:List Field} {i:Nat},intFs P i fs=true→∀j f,fs[j]? = some f→f.name ≠ "_" ∧ f.offset=i+j∧P.underlying f.type=some (.int .i64)
 | [],_,_,_,_,h=>by simp at h
 | g :: fs,i,h,j,f,hj=>by
  simp only[intFs,Bool.and_eq_true,bne_iff_ne,ne_eq,beq_iff_eq]at h
  obtain⟨⟨⟨h1,h2⟩,h3⟩,h4⟩:=h
  cases j with
  | zero=>
   simp at hj;subst hj
   refine⟨h1,by omega,?_⟩
   split at h3
   ·rename_i hh;exact hh
   ·cases h3
  | succ j=>
   obtain⟨a,b,c⟩:=intFs_get h4 j f (by simpa using hj)
   exact⟨a,by omega,c⟩
theorem run_checkKey {P:Program}{t:TypeId}{sh:Option Nat}(ht:tkey P t=some sh)(w:World)(b:Bool)(l:List Int)(hl:keyLen sh l):(Instr.checkKey b 10000 t (keyVal sh l)).run P w=.ok () w:=by
 unfold tkey at ht
 split at ht
 ·rename_i hu
  simp at ht;subst ht
  exact run_check_int hu w b 9999 _
 ·rename_i n e hu
  split at ht
  ·rename_i hue hse
   simp at ht;subst ht
   have hl:l.length=n:=hl
   rw[keyVal_agg,show(10000:Nat)=9999+1 from rfl,Instr.checkKey]
   simp only[Sem.run_bind,run_underlying hu,Result.andThen_ok]
   simp only[Std.Legacy.Range.forIn_eq_forIn_range',Std.Legacy.Range.size,Nat.sub_zero,Nat.add_one_sub_one,Nat.div_one]
   have each:∀j∈List.range' 0 n,j < l.length:=fun j hj=>by simp at hj;omega
   generalize List.range' 0 n=is at each
   induction is with
   | nil=>simp
   | cons j is ih=>
    have hj:=each j (by simp)
    have p1:=run_part_int hue w l j (List.getElem?_eq_getElem hj)
    simp only[List.forIn_cons,Sem.run_bind,run_sizeOf hse,Result.andThen_ok,Nat.mul_one,p1,run_check_int hue w b 9998,Sem.run_pure]
    exact ih (fun y hy=>each y (by simp[hy]))
  ·cases ht
 ·rename_i fs hu
  split at ht
  ·rename_i hst hfs
   simp at ht;subst ht
   have hl:l.length=fs.size:=hl
   rw[keyVal_agg,show(10000:Nat)=9999+1 from rfl,Instr.checkKey]
   simp only[Sem.run_bind,run_underlying hu,Result.andThen_ok]
   rw[←Array.forIn_toList]
   have each:∀f∈fs.toList,f.name ≠ "_" ∧ f.offset < l.length∧P.underlying f.type=some (.int .i64):=fun f hf=>by
    obtain⟨j,hj⟩:=List.getElem?_of_mem hf
    obtain⟨a,b,c⟩:=intFs_get hfs j f hj
    have:=(List.getElem?_eq_some_iff.1 hj).1
    simp at this
    exact⟨a,by omega,c⟩
   generalize fs.toList=L at each
   induction L with
   | nil=>simp
   | cons f L ih=>
    obtain⟨hn,ho,hu2⟩:=each f (by simp)
    have p1:=run_part_int hu2 w l f.offset (List.getElem?_eq_getElem ho)
    simp only[List.forIn_cons,Sem.run_bind,hn,ne_eq,not_false_eq_true,if_true,Result.andThen_ok,p1,run_check_int hu2 w b 9998,Sem.run_pure]
    exact ih (fun y hy=>each y (by simp[hy]))
  ·cases ht
 ·cases ht
theorem list_ext_len {a b:List Int}(h:a.length=b.length):(a==b)=(List.range a.length).all fun i=>a[i]?==b[i]?:=by
 rw[Bool.eq_iff_iff]
 simp only[beq_iff_eq,List.all_eq_true,List.mem_range]
 constructor
 ·rintro rfl _ _;rfl
 ·intro hh
  apply List.ext_getElem?
  intro i
  by_cases hi:i < a.length
  ·exact hh i hi
  ·rw[List.getElem?_eq_none (by omega),List.getElem?_eq_none (by omega)]
theorem run_eq_key {P:Program}{t:TypeId}{sh:Option Nat}(ht:tkey P t=some sh)(w:World)(a b:List Int)(ha:keyLen sh a)(hb:keyLen sh b)(d:Nat):(Op.equalIn (d+2) t (keyVal sh a) (keyVal sh b)).run P w=.ok (a==b) w:=by
 unfold tkey at ht
 split at ht
 ·rename_i hu
  simp at ht;subst ht
  have ha:a.length=1:=ha
  have hb:b.length=1:=hb
  obtain⟨x,rfl⟩:=List.length_eq_one_iff.1 ha
  obtain⟨y,rfl⟩:=List.length_eq_one_iff.1 hb
  rw[show keyVal none [x] = .int .i64 x from rfl,show keyVal none [y] = .int .i64 y from rfl,run_equalIn_int w (d+1) t .i64 .i64 x y hu]
  simp
 ·rename_i n e hu
  split at ht
  ·rename_i hue hse
   simp at ht;subst ht
   have ha:a.length=n:=ha
   have hb:b.length=n:=hb
   obtain⟨i,hi⟩:∃i,P.info? e=some i:=by
    unfold tsz at hse
    cases hh:P.info? e with
    | none=>simp[hh]at hse
    | some i=>exact⟨i,rfl⟩
   have hc:P.cellsOf e=1:=by
    unfold tsz at hse
    simp[hi]at hse
    simp[Program.cellsOf,hi,hse]
   rw[keyVal_agg,keyVal_agg,run_equalIn_array w (d+1) _ _ hu hi,hc,list_ext_len (by omega),ha]
   have each:∀j∈List.range n,j < a.length∧j < b.length:=fun j hj=>by simp at hj;omega
   generalize List.range n=is at each
   induction is with
   | nil=>simp[Op.eqItems]
   | cons j is ih=>
    obtain⟨h1,h2⟩:=each j (by simp)
    have p1:=run_part_int hue w a j (List.getElem?_eq_getElem h1)
    have p2:=run_part_int hue w b j (List.getElem?_eq_getElem h2)
    simp only[Op.eqItems,Nat.mul_one,Sem.run_bind,p1,p2,Result.andThen_ok,run_equalIn_int w d e .i64 .i64 _ _ hue,List.all_cons]
    rw[List.getElem?_eq_getElem h1,List.getElem?_eq_getElem h2]
    have hs:((some a[j]==some b[j]):Bool)=(a[j]==b[j]):=rfl
    rw[hs]
    cases hr:(a[j]==b[j])
    ·simp
    ·simp only[Bool.not_true,Bool.false_eq_true,if_false,Bool.true_and]
     exact ih (fun y hy=>each y (by simp[hy]))
  ·cases ht
 ·rename_i fs hu
  split at ht
  ·rename_i hst hfs
   simp at ht;subst ht
   have ha:a.length=fs.size:=ha
   have hb:b.length=fs.size:=hb
   have hfo:P.fieldsOf t=fs:=by simp[Program.fieldsOf,hu]
   rw[keyVal_agg,keyVal_agg,run_equalIn_struct w (d+1) t _ _ (by rw[hfo];exact hu) hst,hfo]
   have key:∀(L:List Field) (k:Nat),intFs P k L=true→k+L.length=a.length→(Op.eqFields (d+1) (a.map (Value.int .i64)).toArray (b.map (Value.int .i64)).toArray L).run P w=.ok (a.drop k==b.drop k) w:=by
    intro L
    induction L with
    | nil=>
     intro k _ hk
     simp at hk
     rw[List.drop_of_length_le (by omega),List.drop_of_length_le (by omega)]
     simp[Op.eqFields]
    | cons f L ih=>
     intro k hf hk
     obtain⟨hn,ho,hu2⟩:=intFs_get hf 0 f rfl
     simp at hk
     have h1:k < a.length:=by omega
     have h2:k < b.length:=by omega
     have ho:f.offset=k:=by omega
     have p1:=run_part_int hu2 w a k (List.getElem?_eq_getElem h1)
     have p2:=run_part_int hu2 w b k (List.getElem?_eq_getElem h2)
     simp only[Op.eqFields,hn,ne_eq,not_false_eq_true,if_true,Sem.run_bind,ho,p1,p2,Result.andThen_ok,run_equalIn_int w d f.type .i64 .i64 _ _ hu2]
     rw[List.drop_eq_getElem_cons h1,List.drop_eq_getElem_cons h2,List.cons_beq_cons]
     cases hr:(a[k]==b[k])
     ·simp
     ·simp only[Bool.not_true,Bool.false_eq_true,if_false,Bool.true_and]
      refine ih (k+1) ?_ (by omega)
      simp only[intFs,Bool.and_eq_true]at hf
      exact hf.2
   have:=key fs.toList 0 hfs (by simp;omega)
   simpa using this
  ·cases ht
 ·cases ht
def posOf:List (List Int)→List Int→Option Nat
 | [],_=>none
 | k :: ks,x=>if k=x then some 0 else(posOf ks x).map (·+1)
def assoc (ks:List (List Int))(vs:List AV)(x:List Int):Option AV:=(posOf ks x).bind fun i=>vs[i]?
def setKs (ks:List (List Int))(x:List Int):List (List Int):=match posOf ks x with
 | some _=>ks
 | none=>ks++[x]
def setVs (ks:List (List Int))(vs:List AV)(x:List Int)(v:AV):List AV:=match posOf ks x with
 | some i=>vs.set i v
 | none=>vs++[v]
theorem posOf_some:∀{ks:List (List Int)} {x:List Int} {i:Nat},posOf ks x=some i→ks[i]? = some x
 | [],_,_,h=>by simp[posOf]at h
 | k :: ks,x,i,h=>by
  unfold posOf at h
  split at h
  ·rename_i e;simp at h;subst h;simp[e]
  ·simp only[Option.map_eq_some_iff]at h
   obtain⟨j,hj,rfl⟩:=h
   simpa using posOf_some hj
theorem posOf_none:∀{ks:List (List Int)} {x:List Int},posOf ks x=none↔x ∉ ks
 | [],_=>by simp[posOf]
 | k :: ks,x=>by
  unfold posOf
  split
  ·rename_i e;simp[e]
  ·rename_i e
   simp only[Option.map_eq_none_iff,posOf_none (ks:=ks),List.mem_cons,not_or]
   exact⟨fun h=>⟨fun h'=>e h'.symm,h⟩,fun h=>h.2⟩
theorem find_ok {P:Program}{t:TypeId}{sh:Option Nat}(ht:tkey P t=some sh)(w:World)(x:List Int)(hx:keyLen sh x):∀(es:List MapEntry) (ks:List (List Int)) (i:Nat),es.map (·.key)=ks.map (keyVal sh)→(∀k∈ks,keyLen sh k) →
  match posOf ks x with
  | some j=>∃e,es[j]? = some e∧(Instr.findAsking t (keyVal sh x) es i).run P w=.ok (some (i+j,e.val)) w
  | none=>(Instr.findAsking t (keyVal sh x) es i).run P w=.ok none w
 | [],[],i,_,_=>by simp[posOf,Instr.findAsking]
 | [],_ :: _,_,h,_=>by simp at h
 | _ :: _,[],_,h,_=>by simp at h
 | e :: es,k :: ks,i,h,hl=>by
  simp only[List.map_cons,List.cons.injEq]at h
  have ih:=find_ok ht w x hx es ks (i+1) h.2 fun k' hk=>hl k' (by simp[hk])
  have he:(Op.equal t (keyVal sh x) e.key).run P w=.ok (x==k) w:=by rw[h.1];exact run_eq_key ht w x k hx (hl k (by simp)) 9998
  unfold posOf
  by_cases hxk:k=x
  ·subst hxk
   simp only[if_true]
   refine⟨e,rfl,?_⟩
   simp[Instr.findAsking,he]
  ·rw[if_neg hxk]
   have hne:(x==k)=false:=by simpa using fun h=>hxk h.symm
   cases hp:posOf ks x with
   | none=>
    rw[hp]at ih
    simp only[Option.map_none]
    simpa[Instr.findAsking,he,hne] using ih
   | some j=>
    rw[hp]at ih
    obtain⟨e',h1,h2⟩:=ih
    simp only[Option.map_some]
    refine⟨e',by simpa using h1,?_⟩
    simp only[Instr.findAsking,Sem.run_bind,he,hne,Result.andThen_ok,Bool.false_eq_true,if_false,h2]
    congr 3;omega
theorem findNow_int {x:Int}{kd:IntKind}:∀(es:List MapEntry) (ks:List (List Int)) (i:Nat),es.map (·.key)=ks.map (keyVal none)→(∀k∈ks,keyLen none k) →
  match posOf ks [x] with
  | some j=>∃e,es[j]? = some e∧Instr.findNow (.int kd) (.int .i64 x) es i=some (some (i+j,e.val))
  | none=>Instr.findNow (.int kd) (.int .i64 x) es i=some none
 | [],[],i,_,_=>by simp[posOf,Instr.findNow]
 | [],_ :: _,_,h,_=>by simp at h
 | _ :: _,[],_,h,_=>by simp at h
 | e :: es,k :: ks,i,h,hl=>by
  simp only[List.map_cons,List.cons.injEq]at h
  have ih:=findNow_int (x:=x) (kd:=kd) es ks (i+1) h.2 fun k' hk=>hl k' (by simp[hk])
  have hk1:k.length=1:=hl k (by simp)
  obtain⟨y,rfl⟩:=List.length_eq_one_iff.1 hk1
  have hkey:e.key=.int .i64 y:=h.1
  unfold posOf
  by_cases hxy:y=x
  ·subst hxy
   simp only[if_true]
   exact⟨e,rfl,by simp[Instr.findNow,Instr.sameNow,hkey]⟩
  ·have hne:(x==y)=false:=by simpa using fun h=>hxy h.symm
   rw[if_neg (by simpa using hxy)]
   cases hp:posOf ks [x] with
   | none=>
    rw[hp]at ih
    simp only[Option.map_none]
    simpa[Instr.findNow,Instr.sameNow,hkey,hne] using ih
   | some j=>
    rw[hp]at ih
    obtain⟨e',h1,h2⟩:=ih
    simp only[Option.map_some]
    refine⟨e',by simpa using h1,?_⟩
    simp only[Instr.findNow,Instr.sameNow,hkey,hne,if_true]
    rw[h2]
    congr 3;omega
theorem findKey_ok {P:Program}{t:TypeId}{sh:Option Nat}(ht:tkey P t=some sh)(w:World)(x:List Int)(hx:keyLen sh x)(es:List MapEntry)(ks:List (List Int))(h:es.map (·.key)=ks.map (keyVal sh))(hl:∀k∈ks,keyLen sh k) :
  match posOf ks x with
  | some j=>∃e,es[j]? = some e∧(Instr.findKey t (keyVal sh x) es).run P w=.ok (some (j,e.val)) w
  | none=>(Instr.findKey t (keyVal sh x) es).run P w=.ok none w:=by
 by_cases hu:P.underlying t=some (.int .i64)
 ·have hsh:sh=none:=by unfold tkey at ht;rw[hu]at ht;simpa using ht.symm
  subst hsh
  have hx1:x.length=1:=hx
  obtain⟨y,rfl⟩:=List.length_eq_one_iff.1 hx1
  have:=findNow_int (x:=y) (kd:=.i64) es ks 0 h hl
  split at this
  ·obtain⟨e,h1,h2⟩:=this
   refine⟨e,h1,?_⟩
   simp only[Instr.findKey,Sem.run_bind,run_underlying hu,Result.andThen_ok,keyVal,List.headD_cons,h2,Nat.zero_add,Sem.run_pure]
  ·rename_i hp
   simp only[Instr.findKey,Sem.run_bind,run_underlying hu,Result.andThen_ok,keyVal,List.headD_cons,this,Sem.run_pure]
 ·have hw:(Instr.findKey t (keyVal sh x) es).run P w=(Instr.findAsking t (keyVal sh x) es).run P w:=by
   unfold tkey at ht
   split at ht
   ·rename_i hu';exact absurd hu' hu
   ·rename_i n e hu2
    cases es with
    | nil=>simp[Instr.findKey,run_underlying hu2,Instr.findNow,Instr.findAsking]
    | cons e es=>simp[Instr.findKey,run_underlying hu2,Instr.findNow,Instr.sameNow]
   ·rename_i fs hu2
    cases es with
    | nil=>simp[Instr.findKey,run_underlying hu2,Instr.findNow,Instr.findAsking]
    | cons e es=>simp[Instr.findKey,run_underlying hu2,Instr.findNow,Instr.sameNow]
   ·cases ht
  rw[hw]
  have:=find_ok ht w x hx es ks 0 h hl
  split at this
  ·obtain⟨e,h1,h2⟩:=this
   exact⟨e,h1,by simpa using h2⟩
  ·exact this
def intsOf:List AV→Option (List Int)
 | []=>some []
 | .int .i64 n :: l=>(intsOf l).map (n :: ·)
 | _=>none
def keyInts (sh:Option Nat):AV→Option (List Int)
 | .int .i64 n=>match sh with
  | none=>some [n]
  | some _=>none
 | .agg cs=>match sh with
  | none=>none
  | some k=>match cs.length==k,intsOf cs with
   | true,some l=>some l
   | _,_=>none
 | _=>none
theorem intsOf_sound {G:Gh}{fr:Frs}{w:World}:∀{cs:List AV} {l:List Int} {vs:List Value},intsOf cs=some l→VRs G fr w cs vs→vs=l.map (Value.int .i64)∧l.length=cs.length
 | [],l,vs,h,hv=>by simp[intsOf]at h;subst h;simp[VRs]at hv;simp[hv]
 | c :: cs,l,vs,h,hv=>by
  obtain⟨u,us,rfl,h1,h2⟩:=hv
  unfold intsOf at h
  split at h
  ·rename_i h';cases h'
  ·rename_i n l' he
   injection he with he1 he2
   subst he1;subst he2
   simp only[Option.map_eq_some_iff]at h
   obtain⟨l2,h3,rfl⟩:=h
   obtain⟨rfl,h5⟩:=intsOf_sound h3 h2
   obtain rfl:u=_:=h1
   exact⟨rfl,by simp[h5]⟩
  ·cases h
theorem keyInts_sound {sh:Option Nat}{k:AV}{x:List Int}(h:keyInts sh k=some x){G:Gh}{fr:Frs}{w:World}{v:Value}(hv:VR G fr w k v):v=keyVal sh x∧keyLen sh x:=by
 unfold keyInts at h
 split at h
 ·split at h
  ·simp at h;subst h
   obtain rfl:v=_:=hv
   exact⟨rfl,rfl⟩
  ·cases h
 ·rename_i cs
  split at h
  ·cases h
  ·rename_i n
   split at h
   ·rename_i l hn hl
    simp at h;subst h
    obtain⟨vs,rfl,hvs⟩:=hv
    obtain⟨h1,h2⟩:=intsOf_sound hl hvs
    refine⟨?_,?_⟩
    ·rw[keyVal_agg,←h1]
    ·show l.length=n
     rw[h2];simpa using hn
   ·cases h
 ·cases h
def OptK {α:Type}(o:Option α)(A:α→Prop)(B:Prop):Prop:=match o with
 | some v=>A v
 | none=>B
def zeroAV (P:Program)(t:TypeId):Option AV:=match (P.info? t).bind (·.zero) with
 | some (.agg vs)=>some (.agg (vs.toList.map ofC))
 | some z=>some (ofC z)
 | none=>none
theorem zeroAV_sound {P:Program}{t:TypeId}{z:AV}(h:zeroAV P t=some z)(G:Gh)(fr:Frs)(w:World):∃v,(zeroValue t).run P w=.ok v w∧VR G fr w z v:=by
 unfold zeroAV at h
 cases hi:P.info? t with
 | none=>simp[hi]at h
 | some i=>
  cases hz:i.zero with
  | none=>simp[hi,hz]at h
  | some v=>
   refine⟨v,by simp[zeroValue,typeInfo,hi,hz],?_⟩
   simp only[hi,Option.bind_some,hz]at h
   split at h
   ·rename_i vs e;injection e with e;subst e
    simp at h;subst h
    exact⟨vs,rfl,VRs.ofCs _ _ _ _⟩
   ·rename_i e;injection e with e;subst e
    simp at h;subst h
    exact VR_ofC _ _ _ _
   ·cases h
def mapOf (S:St)(sh:Option Nat):AV→Option (List (List Int)×List AV)
 | .mp id=>match S.bx[id]? with
  | some (.map sh' ks vs)=>match sh,sh' with
   | none,none=>some (ks,vs)
   | some a,some b=>match a==b with
    | true=>some (ks,vs)
    | false=>none
   | _,_=>none
  | _=>none
 | .cmp sh' ks vs=>match sh,sh' with
  | none,none=>some (ks,vs)
  | some a,some b=>match a==b with
   | true=>some (ks,vs)
   | false=>none
  | _,_=>none
 | .nilm=>some ([],[])
 | _=>none
theorem sh_same {sh sh':Option Nat}{α:Type}{x y:α}(h:(match sh,sh' with
  | none,none=>some x
  | some a,some b=>match a==b with
   | true=>some x
   | false=>none
  | _,_=>none)=some y):sh=sh'∧x=y:=by
 split at h
 ·simp at h;exact⟨rfl,h⟩
 ·rename_i a b
  split at h
  ·rename_i e;simp at h e;exact⟨by rw[e],h⟩
  ·cases h
 ·cases h
theorem mapOf_sound {L:World→Prop}{w0:Orig L}{G:Gh}{S:St}{w:World}(hS:RelS w0 G S w){sh:Option Nat}{m:AV}{ks:List (List Int)}{vs:List AV}(h:mapOf S sh m=some (ks,vs)){v:Value}(hv:VR G S.fr w m v) :
  (v=.map none∧ks=[]∧vs=[])∨∃b es cl,v=.map (some b)∧w.heap[b]? = some (.map es cl)∧KeysOk sh ks es cl∧VRs G S.fr w vs (es.toList.map (·.val)):=by
 unfold mapOf at h
 split at h
 ·rename_i id
  split at h
  ·rename_i sh' ks' vs' hb
   obtain⟨rfl,e⟩:=sh_same h
   simp at e
   obtain⟨rfl,rfl⟩:=e
   obtain⟨b,hr,rfl⟩:=hv
   obtain⟨b',ob,hr',hheap,es,cl,rfl,hk,hvs⟩:=hS.bx id _ hb rfl
   rw[hr]at hr';injection hr' with hr';subst hr'
   exact .inr ⟨b,es,cl,rfl,hheap,hk,hvs⟩
  ·cases h
 ·rename_i sh' ks' vs'
  obtain⟨rfl,e⟩:=sh_same h
  simp at e
  obtain⟨rfl,rfl⟩:=e
  obtain⟨b,es,cl,rfl,hb,hok,hheap,hk,hvs⟩:=hv
  exact .inr ⟨b,es,cl,rfl,hheap,hk,VR.unpure_aux.2 _ hvs⟩
 ·simp at h
  obtain⟨rfl,rfl⟩:=h
  exact .inl ⟨hv,rfl,rfl⟩
 ·cases h
def mapOfL (S:St)(sh:Option Nat):AV→Option (List (List Int)×List AV)
 | .mp id=>match S.bx[id]? with
  | some (.map sh' ks vs)=>match sh,sh' with
   | none,none=>some (ks,vs)
   | some a,some b=>match a==b with
    | true=>some (ks,vs)
    | false=>none
   | _,_=>none
  | some (.mapE sh' ks vs _ _)=>match sh,sh' with
   | none,none=>some (ks,vs)
   | some a,some b=>match a==b with
    | true=>some (ks,vs)
    | false=>none
   | _,_=>none
  | _=>none
 | .cmp sh' ks vs=>match sh,sh' with
  | none,none=>some (ks,vs)
  | some a,some b=>match a==b with
   | true=>some (ks,vs)
   | false=>none
  | _,_=>none
 | .nilm=>some ([],[])
 | _=>none
theorem mapOfL_sound {L:World→Prop}{w0:Orig L}{G:Gh}{S:St}{w:World}(hS:RelS w0 G S w){sh:Option Nat}{m:AV}{ks:List (List Int)}{vs:List AV}(h:mapOfL S sh m=some (ks,vs)){v:Value}(hv:VR G S.fr w m v) :
  (v=.map none∧ks=[]∧vs=[])∨∃b es cl,v=.map (some b)∧w.heap[b]? = some (.map es cl)∧KeysOk sh ks es cl∧VRs G S.fr w vs (es.toList.map (·.val)):=by
 by_cases he:mapOf S sh m=some (ks,vs)
 ·exact mapOf_sound hS he hv
 unfold mapOfL at h
 split at h
 ·rename_i id
  split at h
  ·rename_i sh' ks' vs' hb
   exact absurd (by simp only[mapOf,hb];exact h) he
  ·rename_i sh' ks' vs' i n hb
   obtain⟨rfl,e⟩:=sh_same h
   simp at e
   obtain⟨rfl,rfl⟩:=e
   obtain⟨b,hr,rfl⟩:=hv
   obtain⟨b',ob,hr',hheap,es,cl,rfl,hk,hvs,_⟩:=hS.bx id _ hb rfl
   rw[hr]at hr';injection hr' with hr';subst hr'
   exact .inr ⟨b,es,cl,rfl,hheap,hk,hvs⟩
  ·cases h
 ·exact absurd h he
 ·exact absurd h he
 ·cases h
def lkOut (c:Bool)(v:AV)(ok:Bool)(K:AV→Prop):Prop:=match c with
 | true=>K (.tup [v,.bool ok])
 | false=>v.force K
def lookupK (P:Program)(S:St)(t:TypeId)(m k:AV)(c:Bool)(K:AV→Prop):Prop:=
 match tmap P t with
 | some (sh,e)=>match keyInts sh k,mapOfL S sh m,zeroAV P e with
  | some x,some (ks,vs),some z=>OptK (assoc ks vs x) (fun v=>lkOut c v true K) (lkOut c z false K)
  | _,_,_=>False
 | none=>False
theorem tmap_spec {P:Program}{t:TypeId}{sh:Option Nat}{e:TypeId}(h:tmap P t=some (sh,e)):∃k,P.underlying t=some (.map k e)∧tkey P k=some sh:=by
 unfold tmap at h
 split at h
 ·rename_i k e' hu
  simp only[Option.map_eq_some_iff]at h
  obtain⟨s,h1,h2⟩:=h
  simp at h2
  obtain⟨rfl,rfl⟩:=h2
  exact⟨k,hu,h1⟩
 ·cases h
theorem lookupK_sound {P:Program}{L:World→Prop}{w0:Orig L}{G:Gh}{S:St}{w:World}(hS:RelS w0 G S w){t:TypeId}{m k:AV}{c:Bool}{K:AV→Prop}{mv kv:Value}(hm:VR G S.fr w m mv)(hk:VR G S.fr w k kv)(h:lookupK P S t m k c K) :
  ∃e r,K e∧VR G S.fr w e r∧(Instr.lookup t mv kv c).run P w=.ok r w:=by
 unfold lookupK at h
 split at h
 ·rename_i sh e ht
  obtain⟨kt,hu,hkt⟩:=tmap_spec ht
  split at h
  ·rename_i x ks vs z hx hmo hz
   obtain⟨rfl,hlen⟩:=keyInts_sound hx hk
   obtain⟨zv,hzr,hzv⟩:=zeroAV_sound hz G S.fr w
   have out:∀(v:AV) (vv:Value) (ok:Bool),VR G S.fr w v vv→lkOut c v ok K→∃e r,K e∧VR G S.fr w e r∧(if c=true then Value.tuple #[vv,.bool ok] else vv)=r:=by
    intro v vv ok hv hK
    cases c with
    | true=>exact⟨_,_,hK,⟨#[vv,.bool ok],rfl,vv,[.bool ok],rfl,hv,.bool ok,[],rfl,rfl,rfl⟩,rfl⟩
    | false=>rw[lkOut,AV.force_eq]at hK;exact⟨_,_,hK,hv,rfl⟩
   have zero:lkOut c z false K→∀(es:Array MapEntry),(Instr.findKey kt (keyVal sh x) es.toList).run P w=.ok none w→(∀(r:Option Nat),mv=.map r→(match r with|none=>es=#[]|some b=>∃cl,w.heap[b]? = some (.map es cl)))→(∃r,mv=.map r) →
     ∃e r,K e∧VR G S.fr w e r∧(Instr.lookup t mv (keyVal sh x) c).run P w=.ok r w:=by
    intro hK es hf hr ⟨r,hmv⟩
    obtain⟨e1,r1,h1,h2,h3⟩:=out z zv false hzv hK
    refine⟨e1,r1,h1,h2,?_⟩
    have hr2:=hr r hmv
    clear hr
    subst hmv
    cases r with
    | none=>
     have hr2:es=#[]:=hr2
     subst hr2
     simp only[Instr.lookup,Sem.run_bind,run_underlying hu,Result.andThen_ok,Sem.run_pure,run_checkKey hkt w _ x hlen,hf,hzr,h3]
    | some b=>
     obtain⟨cl,hheap⟩:=hr2
     have hg:(getObj b).run P w=.ok (.map es cl) w:=by simp[getObj,Sem.run,hheap]
     simp only[Instr.lookup,Sem.run_bind,run_underlying hu,Result.andThen_ok,hg,Sem.run_pure,run_checkKey hkt w _ x hlen,hf,hzr,h3]
   rcases mapOfL_sound hS hmo hm with ⟨rfl,rfl,rfl⟩|⟨b,es,cl,rfl,hheap,hok,hvs⟩
   ·have h:lkOut c z false K:=h
    refine zero h #[] ?_ (fun r hr=>by injection hr with hr;subst hr;rfl) ⟨_,rfl⟩
    exact findKey_ok hkt w x hlen [] [] rfl (by simp)
   ·have hf:=findKey_ok hkt w x hlen es.toList ks hok.keys hok.len
    have hlv:=hvs.length
    simp only[List.length_map,Array.length_toList]at hlv
    cases hp:posOf ks x with
    | none=>
     rw[hp]at hf
     have h:lkOut c z false K:=by simpa[assoc,hp,OptK] using h
     exact zero h es hf (fun r hr=>by injection hr with hr;subst hr;exact⟨cl,hheap⟩) ⟨_,rfl⟩
    | some j=>
     rw[hp]at hf
     obtain⟨en,he,hf⟩:=hf
     have hj:j < vs.length:=by
      have:=(List.getElem?_eq_some_iff.1 he).1
      simp at this;omega
     obtain⟨u,hu1,hu2⟩:=hvs.get (List.getElem?_eq_getElem hj)
     simp only[List.getElem?_map,he,Option.map_some]at hu1
     injection hu1 with hu1
     have h:lkOut c vs[j] true K:=by simpa[assoc,hp,OptK,hj] using h
     obtain⟨e1,r1,h1,h2,h3⟩:=out _ u true hu2 h
     refine⟨e1,r1,h1,h2,?_⟩
     have hg:(getObj b).run P w=.ok (.map es cl) w:=by simp[getObj,Sem.run,hheap]
     simp only[Instr.lookup,Sem.run_bind,run_underlying hu,Result.andThen_ok,hg,Sem.run_pure,run_checkKey hkt w _ x hlen,hf,hu1,h3]
  ·exact h.elim
 ·exact h.elim
def makeMapK (P:Program)(S:St)(t:TypeId)(K:AV→St→Prop):Prop:=
 match tmap P t with
 | some (sh,_)=>K (.mp S.bx.length) (S.addB (.map sh [] []))
 | none=>False
theorem makeMapK_sound {P:Program}{L:World→Prop}{w0:Orig L}{G:Gh}{S:St}{w:World}(hS:RelS w0 G S w){t:TypeId}{K:AV→St→Prop}(h:makeMapK P S t K):OutK w0 G S w K ((Instr.makeMap t none).run P w):=by
 unfold makeMapK at h
 split at h
 ·rename_i sh e ht
  obtain⟨G',h1,h2,h3⟩:=hS.box (.map sh [] []) (.map #[] 0) ⟨#[],0,rfl,⟨rfl,by simp,by simp,by simp,by simp⟩,rfl⟩
  exact⟨.map (some w.heap.size),_,G',_,.mp S.bx.length,run_makeMap_plain w t,h1,h2,⟨_,h3,rfl⟩,h⟩
 ·exact h.elim
def mapUpdK (P:Program)(S:St)(t:TypeId)(m k v:AV)(K:AV→St→Prop):Prop:=
 match m,tmap P t with
 | .mp id,some (sh,_)=>match keyInts sh k,mapOf S sh (.mp id) with
  | some x,some (ks,vs)=>K .undef (S.setB id (.map sh (setKs ks x) (setVs ks vs x v)))
  | _,_=>False
 | _,_=>False
theorem sameBits_key {sh:Option Nat}{x:List Int}:Instr.sameBits 10000 (keyVal sh x) (keyVal sh x)=true:=by
 cases sh with
 | none=>simp[keyVal,Instr.sameBits]
 | some n=>
  rw[keyVal_agg,Instr.sameBits]
  simp only[beq_self_eq_true,Bool.true_and,List.all_eq_true]
  intro p hp
  obtain⟨i,hi⟩:=List.getElem?_of_mem hp
  rw[List.getElem?_zip_eq_some]at hi
  obtain⟨h1,h2⟩:=hi
  rw[h1]at h2
  obtain⟨a,b⟩:=p
  simp at h1 h2
  subst h2
  obtain⟨y,_,rfl⟩:=h1
  simp[Instr.sameBits]
theorem list_modify_eq {α:Type}(f:α→α):∀(l:List α) (i:Nat) (e:α),l[i]? = some e→l.modify i f=l.set i (f e)
 | [],_,_,h=>by simp at h
 | a :: l,0,e,h=>by simp at h;subst h;simp
 | a :: l,i+1,e,h=>by
  have:=list_modify_eq f l i e (by simpa using h)
  simpa using this
theorem VRs.set {G:Gh}{fr:Frs}{w:World}{e:AV}{u:Value}(h:VR G fr w e u):∀{es:List AV} {vs:List Value} (i:Nat),VRs G fr w es vs→VRs G fr w (es.set i e) (vs.set i u)
 | [],_,_,hh=>by simp[VRs]at hh;subst hh;simp[VRs]
 | _ :: _,_,0,hh=>by
  obtain⟨u',us,rfl,_,h2⟩:=hh
  exact⟨u,us,rfl,h,h2⟩
 | _ :: _,_,i+1,hh=>by
  obtain⟨u',us,rfl,h1,h2⟩:=hh
  exact⟨u',us.set i u,rfl,h1,VRs.set h i h2⟩
theorem mapUpdK_sound {P:Program}{L:World→Prop}{w0:Orig L}{G:Gh}{S:St}{w:World}(hS:RelS w0 G S w){t:TypeId}{m k v:AV}{K:AV→St→Prop}{mv kv vv:Value}(hm:VR G S.fr w m mv)(hk:VR G S.fr w k kv)(hv:VR G S.fr w v vv)(h:mapUpdK P S t m k v K) :
  ∃w' G' S',(Instr.mapUpdate t mv kv vv).run P w=.ok () w'∧RelS w0 G' S' w'∧KeepD G S.fr w G' S'.fr w'∧K .undef S':=by
 unfold mapUpdK at h
 split at h
 ·rename_i id sh e ht
  obtain⟨kt,hu,hkt⟩:=tmap_spec ht
  split at h
  ·rename_i x ks vs hx hmo
   obtain⟨rfl,hlen⟩:=keyInts_sound hx hk
   have hbx:S.bx[id]? = some (.map sh ks vs):=by
    simp only[mapOf]at hmo
    split at hmo
    ·rename_i sh' ks' vs' hb
     obtain⟨rfl,e⟩:=sh_same hmo
     simp at e
     obtain⟨rfl,rfl⟩:=e
     exact hb
    ·cases hmo
   obtain⟨b,hr,rfl⟩:=hm
   obtain⟨b',ob,hr',hheap,es,cl,rfl,hok,hvs⟩:=hS.bx id _ hbx rfl
   rw[hr]at hr';injection hr' with hr';subst hr'
   have hblt:=(Array.getElem?_eq_some_iff.1 hheap).1
   have hf:=findKey_ok hkt w x hlen es.toList ks hok.keys hok.len
   have hlv:=hvs.length
   simp only[List.length_map,Array.length_toList]at hlv
   have hkl:ks.length=es.size:=by
    have:=congrArg List.length hok.keys
    simpa using this.symm
   have hg:(getObj b).run P w=.ok (.map es cl) w:=by simp[getObj,Sem.run,hheap]
   have hset:∀(o:Obj),(setObj b o).run P w=.ok () (w.putObj b o):=fun o=>by simp[setObj,Sem.run,hheap,World.putObj]
   have fin:∀(es':Array MapEntry) (cl':Nat),KeysOk sh (setKs ks x) es' cl'→VRs G S.fr w (setVs ks vs x v) (es'.toList.map (·.val))→(Instr.mapUpdate t (.map (some b)) (keyVal sh x) vv).run P w=.ok () (w.putObj b (.map es' cl')) →
     ∃w' G' S',(Instr.mapUpdate t (.map (some b)) (keyVal sh x) vv).run P w=.ok () w'∧RelS w0 G' S' w'∧KeepD G S.fr w G' S'.fr w'∧K .undef S':=by
    intro es' cl' h1 h2 h3
    obtain⟨k1,k2⟩:=hS.setBox ⟨_,hbx,rfl⟩ hr hheap (.map sh (setKs ks x) (setVs ks vs x v)) (.map es' cl') (fun _ _ hh=>by cases hh) (by simp) (fun _ hh=>by cases hh) ⟨es',cl',rfl,h1,h2⟩ (w.putObj b (.map es' cl')) (by simp) rfl rfl rfl
     (World.putObj_heap_same hblt) (fun k hk=>World.putObj_heap_other hk)
    exact⟨_,G,_,h3,k1,k2,h⟩
   cases hp:posOf ks x with
   | some j=>
    rw[hp]at hf
    obtain⟨en,he,hf⟩:=hf
    have hks:=posOf_some hp
    have hej:es[j]? = some en:=by simpa using he
    have hkey:en.key=keyVal sh x:=by
     have:=congrArg (·[j]?) hok.keys
     simp only[List.getElem?_map,he,hks,Option.map_some]at this
     exact Option.some.inj this
    have hmod:(es.modify j fun e=>{e with key:=keyVal sh x,val:=vv}).toList=es.toList.set j {en with key:=keyVal sh x,val:=vv}:=by
     rw[Array.toList_modify]
     exact list_modify_eq (fun e:MapEntry=>{e with key:=keyVal sh x,val:=vv}) _ _ _ he
    have hjl:j < es.toList.length:=(List.getElem?_eq_some_iff.1 he).1
    refine fin (es.modify j fun e=>{e with key:=keyVal sh x,val:=vv}) cl ?_ ?_ ?_
    ·have e1:setKs ks x=ks:=by simp[setKs,hp]
     rw[e1]
     refine⟨?_,hok.nd,hok.len,fun e' he'=>?_,?_⟩
     ·rw[hmod,List.map_set,←hok.keys]
      exact set_self (by simp[he,hkey])
     ·rw[hmod]at he'
      rcases List.mem_or_eq_of_mem_set he' with he'|rfl
      ·exact hok.lt _ he'
      ·exact hok.lt en (List.mem_of_getElem? he)
     ·rw[hmod,List.map_set]
      rw[set_self (by simp[he])]
      exact hok.bn
    ·have e1:setVs ks vs x v=vs.set j v:=by simp[setVs,hp]
     rw[e1,hmod,List.map_set]
     exact VRs.set hv j hvs
    ·simp only[Instr.mapUpdate,Sem.run_bind,run_underlying hu,Result.andThen_ok,hg,run_checkKey hkt w _ x hlen,hf,Instr.keyThatStays,hej,Option.map_some,Option.getD_some,hkey,sameBits_key,if_true,Sem.run_pure,hset]
   | none=>
    rw[hp]at hf
    have hnew:=posOf_none.1 hp
    refine fin (es.push {key:=keyVal sh x,val:=vv,born:=cl}) (cl+1) ?_ ?_ ?_
    ·have e1:setKs ks x=ks++[x]:=by simp[setKs,hp]
     rw[e1]
     refine⟨by simp[hok.keys],?_,fun k hk=>?_,fun e' he'=>?_,?_⟩
     ·rw[List.nodup_append]
      exact⟨hok.nd,by simp,fun a ha b hb=>by simp at hb;subst hb;rintro rfl;exact hnew ha⟩
     ·simp at hk
      rcases hk with hk|rfl
      ·exact hok.len k hk
      ·exact hlen
     ·simp at he'
      rcases he' with he'|rfl
      ·have:=hok.lt e' (by simpa using he');omega
      ·simp
     ·simp only[Array.toList_push,List.map_append,List.map_cons,List.map_nil]
      rw[List.nodup_append]
      refine⟨hok.bn,by simp,fun a ha b hb=>?_⟩
      simp at hb;subst hb
      obtain⟨e',he',rfl⟩:=List.mem_map.1 ha
      have:=hok.lt e' he'
      omega
    ·have e1:setVs ks vs x v=vs++[v]:=by simp[setVs,hp]
     rw[e1]
     simp only[Array.toList_push,List.map_append,List.map_cons,List.map_nil]
     exact hvs.append ⟨vv,[],rfl,hv,rfl⟩
    ·simp only[Instr.mapUpdate,Sem.run_bind,run_underlying hu,Result.andThen_ok,hg,run_checkKey hkt w _ x hlen,hf,hset]
  ·exact h.elim
 ·exact h.elim
def mapEntryK (P:Program)(S:St)(t:TypeId)(m k:AV)(K:AV→St→Prop):Prop:=
 match m,tmap P t with
 | .mp id,some (sh,e)=>match keyInts sh k,mapOf S sh (.mp id),zeroAV P e with
  | some x,some (ks,vs),some z=>∀n:Nat,OptK (posOf ks x) (fun i=>OptK vs[i]? (fun v=>K (.tup [v,.int .i64 n]) (S.setB id (.mapE sh ks vs i n))) True) (K (.tup [z,.int .i64 n]) (S.setB id (.mapE sh (ks++[x]) (vs++[z]) ks.length n)))
  | _,_,_=>False
 | _,_=>False
def entryStoreK (S:St)(m s v:AV)(K:AV→St→Prop):Prop:=
 match m,s with
 | .mp id,.int .i64 n'=>match S.bx[id]? with
  | some (.mapE sh ks vs i n)=>n'=n∧K .undef (S.setB id (.map sh ks (vs.set i v)))
  | _=>False
 | _,_=>False
theorem mapEntryK_sound {P:Program}{L:World→Prop}{w0:Orig L}{G:Gh}{S:St}{w:World}(hS:RelS w0 G S w){t:TypeId}{m k:AV}{K:AV→St→Prop}{mv kv:Value}(hm:VR G S.fr w m mv)(hk:VR G S.fr w k kv)(h:mapEntryK P S t m k K) :
  OutK w0 G S w K ((Instr.mapEntry t mv kv).run P w):=by
 unfold mapEntryK at h
 split at h
 ·rename_i id sh e ht
  obtain⟨kt,hu,hkt⟩:=tmap_spec ht
  split at h
  ·rename_i x ks vs z hx hmo hz
   obtain⟨rfl,hlen⟩:=keyInts_sound hx hk
   have hbx:S.bx[id]? = some (.map sh ks vs):=by
    simp only[mapOf]at hmo
    split at hmo
    ·rename_i sh' ks' vs' hb
     obtain⟨rfl,e⟩:=sh_same hmo
     simp at e
     obtain⟨rfl,rfl⟩:=e
     exact hb
    ·cases hmo
   obtain⟨b,hr,rfl⟩:=hm
   obtain⟨b',ob,hr',hheap,es,cl,rfl,hok,hvs⟩:=hS.bx id _ hbx rfl
   rw[hr]at hr';injection hr' with hr';subst hr'
   have hblt:=(Array.getElem?_eq_some_iff.1 hheap).1
   have hf:=findKey_ok hkt w x hlen es.toList ks hok.keys hok.len
   have hkl:ks.length=es.size:=by
    have:=congrArg List.length hok.keys
    simpa using this.symm
   have hlv:vs.length=es.size:=by
    have:=hvs.length
    simpa using this.symm
   have hg:(getObj b).run P w=.ok (.map es cl) w:=by simp[getObj,Sem.run,hheap]
   have hset:∀(o:Obj),(setObj b o).run P w=.ok () (w.putObj b o):=fun o=>by simp[setObj,Sem.run,hheap,World.putObj]
   have fin:∀(ks':List (List Int)) (vs':List AV) (i n:Nat) (es':Array MapEntry) (cl':Nat) (r:AV) (rv:Value),KeysOk sh ks' es' cl'→VRs G S.fr w vs' (es'.toList.map (·.val))→(es'.toList.map (·.born))[i]? = some n→VR G S.fr w r rv →
     (Instr.mapEntry t (.map (some b)) (keyVal sh x)).run P w=.ok (.tuple #[rv,.int .i64 n]) (w.putObj b (.map es' cl'))→K (.tup [r,.int .i64 n]) (S.setB id (.mapE sh ks' vs' i n)) →
     OutK w0 G S w K ((Instr.mapEntry t (.map (some b)) (keyVal sh x)).run P w):=by
    intro ks' vs' i n es' cl' r rv h1 h2 h3 h4 h5 hK
    obtain⟨k1,k2⟩:=hS.setBox ⟨_,hbx,rfl⟩ hr hheap (.mapE sh ks' vs' i n) (.map es' cl') (fun _ _ hh=>by cases hh) (by simp) (fun _ hh=>by cases hh) ⟨es',cl',rfl,h1,h2,h3⟩ (w.putObj b (.map es' cl')) (by simp) rfl rfl rfl
     (World.putObj_heap_same hblt) (fun k hk=>World.putObj_heap_other hk)
    exact⟨_,_,G,_,.tup [r,.int .i64 n],h5,k1,k2,⟨_,rfl,rv,_,rfl,VR.keep k2.toKeep _ h4,⟨.int .i64 n,[],rfl,rfl,rfl⟩⟩,hK⟩
   cases hp:posOf ks x with
   | some j=>
    rw[hp]at hf
    obtain⟨en,he,hf⟩:=hf
    have hks:=posOf_some hp
    have hej:es[j]? = some en:=by simpa using he
    have hkey:en.key=keyVal sh x:=by
     have:=congrArg (·[j]?) hok.keys
     simp only[List.getElem?_map,he,hks,Option.map_some]at this
     exact Option.some.inj this
    have hmod:(es.modify j fun e=>{e with key:=keyVal sh x}).toList=es.toList:=by
     rw[Array.toList_modify]
     rw[list_modify_eq (fun e:MapEntry=>{e with key:=keyVal sh x}) _ _ _ he]
     exact set_self (by rw[he,←hkey])
    have hjl:j < es.toList.length:=(List.getElem?_eq_some_iff.1 he).1
    have hjv:j < vs.length:=by simp at hjl;omega
    obtain⟨v,hv⟩:∃v,vs[j]? = some v:=⟨_,List.getElem?_eq_getElem hjv⟩
    obtain⟨u,hu1,hu2⟩:=hvs.get hv
    have hue:u=en.val:=by
     simp only[List.getElem?_map,he,Option.map_some]at hu1
     exact(Option.some.inj hu1).symm
    subst hue
    have hh:=h en.born
    rw[hp]at hh
    simp only[OptK,hv]at hh
    refine fin ks vs j en.born (es.modify j fun e=>{e with key:=keyVal sh x}) cl v en.val ?_ ?_ ?_ hu2 ?_ hh
    ·exact⟨by rw[hmod];exact hok.keys,hok.nd,hok.len,by rw[hmod];exact hok.lt,by rw[hmod];exact hok.bn⟩
    ·rw[hmod];exact hvs
    ·rw[hmod,List.getElem?_map,he];rfl
    ·simp only[Instr.mapEntry,Sem.run_bind,run_underlying hu,Result.andThen_ok,hg,run_checkKey hkt w _ x hlen,hf,Instr.keyThatStays,hej,Option.map_some,Option.getD_some,hkey,sameBits_key,if_true,Sem.run_pure,hset,goInt]
   | none=>
    rw[hp]at hf
    have hnew:=posOf_none.1 hp
    obtain⟨zv,hz1,hz2⟩:=zeroAV_sound hz G S.fr w
    have hh:=h cl
    rw[hp]at hh
    simp only[OptK]at hh
    refine fin (ks++[x]) (vs++[z]) ks.length cl (es.push {key:=keyVal sh x,val:=zv,born:=cl}) (cl+1) z zv ?_ ?_ ?_ hz2 ?_ hh
    ·refine⟨by simp[hok.keys],?_,fun k hk=>?_,fun e' he'=>?_,?_⟩
     ·rw[List.nodup_append]
      exact⟨hok.nd,by simp,fun a ha b hb=>by simp at hb;subst hb;rintro rfl;exact hnew ha⟩
     ·simp at hk
      rcases hk with hk|rfl
      ·exact hok.len k hk
      ·exact hlen
     ·simp at he'
      rcases he' with he'|rfl
      ·have:=hok.lt e' (by simpa using he');omega
      ·simp
     ·simp only[Array.toList_push,List.map_append,List.map_cons,List.map_nil]
      rw[List.nodup_append]
      refine⟨hok.bn,by simp,fun a ha b hb=>?_⟩
      simp at hb;subst hb
      obtain⟨e',he',rfl⟩:=List.mem_map.1 ha
      have:=hok.lt e' he'
      omega
    ·simp only[Array.toList_push,List.map_append,List.map_cons,List.map_nil]
     exact hvs.append ⟨zv,[],rfl,hz2,rfl⟩
    ·simp only[Array.toList_push,List.map_append,List.map_cons,List.map_nil]
     rw[List.getElem?_append_right (by simp;omega)]
     simp[hkl]
    ·simp only[Instr.mapEntry,Sem.run_bind,run_underlying hu,Result.andThen_ok,hg,run_checkKey hkt w _ x hlen,hf,hz1,hset,Sem.run_pure,goInt]
  ·exact h.elim
 ·exact h.elim
theorem findIdx_born {es:Array MapEntry}{i n:Nat}(hbn:(es.toList.map (·.born)).Nodup)(hi:(es.toList.map (·.born))[i]? = some n):es.findIdx? (fun e=>((e.born:Int)==(n:Int)))=some i:=by
 have hlt:i < es.size:=by have:=(List.getElem?_eq_some_iff.1 hi).1;simpa using this
 rw[Array.findIdx?_eq_some_iff_getElem]
 refine⟨hlt,?_,fun j hj=>?_⟩
 ·simp only[List.getElem?_map,Array.getElem?_toList,Array.getElem?_eq_getElem hlt,Option.map_some,Option.some.injEq]at hi
  simp[hi]
 ·have hjl:j < es.size:=by omega
  simp only[List.getElem?_map,Array.getElem?_toList,Array.getElem?_eq_getElem hlt,Option.map_some,Option.some.injEq]at hi
  simp only[beq_iff_eq,ne_eq]
  intro he
  have h1:(es.toList.map (·.born))[j]'(by simpa using hjl)=(es.toList.map (·.born))[i]'(by simpa using hlt):=by
   simp only[List.getElem_map,Array.getElem_toList]
   omega
  exact List.pairwise_iff_getElem.1 hbn j i (by simpa using hjl) (by simpa using hlt) hj h1
theorem entryStoreK_sound {P:Program}{L:World→Prop}{w0:Orig L}{G:Gh}{S:St}{w:World}(hS:RelS w0 G S w){t:TypeId}{m s v:AV}{K:AV→St→Prop}{mv sv vv:Value}(hm:VR G S.fr w m mv)(hs:VR G S.fr w s sv)(hv:VR G S.fr w v vv)(h:entryStoreK S m s v K) :
  ∃w' G' S',(Instr.entryStore t mv sv vv).run P w=.ok () w'∧RelS w0 G' S' w'∧KeepD G S.fr w G' S'.fr w'∧K .undef S':=by
 unfold entryStoreK at h
 split at h
 ·rename_i id n'
  split at h
  ·rename_i sh ks vs i n hbx
   obtain⟨rfl,hK⟩:=h
   obtain rfl:sv=.int .i64 n:=hs
   obtain⟨b,hr,rfl⟩:=hm
   obtain⟨b',ob,hr',hheap,es,cl,rfl,hok,hvs,hi⟩:=hS.bx id _ hbx rfl
   rw[hr]at hr';injection hr' with hr';subst hr'
   have hblt:=(Array.getElem?_eq_some_iff.1 hheap).1
   have hg:(getObj b).run P w=.ok (.map es cl) w:=by simp[getObj,Sem.run,hheap]
   have hset:∀(o:Obj),(setObj b o).run P w=.ok () (w.putObj b o):=fun o=>by simp[setObj,Sem.run,hheap,World.putObj]
   have hfi:=findIdx_born hok.bn hi
   have hlt:i < es.toList.length:=by have:=(List.getElem?_eq_some_iff.1 hi).1;simpa using this
   obtain⟨en,he⟩:∃en,es.toList[i]? = some en:=⟨_,List.getElem?_eq_getElem hlt⟩
   have hmod:(es.modify i fun e=>{e with val:=vv}).toList=es.toList.set i {en with val:=vv}:=by
    rw[Array.toList_modify]
    exact list_modify_eq (fun e:MapEntry=>{e with val:=vv}) _ _ _ he
   obtain⟨k1,k2⟩:=hS.setBox ⟨_,hbx,rfl⟩ hr hheap (.map sh ks (vs.set i v)) (.map (es.modify i fun e=>{e with val:=vv}) cl) (fun _ _ hh=>by cases hh) (by simp) (fun _ hh=>by cases hh) ⟨_,cl,rfl,by
     refine⟨?_,hok.nd,hok.len,fun e' he'=>?_,?_⟩
     ·rw[hmod,List.map_set,←hok.keys]
      exact set_self (by simp[he])
     ·rw[hmod]at he'
      rcases List.mem_or_eq_of_mem_set he' with he'|rfl
      ·exact hok.lt _ he'
      ·exact hok.lt en (List.mem_of_getElem? he)
     ·rw[hmod,List.map_set]
      rw[set_self (by simp[he])]
      exact hok.bn,by
     rw[hmod,List.map_set]
     exact VRs.set hv i hvs⟩ (w.putObj b (.map (es.modify i fun e=>{e with val:=vv}) cl)) (by simp) rfl rfl rfl
     (World.putObj_heap_same hblt) (fun k hk=>World.putObj_heap_other hk)
   refine⟨_,G,_,?_,k1,k2,hK⟩
   simp only[Instr.entryStore,Sem.run_bind,Result.andThen_ok,hg,asInt,asIntOf,Sem.run_pure,hfi,hset]
  ·exact h.elim
 ·exact h.elim
def lenMapK (S:St)(m:AV)(K:AV→Prop):Prop:=match m with
 | .mp id=>match S.bx[id]? with
  | some (.map _ ks _)=>K (.int .i64 ks.length)
  | _=>False
 | .cmp _ ks _=>K (.int .i64 ks.length)
 | _=>False
def isMapT (P:Program)(t:TypeId):Bool:=match P.underlying t with
 | some (.map _ _)=>true
 | _=>false
theorem lenMapK_sound {P:Program}{L:World→Prop}{w0:Orig L}{G:Gh}{S:St}{w:World}(hS:RelS w0 G S w){t ty:TypeId}{m:AV}{K:AV→Prop}{mv:Value}(hm:VR G S.fr w m mv)(ht:isMapT P t=true)(h:lenMapK S m K) :
  ∃e r,K e∧VR G S.fr w e r∧(Builtin.len_ #[t] ty #[mv]).run P w=.ok r w:=by
 have hu:∃k e,P.underlying t=some (.map k e):=by
  unfold isMapT at ht
  split at ht
  ·rename_i k e hh;exact⟨k,e,hh⟩
  ·cases ht
 obtain⟨k,e,hu⟩:=hu
 unfold lenMapK at h
 split at h
 ·rename_i id
  split at h
  ·rename_i sh ks vs hb
   obtain⟨b,hr,rfl⟩:=hm
   obtain⟨b',ob,hr',hheap,es,cl,rfl,hok,hvs⟩:=hS.bx id _ hb rfl
   rw[hr]at hr';injection hr' with hr';subst hr'
   have hkl:ks.length=es.size:=by
    have:=congrArg List.length hok.keys
    simpa using this.symm
   have hg:(getObj b).run P w=.ok (.map es cl) w:=by simp[getObj,Sem.run,hheap]
   exact⟨_,.int .i64 ks.length,h,rfl,by simp[Builtin.len_,run_underlying hu,hg,goInt,hkl]⟩
  ·exact h.elim
 ·rename_i sh ks vs
  obtain⟨b,es,cl,rfl,hb,hok1,hheap,hok,hvs⟩:=hm
  have hkl:ks.length=es.size:=by
   have:=congrArg List.length hok.keys
   simpa using this.symm
  have hg:(getObj b).run P w=.ok (.map es cl) w:=by simp[getObj,Sem.run,hheap]
  exact⟨_,.int .i64 ks.length,h,rfl,by simp[Builtin.len_,run_underlying hu,hg,goInt,hkl]⟩
 ·exact h.elim
open Go Go.RowKit
theorem RelS.exact {L:World→Prop}{w0:Orig L}{G:Gh}{S:St}{w:World}(hS:RelS w0 G S w){id off n sz:Nat}{u:Value}(h:exactB S id off n sz)(hu:VR G S.fr w (.bsl id off n sz) u):VR G S.fr w (.vsl id off n sz) u:=by
 unfold exactB at h
 split at h
 ·rename_i cs ty hb
  obtain⟨b,A,c,arr,t,hr,hheap,rfl,h2,h3,h4⟩:=hu
  obtain⟨b',ob,hr',hheap',arr',rfl,hasz,hvs⟩:=hS.bx id _ hb rfl
  rw[hr]at hr';injection hr' with hr';subst hr'
  rw[hheap]at hheap';injection hheap' with e1;injection e1 with e1;subst e1
  have:=Nat.mul_le_mul_right sz h2
  exact⟨b,A,c,arr,t,hr,hheap,rfl,h2,by omega,h4⟩
 ·exact h.elim
def flatE (es:List AV):List AV:=es.flatMap AV.cells
theorem MV.vrs {G:Gh}{fr:Frs}{w:World}:∀{es:List AV} {xs:List Value},MV G fr w es xs→VRs G fr w (flatE es) xs
 | [],xs,h=>by simp[MV]at h;subst h;simp[flatE,VRs]
 | e :: es,xs,h=>by
  obtain⟨u,us,rfl,hu,hn,h2⟩:=h
  simp only[flatE,List.flatMap_cons]
  exact(hu.cells hn).append (MV.vrs h2)
theorem flatE_len {sz:Nat}:∀{es:List AV},(∀e∈es,e.ncells=sz)→(flatE es).length=es.length*sz
 | [],_=>by simp[flatE]
 | e :: es,h=>by
  have h1:=h e (by simp)
  have h2:=flatE_len (es:=es) fun x hx=>h x (by simp[hx])
  simp only[flatE,List.flatMap_cons,List.length_append,List.length_cons,Nat.add_mul]at h2 ⊢
  unfold AV.ncells at h1
  omega
theorem flatE_cell {sz:Nat}{es:List AV}(h:Els sz es):(flatE es).all AV.isCell=true:=by
 rw[List.all_eq_true]
 intro c hc
 obtain⟨e,he,hce⟩:=List.mem_flatMap.1 hc
 exact List.all_eq_true.1 (h e he).2 c hce
theorem VRs.one {G:Gh}{fr:Frs}{w:World}{vs:List AV}{us:List Value}(h:VRs G fr w vs us)(hall:vs.all AV.isCell=true):∀u∈us,u.oneCell'=true:=by
 intro u hu'
 obtain⟨i,hi⟩:=List.getElem?_of_mem hu'
 have hl:=h.length
 have hil:i < vs.length:=by
  have:=(List.getElem?_eq_some_iff.1 hi).1
  omega
 obtain⟨u',hu2,hr2⟩:=h.get (List.getElem?_eq_getElem hil)
 rw[hi]at hu2;injection hu2 with hu2;subst hu2
 exact hr2.oneCell (List.all_eq_true.1 hall _ (List.getElem_mem hil))
theorem RelS.storeC {P:Program}{L:World→Prop}{w0:Orig L}{G:Gh}{S:St}{w:World}(hS:RelS w0 G S w){id b:Nat}{cs:List AV}{ty:TypeId}(hb:S.bx[id]? = some (.cells cs ty))(hr:G.ρ id=some b){vs:List AV}{us:List Value}(off:Nat)(hv:VRs G S.fr w vs us)(hall:vs.all AV.isCell=true)
  (hle:off+vs.length≤cs.length):∃w',(storeCells ⟨b,off,none⟩ us).run P w=.ok () w'∧RelS w0 G (S.setB id (.cells (splice cs off vs) ty)) w'∧KeepD G S.fr w G S.fr w':=by
 obtain⟨b',ob,hr',hheap,arr,rfl,hasz,hvs⟩:=hS.bx id _ hb rfl
 rw[hr]at hr';injection hr' with hr';subst hr'
 have hlen:=hvs.length
 have hl2:=hv.length
 have hst:=run_storeCells_at P b off ty us 0 arr w hheap (by simp only[Nat.add_zero];simp at hlen;omega) (hv.one hall)
 simp only[Nat.add_zero]at hst
 have hmin:cs.length≤arr.size:=by simp at hlen;omega
 have hset:=hS.setBox ⟨_,hb,rfl⟩ hr hheap (.cells (splice cs off vs) ty) (.cells (arr.toList.take off++us++arr.toList.drop (off+us.length)).toArray ty) (fun arr0 t0 h0=>by
   injection h0 with h1 h2 h3;subst h1;subst h2
   exact⟨_,rfl,by simp;omega⟩) (by simp) (by simp) (splice_or hvs hv hle hmin (by simpa using hasz) hl2)
  (w.setRow b (arr.toList.take off++us++arr.toList.drop (off+us.length)).toArray) (by simp[World.setRow]) rfl rfl rfl
  (setRow_heap w b arr _ ty _ hheap) (fun k hk=>setRow_other w b k _ hk)
 exact⟨_,hst,hset.1,hset.2⟩
def repL (n:Nat)(zs:List AV):List AV:=(List.replicate n zs).flatten
theorem repL_len (n:Nat)(zs:List AV):(repL n zs).length=n*zs.length:=by simp[repL]
theorem zeroCells_vrs {G:Gh}{fr:Frs}{w:World}{z:Value}{n:Nat}(h0:0 < z.cells.size):VRs G fr w (repL n (z.cells.toList.map ofC)) (Builtin.zeroCells z.cells n).toList:=by
 have e:(Builtin.zeroCells z.cells n).toList=(List.replicate n z.cells.toList).flatten:=by
  apply List.ext_getElem?
  intro i
  rw[Array.getElem?_toList]
  by_cases hi:i < n*z.cells.size
  ·have h1:(Builtin.zeroCells z.cells n)[i]? = some z.cells[i % z.cells.size]!:=by simp[Builtin.zeroCells,hi]
   have hm:i % z.cells.size < z.cells.size:=Nat.mod_lt _ h0
   rw[h1,getElem!_pos z.cells _ hm]
   have:∀(m:Nat) (i:Nat),i < m*z.cells.size→((List.replicate m z.cells.toList).flatten)[i]? = some (z.cells[i % z.cells.size]'(Nat.mod_lt _ h0)):=by
    intro m
    induction m with
    | zero=>intro i hi;simp at hi
    | succ m ih=>
     intro i hi
     rw[List.replicate_succ,List.flatten_cons]
     by_cases hc:i < z.cells.size
     ·rw[List.getElem?_append_left (by simpa using hc)]
      simp[Nat.mod_eq_of_lt hc,hc]
     ·rw[List.getElem?_append_right (by simp;omega)]
      rw[Nat.add_mul]at hi
      have:=ih (i-z.cells.size) (by omega)
      rw[Array.length_toList,this]
      congr 2
      rw[Nat.mod_eq_sub_mod (by omega:i≥z.cells.size)]
   rw[this n i hi]
  ·rw[Array.getElem?_eq_none (by rw[size_zeroCells];omega),List.getElem?_eq_none (by simp;omega)]
 rw[e]
 induction n with
 | zero=>simp[repL,VRs]
 | succ n ih=>
  have ih:=ih (by
   apply List.ext_getElem?
   intro i
   have hx:=congrArg (·[i]?) e
   clear hx
   rw[Array.getElem?_toList]
   by_cases hi:i < n*z.cells.size
   ·have h1:(Builtin.zeroCells z.cells n)[i]? = some z.cells[i % z.cells.size]!:=by simp[Builtin.zeroCells,hi]
    have h2:(Builtin.zeroCells z.cells (n+1))[i]? = some z.cells[i % z.cells.size]!:=by
     have:i < (n+1)*z.cells.size:=by rw[Nat.add_mul];omega
     simp[Builtin.zeroCells,this]
    have h3:=congrArg (·[i]?) e
    simp only[Array.getElem?_toList,h2]at h3
    rw[h1]
    have h4:((List.replicate (n+1) z.cells.toList).flatten)[i]? = ((List.replicate n z.cells.toList).flatten)[i]?:=by
     rw[List.replicate_succ',List.flatten_append,List.getElem?_append_left (by simpa using hi)]
    rw[←h4];exact h3
   ·rw[Array.getElem?_eq_none (by rw[size_zeroCells];omega),List.getElem?_eq_none (by simp;omega)])
  simp only[repL,List.replicate_succ,List.flatten_cons]at ih ⊢
  exact(VRs.ofCs G fr w z.cells.toList).append ih
def clearK (P:Program)(S:St)(t:TypeId)(id off n sz:Nat)(K:AV→St→Prop):Prop:=
 match tslice P t with
 | some e=>match tzero P e,S.bx[id]? with
  | some zs,some (.cells cs ty)=>(zs.length=sz∧zs.all AV.isCell=true∧1≤sz∧off+n*sz≤cs.length)∧K (.tup []) (S.setB id (.cells (splice cs off (repL n zs)) ty))
  | _,_=>False
 | none=>False
theorem splice_nil (cs:List AV)(off:Nat):splice cs off [] = cs:=by
 induction cs generalizing off with
 | nil=>cases off<;>rfl
 | cons c cs ih=>cases off with
  | zero=>rfl
  | succ n=>simp[splice,ih]
theorem St.setB_self {S:St}{id:Nat}{o:Ob}(h:S.bx[id]? = some o):S.setB id o=S:=by
 unfold St.setB
 rw[set_self h]
theorem clearK_sound {P:Program}{L:World→Prop}{w0:Orig L}{G:Gh}{S:St}{w:World}(hS:RelS w0 G S w){t ty:TypeId}{id off n sz:Nat}{K:AV→St→Prop}{u:Value}(hu:VR G S.fr w (.vsl id off n sz) u)(h:clearK P S t id off n sz K) :
  OutK w0 G S w K ((Builtin.clear_ #[t] ty #[u]).run P w):=by
 unfold clearK at h
 split at h
 ·rename_i e hs
  have hund:P.underlying t=some (.slice e):=by
   unfold tslice at hs;split at hs
   ·rename_i hh;simp at hs;subst hs;exact hh
   ·cases hs
  split at h
  ·rename_i zs cs ty' hz hb
   obtain⟨⟨h1,h2,h3,h4⟩,hK⟩:=h
   unfold tzero at hz
   simp only[Option.map_eq_some_iff,Option.bind_eq_some_iff]at hz
   obtain⟨z,⟨i,hi,hzv⟩,rfl⟩:=hz
   have hzr:(zeroValue e).run P w=.ok z w:=by simp[zeroValue,typeInfo,hi,hzv]
   obtain⟨b,A,c,arr,tt,hr,hheap,rfl,hc,hcap,hA⟩:=hu
   by_cases h0:n=0
   ·subst h0
    have hrun:(Builtin.clear_ #[t] ty #[.slice A 0 c]).run P w=.ok (.tuple #[]) w:=by
     cases A<;>simp[Builtin.clear_,run_underlying hund]
    rw[hrun]
    have e1:S.setB id (.cells (splice cs off (repL 0 (z.cells.toList.map ofC))) ty')=S:=by
     rw[show repL 0 (z.cells.toList.map ofC)=[] from rfl,splice_nil];exact St.setB_self hb
    rw[e1]at hK
    exact OutK.same hS (e:=.tup []) ⟨#[],rfl,rfl⟩ hK
   ·have hA':=hA (by omega)
    subst hA'
    simp at h1
    have hv:=zeroCells_vrs (G:=G) (fr:=S.fr) (w:=w) (z:=z) (n:=n) (by omega)
    have hall:(repL n (z.cells.toList.map ofC)).all AV.isCell=true:=by
     rw[List.all_eq_true]
     intro x hx
     obtain⟨l,hl,hxl⟩:=List.mem_flatten.1 hx
     rw[List.eq_of_mem_replicate hl]at hxl
     exact List.all_eq_true.1 h2 x hxl
    obtain⟨w',g1,g2,g3⟩:=hS.storeC (P:=P) hb hr off hv hall (by rw[repL_len];simp[h1];exact h4)
    have hrun:(Builtin.clear_ #[t] ty #[.slice (some ⟨b,off,none⟩) n c]).run P w=.ok (.tuple #[]) w':=by
     obtain⟨m,rfl⟩:∃m,n=m+1:=⟨n-1,by omega⟩
     simp[Builtin.clear_,run_underlying hund,hzr,g1]
    rw[hrun]
    exact⟨_,_,G,_,.tup [],rfl,g2,g3,⟨#[],rfl,rfl⟩,hK⟩
  ·exact h.elim
 ·exact h.elim
def capK (P:Program)(S:St)(t:TypeId)(id off sz:Nat)(K:AV→Prop):Prop:=
 match tslice P t,S.bx[id]? with
 | some _,some (.cells cs _)=>∀c:Nat,off+c*sz=cs.length→K (.int .i64 c)
 | _,_=>False
theorem capK_sound {P:Program}{L:World→Prop}{w0:Orig L}{G:Gh}{S:St}{w:World}(hS:RelS w0 G S w){t ty:TypeId}{id off n sz:Nat}{K:AV→Prop}{u:Value}(hu:VR G S.fr w (.vsl id off n sz) u)(h:capK P S t id off sz K) :
  ∃e r,K e∧VR G S.fr w e r∧(Builtin.cap_ #[t] ty #[u]).run P w=.ok r w:=by
 unfold capK at h
 split at h
 ·rename_i x1 x2 e cs ty' hs hb
  have hund:P.underlying t=some (.slice e):=by
   unfold tslice at hs;split at hs
   ·rename_i hh;simp at hs;subst hs;exact hh
   ·cases hs
  obtain⟨b,A,c,arr,tt,hr,hheap,rfl,hc,hcap,hA⟩:=hu
  obtain⟨b',ob,hr',hheap',arr',rfl,hasz,hvs⟩:=hS.bx id _ hb rfl
  rw[hr]at hr';injection hr' with hr';subst hr'
  rw[hheap]at hheap';injection hheap' with e1;injection e1 with e1;subst e1
  exact⟨_,.int .i64 c,h c (by omega),rfl,by simp[Builtin.cap_,run_underlying hund,goInt]⟩
 ·exact h.elim
def srcCells (S:St)(sz cnt:Nat):AV→Option (List AV)
 | .vsl id off _ sz'=>match S.bx[id]? with
  | some (.cells cs _)=>if sz'=sz then some ((cs.drop off).take (cnt*sz)) else none
  | _=>none
 | x=>x.elems.map fun es=>flatE (es.take cnt)
def srcLen:AV→Option Nat
 | .vsl _ _ n _=>some n
 | x=>x.elems.map List.length
def srcOk (sz:Nat):AV→Prop
 | .vsl _ _ _ _=>True
 | x=>match x.elems with
  | some es=>Els sz es
  | none=>False
def copyK (P:Program)(S:St)(t:TypeId)(d s:AV)(K:AV→St→Prop):Prop:=
 match d,(tslice P t).bind (tsz P),srcLen s with
 | .vsl id off n sz,some k,some m=>k=sz∧srcOk sz s∧1≤sz∧match S.bx[id]?,srcCells S sz (min m n) s with
  | some (.cells cs ty),some l=>(l.length=min m n*sz∧l.all AV.isCell=true∧off+l.length≤cs.length)∧K (.int .i64 (min m n:Nat)) (S.setB id (.cells (splice cs off l) ty))
  | _,_=>False
 | _,_,_=>False
theorem copyK_sound {P:Program}{L:World→Prop}{w0:Orig L}{G:Gh}{S:St}{w:World}(hS:RelS w0 G S w){t t2 ty:TypeId}{d s:AV}{K:AV→St→Prop}{du su:Value}(hd:VR G S.fr w d du)(hs:VR G S.fr w s su)(h:copyK P S t d s K) :
  OutK w0 G S w K ((Builtin.copy_ #[t,t2] ty #[du,su]).run P w):=by
 unfold copyK at h
 split at h
 ·rename_i id off n sz k m htk hm
  obtain⟨rfl,hok,hsz1,h⟩:=h
  obtain⟨el,hsl,hsz⟩:=Option.bind_eq_some_iff.1 htk
  have hund:P.underlying t=some (.slice el):=by
   unfold tslice at hsl;split at hsl
   ·rename_i hh;simp at hsl;subst hsl;exact hh
   ·cases hsl
  split at h
  ·rename_i cs ty' l hb hl
   obtain⟨⟨hll,hall,hle⟩,hK⟩:=h
   obtain⟨b,A,c,arr,tt,hr,hheap,rfl,hc,hcap,hA⟩:=hd
   have src:∃sA sc xs,su=.slice sA m sc∧VRs G S.fr w l xs∧(Builtin.firstCells k (min m n) su).run P w=.ok xs.toArray w:=by
    cases s with
    | vsl id2 off2 n2 sz2=>
     simp only[srcLen,Option.some.injEq]at hm
     subst hm
     simp only[srcCells]at hl
     split at hl
     ·rename_i cs2 ty2 hb2
      split at hl
      ·rename_i hsz2
       subst hsz2
       simp at hl;subst hl
       obtain⟨b2,A2,c2,arr2,tt2,hr2,hheap2,rfl,hc2,hcap2,hA2⟩:=hs
       obtain⟨b',ob,hr',hheap',arr',rfl,hasz,hvs⟩:=hS.bx id2 _ hb2 rfl
       rw[hr2]at hr';injection hr' with hr';subst hr'
       rw[hheap2]at hheap';injection hheap' with e1;injection e1 with e1;subst e1
       have hv:=(hvs.drop off2).take (min n2 n*sz2)
       refine⟨A2,c2,_,rfl,hv,?_⟩
       by_cases h0:0 < c2
       ·have hA2':=hA2 h0
        subst hA2'
        refine run_firstCells_some w sz2 (min n2 n) _ n2 c2 _ (by rw[hv.length];exact hll) fun j v hj=>?_
        rw[Addr.add_lit,cell_of_row w b2 (off2+j) arr2 tt2 (0,0) hheap2]
        rw[List.getElem?_take]at hj
        split at hj
        ·rw[List.getElem?_drop]at hj;exact take_get hj
        ·cases hj
       ·have hn0:n2=0:=by omega
        subst hn0
        have hnil:((List.take cs2.length arr2.toList).drop off2).take (min 0 n*sz2)=[]:=by simp
        rw[hnil]
        cases A2 with
        | none=>simp[Builtin.firstCells]
        | some a=>simp[Builtin.firstCells,loadCells,loadCellsFrom]
      ·cases hl
     ·cases hl
    | _=>
     simp only[srcLen,srcCells,srcOk,Option.map_eq_some_iff]at hm hl hok
     obtain⟨es,hes,rfl⟩:=hm
     obtain⟨es',hes',rfl⟩:=hl
     rw[hes]at hes';injection hes' with hes';subst hes'
     rw[hes]at hok
     have hE:Els k es:=hok
     obtain⟨sA,sc,rfl,hsc,hsA⟩:=hs.elems hes
     by_cases h0:es=[]
     ·subst h0
      refine⟨sA,sc,[],rfl,by simp[flatE,VRs],?_⟩
      cases sA with
      | none=>simp[Builtin.firstCells]
      | some a=>simp[Builtin.firstCells,loadCells,loadCellsFrom]
     ·obtain⟨b2,o2,sz2,rfl,hb2,hu2,hok2,hm2⟩:=hsA h0
      obtain⟨xs,hmv,hcell⟩:=(hm2.take (min es.length n)).toMV
      have hEt:∀e∈es.take (min es.length n),e.ncells=k:=fun e he=>(hE e (List.mem_of_mem_take he)).1
      have hxl:xs.length=min es.length n*k:=by rw[hmv.length,tot_uni hEt];simp
      refine⟨_,sc,xs,rfl,VR.unpure_aux.2 _ hmv.vrs,?_⟩
      exact run_firstCells_some w k (min es.length n) _ es.length sc xs hxl fun j v hj=>by rw[Addr.add_lit];exact hcell j v hj
   obtain⟨sA,sc,xs,rfl,hv,hf⟩:=src
   have hxl:=hv.length
   by_cases h0:0 < c
   ·have hA':=hA h0
    subst hA'
    obtain⟨w',g1,g2,g3⟩:=hS.storeC (P:=P) hb hr off hv hall hle
    have hrun:(Builtin.copy_ #[t,t2] ty #[.slice (some ⟨b,off,none⟩) n c,.slice sA m sc]).run P w=.ok (.int .i64 (min m n:Nat)) w':=by
     have:Nat.min m n=min m n:=rfl
     simp[Builtin.copy_,run_underlying hund,Builtin.lenOf,run_sizeOf hsz,this,hf,g1,goInt]
    rw[hrun]
    exact⟨_,_,G,_,.int .i64 (min m n:Nat),rfl,g2,g3,rfl,hK⟩
   ·have hn0:n=0:=by omega
    subst hn0
    have hl0:l=[]:=List.eq_nil_of_length_eq_zero (by rw[hll];simp)
    subst hl0
    have hx0:xs=[]:=List.eq_nil_of_length_eq_zero (by rw[hxl];rfl)
    subst hx0
    rw[splice_nil,St.setB_self hb]at hK
    have hrun:(Builtin.copy_ #[t,t2] ty #[.slice A 0 c,.slice sA m sc]).run P w=.ok (.int .i64 (min m 0:Nat)) w:=by
     have:Nat.min m 0=min m 0:=rfl
     have hf':(Builtin.firstCells k 0 (.slice sA m sc)).run P w=.ok #[] w:=by simpa using hf
     cases A with
     | none=>simp[Builtin.copy_,run_underlying hund,Builtin.lenOf,run_sizeOf hsz,hf',goInt]
     | some a=>
      simp[Builtin.copy_,run_underlying hund,Builtin.lenOf,run_sizeOf hsz,hf',goInt,storeCells]
    rw[hrun]
    exact OutK.same hS (e:=.int .i64 (min m 0:Nat)) rfl hK
  ·exact h.elim
 ·exact h.elim
open Go Go.RowKit
structure AppK (c:Prop)(A B:Prop):Prop where
 room:c→A
 grow:¬c→B
theorem RelS.drewV {L:World→Prop}{w0:Orig L}{G:Gh}{S:St}{w:World}(h:RelS w0 G S w):RelS w0 G S w.drew∧KeepD G S.fr w G S.fr w.drew:=by
 have hb:Below w.heap.size w w.drew:=⟨rfl,rfl,rfl,Nat.le_refl _,fun _ _=>rfl⟩
 have:=h.of_below hb G.ok (fun _ _ _=>Iff.rfl) h.dn
 exact this
theorem RelS.rowC {L:World→Prop}{w0:Orig L}{G:Gh}{S:St}{w:World}(hS:RelS w0 G S w){id b:Nat}{cs:List AV}{ty:TypeId}{arr:Array Value}(hb:S.bx[id]? = some (.cells cs ty))(hr:G.ρ id=some b)(hheap:w.heap[b]? = some (.cells arr ty (0,0)))(hasz:arr.size=cs.length)(hvs:VRs G S.fr w cs (arr.toList.take cs.length)){vs:List AV}{us:List Value}(off:Nat)(hv:VRs G S.fr w vs us)
  (hle:off+vs.length≤cs.length):RelS w0 G (S.setB id (.cells (splice cs off vs) ty)) (w.setRow b (arr.toList.take off++us++arr.toList.drop (off+us.length)).toArray)∧KeepD G S.fr w G S.fr (w.setRow b (arr.toList.take off++us++arr.toList.drop (off+us.length)).toArray):=by
 have hlen:=hvs.length
 have hl2:=hv.length
 have hmin:cs.length≤arr.size:=by omega
 exact hS.setBox ⟨_,hb,rfl⟩ hr hheap (.cells (splice cs off vs) ty) (.cells (arr.toList.take off++us++arr.toList.drop (off+us.length)).toArray ty) (fun arr0 t0 h0=>by
   injection h0 with h1 h2 h3;subst h1;subst h2
   exact⟨_,rfl,by simp;omega⟩) (by simp) (by simp) (splice_or hvs hv hle hmin (by simpa using hasz) hl2)
  (w.setRow b (arr.toList.take off++us++arr.toList.drop (off+us.length)).toArray) (by simp[World.setRow]) rfl rfl rfl
  (setRow_heap w b arr _ ty _ hheap) (fun k hk=>setRow_other w b k _ hk)
def appendV (P:Program)(S:St)(t:TypeId)(id n sz:Nat)(x:AV)(K:AV→St→Prop):Prop:=
 match tslice P t,S.bx[id]? with
 | some e,some (.cells cs ty)=>match tsz P e,tby P e,(tzero P e).map List.length,x.elems with
  | some (k+1),some by_,some zl,some es2=>(sz=k+1∧zl=k+1∧Els (k+1) es2∧0 < es2.length∧(n+es2.length)*by_≤140737488355328∧n+es2.length≤maxLen∧n*(k+1)≤cs.length) ∧
    AppK ((n+es2.length)*(k+1)≤cs.length) (K (.vsl id 0 (n+es2.length) (k+1)) (S.setB id (.cells (splice cs (n*(k+1)) (flatE es2)) ty)))
     (∀d:Nat,K (.vsl S.bx.length 0 (n+es2.length) (k+1)) (S.addB (.cells (cs.take (n*(k+1))++flatE es2++List.replicate (d*(k+1)) .undef) e)))
  | _,_,_,_=>False
 | _,_=>False
theorem VRs.undefN (G:Gh)(fr:Frs)(w:World):∀(n:Nat) (l:List Value),l.length=n→VRs G fr w (List.replicate n .undef) l
 | 0,l,h=>by
  have:l=[]:=List.eq_nil_of_length_eq_zero h
  subst this;rfl
 | n+1,[],h=>by simp at h
 | n+1,x :: l,h=>⟨x,l,rfl,trivial,VRs.undefN G fr w n l (by simpa using h)⟩
theorem OR.rowL {G:Gh}{fr:Frs}{w:World}{cs:List AV}{us:List Value}{e:TypeId}(h:VRs G fr w cs us)(arr:Array Value)(ha:arr.toList=us):OR G fr w (.cells cs e) (.cells arr e):=
 ⟨arr,rfl,by rw[←Array.length_toList,ha,h.length],by rw[ha,List.take_of_length_le (by rw[h.length];exact Nat.le_refl _)];exact h⟩
theorem appendV_sound {P:Program}{L:World→Prop}{w0:Orig L}{G:Gh}{S:St}{w:World}(hS:RelS w0 G S w){t ty:TypeId}{id n sz:Nat}{x:AV}{sv xv:Value}(hs:VR G S.fr w (.vsl id 0 n sz) sv)(hx:VR G S.fr w x xv){K:AV→St→Prop}(h:appendV P S t id n sz x K) :
  OutK w0 G S w K ((Builtin.append_ #[t,t] ty #[sv,xv]).run P w):=by
 unfold appendV at h
 split at h
 ·rename_i e cs ty' hsl hb
  have hund:P.underlying t=some (.slice e):=by
   unfold tslice at hsl;split at hsl
   ·rename_i hh;simp at hsl;subst hsl;exact hh
   ·cases hsl
  split at h
  ·rename_i k by_ zl es2 hsz hby hz hes2
   obtain⟨⟨rfl,hzl,hE2,hpos,hbytes,hmax,hfit⟩,hK⟩:=h
   unfold tsz at hsz;unfold tby at hby
   obtain⟨i,hi⟩:∃i,P.info? e=some i:=by
    cases hh:P.info? e with
    | none=>simp[hh]at hsz
    | some i=>exact⟨i,rfl⟩
   simp[hi]at hsz hby
   simp only[tzero,hi,Option.bind_some,Option.map_map,Option.map_eq_some_iff,Function.comp]at hz
   obtain⟨z,hzv,hzl2⟩:=hz
   have hzs:z.cells.size=i.size:=by simp at hzl2;omega
   obtain⟨b,A,c,arr,tt,hr,hheap,rfl,hc,hcap,hA⟩:=hs
   obtain⟨b',ob,hr',hheap',arr',rfl,hasz,hvs⟩:=hS.bx id _ hb rfl
   rw[hr]at hr';injection hr' with hr';subst hr'
   rw[hheap]at hheap';injection hheap' with e1;injection e1 with e1 e2;subst e1;subst e2
   obtain⟨A2,c2,rfl,hc2,hA2⟩:=hx.elems hes2
   have h0:es2≠[]:=List.length_pos_iff.1 hpos
   obtain⟨b2,o2,sz2,rfl,hb2,hu2,hok2,hm2⟩:=hA2 h0
   have hsz2:sz2=i.size:=by
    cases es2 with
    | nil=>exact absurd rfl h0
    | cons y ys=>rw[←hu2 y (by simp),(hE2 y (by simp)).1];omega
   subst hsz2
   obtain⟨xs2,hmv2,hcell2⟩:=hm2.toMV
   have hl2:xs2.length=es2.length*i.size:=by rw[hmv2.length,tot_uni hu2]
   have hone2:∀u∈xs2,u.oneCell'=true:=hmv2.one fun y hy=>(hE2 y hy).2
   have hnews:∀j v,xs2[j]? = some v→w.cell? ((⟨b2,o2,none⟩:Addr).add j)=some v:=fun j v hj=>by rw[Addr.add_lit];exact hcell2 j v hj
   have hmax':n+es2.length≤9223372036854775807:=by simp only[maxLen]at hmax;omega
   have hfv:VRs G S.fr w (flatE es2) xs2:=VR.unpure_aux.2 _ hmv2.vrs
   have hfl:(flatE es2).length=es2.length*(k+1):=flatE_len fun y hy=>(hE2 y hy).1
   have hcap':c*(k+1)=arr.size:=by omega
   rw[hsz]at hl2
   by_cases hroom:n+es2.length≤c
   ·have hc0:0 < c:=by omega
    have hA':=hA hc0
    subst hA'
    have hle:(n+es2.length)*(k+1)≤cs.length:=by rw[←hasz,←hcap'];exact Nat.mul_le_mul_right _ hroom
    have hadd:=Nat.add_mul n es2.length (k+1)
    have hrun:=run_append_roomT (P:=P) w t ty e i hund hi b n c arr tt hheap ⟨b2,o2,none⟩ es2.length c2 xs2 (by rw[hl2,hsz]) hnews hone2 hroom (by rw[hsz];omega)
    rw[hrun]
    rw[hsz]
    obtain⟨g1,g2⟩:=hS.rowC hb hr hheap hasz hvs (n*(k+1)) hfv (by omega)
    refine⟨_,_,G,_,.vsl id 0 (n+es2.length) (k+1),rfl,g1,g2,⟨b,_,c,_,tt,hr,setRow_heap w b arr _ tt _ hheap,rfl,hroom,?_,fun _=>rfl⟩,hK.room hle⟩
    simp only[List.size_toArray,List.length_append,List.length_take,List.length_drop,Array.length_toList]
    omega
   ·have hnle:¬(n+es2.length)*(k+1)≤cs.length:=fun hh=>by
     rw[←hasz,←hcap']at hh
     exact hroom (Nat.le_of_mul_le_mul_right hh (by omega))
    have hxl:(arr.toList.take (n*(k+1))).length=n*(k+1):=by rw[List.length_take,Array.length_toList];omega
    have hrun:(Builtin.append_ #[t,t] ty #[.slice A n c,.slice (some ⟨b2,o2,none⟩) es2.length c2]).run P w =
      .ok (.slice (some ⟨w.heap.size,0,none⟩) (n+es2.length) (grownCap w (n+es2.length) c e)) (w.drew.alloc (.cells ((arr.toList.take (n*(k+1))).toArray++xs2.toArray++Builtin.zeroCells z.cells (grownCap w (n+es2.length) c e-(n+es2.length))) e)):=by
     by_cases hc0:0 < c
     ·have hA':=hA hc0
      subst hA'
      exact run_append_grow (P:=P) w t ty e i z hund hi hzv ⟨b,0,none⟩ n c _ (by rw[hxl,hsz]) (fun j v hj=>by
       rw[Addr.add_lit,Nat.zero_add,cell_of_row w b j arr tt (0,0) hheap]
       exact take_get hj) ⟨b2,o2,none⟩ es2.length c2 xs2 (by rw[hl2,hsz]) hnews (by omega) (by omega) (growslice_fits (by omega) (by rw[hby];exact hbytes))
     ·have hc0':c=0:=by omega
      subst hc0'
      have hn0:n=0:=by omega
      subst hn0
      simp only[Nat.zero_mul,List.take_zero,Nat.zero_add]at hbytes ⊢
      cases A with
      | none=>
       rw[run_append_nil (P:=P) w t ty e i z hund hi hzv ⟨b2,o2,none⟩ es2.length c2 xs2 (by rw[hl2,hsz]) hnews hpos (by omega) (by rw[hby];omega)]
       simp
      | some a=>
       have hr:=run_append_grow (P:=P) w t ty e i z hund hi hzv a 0 0 [] (by simp) (by simp) ⟨b2,o2,none⟩ es2.length c2 xs2 (by rw[hl2,hsz]) hnews (by omega) (by omega) (growslice_fits (by omega) (by rw[hby];simpa using hbytes))
       simp only[Nat.zero_add]at hr
       rw[hr]
    rw[hrun]
    have hge:=grownCap_ge w (n+es2.length) c e
    obtain⟨d,hd⟩:∃d,d=grownCap w (n+es2.length) c e-(n+es2.length):=⟨_,rfl⟩
    rw[←hd]
    obtain⟨k1,k2⟩:=hS.drewV
    have hadd:=Nat.add_mul n es2.length (k+1)
    have hadd2:=Nat.add_mul (n+es2.length) d (k+1)
    have htk:(arr.toList.take cs.length).take (n*(k+1))=arr.toList.take (n*(k+1)):=by rw[List.take_take,Nat.min_eq_left hfit]
    obtain⟨G',h1,h2,h3⟩:=k1.box (.cells (cs.take (n*(k+1))++flatE es2++List.replicate (d*(k+1)) .undef) e) (.cells ((arr.toList.take (n*(k+1))).toArray++xs2.toArray++Builtin.zeroCells z.cells d) e) (by
     have hv1:=hvs.take (n*(k+1))
     rw[htk]at hv1
     exact OR.rowL (VRs.keep k2.toKeep _ (VRs.append (VRs.append hv1 hfv) (VRs.undefN G S.fr w (d*(k+1)) (Builtin.zeroCells z.cells d).toList (by rw[Array.length_toList,size_zeroCells,hzs,hsz])))) _ (by simp only[Array.toList_append]))
    refine⟨_,_,G',_,.vsl S.bx.length 0 (n+es2.length) (k+1),rfl,h1,k2.trans h2,⟨w.heap.size,_,_,_,e,h3,heap_alloc_new _ _,rfl,hge,?_,fun _=>rfl⟩,hK.grow hnle d⟩
    simp only[Array.size_append,List.size_toArray,size_zeroCells,hzs,hl2,hxl]
    rw[hsz,Nat.zero_add,←Nat.add_mul,←Nat.add_mul]
    congr 1
    omega
  ·exact h.elim
 ·exact h.elim
def growV (P:Program)(S:St)(t u:TypeId)(id n sz:Nat)(m:Int)(K:AV→St→Prop):Prop:=
 match tslice P t,tint P u,S.bx[id]? with
 | some e,true,some (.cells cs _ty)=>match tsz P e,tby P e,tzero P e with
  | some (k+1),some by_,some zs=>(sz=k+1∧zs.length=k+1∧0 < m∧(n+m)*by_≤140737488355328∧n+m≤9223372036854775807∧n*(k+1)≤cs.length∧cs.length < (n+m.toNat)*(k+1)) ∧
    ∀d:Nat,K (.vsl S.bx.length 0 (n+m.toNat) (k+1)) (S.addB (.cells (cs.take (n*(k+1))++repL m.toNat zs++List.replicate (d*(k+1)) .undef) e))
  | _,_,_=>False
 | _,_,_=>False
theorem growV_sound {P:Program}{L:World→Prop}{w0:Orig L}{G:Gh}{S:St}{w:World}(hS:RelS w0 G S w){t u ty:TypeId}{id n sz:Nat}{m:Int}{sv:Value}(hs:VR G S.fr w (.vsl id 0 n sz) sv){K:AV→St→Prop}(h:growV P S t u id n sz m K) :
  OutK w0 G S w K ((Builtin.append_ #[t,u] ty #[sv,.int .i64 m]).run P w):=by
 unfold growV at h
 split at h
 ·rename_i e cs ty' hsl hti hb
  have hund:P.underlying t=some (.slice e):=by
   unfold tslice at hsl;split at hsl
   ·rename_i hh;simp at hsl;subst hsl;exact hh
   ·cases hsl
  obtain⟨kk,hu⟩:∃kk,P.underlying u=some (.int kk):=by
   unfold tint at hti;split at hti
   ·rename_i kk hh;exact⟨kk,hh⟩
   ·cases hti
  split at h
  ·rename_i k by_ zs hsz hby hz
   obtain⟨⟨rfl,hzl,h0,hbytes,hmax,hfit,hnle⟩,hK⟩:=h
   unfold tsz at hsz;unfold tby at hby
   obtain⟨i,hi⟩:∃i,P.info? e=some i:=by
    cases hh:P.info? e with
    | none=>simp[hh]at hsz
    | some i=>exact⟨i,rfl⟩
   simp[hi]at hsz hby
   simp only[tzero,hi,Option.bind_some,Option.map_eq_some_iff]at hz
   obtain⟨z,hzv,rfl⟩:=hz
   have hzs:z.cells.size=i.size:=by simp at hzl;omega
   obtain⟨b,A,c,arr,tt,hr,hheap,rfl,hc,hcap,hA⟩:=hs
   obtain⟨b',ob,hr',hheap',arr',rfl,hasz,hvs⟩:=hS.bx id _ hb rfl
   rw[hr]at hr';injection hr' with hr';subst hr'
   rw[hheap]at hheap';injection hheap' with e1;injection e1 with e1 e2;subst e1;subst e2
   obtain⟨m,rfl⟩:∃m':Nat,m=m':=⟨m.toNat,by omega⟩
   rw[Int.toNat_natCast]at hnle hK
   have hby2:(n+m)*i.bytes≤140737488355328:=by rw[hby];apply Int.ofNat_le.1;rw[Int.natCast_mul,Int.natCast_add];exact hbytes
   have hcap':c*(k+1)=arr.size:=by omega
   have hroom:c < n+m:=by
    rw[←hasz,←hcap']at hnle
    exact Nat.lt_of_mul_lt_mul_right hnle
   have hxl:(arr.toList.take (n*(k+1))).length=n*(k+1):=by rw[List.length_take,Array.length_toList];omega
   have hold:(Builtin.firstCells i.size n (.slice A n c)).run P w.drew=.ok (arr.toList.take (n*(k+1))).toArray w.drew:=by
    by_cases hc0:0 < c
    ·have hA':=hA hc0
     subst hA'
     exact run_firstCells_some w.drew i.size n _ n c _ (by rw[hxl,hsz]) fun j v hj=>by
      rw[Addr.add_lit,Nat.zero_add,cell_of_row w.drew b j arr tt (0,0) hheap]
      exact take_get hj
    ·have hn0:n=0:=by omega
     subst hn0
     cases A with
     | none=>simp[Builtin.firstCells]
     | some a=>simp[Builtin.firstCells,loadCells,loadCellsFrom]
   have hrun:=Lib.run_append_grow_zeros (P:=P) w t u ty e i z .i64 kk hund hu hi hzv A n c _ hold m (by omega) (by omega) hroom (by omega) (by
    have:m*i.bytes≤(n+m)*i.bytes:=Nat.mul_le_mul_right _ (by omega)
    omega) (growslice_fits hroom hby2)
   rw[hrun]
   have hge:=grownCap_ge w (n+m) c e
   obtain⟨d,hd⟩:∃d,d=grownCap w (n+m) c e-(n+m):=⟨_,rfl⟩
   rw[←hd]
   obtain⟨k1,k2⟩:=hS.drewV
   have hadd:=Nat.add_mul n m (k+1)
   have hzl':(z.cells.toList.map ofC).length=k+1:=hzl
   have htk:(arr.toList.take cs.length).take (n*(k+1))=arr.toList.take (n*(k+1)):=by rw[List.take_take,Nat.min_eq_left hfit]
   obtain⟨G',h1,h2,h3⟩:=k1.box (.cells (cs.take (n*(k+1))++repL m (z.cells.toList.map ofC)++List.replicate (d*(k+1)) .undef) e) (.cells ((arr.toList.take (n*(k+1))).toArray++Builtin.zeroCells z.cells m++Builtin.zeroCells z.cells d) e) (by
    have hv1:=hvs.take (n*(k+1))
    rw[htk]at hv1
    exact OR.rowL (VRs.keep k2.toKeep _ (VRs.append (VRs.append hv1 (zeroCells_vrs (z:=z) (n:=m) (by omega))) (VRs.undefN G S.fr w (d*(k+1)) (Builtin.zeroCells z.cells d).toList (by rw[Array.length_toList,size_zeroCells,hzs,hsz])))) _ (by simp only[Array.toList_append]))
   refine⟨_,_,G',_,.vsl S.bx.length 0 (n+m) (k+1),rfl,h1,k2.trans h2,⟨w.heap.size,_,_,_,e,h3,heap_alloc_new _ _,rfl,hge,?_,fun _=>rfl⟩,hK d⟩
   simp only[Array.size_append,List.size_toArray,size_zeroCells,hzs,hxl]
   rw[hsz,Nat.zero_add,←Nat.add_mul,←Nat.add_mul]
   congr 1
   omega
  ·exact h.elim
 ·exact h.elim
def appendN (P:Program)(S:St)(t:TypeId)(x:AV)(K:AV→St→Prop):Prop:=
 match tslice P t with
 | some e=>match tsz P e,tby P e,(tzero P e).map List.length,x.elems with
  | some (k+1),some by_,some zl,some es2=>(zl=k+1∧Els (k+1) es2∧0 < es2.length∧es2.length*by_≤140737488355328∧es2.length≤maxLen) ∧
    ∀d:Nat,K (.vsl S.bx.length 0 es2.length (k+1)) (S.addB (.cells (flatE es2++List.replicate (d*(k+1)) .undef) e))
  | _,_,_,_=>False
 | _=>False
theorem appendN_sound {P:Program}{L:World→Prop}{w0:Orig L}{G:Gh}{S:St}{w:World}(hS:RelS w0 G S w){t ty:TypeId}{x:AV}{xv:Value}(hx:VR G S.fr w x xv){K:AV→St→Prop}(h:appendN P S t x K) :
  OutK w0 G S w K ((Builtin.append_ #[t,t] ty #[.slice none 0 0,xv]).run P w):=by
 unfold appendN at h
 split at h
 ·rename_i e hsl
  have hund:P.underlying t=some (.slice e):=by
   unfold tslice at hsl;split at hsl
   ·rename_i hh;simp at hsl;subst hsl;exact hh
   ·cases hsl
  split at h
  ·rename_i k by_ zl es2 hsz hby hz hes2
   obtain⟨⟨hzl,hE2,hpos,hbytes,hmax⟩,hK⟩:=h
   unfold tsz at hsz;unfold tby at hby
   obtain⟨i,hi⟩:∃i,P.info? e=some i:=by
    cases hh:P.info? e with
    | none=>simp[hh]at hsz
    | some i=>exact⟨i,rfl⟩
   simp[hi]at hsz hby
   simp only[tzero,hi,Option.bind_some,Option.map_map,Option.map_eq_some_iff,Function.comp]at hz
   obtain⟨z,hzv,hzl2⟩:=hz
   have hzs:z.cells.size=i.size:=by simp at hzl2;omega
   obtain⟨A2,c2,rfl,hc2,hA2⟩:=hx.elems hes2
   have h0:es2≠[]:=List.length_pos_iff.1 hpos
   obtain⟨b2,o2,sz2,rfl,hb2,hu2,hok2,hm2⟩:=hA2 h0
   have hsz2:sz2=i.size:=by
    cases es2 with
    | nil=>exact absurd rfl h0
    | cons y ys=>rw[←hu2 y (by simp),(hE2 y (by simp)).1];omega
   subst hsz2
   obtain⟨xs2,hmv2,hcell2⟩:=hm2.toMV
   have hl2:xs2.length=es2.length*i.size:=by rw[hmv2.length,tot_uni hu2]
   have hnews:∀j v,xs2[j]? = some v→w.cell? ((⟨b2,o2,none⟩:Addr).add j)=some v:=fun j v hj=>by rw[Addr.add_lit];exact hcell2 j v hj
   have hfv:VRs G S.fr w (flatE es2) xs2:=VR.unpure_aux.2 _ hmv2.vrs
   have hfl:(flatE es2).length=es2.length*(k+1):=flatE_len fun y hy=>(hE2 y hy).1
   rw[run_append_nil (P:=P) w t ty e i z hund hi hzv ⟨b2,o2,none⟩ es2.length c2 xs2 hl2 hnews hpos (by simp only[maxLen]at hmax;omega) (by rw[hby];omega)]
   have hge:=grownCap_ge w es2.length 0 e
   obtain⟨d,hd⟩:∃d,d=grownCap w es2.length 0 e-es2.length:=⟨_,rfl⟩
   rw[←hd]
   obtain⟨k1,k2⟩:=hS.drewV
   obtain⟨G',h1,h2,h3⟩:=k1.box (.cells (flatE es2++List.replicate (d*(k+1)) .undef) e) (.cells (xs2.toArray++Builtin.zeroCells z.cells d) e) (by
    exact OR.rowL (VRs.keep k2.toKeep _ (VRs.append hfv (VRs.undefN G S.fr w (d*(k+1)) (Builtin.zeroCells z.cells d).toList (by rw[Array.length_toList,size_zeroCells,hzs,hsz])))) _ (by simp only[Array.toList_append]))
   refine⟨_,_,G',_,.vsl S.bx.length 0 es2.length (k+1),rfl,h1,k2.trans h2,⟨w.heap.size,_,_,_,e,h3,heap_alloc_new _ _,rfl,hge,?_,fun _=>rfl⟩,hK d⟩
   simp only[Array.size_append,List.size_toArray,size_zeroCells,hzs,hl2]
   rw[hsz,Nat.zero_add,←Nat.add_mul]
   congr 1
   omega
  ·exact h.elim
 ·exact h.elim
open Go Go.RowKit
def keyAV (sh:Option Nat)(x:List Int):AV:=match sh with
 | none=>.int .i64 (x.headD 0)
 | some _=>.agg (x.map (AV.int .i64))
theorem keyAV_ints (G:Gh)(fr:Frs)(w:World):∀x:List Int,VRs G fr w (x.map (AV.int .i64)) (x.map (Value.int .i64))
 | []=>rfl
 | _a :: x=>⟨_,_,rfl,rfl,keyAV_ints G fr w x⟩
theorem keyAV_ok (sh:Option Nat)(x:List Int)(G:Gh)(fr:Frs)(w:World):VR G fr w (keyAV sh x) (keyVal sh x):=by
 cases sh with
 | none=>exact rfl
 | some n=>exact⟨(x.map (Value.int .i64)).toArray,rfl,by simpa using keyAV_ints G fr w x⟩
def rangeK (P:Program)(S:St)(t:TypeId)(m:AV)(K:AV→St→Prop):Prop:=
 match m with
 | .cmp sh ks vs=>isMapT P t=true∧K (.ptr S.bx.length 0) (S.addB (.iter sh ks vs []))
 | _=>False
def nextK (S:St)(it:AV)(K:AV→St→Prop):Prop:=
 match it with
 | .ptr id 0=>match S.bx[id]? with
  | some (.iter sh ks vs seen)=>(∀(i:Nat) k v,i ∉ seen→ks[i]? = some k→vs[i]? = some v→K (.tup [.bool true,keyAV sh k,v]) (S.setB id (.iter sh ks vs (seen++[i]))))∧((∀i,i < ks.length→i∈seen)→K (.tup [.bool false]) S)
  | _=>False
 | _=>False
def entryK (S:St)(it:AV)(K:AV→Prop):Prop:=
 match it with
 | .ptr id 0=>match S.bx[id]? with
  | some (.iter sh ks vs seen)=>match seen.getLast? with
   | some i=>match ks[i]?,vs[i]? with
    | some k,some v=>K (.tup [keyAV sh k,v])
    | _,_=>False
   | none=>False
  | _=>False
 | _=>False
theorem rangeK_sound {P:Program}{L:World→Prop}{w0:Orig L}{G:Gh}{S:St}{w:World}(hS:RelS w0 G S w){t:TypeId}{m:AV}{K:AV→St→Prop}{mv:Value}(hm:VR G S.fr w m mv)(h:rangeK P S t m K):OutK w0 G S w K ((Instr.range t mv).run P w):=by
 unfold rangeK at h
 split at h
 ·rename_i sh ks vs
  obtain⟨ht,hK⟩:=h
  obtain⟨k,e,hu⟩:∃k e,P.underlying t=some (.map k e):=by
   unfold isMapT at ht
   split at ht
   ·rename_i k e hh;exact⟨k,e,hh⟩
   ·cases ht
  obtain⟨b,es,cl,rfl,hb,hok1,hheap,hok,hvs⟩:=hm
  have hg:(getObj b).run P w=.ok (.map es cl) w:=by simp[getObj,Sem.run,hheap]
  obtain⟨G',h1,h2,h3⟩:=hS.box (.iter sh ks vs []) (.mapIter (some b) cl #[] cl) ⟨b,es,cl,rfl,hb,hok1,hheap,hok,hvs,by simp⟩
  exact⟨_,_,G',_,.ptr S.bx.length 0,by simp[Instr.range,run_underlying hu,hg,newObj,Sem.run],h1,h2,⟨_,h3,rfl⟩,hK⟩
 ·exact h.elim
theorem born_at {es:Array MapEntry}{i:Nat}{e:MapEntry}(h:es.toList[i]? = some e):((es.toList.map (·.born))[i]?).getD 0=e.born:=by
 rw[List.getElem?_map,h];rfl
theorem born_push {es:Array MapEntry}{i:Nat}{e:MapEntry}(seen:List Nat)(h:es.toList[i]? = some e):(seen.map fun i=>((es.toList.map (·.born))[i]?).getD 0).toArray.push e.born=((seen++[i]).map fun i=>((es.toList.map (·.born))[i]?).getD 0).toArray:=by
 rw[List.map_append,List.map_cons,List.map_nil,born_at h,List.push_toArray]
theorem nodup_at {α:Type}{l:List α}(h:l.Nodup){i j:Nat}{x:α}(hi:l[i]? = some x)(hj:l[j]? = some x):i=j:=by
 obtain⟨h1,h2⟩:=List.getElem?_eq_some_iff.1 hi
 obtain⟨h3,h4⟩:=List.getElem?_eq_some_iff.1 hj
 rcases Nat.lt_trichotomy i j with hl|he|hl
 ·exact absurd (h2.trans h4.symm) (List.pairwise_iff_getElem.1 h i j h1 h3 hl)
 ·exact he
 ·exact absurd (h4.trans h2.symm) (List.pairwise_iff_getElem.1 h j i h3 h1 hl)
theorem nextK_sound {P:Program}{L:World→Prop}{w0:Orig L}{G:Gh}{S:St}{w:World}(hS:RelS w0 G S w){ty:TypeId}{it:AV}{K:AV→St→Prop}{iv:Value}(hi:VR G S.fr w it iv)(h:nextK S it K):OutK w0 G S w K ((Instr.next iv false ty).run P w):=by
 unfold nextK at h
 split at h
 ·rename_i id
  split at h
  ·rename_i sh ks vs seen hbx
   obtain⟨hK1,hK2⟩:=h
   obtain⟨r,hr,rfl⟩:=hi
   obtain⟨r',ob,hr',hheap,b,es,cl,rfl,hb,hok1,hbm,hok,hvs,hseen⟩:=hS.bx id _ hbx rfl
   rw[hr]at hr';injection hr' with hr';subst hr'
   have hkl:ks.length=es.toList.length:=by
    have:=congrArg List.length hok.keys
    simpa using this.symm
   have hcont:∀(i:Nat) (e:MapEntry),es.toList[i]? = some e→((seen.map fun i=>((es.toList.map (·.born))[i]?).getD 0).toArray.contains e.born=true↔i∈seen):=by
    intro i e he
    rw[Array.contains_iff_mem]
    simp only[List.mem_toArray,List.mem_map]
    constructor
    ·rintro⟨j,hj,hjb⟩
     have hjl:=hseen j hj
     have hje:es.toList[j]? = some es.toList[j]:=List.getElem?_eq_getElem (by simpa using hjl)
     rw[born_at hje]at hjb
     have hil:=(List.getElem?_eq_some_iff.1 he).1
     have hij:i=j:=by
      refine nodup_at hok.bn (x:=e.born) (by rw[List.getElem?_map,he];rfl) ?_
      rw[List.getElem?_map,hje,Option.map_some,hjb]
     rw[hij];exact hj
    ·intro hi
     exact⟨i,hi,born_at he⟩
   rcases run_next_at (P:=P) w ty r b cl cl _ es cl hheap hbm (fun x hx=>hok.lt x hx) (Nat.le_refl _) with ⟨h0,hrun⟩|⟨e,he,w1,hw1,hrun⟩
   ·refine⟨_,w,G,S,.tup [.bool false],hrun,hS,KeepD.refl hS.dn,⟨_,rfl,.bool false,[],rfl,rfl,rfl⟩,hK2 fun i hil=>?_⟩
    obtain⟨e,he⟩:∃e,es.toList[i]? = some e:=⟨_,List.getElem?_eq_getElem (by omega)⟩
    refine(hcont i e he).1 ?_
    cases hc:(seen.map fun i=>((es.toList.map (·.born))[i]?).getD 0).toArray.contains e.born with
    | true=>rfl
    | false=>
     exfalso
     have hmem:e∈leftOf es (seen.map fun i=>((es.toList.map (·.born))[i]?).getD 0).toArray:=by
      unfold leftOf
      rw[Array.mem_filter]
      exact⟨by have:=List.mem_of_getElem? he;simpa using this,by rw[hc];rfl⟩
     have:=Array.eq_empty_of_size_eq_zero h0
     rw[this]at hmem
     simp at hmem
   ·have he2:e∈leftOf es (seen.map fun i=>((es.toList.map (·.born))[i]?).getD 0).toArray:=by simpa using he
    unfold leftOf at he2
    rw[Array.mem_filter]at he2
    obtain⟨hm,hnc⟩:=he2
    obtain⟨i,hie⟩:=List.getElem?_of_mem (show e∈es.toList by simpa using hm)
    have hil:=(List.getElem?_eq_some_iff.1 hie).1
    have hns:i ∉ seen:=fun hh=>by
     rw[(hcont i e hie).2 hh]at hnc
     cases hnc
    obtain⟨k,hk⟩:∃k,ks[i]? = some k:=⟨_,List.getElem?_eq_getElem (by omega)⟩
    have hvl:=hvs.length
    simp only[List.length_map]at hvl
    obtain⟨v,hv⟩:∃v,vs[i]? = some v:=⟨_,List.getElem?_eq_getElem (by omega)⟩
    obtain⟨u,hu1,hu2⟩:=(VR.unpure_aux (G:=G) (fr:=S.fr) (w:=w)).2 vs hvs |>.get hv
    have hue:u=e.val:=by
     simp only[List.getElem?_map,hie,Option.map_some]at hu1
     injection hu1 with hu1;exact hu1.symm
    have hke:e.key=keyVal sh k:=by
     have:=congrArg (·[i]?) hok.keys
     simp only[List.getElem?_map,hie,hk,Option.map_some]at this
     exact Option.some.inj this
    have main:∀w1,RelS w0 G S w1→KeepD G S.fr w G S.fr w1→w1.heap[r]? = some (.mapIter (some b) cl (seen.map fun i=>((es.toList.map (·.born))[i]?).getD 0).toArray cl)→w1.heap[b]? = some (.map es cl)→VRs G.pure [] w1 vs (es.toList.map (·.val)) →
      OutK w0 G S w K (.ok (.tuple #[.bool true,e.key,e.val]) (Go.ChangeMaps.setBlock w1 r (.mapIter (some b) cl ((seen.map fun i=>((es.toList.map (·.born))[i]?).getD 0).toArray.push e.born) cl))):=by
     intro w1 h1 h2 h3 h4 h5
     have hlt:=(Array.getElem?_eq_some_iff.1 h3).1
     have hbl:=(Array.getElem?_eq_some_iff.1 h4).1
     have hne:b≠r:=by rintro rfl;rw[h3]at h4;cases h4
     obtain⟨g1,g2⟩:=h1.setBox ⟨_,hbx,rfl⟩ hr h3 (.iter sh ks vs (seen++[i])) (.mapIter (some b) cl ((seen.map fun i=>((es.toList.map (·.born))[i]?).getD 0).toArray.push e.born) cl) (fun _ _ hh=>by cases hh) (by simp) (fun _ hh=>by cases hh)
      ⟨b,es,cl,by rw[born_push seen hie],hbl,hok1,h4,hok,h5,fun j hj=>by
       rcases List.mem_append.1 hj with hj|hj
       ·exact hseen j hj
       ·rw[List.mem_singleton]at hj;subst hj;simpa using hil⟩
      (Go.ChangeMaps.setBlock w1 r _) (by simp[Go.ChangeMaps.setBlock]) rfl rfl rfl (by simp only[Go.ChangeMaps.setBlock];rw[Array.getElem?_setIfInBounds,if_pos rfl,if_pos hlt]) (fun k hk=>by simp only[Go.ChangeMaps.setBlock];rw[Array.getElem?_setIfInBounds,if_neg (fun hh=>hk hh.symm)])
     refine⟨_,_,G,_,.tup [.bool true,keyAV sh k,v],rfl,g1,h2.trans g2,?_,hK1 i k v hns hk hv⟩
     refine⟨_,rfl,.bool true,_,rfl,rfl,e.key,_,rfl,by rw[hke];exact keyAV_ok sh k _ _ _,e.val,[],rfl,?_,rfl⟩
     rw[←hue]
     exact VR.keep (h2.trans g2).toKeep v hu2
    rw[hrun]
    rcases hw1 with rfl|rfl
    ·exact main _ hS (KeepD.refl hS.dn) hheap hbm hvs
    ·obtain⟨k1,k2⟩:=hS.drewV
     exact main _ k1 k2 hheap hbm (VRs.keep k2.toKeep.pure vs hvs)
  ·exact h.elim
 ·exact h.elim
theorem entryK_sound {P:Program}{L:World→Prop}{w0:Orig L}{G:Gh}{S:St}{w:World}(hS:RelS w0 G S w){it:AV}{K:AV→Prop}{iv:Value}(hi:VR G S.fr w it iv)(h:entryK S it K):∃e r,K e∧VR G S.fr w e r∧(Instr.entry iv).run P w=.ok r w:=by
 unfold entryK at h
 split at h
 ·rename_i id
  split at h
  ·rename_i sh ks vs seen hbx
   split at h
   ·rename_i i hlast
    split at h
    ·rename_i k v hk hv
     obtain⟨r,hr,rfl⟩:=hi
     obtain⟨r',ob,hr',hheap,b,es,cl,rfl,hb,hok1,hbm,hok,hvs,hseen⟩:=hS.bx id _ hbx rfl
     rw[hr]at hr';injection hr' with hr';subst hr'
     obtain⟨seen0,rfl⟩:∃s0,seen=s0++[i]:=List.getLast?_eq_some_iff.1 hlast
     have hkl:ks.length=es.toList.length:=by
      have:=congrArg List.length hok.keys
      simpa using this.symm
     have hil:i < es.toList.length:=by have:=(List.getElem?_eq_some_iff.1 hk).1;omega
     obtain⟨e,hie⟩:∃e,es.toList[i]? = some e:=⟨_,List.getElem?_eq_getElem hil⟩
     obtain⟨u,hu1,hu2⟩:=(VR.unpure_aux (G:=G) (fr:=S.fr) (w:=w)).2 vs hvs |>.get hv
     have hue:u=e.val:=by
      simp only[List.getElem?_map,hie,Option.map_some]at hu1
      injection hu1 with hu1;exact hu1.symm
     have hke:e.key=keyVal sh k:=by
      have:=congrArg (·[i]?) hok.keys
      simp only[List.getElem?_map,hie,hk,Option.map_some]at this
      exact Option.some.inj this
     have hheap2:w.heap[r]? = some (.mapIter (some b) cl ((seen0.map fun i=>((es.toList.map (·.born))[i]?).getD 0).toArray.push e.born) cl):=by
      rw[hheap,born_push seen0 hie]
     refine⟨_,_,h,?_,run_entry_at w r b cl _ es cl e hheap2 hbm (List.mem_of_getElem? hie) hok.bn⟩
     refine⟨_,rfl,e.key,_,rfl,by rw[hke];exact keyAV_ok sh k _ _ _,e.val,[],rfl,?_,rfl⟩
     rw[←hue]
     exact hu2
    ·exact h.elim
   ·exact h.elim
  ·exact h.elim
 ·exact h.elim
def appendVV (P:Program)(S:St)(t:TypeId)(id n sz id2 off2 m sz2:Nat)(K:AV→St→Prop):Prop:=
 match (tslice P t).bind (tsz P),S.bx[id]?,S.bx[id2]? with
 | some k,some (.cells cs ty),some (.cells cs2 _)=>(k=sz∧sz2=sz∧1≤sz∧((cs2.drop off2).take (m*sz)).length=m*sz∧((cs2.drop off2).take (m*sz)).all AV.isCell=true∧(n+m)*sz≤cs.length) ∧
   K (.vsl id 0 (n+m) sz) (S.setB id (.cells (splice cs (n*sz) ((cs2.drop off2).take (m*sz))) ty))
 | _,_,_=>False
theorem appendVV_sound {P:Program}{L:World→Prop}{w0:Orig L}{G:Gh}{S:St}{w:World}(hS:RelS w0 G S w){t ty:TypeId}{id n sz id2 off2 m sz2:Nat}{sv xv:Value}(hs:VR G S.fr w (.vsl id 0 n sz) sv)(hx:VR G S.fr w (.vsl id2 off2 m sz2) xv){K:AV→St→Prop}(h:appendVV P S t id n sz id2 off2 m sz2 K) :
  OutK w0 G S w K ((Builtin.append_ #[t,t] ty #[sv,xv]).run P w):=by
 unfold appendVV at h
 split at h
 ·rename_i k cs ty' cs2 ty2 htk hb hb2
  obtain⟨⟨rfl,rfl,hk1,hll,hall,hfit⟩,hK⟩:=h
  obtain⟨el,hsl,hsz⟩:=Option.bind_eq_some_iff.1 htk
  have hund:P.underlying t=some (.slice el):=by
   unfold tslice at hsl;split at hsl
   ·rename_i hh;simp at hsl;subst hsl;exact hh
   ·cases hsl
  have hund2:∀k',P.underlying t≠some (.int k'):=fun k' hh=>by rw[hund]at hh;cases hh
  obtain⟨b,A,c,arr,tt,hr,hheap,rfl,hc,hcap,hA⟩:=hs
  obtain⟨b',ob,hr',hheap',arr',rfl,hasz,hvs⟩:=hS.bx id _ hb rfl
  rw[hr]at hr';injection hr' with hr';subst hr'
  rw[hheap]at hheap';injection hheap' with e1;injection e1 with e1 e2;subst e1;subst e2
  obtain⟨b2,A2,c2,arr2,tt2,hr2,hheap2,rfl,hc2,hcap2,hA2⟩:=hx
  obtain⟨b3,ob3,hr3,hheap3,arr3,rfl,hasz3,hvs3⟩:=hS.bx id2 _ hb2 rfl
  rw[hr2]at hr3;injection hr3 with hr3;subst hr3
  rw[hheap2]at hheap3;injection hheap3 with e1;injection e1 with e1 e2;subst e1;subst e2
  have hv:=(hvs3.drop off2).take (m*sz2)
  have hxl:=hv.length
  have hf:(Builtin.firstCells sz2 m (.slice A2 m c2)).run P w=.ok (((List.take cs2.length arr2.toList).drop off2).take (m*sz2)).toArray w:=by
   by_cases h0:0 < c2
   ·have hA2':=hA2 h0
    subst hA2'
    refine run_firstCells_some w sz2 m _ m c2 _ (by rw[hxl];exact hll) fun j v hj=>?_
    rw[Addr.add_lit,cell_of_row w b2 (off2+j) arr2 tt2 (0,0) hheap2]
    rw[List.getElem?_take]at hj
    split at hj
    ·rw[List.getElem?_drop]at hj;exact take_get hj
    ·cases hj
   ·have hn0:m=0:=by omega
    subst hn0
    have hnil:((List.take cs2.length arr2.toList).drop off2).take (0*sz2)=[]:=by simp
    rw[hnil]
    cases A2 with
    | none=>simp[Builtin.firstCells]
    | some a=>simp[Builtin.firstCells,loadCells,loadCellsFrom]
  have hroom:n+m≤c:=by
   rw[←hasz,←hcap,Nat.zero_add]at hfit
   exact Nat.le_of_mul_le_mul_right hfit (by omega)
  have hle:n*sz2+((cs2.drop off2).take (m*sz2)).length≤cs.length:=by rw[hll,←Nat.add_mul];exact hfit
  by_cases h0:0 < c
  ·have hA':=hA h0
   subst hA'
   obtain⟨w',g1,g2,g3⟩:=hS.storeC (P:=P) hb hr (n*sz2) hv hall hle
   have hrun:(Builtin.append_ #[t,t] ty #[.slice (some ⟨b,0,none⟩) n c,.slice A2 m c2]).run P w=.ok (.slice (some ⟨b,0,none⟩) (n+m) c) w':=by
    simp[Builtin.append_,run_underlying hund,run_sizeOf hsz,Builtin.lenOf,hroom,hf,Addr.add_lit,g1]
   rw[hrun]
   obtain⟨arr'',h1,h2⟩:=g3.toKeep.rs id b arr tt hr hheap
   exact⟨_,_,G,_,.vsl id 0 (n+m) sz2,rfl,g2,g3,⟨b,_,c,arr'',tt,hr,h1,rfl,hroom,by rw[h2];exact hcap,fun _=>rfl⟩,hK⟩
  ·have hc0:c=0:=by omega
   have hn0:n=0:=by omega
   have hm0:m=0:=by omega
   subst hc0;subst hn0;subst hm0
   have hnil:(cs2.drop off2).take (0*sz2)=[]:=by simp
   rw[hnil,splice_nil,St.setB_self hb]at hK
   have hrun:(Builtin.append_ #[t,t] ty #[.slice A 0 0,.slice A2 0 c2]).run P w=.ok (.slice A 0 0) w:=by
    have hf':(Builtin.firstCells sz2 0 (.slice A2 0 c2)).run P w=.ok #[] w:=by simpa using hf
    cases A with
    | none=>simp[Builtin.append_,run_underlying hund,run_sizeOf hsz,Builtin.lenOf,hf']
    | some a=>simp[Builtin.append_,run_underlying hund,run_sizeOf hsz,Builtin.lenOf,hf',storeCells]
   rw[hrun]
   exact OutK.same hS (e:=.vsl id 0 0 sz2) ⟨b,A,0,arr,tt,hr,hheap,rfl,Nat.le_refl _,hcap,hA⟩ hK
 ·exact h.elim
def slice3K (P:Program)(t:TypeId)(x lo hi mx:AV)(K:AV→Prop):Prop:=
 match (tslice P t).bind (tsz P),x,lo,hi,mx with
 | some _,.vsl _ _ n _,.int _ l,.int _ h,.int _ m=>(0≤l∧l≤h∧h≤m∧m≤(n:Int))∧K .undef
 | _,_,_,_,_=>False
theorem slice3K_sound {P:Program}{G:Gh}{fr:Frs}{w:World}{t:TypeId}{x lo hi mx:AV}{u lv hv mv:Value}{K:AV→Prop}(hx:VR G fr w x u)(hl:VR G fr w lo lv)(hh:VR G fr w hi hv)(hm:VR G fr w mx mv)(h:slice3K P t x lo hi mx K) :
  ∃e r,K e∧VR G fr w e r∧(Instr.sliceAt t u (some lv) (some hv) (some mv)).run P w=.ok r w:=by
 unfold slice3K at h
 split at h
 ·rename_i k id off n sz kl l kh h' km m htk
  obtain⟨⟨h0,h1,h2,h3⟩,hK⟩:=h
  obtain⟨el,hsl,hsz⟩:=Option.bind_eq_some_iff.1 htk
  have hund:P.underlying t=some (.slice el):=by
   unfold tslice at hsl;split at hsl
   ·rename_i hh;simp at hsl;subst hsl;exact hh
   ·cases hsl
  obtain⟨b,A,c,arr,tt,hr,hheap,rfl,hc,hcap,hA⟩:=hx
  obtain rfl:lv=.int kl l:=hl
  obtain rfl:hv=.int kh h':=hh
  obtain rfl:mv=.int km m:=hm
  have b1:(0≤m∧m≤(c:Int)):=by omega
  have b2:(0≤h'∧h'≤(m.toNat:Int)):=by omega
  have b3:(0≤l∧l≤(h'.toNat:Int)):=by omega
  refine⟨.undef,.slice (if m.toNat=l.toNat then A else A.map (·.add (l.toNat*k))) (h'.toNat-l.toNat) (m.toNat-l.toNat),hK,trivial,?_⟩
  simp only[Instr.sliceAt,Instr.slice,Sem.run_bind,run_underlying hund,Result.andThen_ok,Instr.sliceBounds,Instr.sliceBound,asIntOf,Sem.run_pure,b1,b2,b3,and_self,if_true,run_sizeOf hsz]
 ·exact h.elim
open Go Go.RowKit
def builtinK (P:Program)(S:St)(b:Builtin)(ts:List TypeId)(args:List AV)(K:AV→St→Prop):Prop:=
 match b,ts,args with
 | .len,[t],[.mp id]=>isMapT P t=true∧lenMapK S (.mp id) (fun v=>K v S)
 | .len,[t],[.cmp sh ks vs]=>isMapT P t=true∧lenMapK S (.cmp sh ks vs) (fun v=>K v S)
 | .len,[t],[x]=>lenK P t x (fun v=>K v S)
 | .append,[t,u],[s,.str b]=>appendStrK P S t u s b K
 | .clear,[t],[.vsl id off n sz]=>clearK P S t id off n sz K
 | .cap,[t],[.vsl id off _n sz]=>capK P S t id off sz (fun v=>K v S)
 | .copy,[t,_t'],[.vsl id off n sz,s]=>copyK P S t (.vsl id off n sz) s K
 | .copy,[t,_t'],[.bsl id off n sz,s]=>exactB S id off n sz∧copyK P S t (.vsl id off n sz) s K
 | .append,[t,u],[.nils,.int .i64 n]=>growK P S t u n K
 | .append,[t,u],[.vsl id off n sz,.int .i64 m]=>off=0∧growV P S t u id n sz m K
 | .append,[t,t'],[.vsl id off n sz,.vsl id2 off2 m sz2]=>(t=t'∧off=0)∧appendVV P S t id n sz id2 off2 m sz2 K
 | .append,[t,t'],[.vsl id off n sz,x]=>(t=t'∧off=0)∧appendV P S t id n sz x K
 | .append,[t,t'],[.grown .nils 0,x]=>t=t'∧appendN P S t x K
 | .cap,[t],[.nils]=>(tslice P t).isSome=true∧K (.int .i64 0) S
 | .append,[t,t'],[s,x]=>t=t'∧appendK P S t s x K
 | .min,_,[.int k x,.int k' y]=>k=k'∧K (.int k (if y < x then y else x)) S
 | .max,_,[.int k x,.int k' y]=>k=k'∧K (.int k (if y > x then y else x)) S
 | _,_,_=>False
def fieldK (P:Program)(t:TypeId)(x:AV)(f:Nat)(K:AV→Prop):Prop:=
 match tfield P t f,x with
 | some (o,ft),.agg cs=>ldCells P ft cs o K
 | _,_=>False
def isPtr:AV→Bool
 | .ptr _ _=>true
 | .cptr _ _=>true
 | _=>false
def OpK (P:Program)(L:World→Prop)(d:Bool)(a:Nat→AV)(S:St)(o:Oper)(K:AV→St→Prop):Prop:=
 match o.op with
 | .move x=>(evO a x).force fun v=>K v S
 | .assign x=>(evO a x).force fun v=>K v S
 | .pick c x y=>match evO a c with
  | .bool b=>BrK b ((evO a x).force fun v=>K v S) ((evO a y).force fun v=>K v S)
  | _=>False
 | .alloc t=>opAlloc P S t K
 | .box t x=>(evO a x).force fun v=>opBox S t v K
 | .build t parts=>buildK P t (parts.toList.map fun p=>(p.1,evO a p.2)) (fun v=>K v S)
 | .buildSlice t n parts=>match d with
  | true=>buildSliceK P t n (parts.toList.map fun p=>(p.1,evO a p.2)) (fun v=>K v S)
  | false=>match litZ n parts.toList with
   | true=>buildSliceI P S t 0 K
   | false=>buildSliceO P S t n (parts.toList.map fun p=>(p.1,evO a p.2)) K
 | .load t x=>opLoad P S t (evO a x) K
 | .store t x v=>(evO a v).force fun v=>opStore P S t (evO a x) v K
 | .binOp op t x y _=>match isNilC y with
  | true=>nilCmpK P op t (evO a x) (fun v=>K v S)
  | false=>binK P op t (evO a x) (evO a y) (fun v=>K v S)
 | .unOp op _ x=>unK op (evO a x) (fun v=>K v S)
 | .nilCheck x=>isPtr (evO a x)=true∧K (evO a x) S
 | .makeFunc fn first caps=>makeFuncK fn (first.toList.map (evO a)) (caps.toList.map (evO a)) (fun v=>K v S)
 | .slice t x lo hi none=>sliceK P S t (evO a x) (lo.map (evO a)) (hi.map (evO a)) (fun v=>K v S)
 | .slice t x (some lo) (some hi) (some mx)=>slice3K P t (evO a x) (evO a lo) (evO a hi) (evO a mx) (fun v=>K v S)
 | .fieldAddr s x f=>fieldAddrK P s (evO a x) f (fun v=>K v S)
 | .field t x f=>fieldK P t (evO a x) f (fun v=>K v S)
 | .indexAddr t x i=>indexAddrK P t (evO a x) (evO a i) (fun v=>K v S)
 | .extract x i=>extractK (evO a x) i (fun v=>K v S)
 | .convert src dst x=>convK P S src dst (evO a x) (fun v=>K v S)
 | .index t x i=>indexK P t (evO a x) (evO a i) (fun v=>K v S)
 | .makeSlice t l c=>makeSliceK P S t (evO a l) (evO a c) K
 | .lookup t x i c=>lookupK P S t (evO a x) (evO a i) c (fun v=>K v S)
 | .makeMap t none=>makeMapK P S t K
 | .mapUpdate t m k v=>(evO a v).force fun v=>mapUpdK P S t (evO a m) (evO a k) v K
 | .insert t m k v=>(evO a v).force fun v=>mapUpdK P S t (evO a m) (evO a k) v K
 | .mapEntry t m k=>mapEntryK P S t (evO a m) (evO a k) K
 | .entryStore _ m s v=>(evO a v).force fun v=>entryStoreK S (evO a m) (evO a s) v K
 | .range t x=>rangeK P S t (evO a x) K
 | .next x false=>nextK S (evO a x) K
 | .entry x=>entryK S (evO a x) (fun v=>K v S)
 | .call {callee:=.value f,args,argTypes:=_}=>match d with
  | true=>CallP P L S (evO a f) (args.toList.map (evO a)) (fun r=>K r S)
  | false=>CallK P L S (evO a f) (args.toList.map (evO a)) K
 | .call {callee:=.builtin b,args,argTypes}=>builtinK P S b argTypes.toList (args.toList.map (evO a)) K
 | _=>False
def After {L:World→Prop}(w0:Orig L)(G:Gh)(S:St)(w:World)(nt:Nat)(a:Nat→AV)(d:Option Nat)(K:AV→St→Prop)(act':Act)(w':World):Prop:=
 ∃G' S' e,RelS w0 G' S' w'∧KeepD G S.fr w G' S'.fr w'∧RelT w0.fi G' S'.fr w' nt (updo a d e) act'∧K e S'
theorem wp_plain {P:Program}{ro:Option Nat}{o:Oper}{act:Act}{w w':World}{next:Act→World→Prop}{Q:Exit→Act→World→Prop}(hnd:∀c,o.op≠.defer c){v:Value}(hr:(execOp act.eval o).run P w=.ok (.value v) w')(h:next (act.put o.dst v) w') :
  o.wpIn (FW ro) 0 P act w next Q:=by
 refine⟨fun _ _=>trivial,?_⟩
 rw[Oper.semAt_eq _ _ _ hnd,hr]
 exact h
theorem wp_value {P:Program}{ro:Option Nat}{o:Oper}{act:Act}{w:World}{Q:Exit→Act→World→Prop}{L:World→Prop}{w0:Orig L}{G:Gh}{S:St}{nt:Nat}{a:Nat→AV}{K:AV→St→Prop}(hnd:∀c,o.op≠.defer c)(hT:RelT w0.fi G S.fr w nt a act)(hd:∀t,o.dst=some t→t < nt)
  (s:Sem Value) (he:execOp act.eval o=(do pure (.value (←s)))) (h:OutK w0 G S w K (s.run P w)):o.wpIn (FW ro) 0 P act w (After w0 G S w nt a o.dst K) Q:=by
 obtain⟨v,w',G',S',e,hr,h1,h2,h3,h4⟩:=h
 exact wp_plain hnd (by rw[he,Sem.run_bind,hr];rfl) ⟨G',S',e,h1,h2,(hT.keep h2).put hd h3,h4⟩
theorem wp_pureV {P:Program}{ro:Option Nat}{o:Oper}{act:Act}{w:World}{Q:Exit→Act→World→Prop}{L:World→Prop}{w0:Orig L}{G:Gh}{S:St}{nt:Nat}{a:Nat→AV}{K:AV→St→Prop}(hnd:∀c,o.op≠.defer c)(hS:RelS w0 G S w)(hT:RelT w0.fi G S.fr w nt a act)(hd:∀t,o.dst=some t→t < nt)
  (s:Sem Value) (he:execOp act.eval o=(do pure (.value (←s)))) (h:∃e r,K e S∧VR G S.fr w e r∧s.run P w=.ok r w):o.wpIn (FW ro) 0 P act w (After w0 G S w nt a o.dst K) Q:=by
 obtain⟨e,r,hK,hv,hr⟩:=h
 exact wp_value hnd hT hd s he (by rw[hr];exact OutK.same hS hv hK)
theorem RelT.evals {lo:Nat×Option Nat}{G:Gh}{fr:Frs}{w:World}{nt:Nat}{a:Nat→AV}{act:Act}(h:RelT lo G fr w nt a act):∀xs:List Operand,VRs G fr w (xs.map (evO a)) (xs.map act.eval)
 | []=>rfl
 | x :: xs=>⟨_,_,rfl,h.eval x,h.evals xs⟩
theorem CallK_sound {P:Program}{ro:Option Nat}{o:Oper}{act:Act}{w:World}{Q:Exit→Act→World→Prop}{L:World→Prop}{w0:Orig L}{G:Gh}{S:St}{nt:Nat}{a:Nat→AV}{K:AV→St→Prop}(hS:RelS w0 G S w)(hT:RelT w0.fi G S.fr w nt a act)(hd:∀t,o.dst=some t→t < nt)
  (f:Operand) (args:Array Operand) (ts:Array TypeId) (ho:o.op=.call {callee:=.value f,args,argTypes:=ts}) (h:CallK P L S (evO a f) (args.toList.map (evO a)) K):o.wpIn (FW ro) 0 P act w (After w0 G S w nt a o.dst K) Q:=
 h.out ro w0 G w (act.eval f) (args.toList.map act.eval) hS (hT.eval f) (hT.evals args.toList) o act f args ts _ Q ho rfl rfl fun _ _ ⟨G',S',e,h1,h2,h3,h4⟩=>⟨G',S',e,h1,h2,(hT.keep h2).put hd h3,h4⟩
theorem sliceK0_sound {P:Program}{L:World→Prop}{w0:Orig L}{G:Gh}{S:St}{w:World}(hS:RelS w0 G S w){t:TypeId}{x:AV}{lo hi:Option AV}{lov hiv:Option Value}{K:AV→Prop}{u:Value}(hu:VR G S.fr w x u)
  (hlo:∀l,lo=some l→∃v,lov=some v∧VR G S.fr w l v) (hlo0:lo=none→lov=none) (hhi:∀l,hi=some l→∃v,hiv=some v∧VR G S.fr w l v) (hhi0:hi=none→hiv=none) (h:sliceK0 P S t x lo hi K) :
  ∃e r,K e∧VR G S.fr w e r∧(Instr.sliceAt t u lov hiv none).run P w=.ok r w:=by
 unfold sliceK0 at h
 split at h
 ·rename_i x1 n e ha
  have hund:P.underlying t=some (.array n e):=by
   unfold tarr at ha;split at ha
   ·rename_i hh;simp at ha;obtain⟨rfl,rfl⟩:=ha;exact hh
   ·cases ha
  split at h
  ·rename_i sz id off hsz
   rw[hlo0 rfl,hhi0 rfl]
   split at h
   ·rename_i cs ty hb
    obtain⟨hle,hK⟩:=h
    obtain⟨b,hr,rfl⟩:=hu
    obtain⟨b',ob,hr',hheap,arr,rfl,hasz,hv⟩:=hS.bx id _ hb rfl
    rw[hr]at hr';injection hr' with hr';subst hr'
    have hl:=hv.length
    refine⟨_,.slice (some ⟨b,off,none⟩) n n,hK,⟨b,_,n,arr,ty,hr,hheap,rfl,Nat.le_refl _,by simp at hl;omega,fun _=>rfl⟩,?_⟩
    simp[Instr.sliceAt,run_underlying hund,Instr.sureAddr,Instr.sliceBounds,run_sizeOf hsz,Addr.add_zero']
   ·exact h.elim
  ·exact h.elim
 ·rename_i e ha hs
  have hund:P.underlying t=some (.slice e):=by
   unfold tslice at hs;split at hs
   ·rename_i hh;simp at hs;subst hs;exact hh
   ·cases hs
  split at h
  ·rename_i k es hsz hes
   obtain⟨A,c,rfl,hc,hA⟩:=hu.elems hes
   obtain⟨hE,h⟩:=h
   have key:∀l h:Nat,l≤h→h≤es.length→VR G S.fr w (.sl false ((es.take h).drop l)) (.slice (if c=l then A else A.map (·.add (l*(k+1)))) (h-l) (c-l)):=
    fun l h hl hh=>slice_data hS.dn hA hc l h (k+1) hl hh fun y hy=>(hE y hy).1
   split at h
   ·rw[hlo0 rfl,hhi0 rfl]
    exact⟨_,_,h,key 0 es.length (Nat.zero_le _) (Nat.le_refl _),by simp[Instr.sliceAt,run_underlying hund,Instr.slice,Instr.sliceBounds,run_sizeOf hsz]⟩
   ·rename_i kk l
    obtain⟨⟨h1,h2⟩,hK⟩:=h
    obtain⟨v,rfl,hv⟩:=hlo _ rfl
    obtain rfl:v=_:=hv
    rw[hhi0 rfl]
    exact⟨_,_,hK,key l.toNat es.length (by omega) (Nat.le_refl _),by simp[Instr.sliceAt,run_underlying hund,Instr.slice,Instr.sliceBounds,Instr.sliceBound,asIntOf,h1,h2,run_sizeOf hsz]⟩
   ·rename_i kk l
    obtain⟨⟨h1,h2⟩,hK⟩:=h
    obtain⟨v,rfl,hv⟩:=hhi _ rfl
    obtain rfl:v=_:=hv
    rw[hlo0 rfl]
    have h3:l≤(c:Int):=by omega
    exact⟨_,_,hK,key 0 l.toNat (Nat.zero_le _) (by omega),by simp[Instr.sliceAt,run_underlying hund,Instr.slice,Instr.sliceBounds,Instr.sliceBound,asIntOf,h1,h3,run_sizeOf hsz]⟩
   ·rename_i kk l kk' l'
    obtain⟨⟨h1,h2⟩,⟨h3,h4⟩,hK⟩:=h
    obtain⟨v,rfl,hv⟩:=hhi _ rfl
    obtain rfl:v=_:=hv
    obtain⟨v,rfl,hv⟩:=hlo _ rfl
    obtain rfl:v=_:=hv
    have h5:l'≤(c:Int):=by omega
    have h6:l≤l':=by omega
    exact⟨_,_,hK,key l.toNat l'.toNat (by omega) (by omega),by simp[Instr.sliceAt,run_underlying hund,Instr.slice,Instr.sliceBounds,Instr.sliceBound,asIntOf,h1,h5,h3,h6,run_sizeOf hsz,Int.toNat_of_nonneg h1]⟩
   ·exact h.elim
  ·exact h.elim
 ·exact h.elim
theorem sliceV_sound {P:Program}{L:World→Prop}{w0:Orig L}{G:Gh}{S:St}{w:World}(hS:RelS w0 G S w){t:TypeId}{id off n sz:Nat}{lo hi:Option AV}{lov hiv:Option Value}{K:AV→Prop}{u:Value}(hu:VR G S.fr w (.vsl id off n sz) u)
  (hlo:∀l,lo=some l→∃v,lov=some v∧VR G S.fr w l v) (hlo0:lo=none→lov=none) (hhi:∀l,hi=some l→∃v,hiv=some v∧VR G S.fr w l v) (hhi0:hi=none→hiv=none) (h:sliceV P S t id off n sz lo hi K) :
  ∃e r,K e∧VR G S.fr w e r∧(Instr.sliceAt t u lov hiv none).run P w=.ok r w:=by
 unfold sliceV at h
 split at h
 ·rename_i k ha hs
  obtain⟨el,hsl,hsz⟩:=Option.bind_eq_some_iff.1 hs
  have hund:P.underlying t=some (.slice el):=by
   unfold tslice at hsl;split at hsl
   ·rename_i hh;simp at hsl;subst hsl;exact hh
   ·cases hsl
  obtain⟨rfl,h⟩:=h
  obtain⟨b,A,c,arr,tt,hr,hheap,rfl,hc,hcap,hA⟩:=hu
  have key:∀l h:Nat,l≤h→h≤c→VR G S.fr w (.vsl id (off+l*k) (h-l) k) (.slice (if c=l then A else A.map (·.add (l*k))) (h-l) (c-l)):=by
   intro l h hl hh
   refine⟨b,_,c-l,arr,tt,hr,hheap,rfl,by omega,?_,fun hpos=>?_⟩
   ·have:(c-l)*k=c*k-l*k:=Nat.sub_mul ..
    have:l*k≤c*k:=Nat.mul_le_mul_right _ (by omega)
    omega
   ·rw[if_neg (by omega),hA (by omega)];simp[Addr.add_lit]
  have cap:∀h:Nat,upTo? S id off k h→h≤c:=by
   intro h hh
   unfold upTo? at hh
   split at hh
   ·rename_i cs ty hb
    obtain⟨h1,h2⟩:=hh
    obtain⟨b',ob,hr',hheap',arr',rfl,hasz,hv⟩:=hS.bx id _ hb rfl
    rw[hr]at hr';injection hr' with hr';subst hr'
    rw[hheap]at hheap';injection hheap' with hheap';injection hheap' with e1
    subst e1
    have h3:h*k≤c*k:=by omega
    exact Nat.le_of_mul_le_mul_right h3 h2
   ·exact hh.elim
  split at h
  ·rw[hlo0 rfl,hhi0 rfl]
   have:=key 0 n (Nat.zero_le _) hc
   simp only[Nat.zero_mul,Nat.add_zero,Nat.sub_zero]at this
   exact⟨_,_,h,this,by simp[Instr.sliceAt,run_underlying hund,Instr.slice,Instr.sliceBounds,run_sizeOf hsz]⟩
  ·rename_i kk l
   obtain⟨⟨h1,h2⟩,hK⟩:=h
   obtain⟨v,rfl,hv⟩:=hlo _ rfl
   obtain rfl:v=_:=hv
   rw[hhi0 rfl]
   exact⟨_,_,hK,key l.toNat n (by omega) hc,by simp[Instr.sliceAt,run_underlying hund,Instr.slice,Instr.sliceBounds,Instr.sliceBound,asIntOf,h1,h2,run_sizeOf hsz]⟩
  ·rename_i kk l
   obtain⟨⟨h1,h2⟩,hK⟩:=h
   obtain⟨v,rfl,hv⟩:=hhi _ rfl
   obtain rfl:v=_:=hv
   rw[hlo0 rfl]
   have h3:l≤(c:Int):=by have:=cap _ h2;omega
   have:=key 0 l.toNat (Nat.zero_le _) (cap _ h2)
   simp only[Nat.zero_mul,Nat.add_zero,Nat.sub_zero]at this
   exact⟨_,_,hK,this,by simp[Instr.sliceAt,run_underlying hund,Instr.slice,Instr.sliceBounds,Instr.sliceBound,asIntOf,h1,h3,run_sizeOf hsz]⟩
  ·rename_i kk l kk' l'
   obtain⟨⟨h1,h2⟩,⟨h3,h4⟩,hK⟩:=h
   obtain⟨v,rfl,hv⟩:=hhi _ rfl
   obtain rfl:v=_:=hv
   obtain⟨v,rfl,hv⟩:=hlo _ rfl
   obtain rfl:v=_:=hv
   have hcl:=cap _ h2
   have h5:l'≤(c:Int):=by omega
   have h6:l≤l':=by omega
   exact⟨_,_,hK,key l.toNat l'.toNat (by omega) hcl,by simp[Instr.sliceAt,run_underlying hund,Instr.slice,Instr.sliceBounds,Instr.sliceBound,asIntOf,h1,h5,h3,h6,run_sizeOf hsz,Int.toNat_of_nonneg h1]⟩
  ·exact h.elim
 ·exact h.elim
theorem sliceK_sound {P:Program}{L:World→Prop}{w0:Orig L}{G:Gh}{S:St}{w:World}(hS:RelS w0 G S w){t:TypeId}{x:AV}{lo hi:Option AV}{lov hiv:Option Value}{K:AV→Prop}{u:Value}(hu:VR G S.fr w x u)
  (hlo:∀l,lo=some l→∃v,lov=some v∧VR G S.fr w l v) (hlo0:lo=none→lov=none) (hhi:∀l,hi=some l→∃v,hiv=some v∧VR G S.fr w l v) (hhi0:hi=none→hiv=none) (h:sliceK P S t x lo hi K) :
  ∃e r,K e∧VR G S.fr w e r∧(Instr.sliceAt t u lov hiv none).run P w=.ok r w:=by
 unfold sliceK at h
 split at h
 ·rename_i e hg
  obtain⟨hs,hK⟩:=h
  obtain⟨n,hs⟩:=Option.isSome_iff_exists.1 hs
  obtain⟨el,hsl,hsz⟩:=Option.bind_eq_some_iff.1 hs
  have hund:P.underlying t=some (.slice el):=by
   unfold tslice at hsl;split at hsl
   ·rename_i hh;simp at hsl;subst hsl;exact hh
   ·cases hsl
  unfold sliceG at hg
  split at hg
  ·rename_i e1 m kk
   simp at hg;subst hg
   obtain⟨A,c,rfl,hc,h3⟩:=hu
   obtain⟨v,rfl,hv⟩:=hhi _ rfl
   obtain rfl:v=_:=hv
   rw[hlo0 rfl]
   refine⟨_,_,hK,h3,?_⟩
   by_cases h0:c=0
   ·subst h0
    simp[Instr.sliceAt,run_underlying hund,Instr.slice,Instr.sliceBounds,Instr.sliceBound,asIntOf,run_sizeOf hsz]
   ·simp[Instr.sliceAt,run_underlying hund,Instr.slice,Instr.sliceBounds,Instr.sliceBound,asIntOf,run_sizeOf hsz,Addr.add_zero']
  ·rename_i kk
   simp at hg;subst hg
   obtain rfl:u=_:=hu
   obtain⟨v,rfl,hv⟩:=hhi _ rfl
   obtain rfl:v=_:=hv
   rw[hlo0 rfl]
   exact⟨_,_,hK,rfl,by simp[Instr.sliceAt,run_underlying hund,Instr.slice,Instr.sliceBounds,Instr.sliceBound,asIntOf,run_sizeOf hsz]⟩
  ·rename_i kk
   simp at hg;subst hg
   obtain⟨A,c,rfl,hc,h3⟩:=hu
   obtain h3:Value.slice A 0 c=.slice none 0 0:=h3
   injection h3 with e1 e2 e3
   subst e1;subst e3
   obtain⟨v,rfl,hv⟩:=hlo _ rfl
   obtain rfl:v=_:=hv
   rw[hhi0 rfl]
   exact⟨_,_,hK,rfl,by simp[Instr.sliceAt,run_underlying hund,Instr.slice,Instr.sliceBounds,Instr.sliceBound,asIntOf,run_sizeOf hsz]⟩
  ·cases hg
 ·split at h
  ·exact sliceV_sound hS hu hlo hlo0 hhi hhi0 h
  ·exact sliceV_sound hS (hS.exact h.1 hu) hlo hlo0 hhi hhi0 h.2
  ·exact sliceK0_sound hS hu hlo hlo0 hhi hhi0 h
open Go Go.RowKit
theorem fieldK_sound {P:Program}{G:Gh}{S:St}{w:World}{t:TypeId}{x:AV}{f:Nat}{K:AV→Prop}{u:Value}(hu:VR G S.fr w x u)(h:fieldK P t x f K) :
  ∃e r,K e∧VR G S.fr w e r∧(Instr.field t u f).run P w=.ok r w:=by
 unfold fieldK at h
 split at h
 ·rename_i o ft cs hf
  unfold tfield at hf
  split at hf
  ·rename_i fs hund
   simp only[Option.map_eq_some_iff]at hf
   obtain⟨fd,hfd,he⟩:=hf
   simp at he
   obtain⟨rfl,rfl⟩:=he
   obtain⟨vs,rfl,hvs⟩:=hu
   have hlen:=hvs.length
   simp at hlen
   unfold ldCells at h
   split at h
   ·rename_i n ha hn
    obtain⟨hle,hK⟩:=h
    refine⟨_,.agg ((vs.toList.drop fd.offset).take n).toArray,hK,⟨_,rfl,by simpa using (hvs.drop _).take _⟩,?_⟩
    simp[Instr.field,run_underlying hund,hfd,asAgg,run_part hn w vs (off:=fd.offset) (by omega) (v:=.agg ((vs.toList.drop fd.offset).take n).toArray) (by simp[ofCells,ha])]
   ·rename_i ha
    split at h
    ·rename_i v hv
     rw[AV.force_eq]at h
     obtain⟨r,hr,hvr⟩:=hvs.get hv
     have hr':vs[fd.offset]? = some r:=by simpa using hr
     exact⟨v,r,h,hvr,by simp[Instr.field,run_underlying hund,hfd,asAgg,part,run_isAgg ha,hr']⟩
    ·exact h.elim
   ·exact h.elim
  ·cases hf
 ·exact h.elim
theorem evals_parts {lo:Nat×Option Nat}{G:Gh}{fr:Frs}{w:World}{nt:Nat}{a:Nat→AV}{act:Act}(h:RelT lo G fr w nt a act)(parts:Array (Nat×Operand)) :
  ((parts.map fun p=>(p.1,act.eval p.2)).toList.map (·.1)=(parts.toList.map fun p=>(p.1,evO a p.2)).map (·.1)) ∧
  VRs G fr w ((parts.toList.map fun p=>(p.1,evO a p.2)).map (·.2)) ((parts.map fun p=>(p.1,act.eval p.2)).toList.map (·.2)):=by
 refine⟨by simp,?_⟩
 have:=h.evals (parts.toList.map (·.2))
 simp only[List.map_map,Array.toList_map]at this ⊢
 exact this
theorem OpK_sound {P:Program}{ro:Option Nat}{d:Bool}{o:Oper}{act:Act}{w:World}(Q:Exit→Act→World→Prop){L:World→Prop}{w0:Orig L}{G:Gh}{S:St}{nt:Nat}{a:Nat→AV}{K:AV→St→Prop}(hS:RelS w0 G S w)(hT:RelT w0.fi G S.fr w nt a act)(hd:∀t,o.dst=some t→t < nt)
  (h:OpK P L d a S o K):o.wpIn (FW ro) 0 P act w (After w0 G S w nt a o.dst K) Q:=by
 obtain⟨dst,op,type,pos,after,guard⟩:=o
 cases op<;>simp only[OpK]at h
 case move x=>rw[AV.force_eq]at h;exact wp_pureV (by simp) hS hT hd (pure (act.eval x)) (by simp[execOp]) ⟨_,_,h,hT.eval x,rfl⟩
 case assign x=>rw[AV.force_eq]at h;exact wp_pureV (by simp) hS hT hd (pure (act.eval x)) (by simp[execOp]) ⟨_,_,h,hT.eval x,rfl⟩
 case pick c x y=>
  split at h
  ·rename_i b hb
   have hc:=hT.eval c
   rw[hb]at hc
   obtain hc:act.eval c=_:=hc
   cases b
   ·rw[BrK_false,AV.force_eq]at h
    exact wp_pureV (by simp) hS hT hd (pure (act.eval y)) (by simp[execOp,hc,asBool]) ⟨_,_,h,hT.eval y,rfl⟩
   ·rw[BrK_true,AV.force_eq]at h
    exact wp_pureV (by simp) hS hT hd (pure (act.eval x)) (by simp[execOp,hc,asBool]) ⟨_,_,h,hT.eval x,rfl⟩
  ·exact h.elim
 case alloc t=>exact wp_value (by simp) hT hd (Instr.alloc t true (.tuple #[])) rfl (opAlloc_sound hS h)
 case box t x=>rw[AV.force_eq]at h;exact wp_value (by simp) hT hd (Instr.box t (act.eval x)) rfl (opBox_sound hS (hT.eval x) h)
 case build t parts=>
  obtain⟨h1,h2⟩:=evals_parts hT parts
  exact wp_pureV (by simp) hS hT hd (Instr.build t (parts.map fun p=>(p.1,act.eval p.2))) (by simp only[execOp]) (buildK_sound _ h1 h2 h)
 case buildSlice t n parts=>
  obtain⟨h1,h2⟩:=evals_parts hT parts
  split at h
  case h_2=>
   split at h
   case h_2=>exact wp_value (by simp) hT hd (Instr.buildSlice t n (parts.map fun p=>(p.1,act.eval p.2))) (by simp only[execOp]) (buildSliceO_sound hS _ h1 h2 h)
   case h_1 hl=>
    obtain⟨rfl,hp⟩:=litZ_eq hl
    refine wp_value (by simp) hT hd (Instr.buildSlice t 1 (parts.map fun p=>(p.1,act.eval p.2))) (by simp only[execOp]) (buildSliceI_sound hS _ ?_ ?_ h)
    ·rw[h1,hp];rfl
    ·rw[hp]at h2;exact h2
  refine wp_value (by simp) hT hd (Instr.buildSlice t n (parts.map fun p=>(p.1,act.eval p.2))) (by simp only[execOp]) ?_
  obtain⟨v,w',G',S',e,hr,k1,k2,k3,rfl,k4⟩:=buildSliceK_sound hS _ h1 h2 h
  exact⟨v,w',G',_,e,hr,k1,k2,k3,k4⟩
 case load t x=>exact wp_value (by simp) hT hd (Instr.loadAt t (act.eval x)) rfl (opLoad_sound hS (hT.eval x) h)
 case store t x v=>
  rw[AV.force_eq]at h
  obtain⟨w',G',S',hr,h1,h2,h3⟩:=opStore_sound (P:=P) hS (hT.eval x) (hT.eval v) h
  refine⟨fun _ _=>trivial,?_⟩
  rw[Oper.semAt_eq _ _ _ (by simp)]
  simp only[execOp,Sem.run_bind,hr,Result.andThen_ok,Sem.run_pure]
  exact⟨G',S',.undef,h1,h2,(hT.keep h2).put hd trivial,h3⟩
 case nilCheck x=>
  obtain⟨hp,hK⟩:=h
  have hx:=hT.eval x
  refine wp_pureV (by simp) hS hT hd (pure (act.eval x)) ?_ ⟨_,_,hK,hx,rfl⟩
  generalize evO a x=e at hp hx
  cases e<;>simp[isPtr]at hp
  ·obtain⟨b,_,hv⟩:=hx
   simp[execOp,hv]
  ·obtain⟨b,o,hv,_⟩:=hx
   simp[execOp,hv]
 case binOp op t x y yt=>
  split at h
  ·rename_i hn
   have hy:act.eval y=.slice none 0 0:=by
    unfold isNilC at hn
    split at hn
    ·rfl
    ·cases hn
   obtain⟨e,r,hK,hv,hr⟩:=nilCmpK_sound (P:=P) (hT.eval x) x y h
   exact wp_pureV (by simp) hS hT hd (do eqGuard op t x y (act.eval x) (act.eval y);binOp op t (act.eval x) (act.eval y)) rfl ⟨e,r,hK,hv _ _,by rw[hy];exact hr⟩
  obtain⟨e,r,hK,hv,hr⟩:=binK_sound (P:=P) G S.fr w (hT.eval x) (hT.eval y) x y h
  exact wp_pureV (by simp) hS hT hd (do eqGuard op t x y (act.eval x) (act.eval y);binOp op t (act.eval x) (act.eval y)) rfl ⟨e,r,hK,hv _ _,hr⟩
 case unOp op t x=>
  obtain⟨e,r,hK,hv,hr⟩:=unK_sound (P:=P) (hT.eval x) h
  exact wp_pureV (by simp) hS hT hd (Op.unary op (act.eval x)) rfl ⟨e,r,hK,hv _ _,hr⟩
 case makeFunc fn first caps=>
  refine wp_pureV (by simp) hS hT hd (Instr.makeFunc fn (first.map act.eval) (caps.map act.eval)) rfl ?_
  unfold makeFuncK at h
  split at h
  ·rename_i f hfirst
   have hf0:first=#[]:=by
    apply Array.ext'
    simpa using hfirst
   subst hf0
   exact⟨_,.func (.func f) #[] (caps.map act.eval),h,⟨_,rfl,by simpa using hT.evals caps.toList⟩,by simp[Instr.makeFunc]⟩
  ·rename_i f id off hfirst
   obtain⟨hcaps,h⟩:=h
   have hc0:caps=#[]:=by
    apply Array.ext'
    simpa using hcaps
   subst hc0
   have hv:=hT.evals first.toList
   rw[hfirst]at hv
   obtain⟨u,us,e1,⟨b,hr,rfl⟩,e2⟩:=hv
   have e2:us=[]:=e2
   subst e2
   have hm:first.map act.eval=#[.pointer (some ⟨b,off,none⟩)]:=by
    apply Array.ext'
    simpa using e1
   exact⟨_,.func (.func f) #[.pointer (some ⟨b,off,none⟩)] #[],h,⟨b,hr,rfl⟩,by simp[Instr.makeFunc,hm]⟩
  ·exact h.elim
 case slice t x lo hi mx=>
  cases mx with
  | some m=>
   cases lo with
   | none=>exact h.elim
   | some lo=>
    cases hi with
    | none=>exact h.elim
    | some hi=>
     simp only at h
     exact wp_pureV (by simp) hS hT hd (Instr.sliceAt t (act.eval x) (some (act.eval lo)) (some (act.eval hi)) (some (act.eval m))) rfl (slice3K_sound (hT.eval x) (hT.eval lo) (hT.eval hi) (hT.eval m) h)
  | none=>
   simp only at h
   exact wp_pureV (by simp) hS hT hd (Instr.sliceAt t (act.eval x) (lo.map act.eval) (hi.map act.eval) none) rfl
    (sliceK_sound hS (hT.eval x) (fun l hl=>by cases lo<;>simp at hl;subst hl;exact⟨_,rfl,hT.eval _⟩) (fun hl=>by cases lo<;>simp at hl ⊢) (fun l hl=>by cases hi<;>simp at hl;subst hl;exact⟨_,rfl,hT.eval _⟩) (fun hl=>by cases hi<;>simp at hl ⊢) h)
 case fieldAddr s x f=>exact wp_pureV (by simp) hS hT hd (Instr.fieldAt s (act.eval x) f) rfl (fieldAddrK_sound (hT.eval x) h)
 case field t x f=>exact wp_pureV (by simp) hS hT hd (Instr.field t (act.eval x) f) rfl (fieldK_sound (hT.eval x) h)
 case indexAddr t x i=>exact wp_pureV (by simp) hS hT hd (Instr.indexAt t (act.eval x) (act.eval i)) rfl (indexAddrK_sound hS.dn (hT.eval x) (hT.eval i) h)
 case convert src dst x=>exact wp_pureV (by simp) hS hT hd (convert src dst (act.eval x)) rfl (convK_sound hS (hT.eval x) h)
 case index t x i=>exact wp_pureV (by simp) hS hT hd (Instr.index t (act.eval x) (act.eval i)) rfl (indexK_sound (S:=S) (hT.eval x) (hT.eval i) h)
 case lookup t x i c=>exact wp_pureV (by simp) hS hT hd (Instr.lookup t (act.eval x) (act.eval i) c) rfl (lookupK_sound hS (hT.eval x) (hT.eval i) h)
 case makeMap t r=>
  cases r with
  | some _=>exact h.elim
  | none=>exact wp_value (by simp) hT hd (Instr.makeMap t none) rfl (makeMapK_sound hS h)
 case mapUpdate t m k v=>
  rw[AV.force_eq]at h
  obtain⟨w',G',S',hr,h1,h2,h3⟩:=mapUpdK_sound (P:=P) hS (hT.eval m) (hT.eval k) (hT.eval v) h
  refine⟨fun _ _=>trivial,?_⟩
  rw[Oper.semAt_eq _ _ _ (by simp)]
  simp only[execOp,Sem.run_bind,hr,Result.andThen_ok,Sem.run_pure]
  exact⟨G',S',.undef,h1,h2,(hT.keep h2).put hd trivial,h3⟩
 case insert t m k v=>
  rw[AV.force_eq]at h
  obtain⟨w',G',S',hr,h1,h2,h3⟩:=mapUpdK_sound (P:=P) hS (hT.eval m) (hT.eval k) (hT.eval v) h
  refine⟨fun _ _=>trivial,?_⟩
  rw[Oper.semAt_eq _ _ _ (by simp)]
  simp only[execOp,Sem.run_bind,hr,Result.andThen_ok,Sem.run_pure]
  exact⟨G',S',.undef,h1,h2,(hT.keep h2).put hd trivial,h3⟩
 case mapEntry t m k=>exact wp_value (by simp) hT hd (Instr.mapEntry t (act.eval m) (act.eval k)) rfl (mapEntryK_sound hS (hT.eval m) (hT.eval k) h)
 case entryStore t m k v=>
  rw[AV.force_eq]at h
  obtain⟨w',G',S',hr,h1,h2,h3⟩:=entryStoreK_sound (P:=P) (t:=t) hS (hT.eval m) (hT.eval k) (hT.eval v) h
  refine⟨fun _ _=>trivial,?_⟩
  rw[Oper.semAt_eq _ _ _ (by simp)]
  simp only[execOp,Sem.run_bind,hr,Result.andThen_ok,Sem.run_pure]
  exact⟨G',S',.undef,h1,h2,(hT.keep h2).put hd trivial,h3⟩
 case range t x=>exact wp_value (by simp) hT hd (Instr.range t (act.eval x)) rfl (rangeK_sound hS (hT.eval x) h)
 case next x s=>
  cases s with
  | true=>exact h.elim
  | false=>exact wp_value (by simp) hT hd (Instr.next (act.eval x) false type) rfl (nextK_sound hS (hT.eval x) h)
 case entry x=>exact wp_pureV (by simp) hS hT hd (Instr.entry (act.eval x)) rfl (entryK_sound hS (hT.eval x) h)
 case makeSlice t l c=>exact wp_value (by simp) hT hd (Instr.makeSlice t (act.eval l) (act.eval c)) rfl (makeSliceK_sound hS (hT.eval l) (hT.eval c) h)
 case extract x i=>exact wp_pureV (by simp) hS hT hd (Instr.extract (act.eval x) i) rfl (extractK_sound (hT.eval x) h)
 case call c=>
  obtain⟨callee,args,argTypes⟩:=c
  cases callee with
  | value f=>
   cases d with
   | true=>
    simp only at h
    refine CallK_sound hS hT hd f args argTypes rfl ((CallP.toK h).mono fun e S' hh=>?_)
    obtain⟨h1,h2⟩:=hh
    subst h1
    exact h2
   | false=>exact CallK_sound hS hT hd f args argTypes rfl h
  | invoke r m=>exact h.elim
  | builtin b=>
   simp only at h
   have hev:=hT.evals args.toList
   have hexec:execOp act.eval {dst:=dst,op:=.call {callee:=.builtin b,args,argTypes},type:=type,pos:=pos,after:=after,guard:=guard} =
     (do let d ←resolve act.eval {callee:=.builtin b,args,argTypes} type;invoke d.target d.args):=rfl
   unfold builtinK at h
   split at h
   ·rename_i t id hts hargs
    obtain⟨hmt,h⟩:=h
    have ht:argTypes=#[t]:=by apply Array.ext';simpa using hts
    obtain⟨x',rfl⟩:∃x',args=#[x']:=by
     have hl:args.toList.length=1:=by simpa using congrArg List.length hargs
     obtain⟨y,hy⟩:=List.length_eq_one_iff.1 hl
     exact⟨y,by apply Array.ext';simpa using hy⟩
    subst ht
    simp at hargs
    exact wp_pureV (by simp) hS hT hd (Builtin.len_ #[t] type #[act.eval x']) (by rw[hexec];simp[resolve,invoke,builtin]) (lenMapK_sound hS (hT.eval x') hmt (by rw[hargs];exact h))
   ·rename_i t sh ks vs hts hargs
    obtain⟨hmt,h⟩:=h
    have ht:argTypes=#[t]:=by apply Array.ext';simpa using hts
    obtain⟨x',rfl⟩:∃x',args=#[x']:=by
     have hl:args.toList.length=1:=by simpa using congrArg List.length hargs
     obtain⟨y,hy⟩:=List.length_eq_one_iff.1 hl
     exact⟨y,by apply Array.ext';simpa using hy⟩
    subst ht
    simp at hargs
    exact wp_pureV (by simp) hS hT hd (Builtin.len_ #[t] type #[act.eval x']) (by rw[hexec];simp[resolve,invoke,builtin]) (lenMapK_sound hS (hT.eval x') hmt (by rw[hargs];exact h))
   ·rename_i t x hne1 hne2 hts hargs
    have ht:argTypes=#[t]:=by apply Array.ext';simpa using hts
    obtain⟨x',rfl⟩:∃x',args=#[x']:=by
     have hl:args.toList.length=1:=by simpa using congrArg List.length hargs
     obtain⟨y,hy⟩:=List.length_eq_one_iff.1 hl
     exact⟨y,by apply Array.ext';simpa using hy⟩
    subst ht
    simp at hargs
    subst hargs
    exact wp_pureV (by simp) hS hT hd (Builtin.len_ #[t] type #[act.eval x']) (by rw[hexec];simp[resolve,invoke,builtin]) (lenK_sound (hT.eval x') h)
   ·rename_i t u s b hts hargs
    have ht:argTypes=#[t,u]:=by apply Array.ext';simpa using hts
    obtain⟨s',x',rfl⟩:∃s' x',args=#[s',x']:=by
     have hl:args.toList.length=2:=by simpa using congrArg List.length hargs
     match hh:args.toList,hl with
     | [y,z],_=>exact⟨y,z,by apply Array.ext';simpa using hh⟩
    subst ht
    simp at hargs
    obtain⟨rfl,hb⟩:=hargs
    have hx:=hT.eval x'
    rw[hb]at hx
    obtain hx:act.eval x'=_:=hx
    exact wp_value (by simp) hT hd (Builtin.append_ #[t,u] type #[act.eval s',act.eval x']) (by rw[hexec];simp[resolve,invoke,builtin]) (by rw[hx];exact appendStrK_sound hS (hT.eval s') h)
   ·rename_i t id off n sz hts hargs
    have ht:argTypes=#[t]:=by apply Array.ext';simpa using hts
    obtain⟨s',rfl⟩:∃s',args=#[s']:=by
     have hl:args.toList.length=1:=by simpa using congrArg List.length hargs
     match hh:args.toList,hl with
     | [y],_=>exact⟨y,by apply Array.ext';simpa using hh⟩
    subst ht
    simp at hargs
    have hy:=hT.eval s'
    rw[hargs]at hy
    exact wp_value (by simp) hT hd (Builtin.clear_ #[t] type #[act.eval s']) (by rw[hexec];simp[resolve,invoke,builtin]) (clearK_sound hS hy h)
   ·rename_i t id off n sz hts hargs
    have ht:argTypes=#[t]:=by apply Array.ext';simpa using hts
    obtain⟨s',rfl⟩:∃s',args=#[s']:=by
     have hl:args.toList.length=1:=by simpa using congrArg List.length hargs
     match hh:args.toList,hl with
     | [y],_=>exact⟨y,by apply Array.ext';simpa using hh⟩
    subst ht
    simp at hargs
    have hy:=hT.eval s'
    rw[hargs]at hy
    exact wp_pureV (by simp) hS hT hd (Builtin.cap_ #[t] type #[act.eval s']) (by rw[hexec];simp[resolve,invoke,builtin]) (capK_sound hS hy h)
   ·rename_i t t' id off n sz s hts hargs
    have ht:argTypes=#[t,t']:=by apply Array.ext';simpa using hts
    obtain⟨s',x',rfl⟩:∃s' x',args=#[s',x']:=by
     have hl:args.toList.length=2:=by simpa using congrArg List.length hargs
     match hh:args.toList,hl with
     | [y,z],_=>exact⟨y,z,by apply Array.ext';simpa using hh⟩
    subst ht
    simp at hargs
    obtain⟨ha,rfl⟩:=hargs
    have hy:=hT.eval s'
    rw[ha]at hy
    exact wp_value (by simp) hT hd (Builtin.copy_ #[t,t'] type #[act.eval s',act.eval x']) (by rw[hexec];simp[resolve,invoke,builtin]) (copyK_sound hS hy (hT.eval x') h)
   ·rename_i t t' id off n sz s hts hargs
    obtain⟨hx1,h⟩:=h
    have ht:argTypes=#[t,t']:=by apply Array.ext';simpa using hts
    obtain⟨s',x',rfl⟩:∃s' x',args=#[s',x']:=by
     have hl:args.toList.length=2:=by simpa using congrArg List.length hargs
     match hh:args.toList,hl with
     | [y,z],_=>exact⟨y,z,by apply Array.ext';simpa using hh⟩
    subst ht
    simp at hargs
    obtain⟨ha,rfl⟩:=hargs
    have hy:=hT.eval s'
    rw[ha]at hy
    exact wp_value (by simp) hT hd (Builtin.copy_ #[t,t'] type #[act.eval s',act.eval x']) (by rw[hexec];simp[resolve,invoke,builtin]) (copyK_sound hS (hS.exact hx1 hy) (hT.eval x') h)
   ·rename_i t u n hts hargs
    have ht:argTypes=#[t,u]:=by apply Array.ext';simpa using hts
    obtain⟨s',x',rfl⟩:∃s' x',args=#[s',x']:=by
     have hl:args.toList.length=2:=by simpa using congrArg List.length hargs
     match hh:args.toList,hl with
     | [y,z],_=>exact⟨y,z,by apply Array.ext';simpa using hh⟩
    subst ht
    simp at hargs
    obtain⟨ha,hb⟩:=hargs
    have hx:=hT.eval x'
    rw[hb]at hx
    obtain hx:act.eval x'=_:=hx
    have hy:=hT.eval s'
    rw[ha]at hy
    obtain hy:act.eval s'=_:=hy
    exact wp_value (by simp) hT hd (Builtin.append_ #[t,u] type #[act.eval s',act.eval x']) (by rw[hexec];simp[resolve,invoke,builtin]) (by rw[hx,hy];exact growK_sound hS h)
   ·rename_i t u id off n sz m hts hargs
    obtain⟨rfl,h⟩:=h
    have ht:argTypes=#[t,u]:=by apply Array.ext';simpa using hts
    obtain⟨s',x',rfl⟩:∃s' x',args=#[s',x']:=by
     have hl:args.toList.length=2:=by simpa using congrArg List.length hargs
     match hh:args.toList,hl with
     | [y,z],_=>exact⟨y,z,by apply Array.ext';simpa using hh⟩
    subst ht
    simp at hargs
    obtain⟨ha,hb⟩:=hargs
    have hx:=hT.eval x'
    rw[hb]at hx
    obtain hx:act.eval x'=_:=hx
    have hy:=hT.eval s'
    rw[ha]at hy
    exact wp_value (by simp) hT hd (Builtin.append_ #[t,u] type #[act.eval s',act.eval x']) (by rw[hexec];simp[resolve,invoke,builtin]) (by rw[hx];exact growV_sound hS hy h)
   ·rename_i t t' id off n sz id2 off2 m sz2 hts hargs
    obtain⟨⟨rfl,rfl⟩,h⟩:=h
    have ht:argTypes=#[t,t]:=by apply Array.ext';simpa using hts
    obtain⟨s',x',rfl⟩:∃s' x',args=#[s',x']:=by
     have hl:args.toList.length=2:=by simpa using congrArg List.length hargs
     match hh:args.toList,hl with
     | [y,z],_=>exact⟨y,z,by apply Array.ext';simpa using hh⟩
    subst ht
    simp at hargs
    obtain⟨ha,hb⟩:=hargs
    have hx:=hT.eval x'
    rw[hb]at hx
    have hy:=hT.eval s'
    rw[ha]at hy
    exact wp_value (by simp) hT hd (Builtin.append_ #[t,t] type #[act.eval s',act.eval x']) (by rw[hexec];simp[resolve,invoke,builtin]) (appendVV_sound hS hy hx h)
   ·rename_i t t' id off n sz x hne hne2 hne3 hts hargs
    obtain⟨⟨rfl,rfl⟩,h⟩:=h
    have ht:argTypes=#[t,t]:=by apply Array.ext';simpa using hts
    obtain⟨s',x',rfl⟩:∃s' x',args=#[s',x']:=by
     have hl:args.toList.length=2:=by simpa using congrArg List.length hargs
     match hh:args.toList,hl with
     | [y,z],_=>exact⟨y,z,by apply Array.ext';simpa using hh⟩
    subst ht
    simp at hargs
    obtain⟨ha,rfl⟩:=hargs
    have hy:=hT.eval s'
    rw[ha]at hy
    exact wp_value (by simp) hT hd (Builtin.append_ #[t,t] type #[act.eval s',act.eval x']) (by rw[hexec];simp[resolve,invoke,builtin]) (appendV_sound hS hy (hT.eval x') h)
   ·rename_i t t' x hne hts hargs
    obtain⟨rfl,h⟩:=h
    have ht:argTypes=#[t,t]:=by apply Array.ext';simpa using hts
    obtain⟨s',x',rfl⟩:∃s' x',args=#[s',x']:=by
     have hl:args.toList.length=2:=by simpa using congrArg List.length hargs
     match hh:args.toList,hl with
     | [y,z],_=>exact⟨y,z,by apply Array.ext';simpa using hh⟩
    subst ht
    simp at hargs
    obtain⟨ha,rfl⟩:=hargs
    have hy:=hT.eval s'
    rw[ha]at hy
    obtain⟨A,c,hyv,_,h3⟩:=hy
    obtain h3:Value.slice A 0 c=.slice none 0 0:=h3
    injection h3 with e1 e2 e3
    subst e1;subst e3
    exact wp_value (by simp) hT hd (Builtin.append_ #[t,t] type #[act.eval s',act.eval x']) (by rw[hexec];simp[resolve,invoke,builtin]) (by rw[hyv];exact appendN_sound hS (hT.eval x') h)
   ·rename_i t hts hargs
    obtain⟨hs,hK⟩:=h
    have ht:argTypes=#[t]:=by apply Array.ext';simpa using hts
    obtain⟨s',rfl⟩:∃s',args=#[s']:=by
     have hl:args.toList.length=1:=by simpa using congrArg List.length hargs
     match hh:args.toList,hl with
     | [y],_=>exact⟨y,by apply Array.ext';simpa using hh⟩
    subst ht
    simp at hargs
    have hy:=hT.eval s'
    rw[hargs]at hy
    obtain hy:act.eval s'=_:=hy
    obtain⟨e,hsl⟩:=Option.isSome_iff_exists.1 hs
    have hund:P.underlying t=some (.slice e):=by
     unfold tslice at hsl;split at hsl
     ·rename_i hh;simp at hsl;subst hsl;exact hh
     ·cases hsl
    exact wp_value (by simp) hT hd (Builtin.cap_ #[t] type #[act.eval s']) (by rw[hexec];simp[resolve,invoke,builtin]) (by
     rw[hy]
     have hr:(Builtin.cap_ #[t] type #[.slice none 0 0]).run P w=.ok (.int .i64 0) w:=by simp[Builtin.cap_,run_underlying hund,goInt]
     rw[hr]
     exact OutK.same hS (e:=.int .i64 0) rfl hK)
   ·rename_i t t' s x hne hne2 hne3 hne4 hne5 hne6 hts hargs
    obtain⟨rfl,h⟩:=h
    have ht:argTypes=#[t,t]:=by apply Array.ext';simpa using hts
    obtain⟨s',x',rfl⟩:∃s' x',args=#[s',x']:=by
     have hl:args.toList.length=2:=by simpa using congrArg List.length hargs
     match hh:args.toList,hl with
     | [y,z],_=>exact⟨y,z,by apply Array.ext';simpa using hh⟩
    subst ht
    simp at hargs
    obtain⟨rfl,rfl⟩:=hargs
    exact wp_value (by simp) hT hd (Builtin.append_ #[t,t] type #[act.eval s',act.eval x']) (by rw[hexec];simp[resolve,invoke,builtin]) (appendK_sound hS (hT.eval s') (hT.eval x') h)
   ·rename_i k x k' y hargs
    obtain⟨rfl,hK⟩:=h
    obtain⟨s',x',rfl⟩:∃s' x',args=#[s',x']:=by
     have hl:args.toList.length=2:=by simpa using congrArg List.length hargs
     match hh:args.toList,hl with
     | [y,z],_=>exact⟨y,z,by apply Array.ext';simpa using hh⟩
    simp at hargs
    have e1:=hT.eval s';rw[hargs.1]at e1
    have e2:=hT.eval x';rw[hargs.2]at e2
    obtain e1:act.eval s'=_:=e1
    obtain e2:act.eval x'=_:=e2
    exact wp_pureV (by simp) hS hT hd (Builtin.min_ argTypes type #[act.eval s',act.eval x']) (by rw[hexec];simp[resolve,invoke,builtin]) ⟨_,_,hK,rfl,by rw[e1,e2];exact run_min_int2 w argTypes type k k x y⟩
   ·rename_i k x k' y hargs
    obtain⟨rfl,hK⟩:=h
    obtain⟨s',x',rfl⟩:∃s' x',args=#[s',x']:=by
     have hl:args.toList.length=2:=by simpa using congrArg List.length hargs
     match hh:args.toList,hl with
     | [y,z],_=>exact⟨y,z,by apply Array.ext';simpa using hh⟩
    simp at hargs
    have e1:=hT.eval s';rw[hargs.1]at e1
    have e2:=hT.eval x';rw[hargs.2]at e2
    obtain e1:act.eval s'=_:=e1
    obtain e2:act.eval x'=_:=e2
    exact wp_pureV (by simp) hS hT hd (Builtin.max_ argTypes type #[act.eval s',act.eval x']) (by rw[hexec];simp[resolve,invoke,builtin]) ⟨_,_,hK,rfl,by rw[e1,e2];exact run_max_int2 w argTypes type k k x y⟩
   ·exact h.elim
end HM
