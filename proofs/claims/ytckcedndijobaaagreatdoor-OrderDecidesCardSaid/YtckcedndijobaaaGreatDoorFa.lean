/- Abstract values and stores, and what operations do to them. -/
import Derived.Below
import Derived.Orders
import Derived.Tactics
import Derived.Laws.World
import Derived.Laws.Append
import Derived.Laws.AppendOwn
import Derived.Laws.CopyRow
import Derived.Laws.Entries
import Derived.Laws.Rows
import Derived.Laws.Build
import Derived.Laws.ByValue
import Derived.Laws.Small
import Derived.Laws.Tables
import Derived.Laws.StructEq
import Derived.Great.BuildSlice
namespace HM
open Go Go.RowKit
inductive AV where
 | int (k:IntKind) (n:Int)
 | bool (b:Bool)
 | str (s:ByteArray)
 | nils
 | nilp
 | nili
 | nilm
 | sl (tight:Bool) (es:List AV)
 | own (es:List AV) (ch:Nat)
 | grown (e:AV) (n:Nat)
 | bsl (id off n sz:Nat)
 | vsl (id off n sz:Nat)
 | ptr (id off:Nat)
 | cptr (e:AV) (off:Nat)
 | yld (id:Nat)
 | mp (id:Nat)
 | cmp (sh:Option Nat) (ks:List (List Int)) (vs:List AV)
 | fn (f:FuncId) (caps:List AV)
 | bfn (f:FuncId) (id off:Nat)
 | agg (cs:List AV)
 | tup (vs:List AV)
 | undef
 deriving Inhabited
def AV.cells:AV→List AV
 | .agg cs=>cs
 | v=>[v]
def AV.ncells (e:AV):Nat:=e.cells.length
structure Gh where
 ok:Nat→Nat→Prop
 ρ:Nat→Option Nat
 χ:Nat→Option Nat
def Gh.pure (G:Gh):Gh:={G with ρ:=fun _=>none}
def AtMem (w:World)(b o:Nat)(u:Value):Prop:=∀j c,u.cells[j]? = some c→w.cell? ⟨b,o+j,none⟩=some c
abbrev Frs:=List (Nat×Nat)
def keyVal (sh:Option Nat)(l:List Int):Value:=match sh with
 | none=>.int .i64 (l.headD 0)
 | some _=>.agg (l.map (Value.int .i64)).toArray
def keyLen (sh:Option Nat)(l:List Int):Prop:=match sh with
 | none=>l.length=1
 | some n=>l.length=n
structure KeysOk (sh:Option Nat)(ks:List (List Int))(es:Array MapEntry)(cl:Nat):Prop where
 keys:es.toList.map (·.key)=ks.map (keyVal sh)
 nd:ks.Nodup
 len:∀k∈ks,keyLen sh k
 lt:∀e∈es.toList,e.born < cl
 bn:(es.toList.map (·.born)).Nodup
mutual
def VR:Gh→Frs→World→AV→Value→Prop
 | _,_,_,.int k n,v=>v=.int k n
 | _,_,_,.bool b,v=>v=.bool b
 | _,_,_,.str s,v=>v=.string s
 | _,_,_,.nils,v=>v=.slice none 0 0
 | _,_,_,.nilp,v=>v=.pointer none
 | _,_,_,.nili,v=>v=.nilIface
 | _,_,_,.nilm,v=>v=.map none
 | G,_,w,.sl t es,v=>∃A c,v=.slice A es.length c∧es.length≤c∧(t=true→c=es.length) ∧
   (es≠[]→∃b o sz,A=some ⟨b,o,none⟩∧b < w.heap.size∧(∀e∈es,e.ncells=sz)∧G.ok b (o+es.length*sz)∧MC G.pure [] w es b o)
 | G,fr,w,.own es ch,v=>∃F sz,fr[ch]? = some (F,sz)∧es.length≤F∧(∀e∈es,e.ncells=sz) ∧
   ((v=.slice none 0 0∧es=[]∧(G.χ ch=none∨0 < F)) ∨
    (∃b o c,v=.slice (some ⟨b,o,none⟩) es.length c∧es.length≤c∧b < w.heap.size∧(es≠[]→G.ok b (o+es.length*sz))∧MC G.pure [] w es b o ∧
    (es.length=F→G.χ ch=some b∧o=0∧∃arr t,w.heap[b]? = some (.cells arr t (0,0))∧c*sz=arr.size∧∀e,G.ok b e→e≤es.length*sz)))
 | G,fr,w,.grown e n,v=>∃A c,v=.slice A n c∧n≤c∧VR G fr w e (.slice A 0 c)
 | G,_,w,.bsl id off n sz,v=>∃b A c arr t,G.ρ id=some b∧w.heap[b]? = some (.cells arr t (0,0))∧v=.slice A n c∧n≤c∧off+c*sz≤arr.size∧(0 < c→A=some ⟨b,off,none⟩)
 | G,_,w,.vsl id off n sz,v=>∃b A c arr t,G.ρ id=some b∧w.heap[b]? = some (.cells arr t (0,0))∧v=.slice A n c∧n≤c∧off+c*sz=arr.size∧(0 < c→A=some ⟨b,off,none⟩)
 | G,_,_,.ptr id off,v=>∃b,G.ρ id=some b∧v=.pointer (some ⟨b,off,none⟩)
 | G,_,w,.cptr e off,v=>∃b o,v=.pointer (some ⟨b,o+off,none⟩)∧b < w.heap.size∧G.ok b (o+e.ncells)∧∃u,VR G.pure [] w e u∧u.cells.size=e.ncells∧AtMem w b o u
 | G,_,_,.yld id,v=>∃b,G.ρ id=some b∧v=.func (.yield b) #[] #[]
 | G,_,_,.mp id,v=>∃b,G.ρ id=some b∧v=.map (some b)
 | G,_,w,.cmp sh ks vs,v=>∃b es cl,v=.map (some b)∧b < w.heap.size∧G.ok b 1∧w.heap[b]? = some (.map es cl)∧KeysOk sh ks es cl∧VRs G.pure [] w vs (es.toList.map (·.val))
 | G,fr,w,.fn f caps,v=>∃vs,v=.func (.func f) #[] vs∧VRs G fr w caps vs.toList
 | G,_,_,.bfn f id off,v=>∃b,G.ρ id=some b∧v=.func (.func f) #[.pointer (some ⟨b,off,none⟩)] #[]
 | G,fr,w,.agg cs,v=>∃vs,v=.agg vs∧VRs G fr w cs vs.toList
 | G,fr,w,.tup cs,v=>∃vs,v=.tuple vs∧VRs G fr w cs vs.toList
 | _,_,_,.undef,_=>True
def VRs:Gh→Frs→World→List AV→List Value→Prop
 | _,_,_,[],vs=>vs=[]
 | G,fr,w,e :: es,vs=>∃u us,vs=u :: us∧VR G fr w e u∧VRs G fr w es us
def MC:Gh→Frs→World→List AV→Nat→Nat→Prop
 | _,_,_,[],_,_=>True
 | G,fr,w,e :: es,b,o=>(∃u,VR G fr w e u∧u.cells.size=e.ncells∧AtMem w b o u)∧MC G fr w es b (o+e.ncells)
end
def tot:List AV→Nat
 | []=>0
 | e :: es=>e.ncells+tot es
theorem tot_uni {sz:Nat}:∀{es:List AV},(∀e∈es,e.ncells=sz)→tot es=es.length*sz
 | [],_=>by simp[tot]
 | e :: es,h=>by
  have h1:=h e (by simp)
  have h2:=tot_uni (es:=es) fun x hx=>h x (by simp[hx])
  simp only[tot,h1,h2,List.length_cons,Nat.add_mul];omega
structure Keep (G:Gh)(fr:Frs)(w:World)(G':Gh)(fr':Frs)(w':World):Prop where
 hs:w.heap.size≤w'.heap.size
 ok:∀b e,b < w.heap.size→G.ok b e→G'.ok b e
 dn:∀b e e',e'≤e→G.ok b e→G.ok b e'
 cell:∀b o,b < w.heap.size→G.ok b (o+1)→w'.cell? ⟨b,o,none⟩=w.cell? ⟨b,o,none⟩
 ρ:∀id b,G.ρ id=some b→G'.ρ id=some b
 rs:∀id b arr t,G.ρ id=some b→w.heap[b]? = some (.cells arr t (0,0))→∃arr',w'.heap[b]? = some (.cells arr' t (0,0))∧arr'.size=arr.size
 mp:∀b es cl,b < w.heap.size→G.ok b 1→w.heap[b]? = some (.map es cl)→w'.heap[b]? = some (.map es cl)
 χ:∀ch F z,fr[ch]? = some (F,z)→∃F',fr'[ch]? = some (F',z)∧F≤F' ∧
  (F'=F→G'.χ ch=G.χ ch∧∀b,G.χ ch=some b→w'.heap[b]? = w.heap[b]?∧∀e,G'.ok b e→G.ok b e)
theorem Keep.pure {G G':Gh}{fr fr':Frs}{w w':World}(h:Keep G fr w G' fr' w'):Keep G.pure [] w G'.pure [] w':=
 ⟨h.hs,h.ok,h.dn,h.cell,fun _ _ hh=>by simp[Gh.pure]at hh,fun _ _ _ _ hh=>by simp[Gh.pure]at hh,h.mp,fun _ _ _ hh=>by simp at hh⟩
theorem Keep.refl {G:Gh}{fr:Frs}{w:World}(dn:∀b e e',e'≤e→G.ok b e→G.ok b e'):Keep G fr w G fr w:=
 ⟨Nat.le_refl _,fun _ _ _ h=>h,dn,fun _ _ _ _=>rfl,fun _ _ h=>h,fun _ _ arr _ _ h=>⟨arr,h,rfl⟩,fun _ _ _ _ _ h=>h,fun _ F _ hF=>⟨F,hF,Nat.le_refl _,fun _=>⟨rfl,fun _ _=>⟨rfl,fun _ h=>h⟩⟩⟩⟩
theorem AtMem.keep {G G':Gh}{fr fr':Frs}{w w':World}(h:Keep G fr w G' fr' w'){b o n:Nat}{u:Value}(hb:b < w.heap.size)(hok:G.ok b (o+n))(hn:u.cells.size=n)
  (hm:AtMem w b o u):AtMem w' b o u:=by
 intro j c hc
 have hj:j < u.cells.size:=(Array.getElem?_eq_some_iff.1 hc).1
 rw[h.cell b (o+j) hb (h.dn _ _ _ (by omega) hok)]
 exact hm j c hc
mutual
theorem VR.keep {G G':Gh}{fr fr':Frs}{w w':World}(h:Keep G fr w G' fr' w'):∀(e:AV) {v:Value},VR G fr w e v→VR G' fr' w' e v
 | .int _ _,_,hv=>hv
 | .bool _,_,hv=>hv
 | .str _,_,hv=>hv
 | .nils,_,hv=>hv
 | .nilp,_,hv=>hv
 | .nili,_,hv=>hv
 | .nilm,_,hv=>hv
 | .sl t es,v,hv=>by
  obtain⟨A,c,rfl,h1,h2,h3⟩:=hv
  refine⟨A,c,rfl,h1,h2,fun hne=>?_⟩
  obtain⟨b,o,sz,rfl,hb,hu,hok,hm⟩:=h3 hne
  exact⟨b,o,sz,rfl,by have:=h.hs;omega,hu,h.ok _ _ hb hok,MC.keep h.pure es hb (.inr (by rw[tot_uni hu];exact hok)) hm⟩
 | .own es ch,v,hv=>by
  obtain⟨F,sz,hF,hle,hu,hv⟩:=hv
  obtain⟨F',hF',hFF,hsame⟩:=h.χ _ _ _ hF
  refine⟨F',sz,hF',by omega,hu,?_⟩
  rcases hv with ⟨rfl,rfl,hn⟩|⟨b,o,c,rfl,h1,hb,hok,hm,hal⟩
  ·refine .inl ⟨rfl,rfl,?_⟩
   by_cases he:F'=F
   ·rcases hn with hn|hn
    ·exact .inl ((hsame he).1.trans hn)
    ·exact .inr (by omega)
   ·exact .inr (by omega)
  ·refine .inr ⟨b,o,c,rfl,h1,by have:=h.hs;omega,fun hne=>h.ok _ _ hb (hok hne),MC.keep h.pure es hb ?_ hm,fun he=>?_⟩
   ·by_cases hne:es=[]
    ·exact .inl hne
    ·exact .inr (by rw[tot_uni hu];exact hok hne)
   ·have hFe:F'=F:=by omega
    obtain⟨hx,hh⟩:=hsame hFe
    obtain⟨h2,rfl,arr,t,ha,hc,hk2⟩:=hal (by omega)
    obtain⟨hh1,hh2⟩:=hh _ h2
    exact⟨hx.trans h2,rfl,arr,t,by rw[hh1];exact ha,hc,fun e he=>hk2 e (hh2 e he)⟩
 | .grown e n,v,hv=>by
  obtain⟨A,c,rfl,h1,h2⟩:=hv
  exact⟨A,c,rfl,h1,VR.keep h e h2⟩
 | .bsl id off n sz,v,hv=>by
  obtain⟨b,A,c,arr,t,hr,hheap,h1,h2,h3,h4⟩:=hv
  obtain⟨arr',hheap',hsz⟩:=h.rs _ _ _ _ hr hheap
  exact⟨b,A,c,arr',t,h.ρ _ _ hr,hheap',h1,h2,by omega,h4⟩
 | .vsl id off n sz,v,hv=>by
  obtain⟨b,A,c,arr,t,hr,hheap,h1,h2,h3,h4⟩:=hv
  obtain⟨arr',hheap',hsz⟩:=h.rs _ _ _ _ hr hheap
  exact⟨b,A,c,arr',t,h.ρ _ _ hr,hheap',h1,h2,by omega,h4⟩
 | .ptr id off,v,hv=>by
  obtain⟨b,hr,h1⟩:=hv
  exact⟨b,h.ρ _ _ hr,h1⟩
 | .cptr e off,v,hv=>by
  obtain⟨b,o,rfl,hb,hok,u,hu,hn,hm⟩:=hv
  exact⟨b,o,rfl,by have:=h.hs;omega,h.ok _ _ hb hok,u,VR.keep h.pure e hu,hn,hm.keep h hb hok hn⟩
 | .yld id,v,hv=>by
  obtain⟨b,hr,h1⟩:=hv
  exact⟨b,h.ρ _ _ hr,h1⟩
 | .mp id,v,hv=>by
  obtain⟨b,hr,h1⟩:=hv
  exact⟨b,h.ρ _ _ hr,h1⟩
 | .bfn f id off,v,hv=>by
  obtain⟨b,hr,h1⟩:=hv
  exact⟨b,h.ρ _ _ hr,h1⟩
 | .cmp sh ks vs,v,hv=>by
  obtain⟨b,es,cl,rfl,hb,hok,hheap,hk,hm⟩:=hv
  exact⟨b,es,cl,rfl,by have:=h.hs;omega,h.ok _ _ hb hok,h.mp b es cl hb hok hheap,hk,VRs.keep h.pure vs hm⟩
 | .fn f caps,v,hv=>by
  obtain⟨vs,rfl,hs⟩:=hv
  exact⟨vs,rfl,VRs.keep h caps hs⟩
 | .agg cs,v,hv=>by
  obtain⟨vs,rfl,hs⟩:=hv
  exact⟨vs,rfl,VRs.keep h cs hs⟩
 | .tup cs,v,hv=>by
  obtain⟨vs,rfl,hs⟩:=hv
  exact⟨vs,rfl,VRs.keep h cs hs⟩
 | .undef,_,hv=>hv
theorem VRs.keep {G G':Gh}{fr fr':Frs}{w w':World}(h:Keep G fr w G' fr' w'):∀(es:List AV) {vs:List Value},VRs G fr w es vs→VRs G' fr' w' es vs
 | [],_,hv=>hv
 | e :: es,vs,hv=>by
  obtain⟨u,us,rfl,h1,h2⟩:=hv
  exact⟨u,us,rfl,VR.keep h e h1,VRs.keep h es h2⟩
theorem MC.keep {G G':Gh}{fr fr':Frs}{w w':World}(h:Keep G fr w G' fr' w'):∀(es:List AV) {b o:Nat},b < w.heap.size→(es=[]∨G.ok b (o+tot es))→MC G fr w es b o→MC G' fr' w' es b o
 | [],_,_,_,_,hv=>hv
 | e :: es,b,o,hb,hok,hv=>by
  obtain⟨⟨u,hu,hn,hm⟩,h2⟩:=hv
  have hok:G.ok b (o+tot (e :: es)):=hok.resolve_left (by simp)
  simp only[tot]at hok
  exact⟨⟨u,VR.keep h e hu,hn,hm.keep h hb (h.dn _ _ _ (by omega) hok) hn⟩,MC.keep h es hb (.inr (by rw[Nat.add_assoc];exact hok)) h2⟩
end
theorem Keep.trans {G G' G'':Gh}{fr fr' fr'':Frs}{w w' w'':World}(h:Keep G fr w G' fr' w')(k:Keep G' fr' w' G'' fr'' w''):Keep G fr w G'' fr'' w'' where
 hs:=Nat.le_trans h.hs k.hs
 ok:=fun b e hb hok=>k.ok b e (Nat.lt_of_lt_of_le hb h.hs) (h.ok b e hb hok)
 dn:=h.dn
 cell:=fun b o hb hok=>(k.cell b o (Nat.lt_of_lt_of_le hb h.hs) (h.ok b _ hb hok)).trans (h.cell b o hb hok)
 ρ:=fun id b hr=>k.ρ id b (h.ρ id b hr)
 rs:=fun id b arr t hr ha=>by
  obtain⟨arr',ha',hs'⟩:=h.rs id b arr t hr ha
  obtain⟨arr'',ha'',hs''⟩:=k.rs id b arr' t (h.ρ id b hr) ha'
  exact⟨arr'',ha'',hs''.trans hs'⟩
 mp:=fun b es cl hb hok hh=>k.mp b es cl (Nat.lt_of_lt_of_le hb h.hs) (h.ok b 1 hb hok) (h.mp b es cl hb hok hh)
 χ:=fun ch F z hF=>by
  obtain⟨F',hF',hle,hs⟩:=h.χ ch F z hF
  obtain⟨F'',hF'',hle',hs'⟩:=k.χ ch F' z hF'
  refine⟨F'',hF'',by omega,fun he=>?_⟩
  obtain⟨e1,e2⟩:=hs (by omega)
  obtain⟨e3,e4⟩:=hs' (by omega)
  refine⟨e3.trans e1,fun b hb=>?_⟩
  obtain⟨f1,f2⟩:=e2 b hb
  obtain⟨f3,f4⟩:=e4 b (e1.trans hb)
  exact⟨f3.trans f1,fun e he=>f2 e (f4 e he)⟩
structure KeepD (G:Gh)(fr:Frs)(w:World)(G':Gh)(fr':Frs)(w':World):Prop extends Keep G fr w G' fr' w' where
 df:∀(D:Nat),w.heap[D]? = some (Obj.deferred (some []))→w'.heap[D]? = some (Obj.deferred (some []))
 lp:∀(D:Nat) (r:Loop),w.heap[D]? = some (Obj.loop r)→∃r':Loop,w'.heap[D]? = some (Obj.loop r')
theorem KeepD.refl {G:Gh}{fr:Frs}{w:World}(dn:∀b e e',e'≤e→G.ok b e→G.ok b e'):KeepD G fr w G fr w:=⟨Keep.refl dn,fun _ h=>h,fun _ r h=>⟨r,h⟩⟩
theorem KeepD.trans {G G' G'':Gh}{fr fr' fr'':Frs}{w w' w'':World}(h:KeepD G fr w G' fr' w')(k:KeepD G' fr' w' G'' fr'' w''):KeepD G fr w G'' fr'' w'':=
 ⟨h.toKeep.trans k.toKeep,fun D hD=>k.df D (h.df D hD),fun D r hD=>let ⟨r',h'⟩:=h.lp D r hD;k.lp D r' h'⟩
open Go Go.RowKit
structure LoopA where
 nt:Nat
 a:Nat→AV
 ps:Array Tmp
 asg:Code
 body:Code
 st:LoopState
 pend:Option Code
inductive Ob where
 | cells (cs:List AV) (t:TypeId)
 | loop (L:LoopA)
 | map (sh:Option Nat) (ks:List (List Int)) (vs:List AV)
 | mapE (sh:Option Nat) (ks:List (List Int)) (vs:List AV) (i n:Nat)
 | iter (sh:Option Nat) (ks:List (List Int)) (vs:List AV) (seen:List Nat)
 | dead
 | hole
structure St where
 bx:List Ob
 fr:Frs
 n0:Nat
 m0:Nat
 ty:Nat→TypeId:=fun _=>0
def St.none:St:=⟨[],[],0,0,fun _=>0⟩
def St.addB (S:St)(o:Ob):St:={S with bx:=S.bx++[o]}
def St.setB (S:St)(id:Nat)(o:Ob):St:={S with bx:=S.bx.set id o}
def St.setF (S:St)(ch:Nat)(x:Nat×Nat):St:={S with fr:=S.fr.set ch x}
def updT (ty:Nat→TypeId)(c:Nat)(e:TypeId):Nat→TypeId:=fun k=>if k=c then e else ty k
def St.addF (S:St)(x:Nat×Nat)(e:TypeId):St:={S with fr:=S.fr++[x],ty:=updT S.ty S.fr.length e}
def OR (G:Gh)(fr:Frs)(w:World):Ob→Obj→Prop
 | .cells cs t,o=>∃arr,o=.cells arr t (0,0)∧arr.size=cs.length∧VRs G fr w cs (arr.toList.take cs.length)
 | .loop L,o=>∃r:Loop,o=.loop r∧r.state=L.st∧r.pending=L.pend∧r.params=L.ps∧r.assign=L.asg∧r.body=L.body∧r.tmps.size=L.nt∧∀t,VR G fr w (L.a t) (r.tmps.getD t undef)
 | .map sh ks vs,o=>∃es cl,o=.map es cl∧KeysOk sh ks es cl∧VRs G fr w vs (es.toList.map (·.val))
 | .mapE sh ks vs i n,o=>∃es cl,o=.map es cl∧KeysOk sh ks es cl∧VRs G fr w vs (es.toList.map (·.val))∧(es.toList.map (·.born))[i]? = some n
 | .iter sh ks vs seen,o=>∃b es cl,o=.mapIter (some b) cl (seen.map fun i=>((es.toList.map (·.born))[i]?).getD 0).toArray cl∧b < w.heap.size∧G.ok b 1∧w.heap[b]? = some (.map es cl)∧KeysOk sh ks es cl∧VRs G.pure [] w vs (es.toList.map (·.val))∧∀i∈seen,i < es.size
 | .dead,_=>True
 | .hole,_=>False
theorem OR.keep {G G':Gh}{fr fr':Frs}{w w':World}(h:Keep G fr w G' fr' w'){o:Ob}{ob:Obj}(ho:OR G fr w o ob):OR G' fr' w' o ob:=by
 cases o with
 | cells cs t=>obtain⟨arr,h1,hz,h2⟩:=ho;exact⟨arr,h1,hz,VRs.keep h cs h2⟩
 | loop L=>obtain⟨r,h1,h2,h3,h4,h5,h6,h7,h8⟩:=ho;exact⟨r,h1,h2,h3,h4,h5,h6,h7,fun t=>VR.keep h _ (h8 t)⟩
 | map sh ks vs=>obtain⟨es,cl,h1,h2,h3⟩:=ho;exact⟨es,cl,h1,h2,VRs.keep h vs h3⟩
 | mapE sh ks vs i n=>obtain⟨es,cl,h1,h2,h3,h4⟩:=ho;exact⟨es,cl,h1,h2,VRs.keep h vs h3,h4⟩
 | iter sh ks vs seen=>obtain⟨b,es,cl,h1,h2,h3,h4,h5,h6,h7⟩:=ho;exact⟨b,es,cl,h1,Nat.lt_of_lt_of_le h2 h.hs,h.ok b 1 h2 h3,h.mp b es cl h2 h3 h4,h5,VRs.keep h.pure vs h6,h7⟩
 | dead=>trivial
 | hole=>exact ho.elim
def Ob.isDead:Ob→Bool
 | .dead=>true
 | .hole=>true
 | _=>false
def St.live (S:St)(id:Nat):Prop:=∃o,S.bx[id]? = some o∧o.isDead=false
structure Orig (L:World→Prop) where
 w:World
 hL:∀w',Below w.heap.size w w'→L w'
 ok:Nat→Nat→Prop
 G:Gh
 fr:Frs
 wf:World
 n:Nat
 ro:Option Nat
def Orig.fi {L:World→Prop}(w0:Orig L):Nat×Option Nat:=(w0.wf.heap.size,w0.ro)
structure RelS {L:World→Prop}(w0:Orig L)(G:Gh)(S:St)(w:World):Prop where
 below:Below w0.w.heap.size w0.w w
 bsz:w0.w.heap.size≤w.heap.size
 dn:∀b e e',e'≤e→G.ok b e→G.ok b e'
 ob:∀b e,b < w0.w.heap.size→G.ok b e→w0.ok b e
 kp:KeepD w0.G w0.fr w0.wf G S.fr w
 n0:S.n0=w0.n∧S.m0=w0.fr.length∧w0.n≤S.bx.length∧w0.fr.length≤S.fr.length∧∀id b,w0.G.ρ id=some b→id < w0.n
 bx:∀id o,S.bx[id]? = some o→o.isDead=false→∃b ob,G.ρ id=some b∧w.heap[b]? = some ob∧OR G S.fr w o ob
 ri:∀id id' b,S.live id→S.live id'→G.ρ id=some b→G.ρ id'=some b→id=id'
 rd:∀id b,G.ρ id=some b→id < S.bx.length∧b < w.heap.size∧w0.w.heap.size≤b∧(S.live id→∀e,G.ok b e→e=0)
 ch:∀c F z,S.fr[c]? = some (F,z)→(G.χ c=none→F=0)∧∀b,G.χ c=some b→w0.w.heap.size≤b∧(∃arr fz,w.heap[b]? = some (.cells arr (S.ty c) fz))∧(∀id,G.ρ id≠some b) ∧
  ∀c' F' z',S.fr[c']? = some (F',z')→G.χ c'=some b→c=c'
 hl:∀id,S.bx[id]? = some .hole→G.ρ id=none
def mark (D:Nat):Deferred:={target:=.collected D,args:=#[]}
def RelT (lo:Nat×Option Nat)(G:Gh)(fr:Frs)(w:World)(nt:Nat)(a:Nat→AV)(act:Act):Prop:=
 act.tmps.size=nt∧(act.defers.Nodup∧∀d∈act.defers,∃D,d=mark D∧lo.1≤D∧w.heap[D]? = some (Obj.deferred (some [])))∧(∀l,lo.2=some l→∃r:Loop,w.heap[l]? = some (Obj.loop r))∧∀t,VR G fr w (a t) (act.tmps.getD t undef)
def Rel {L:World→Prop}(w0:Orig L)(G:Gh)(S:St)(nt:Nat)(a:Nat→AV)(act:Act)(w:World):Prop:=
 RelS w0 G S w∧RelT w0.fi G S.fr w nt a act
def upd (a:Nat→AV)(d:Nat)(v:AV):Nat→AV:=fun t=>if t=d then v else a t
def updo (a:Nat→AV)(d:Option Nat)(v:AV):Nat→AV:=match d with
 | some d=>upd a d v
 | none=>a
def ofC:Value→AV
 | .int k n=>.int k n
 | .bool b=>.bool b
 | .string s=>.str s
 | .slice none 0 0=>.nils
 | .pointer none=>.nilp
 | .nilIface=>.nili
 | .map none=>.nilm
 | _=>.undef
def evO (a:Nat→AV):Operand→AV
 | .tmp t=>a t
 | .const v=>ofC v
 | .func f=>.fn f []
 | .global _=>.undef
theorem VR_ofC (G:Gh)(fr:Frs)(w:World)(v:Value):VR G fr w (ofC v) v:=by
 unfold ofC
 split<;>simp[VR]
theorem RelT.eval {lo:Nat×Option Nat}{G:Gh}{fr:Frs}{w:World}{nt:Nat}{a:Nat→AV}{act:Act}(h:RelT lo G fr w nt a act)(x:Operand):VR G fr w (evO a x) (act.eval x):=by
 cases x with
 | tmp t=>exact h.2.2.2 t
 | const v=>exact VR_ofC _ _ _ _
 | func f=>exact⟨#[],rfl,rfl⟩
 | global g=>trivial
theorem putVR {G:Gh}{fr:Frs}{w:World}{tmps:Array Value}{a:Nat→AV}(h:∀t,VR G fr w (a t) (tmps.getD t undef)){d:Nat}(hd:d < tmps.size){e:AV}{v:Value}(hv:VR G fr w e v) :
  ∀t,VR G fr w (upd a d e t) ((tmps.setIfInBounds d v).getD t undef):=by
 intro t
 simp only[upd,Array.getD_eq_getD_getElem?]
 by_cases e:t=d
 ·subst e
  simp[hd,hv]
 ·have hne:d≠t:=fun h=>e h.symm
  simp only[e,if_false,Array.getElem?_setIfInBounds_ne hne]
  have:=h t
  rwa [Array.getD_eq_getD_getElem?]at this
theorem RelT.put {lo:Nat×Option Nat}{G:Gh}{fr:Frs}{w:World}{nt:Nat}{a:Nat→AV}{act:Act}(h:RelT lo G fr w nt a act){d:Option Nat}(hd:∀t,d=some t→t < nt){e:AV}{v:Value}(hv:VR G fr w e v) :
  RelT lo G fr w nt (updo a d e) (act.put d v):=by
 cases d with
 | none=>exact h
 | some d=>exact⟨by simp[Act.put,h.1],h.2.1,h.2.2.1,putVR h.2.2.2 (by rw[h.1];exact hd _ rfl) hv⟩
theorem RelT.keep {lo:Nat×Option Nat}{G G':Gh}{fr fr':Frs}{w w':World}{nt:Nat}{a:Nat→AV}{act:Act}(h:RelT lo G fr w nt a act)(hk:KeepD G fr w G' fr' w'):RelT lo G' fr' w' nt a act:=
 ⟨h.1,⟨h.2.1.1,fun d hd=>let ⟨D,h1,h2,h3⟩:=h.2.1.2 d hd;⟨D,h1,h2,hk.df D h3⟩⟩,fun l hl=>let ⟨r,hr⟩:=h.2.2.1 l hl;hk.lp l r hr,fun t=>VR.keep hk.toKeep _ (h.2.2.2 t)⟩
theorem KeepD.of_below {G:Gh}{fr:Frs}{w w':World}(dn:∀b e e',e'≤e→G.ok b e→G.ok b e')(hb:Below w.heap.size w w')(hch:∀c F z,fr[c]? = some (F,z)→∀b,G.χ c=some b→b < w.heap.size)(ok':Nat→Nat→Prop)
  (hok:∀b e,b < w.heap.size→(ok' b e↔G.ok b e)) (ρ':Nat→Option Nat) (hρ:∀id b,G.ρ id=some b→ρ' id=some b) :
  KeepD G fr w {G with ok:=ok',ρ:=ρ'} fr w' where
 hs:=hb.size
 ok:=fun b e hlt h=>(hok b e hlt).2 h
 dn:=dn
 cell:=fun b o hlt _=>hb.cell (p:=⟨b,o,none⟩) hlt
 ρ:=hρ
 rs:=fun _ b arr _ _ ha=>⟨arr,(hb.block b (Array.getElem?_eq_some_iff.1 ha).1).trans ha,rfl⟩
 mp:=fun b _ _ hlt _ hh=>(hb.block b hlt).trans hh
 χ:=fun c F z hF=>⟨F,hF,Nat.le_refl _,fun _=>⟨rfl,fun b hb'=>⟨hb.block _ (hch c F z hF b hb'),fun _ he=>(hok _ _ (hch c F z hF b hb')).1 he⟩⟩⟩
 df:=fun D hD=>(hb.block D (Array.getElem?_eq_some_iff.1 hD).1).trans hD
 lp:=fun D r hD=>⟨r,(hb.block D (Array.getElem?_eq_some_iff.1 hD).1).trans hD⟩
theorem RelS.chlt {L:World→Prop}{w0:Orig L}{G:Gh}{S:St}{w:World}(h:RelS w0 G S w):∀c F z,S.fr[c]? = some (F,z)→∀b,G.χ c=some b→b < w.heap.size:=fun c F z hF b hb=>by
 obtain⟨_,⟨arr,fz,ha⟩,_⟩:=(h.ch c F z hF).2 b hb
 exact(Array.getElem?_eq_some_iff.1 ha).1
theorem RelS.of_below {L:World→Prop}{w0:Orig L}{G:Gh}{S:St}{w w':World}(h:RelS w0 G S w)(hb:Below w.heap.size w w')(ok':Nat→Nat→Prop)(hok:∀b e,b < w.heap.size→(ok' b e↔G.ok b e))(dn':∀b e e',e'≤e→ok' b e→ok' b e') :
  RelS w0 {G with ok:=ok'} S w'∧KeepD G S.fr w {G with ok:=ok'} S.fr w':=by
 have hk:KeepD G S.fr w {G with ok:=ok'} S.fr w':=KeepD.of_below h.dn hb h.chlt ok' hok G.ρ (fun _ _ hh=>hh)
 refine⟨⟨h.below.trans (hb.mono h.bsz),Nat.le_trans h.bsz hb.size,dn',fun b e hb hh=>h.ob b e hb ((hok b e (Nat.lt_of_lt_of_le hb h.bsz)).1 hh),h.kp.trans hk,h.n0,fun id o hx hd=>?_,h.ri,fun id b hr=>?_,fun c F z hF=>⟨(h.ch c F z hF).1,fun b hc=>?_⟩,h.hl⟩,hk⟩
 ·obtain⟨b,ob,hr,hheap,hv⟩:=h.bx id o hx hd
  exact⟨b,ob,hr,(hb.block b (h.rd id b hr).2.1).trans hheap,hv.keep hk.toKeep⟩
 ·obtain⟨h1,h2,h3,h4⟩:=h.rd id b hr
  exact⟨h1,Nat.lt_of_lt_of_le h2 hb.size,h3,fun hl e he=>h4 hl e ((hok b e h2).1 he)⟩
 ·obtain⟨h1,⟨arr,fz,h2⟩,h3⟩:=(h.ch c F z hF).2 b hc
  exact⟨h1,⟨arr,fz,(hb.block b (Array.getElem?_eq_some_iff.1 h2).1).trans h2⟩,h3⟩
theorem live_append {S:St}{id:Nat}{l:List Ob}(h:({S with bx:=S.bx++l}:St).live id)(hlt:id < S.bx.length):S.live id:=by
 obtain⟨o,h1,h2⟩:=h
 exact⟨o,by rwa [List.getElem?_append_left hlt]at h1,h2⟩
theorem RelS.box {L:World→Prop}{w0:Orig L}{G:Gh}{S:St}{w:World}(h:RelS w0 G S w)(o:Ob)(ob:Obj)(hv:OR G S.fr w o ob) :
  ∃G',RelS w0 G' {S with bx:=S.bx++[o]} (w.alloc ob)∧KeepD G S.fr w G' S.fr (w.alloc ob)∧G'.ρ S.bx.length=some w.heap.size:=by
 have hb:Below w.heap.size w (w.alloc ob):=(Below.refl _ _).alloc (Nat.le_refl _) _
 have hk:KeepD G S.fr w {G with ok:=fun b e=>if b=w.heap.size then e=0 else G.ok b e,ρ:=fun id=>if id=S.bx.length then some w.heap.size else G.ρ id} S.fr (w.alloc ob):=
  KeepD.of_below h.dn hb h.chlt _ (fun b _ hlt=>by simp[Nat.ne_of_lt hlt]) _ (fun id b hr=>by
   have:=(h.rd id b hr).1
   have hne:id≠S.bx.length:=by omega
   simp[hne,hr])
 refine⟨{G with ok:=fun b e=>if b=w.heap.size then e=0 else G.ok b e,ρ:=fun id=>if id=S.bx.length then some w.heap.size else G.ρ id},⟨h.below.trans (hb.mono h.bsz),Nat.le_trans h.bsz hb.size,fun b e e' he hh=>?_,fun b e hb hh=>h.ob b e hb (by dsimp only at hh;rw[if_neg (Nat.ne_of_lt (Nat.lt_of_lt_of_le hb h.bsz))]at hh;exact hh),h.kp.trans hk,?_,fun id o' hx hd=>?_,fun id id' b l1 l2 h1 h2=>?_,fun id b hr=>?_,fun c F z hF=>⟨(h.ch c F z hF).1,fun b hc=>?_⟩,fun id hx=>?_⟩,hk,by simp⟩
 ·dsimp only at hh ⊢
  split at hh
  ·rename_i e;simp[e];omega
  ·rename_i e;simp[e];exact h.dn _ _ _ he hh
 ·obtain⟨n1,n2,n3,n4,n5⟩:=h.n0
  exact⟨n1,n2,by simp;omega,n4,n5⟩
 ·by_cases hid:id=S.bx.length
  ·subst hid
   simp at hx
   subst hx
   exact⟨w.heap.size,ob,by simp,heap_alloc_new w _,hv.keep hk.toKeep⟩
  ·have hlt:id < S.bx.length:=by
    have:=(List.getElem?_eq_some_iff.1 hx).1
    simp at this;omega
   simp only[List.getElem?_append_left hlt]at hx
   obtain⟨b,ob',hr,hheap,hv'⟩:=h.bx id o' hx hd
   exact⟨b,ob',by simp[hid,hr],(heap_alloc_old w _ b (h.rd id b hr).2.1).trans hheap,hv'.keep hk.toKeep⟩
 ·dsimp only at h1 h2
  split at h1<;>split at h2
  ·omega
  ·injection h1 with h1
   have:=(h.rd _ _ h2).2.1
   omega
  ·injection h2 with h2
   have:=(h.rd _ _ h1).2.1
   omega
  ·have e1:=(h.rd _ _ h1).1
   have e2:=(h.rd _ _ h2).1
   exact h.ri _ _ _ (live_append l1 e1) (live_append l2 e2) h1 h2
 ·dsimp only at hr ⊢
  split at hr
  ·injection hr with hr
   subst hr
   rename_i e
   simp[e];exact h.bsz
  ·obtain⟨h1,h2,h3,h4⟩:=h.rd id b hr
   refine⟨by simp;omega,by simp;omega,h3,fun hl e he=>?_⟩
   rw[if_neg (by omega)]at he
   exact h4 (live_append hl h1) e he
 ·obtain⟨h1,⟨arr,fz,h2⟩,h3,h4⟩:=(h.ch c F z hF).2 b hc
  have hlt:=(Array.getElem?_eq_some_iff.1 h2).1
  refine⟨h1,⟨arr,fz,(heap_alloc_old w _ b hlt).trans h2⟩,fun id=>?_,h4⟩
  dsimp only
  split
  ·intro he;injection he with he;omega
  ·intro hr
   exact h3 id hr
 ·dsimp only at hx ⊢
  rcases Nat.lt_or_ge id S.bx.length with hlt|hge
  ·rw[List.getElem?_append_left hlt]at hx
   rw[if_neg (by omega)]
   exact h.hl id hx
  ·rw[List.getElem?_append_right hge]at hx
   have:=List.mem_of_getElem? hx
   simp at this
   subst this
   exact hv.elim
theorem live_set {S:St}{id id':Nat}{o':Ob}(h:({S with bx:=S.bx.set id o'}:St).live id')(hne:id'≠id):S.live id':=by
 obtain⟨o,h1,h2⟩:=h
 exact⟨o,by rwa [List.getElem?_set_ne (fun h=>hne h.symm)]at h1,h2⟩
theorem RelS.setBox {L:World→Prop}{w0:Orig L}{G:Gh}{S:St}{w:World}(h:RelS w0 G S w){id:Nat}(hl:S.live id){b:Nat}(hr:G.ρ id=some b){ob:Obj}(hold0:w.heap[b]? = some ob)
  (o':Ob) (ob':Obj) (hcs:∀arr t,ob=.cells arr t (0,0)→∃arr',ob'=.cells arr' t (0,0)∧arr'.size=arr.size) (hnd:ob≠Obj.deferred (some [])) (hlp:∀r:Loop,ob=Obj.loop r→∃r':Loop,ob'=Obj.loop r') (hv:OR G S.fr w o' ob') (w':World) (hsz:w'.heap.size=w.heap.size) (hos:w'.os=w.os) (htape:w'.tape=w.tape) (hout:w'.output=w.output)
  (hnew:w'.heap[b]? = some ob') (hold:∀k,k≠b→w'.heap[k]? = w.heap[k]?) :
  RelS w0 G {S with bx:=S.bx.set id o'} w'∧KeepD G S.fr w G S.fr w':=by
 obtain⟨r1,r2,r3,r4⟩:=h.rd id b hr
 have r5:=r4 hl
 have hk:KeepD G S.fr w G S.fr w':=
  {hs:=by omega,ok:=fun _ _ _ hh=>hh,dn:=h.dn,
   cell:=fun k o _ hok=>by
    have hne:k≠b:=by rintro rfl;have:=r5 _ hok;omega
    exact World.cell?_of_block (w:=w) (a:=⟨k,o,none⟩) (hold k hne),
   ρ:=fun _ _ hh=>hh,
   rs:=fun id' b' arr t hr' ha=>by
    by_cases e:b'=b
    ·subst e
     rw[hold0]at ha;injection ha with ha
     obtain⟨arr',h1,h2⟩:=hcs arr t ha
     exact⟨arr',by rw[hnew,h1],h2⟩
    ·exact⟨arr,(hold b' e).trans ha,rfl⟩,
   mp:=fun k es cl _ hok hh=>(hold k (by rintro rfl;have:=r5 _ hok;omega)).trans hh,
   χ:=fun c F z hF=>⟨F,hF,Nat.le_refl _,fun _=>⟨rfl,fun bc hc=>⟨hold _ (fun e=>((h.ch c F z hF).2 bc hc).2.2.1 id (by rw[hr,e])),fun _ he=>he⟩⟩⟩,
   df:=fun D hD=>by
    have hne:D≠b:=by rintro rfl;rw[hold0]at hD;injection hD with hD;exact hnd hD
    exact(hold D hne).trans hD,
   lp:=fun D r hD=>by
    by_cases e:D=b
    ·subst e
     rw[hold0]at hD;injection hD with hD
     obtain⟨r',hr'⟩:=hlp r hD
     exact⟨r',by rw[hnew,hr']⟩
    ·exact⟨r,(hold D e).trans hD⟩}
 refine⟨⟨h.below.trans ⟨hos,htape,hout,by omega,fun k hk'=>hold k (by omega)⟩,by have:=h.bsz;omega,h.dn,h.ob,h.kp.trans hk,by simpa using h.n0,fun id' o'' hx' hd'=>?_,fun id1 id2 b' l1 l2 h1 h2=>?_,fun id' b' hr'=>?_,fun c F z hF=>⟨(h.ch c F z hF).1,fun bc hc=>?_⟩,fun id' hx'=>?_⟩,hk⟩
 ·by_cases e:id'=id
  ·subst e
   simp[r1]at hx'
   subst hx'
   exact⟨b,ob',hr,hnew,hv.keep hk.toKeep⟩
  ·rw[List.getElem?_set_ne (fun h=>e h.symm)]at hx'
   obtain⟨b',ob'',hr',hheap,hv'⟩:=h.bx id' o'' hx' hd'
   have hne:b'≠b:=by rintro rfl;exact e (h.ri _ _ _ ⟨o'',hx',hd'⟩ hl hr' hr)
   exact⟨b',ob'',hr',(hold b' hne).trans hheap,hv'.keep hk.toKeep⟩
 ·have e1:S.live id1:=by
   by_cases e:id1=id
   ·subst e;exact hl
   ·exact live_set l1 e
  have e2:S.live id2:=by
   by_cases e:id2=id
   ·subst e;exact hl
   ·exact live_set l2 e
  exact h.ri _ _ _ e1 e2 h1 h2
 ·obtain⟨h1,h2,h3,h4⟩:=h.rd id' b' hr'
  refine⟨by simpa using h1,by omega,h3,fun hl'=>?_⟩
  by_cases e:id'=id
  ·subst e;rw[hr]at hr';injection hr' with hr';subst hr';exact r5
  ·exact h4 (live_set hl' e)
 ·obtain⟨h1,⟨arr,fz,h2⟩,h3,h4⟩:=(h.ch c F z hF).2 bc hc
  have hne:bc≠b:=fun e=>h3 id (by rw[hr,e])
  refine⟨h1,⟨arr,fz,(hold bc hne).trans h2⟩,fun id'=>h3 id',h4⟩
 ·by_cases e:id'=id
  ·subst e
   simp[r1]at hx'
   subst hx'
   exact hv.elim
  ·rw[List.getElem?_set_ne (fun h=>e h.symm)]at hx'
   exact h.hl id' hx'
open Go Go.RowKit
def tsz (P:Program)(t:TypeId):Option Nat:=(P.info? t).map (·.size)
def tagg (P:Program)(t:TypeId):Option Bool:=match P.underlying t with
 | some (.struct _)=>some true
 | some (.array _ _)=>some true
 | some _=>some false
 | none=>none
def tslice (P:Program)(t:TypeId):Option TypeId:=match P.underlying t with
 | some (.slice e)=>some e
 | _=>none
def tarr (P:Program)(t:TypeId):Option (Nat×TypeId):=match P.underlying t with
 | some (.array n e)=>some (n,e)
 | _=>none
def tfield (P:Program)(s:TypeId)(f:Nat):Option (Nat×TypeId):=match P.underlying s with
 | some (.struct fs)=>(fs[f]?).map fun x=>(x.offset,x.type)
 | _=>none
def tzero (P:Program)(t:TypeId):Option (List AV):=((P.info? t).bind (·.zero)).map fun z=>z.cells.toList.map ofC
def AV.isCell:AV→Bool
 | .agg _=>false
 | .tup _=>false
 | .undef=>false
 | _=>true
def AV.force (v:AV)(K:AV→Prop):Prop:=match v with
 | .int k n=>K (.int k n)
 | .bool b=>K (.bool b)
 | .str s=>K (.str s)
 | .nils=>K .nils
 | .nilp=>K .nilp
 | .nili=>K .nili
 | .nilm=>K .nilm
 | .yld id=>K (.yld id)
 | .mp id=>K (.mp id)
 | .cmp sh ks vs=>K (.cmp sh ks vs)
 | .sl t es=>K (.sl t es)
 | .own es ch=>K (.own es ch)
 | .grown e n=>K (.grown e n)
 | .bsl id off n sz=>K (.bsl id off n sz)
 | .vsl id off n sz=>K (.vsl id off n sz)
 | .ptr id off=>K (.ptr id off)
 | .cptr e off=>K (.cptr e off)
 | .fn f caps=>K (.fn f caps)
 | .bfn f id off=>K (.bfn f id off)
 | .agg cs=>K (.agg cs)
 | .tup vs=>K (.tup vs)
 | .undef=>K .undef
theorem AV.force_eq (v:AV)(K:AV→Prop):v.force K=K v:=by cases v<;>rfl
def BrK (b:Bool)(A B:Prop):Prop:=match b with
 | true=>A
 | false=>B
theorem BrK.mk {b:Bool}{A B:Prop}(ht:b=true→A)(hf:b=false→B):BrK b A B:=by
 cases b
 ·exact hf rfl
 ·exact ht rfl
theorem BrK_true (A B:Prop):BrK true A B=A:=rfl
theorem BrK_false (A B:Prop):BrK false A B=B:=rfl
def OutK {L:World→Prop}(w0:Orig L)(G:Gh)(S:St)(w:World)(K:AV→St→Prop)(r:Result Value):Prop:=
 ∃v w' G' S' e,r=.ok v w'∧RelS w0 G' S' w'∧KeepD G S.fr w G' S'.fr w'∧VR G' S'.fr w' e v∧K e S'
theorem OutK.same {L:World→Prop}{w0:Orig L}{G:Gh}{S:St}{w:World}{K:AV→St→Prop}(h:RelS w0 G S w){e:AV}{v:Value}(hv:VR G S.fr w e v)(hK:K e S):OutK w0 G S w K (.ok v w):=
 ⟨v,w,G,S,e,rfl,h,KeepD.refl h.dn,hv,hK⟩
theorem VRs.length {G:Gh}{fr:Frs}{w:World}:∀{es:List AV} {vs:List Value},VRs G fr w es vs→vs.length=es.length
 | [],_,h=>by simp[VRs]at h;simp[h]
 | _ :: es,_,h=>by
  obtain⟨u,us,rfl,_,h2⟩:=h
  simp[VRs.length h2]
theorem VRs.get {G:Gh}{fr:Frs}{w:World}:∀{es:List AV} {vs:List Value} {i:Nat} {e:AV},VRs G fr w es vs→es[i]? = some e→∃v,vs[i]? = some v∧VR G fr w e v
 | [],_,_,_,_,h=>by simp at h
 | x :: es,_,0,e,h,hi=>by
  obtain⟨u,us,rfl,h1,_⟩:=h
  simp at hi;subst hi
  exact⟨u,by simp,h1⟩
 | x :: es,_,i+1,e,h,hi=>by
  obtain⟨u,us,rfl,_,h2⟩:=h
  obtain⟨v,hv,hr⟩:=VRs.get h2 (by simpa using hi)
  exact⟨v,by simpa using hv,hr⟩
theorem VRs.append {G:Gh}{fr:Frs}{w:World}:∀{es es':List AV} {vs vs':List Value},VRs G fr w es vs→VRs G fr w es' vs'→VRs G fr w (es++es') (vs++vs')
 | [],_,_,_,h,h'=>by simp[VRs]at h;subst h;simpa using h'
 | _ :: _,_,_,_,h,h'=>by
  obtain⟨u,us,rfl,h1,h2⟩:=h
  exact⟨u,us++_,rfl,h1,h2.append h'⟩
theorem VRs.drop {G:Gh}{fr:Frs}{w:World}:∀{es:List AV} {vs:List Value} (n:Nat),VRs G fr w es vs→VRs G fr w (es.drop n) (vs.drop n)
 | es,vs,0,h=>by simpa using h
 | [],vs,n+1,h=>by simp[VRs]at h;subst h;simp[VRs]
 | _ :: _,_,n+1,h=>by
  obtain⟨u,us,rfl,_,h2⟩:=h
  simpa using h2.drop n
theorem VRs.take {G:Gh}{fr:Frs}{w:World}:∀{es:List AV} {vs:List Value} (n:Nat),VRs G fr w es vs→VRs G fr w (es.take n) (vs.take n)
 | _,_,0,_=>by simp[VRs]
 | [],vs,n+1,h=>by simp[VRs]at h;subst h;simp[VRs]
 | _ :: _,_,n+1,h=>by
  obtain⟨u,us,rfl,h1,h2⟩:=h
  simp only[List.take_succ_cons]
  exact⟨u,_,rfl,h1,h2.take n⟩
theorem VRs.ofCs (G:Gh)(fr:Frs)(w:World):∀(vs:List Value),VRs G fr w (vs.map ofC) vs
 | []=>by simp[VRs]
 | v :: vs=>⟨v,vs,rfl,VR_ofC _ _ _ _,VRs.ofCs G fr w vs⟩
theorem VR.oneCell {G:Gh}{fr:Frs}{w:World}{e:AV}{v:Value}(h:VR G fr w e v)(hc:e.isCell=true):v.oneCell'=true:=by
 cases e<;>simp only[AV.isCell,Bool.false_eq_true]at hc<;>simp only[VR]at h
 all_goals first
  | (subst h;rfl)
  | (obtain⟨A,c,rfl,_⟩:=h;rfl)
  | (obtain⟨F,sz,_,_,_,(⟨rfl,_⟩|⟨b,o,c,rfl,_⟩)⟩:=h<;>rfl)
  | (obtain⟨b,A,c,arr,t,_,_,rfl,_⟩:=h;rfl)
  | (obtain⟨b,_,rfl⟩:=h;rfl)
  | (obtain⟨b,o,rfl,_⟩:=h;rfl)
  | (obtain⟨b,es,cl,rfl,_⟩:=h;rfl)
  | (obtain⟨vs,rfl,_⟩:=h;rfl)
theorem cells_of_oneCell {v:Value}(h:v.oneCell'=true):v.cells=#[v]:=by
 cases v<;>first|rfl|(simp[Value.oneCell']at h)
theorem VR.cells {G:Gh}{fr:Frs}{w:World}{e:AV}{v:Value}(h:VR G fr w e v)(hn:v.cells.size=e.ncells):VRs G fr w e.cells v.cells.toList:=by
 cases e with
 | agg cs=>obtain⟨vs,rfl,hs⟩:=h;exact hs
 | undef=>
  simp only[AV.ncells,AV.cells,List.length_cons,List.length_nil]at hn
  obtain⟨x,hx⟩:∃x,v.cells.toList=[x]:=List.length_eq_one_iff.1 (by simpa using hn)
  simp only[AV.cells,hx]
  exact⟨x,[],rfl,trivial,rfl⟩
 | tup cs=>obtain⟨vs,rfl,hs⟩:=h;exact⟨_,[],rfl,⟨vs,rfl,hs⟩,rfl⟩
 | _=>
  have h1:=VR.oneCell h rfl
  rw[cells_of_oneCell h1]
  exact⟨v,[],rfl,h,rfl⟩
theorem VR.ncells {G:Gh}{fr:Frs}{w:World}{e:AV}{v:Value}(h:VR G fr w e v)(hu:(∃cs,e=.agg cs)∨e.isCell=true):v.cells.size=e.ncells:=by
 rcases hu with ⟨cs,rfl⟩|hu
 ·obtain⟨vs,rfl,hs⟩:=h
  have:=hs.length
  simpa[AV.ncells,AV.cells,Value.cells] using this
 ·rw[cells_of_oneCell (h.oneCell hu)]
  cases e<;>first|rfl|(simp[AV.isCell]at hu)
def ldCells (P:Program)(t:TypeId)(cs:List AV)(off:Nat)(K:AV→Prop):Prop:=
 match tagg P t,tsz P t with
 | some true,some n=>off+n≤cs.length∧K (.agg ((cs.drop off).take n))
 | some false,_=>match cs[off]? with
  | some v=>v.force K
  | none=>False
 | _,_=>False
theorem run_loadAgg {P:Program}{t:TypeId}{n:Nat}(ha:tagg P t=some true)(hn:tsz P t=some n)(w:World)(a:Addr)(vs:List Value)(hl:vs.length=n)
  (h:∀j v,vs[j]? = some v→w.cell? (a.add j)=some v):(loadVar t a).run P w=.ok (.agg vs.toArray) w:=by
 have h1:=run_loadCells_list (P:=P) w a vs h
 have hagg:(isAgg t).run P w=.ok true w:=by
  unfold isAgg
  unfold tagg at ha
  split at ha<;>simp at ha<;>rename_i hu<;>simp[run_underlying hu]
 unfold tsz at hn
 cases hi:P.info? t with
 | none=>simp[hi]at hn
 | some i=>
  simp[hi]at hn
  simp only[loadVar,Sem.run_bind,hagg,Result.andThen_ok,Go.sizeOf,typeInfo,run_program,hi,Sem.run_pure,if_true]
  rw[hn,←hl,h1]
  simp
theorem run_loadCell {P:Program}{t:TypeId}(ha:tagg P t=some false)(w:World)(a:Addr)(v:Value)(h:w.cell? a=some v):(loadVar t a).run P w=.ok v w:=by
 have hagg:(isAgg t).run P w=.ok false w:=by
  unfold isAgg
  unfold tagg at ha
  split at ha<;>simp at ha
  rename_i d hs hr hu
  simp only[Sem.run_bind,run_underlying hu,Result.andThen_ok]
  cases d<;>first|rfl|exact absurd hu (hs _)|exact absurd hu (hr _ _)
 simp[loadVar,hagg,h]
theorem ldCells_sound {P:Program}{G Gc:Gh}{frc:Frs}{S:St}{w:World}{t:TypeId}{cs:List AV}{off:Nat}{K:AV→Prop}{vs:List Value}{b o:Nat}
  (hv:VRs Gc frc w cs vs) (hup:∀e v,VR Gc frc w e v→VR G S.fr w e v) (hcell:∀j v,vs[j]? = some v→w.cell? ⟨b,o+j,none⟩=some v) (h:ldCells P t cs off K) :
  ∃e r,K e∧VR G S.fr w e r∧(loadVar t ⟨b,o+off,none⟩).run P w=.ok r w:=by
 have ups:∀(es:List AV) (us:List Value),VRs Gc frc w es us→VRs G S.fr w es us:=by
  intro es
  induction es with
  | nil=>intro us h;simpa[VRs] using h
  | cons e es ih=>
   intro us h
   obtain⟨u,us',rfl,h1,h2⟩:=h
   exact⟨u,us',rfl,hup _ _ h1,ih _ h2⟩
 unfold ldCells at h
 split at h
 ·rename_i n ha hn
  obtain⟨hle,hK⟩:=h
  have hl:=hv.length
  exact⟨.agg ((cs.drop off).take n),_,hK,⟨_,rfl,by simpa using ups _ _ ((hv.drop off).take n)⟩,run_loadAgg ha hn w _ ((vs.drop off).take n) (by simp;omega) (fun j v hj=>by
   rw[Addr.add_lit,Nat.add_assoc]
   apply hcell
   rw[List.getElem?_take]at hj
   split at hj
   ·simpa using hj
   ·cases hj)⟩
 ·rename_i ha
  split at h
  ·rename_i v hv'
   obtain⟨u,hu,hr⟩:=hv.get hv'
   rw[AV.force_eq]at h
   exact⟨v,u,h,hup _ _ hr,run_loadCell ha w _ u (hcell _ _ hu)⟩
  ·exact h.elim
 ·exact h.elim
theorem VR.unpure_aux {G:Gh}{fr:Frs}{w:World} :
  (∀(e:AV) {v:Value},VR G.pure [] w e v→VR G fr w e v)∧(∀(es:List AV) {vs:List Value},VRs G.pure [] w es vs→VRs G fr w es vs):=by
 have key:∀n:Nat,(∀(e:AV),sizeOf e≤n→∀{v:Value},VR G.pure [] w e v→VR G fr w e v)∧(∀(es:List AV),sizeOf es≤n→∀{vs:List Value},VRs G.pure [] w es vs→VRs G fr w es vs):=by
  intro n
  induction n with
  | zero=>
   refine⟨fun e he=>?_,fun es hes=>?_⟩
   ·cases e<;>simp at he
   ·cases es<;>simp at hes
  | succ n ih=>
   refine⟨fun e he v hv=>?_,fun es hes vs hv=>?_⟩
   ·cases e with
    | own es ch=>obtain⟨F,sz,hF,_⟩:=hv;simp at hF
    | grown e n=>
     obtain⟨A,c,h1,h2,h3⟩:=hv
     exact⟨A,c,h1,h2,ih.1 e (by simp at he;omega) h3⟩
    | bsl id off n sz=>obtain⟨b,A,c,arr,t,hr,_⟩:=hv;simp[Gh.pure]at hr
    | vsl id off n sz=>obtain⟨b,A,c,arr,t,hr,_⟩:=hv;simp[Gh.pure]at hr
    | yld id=>obtain⟨b,hr,_⟩:=hv;simp[Gh.pure]at hr
    | mp id=>obtain⟨b,hr,_⟩:=hv;simp[Gh.pure]at hr
    | bfn f id off=>obtain⟨b,hr,_⟩:=hv;simp[Gh.pure]at hr
    | cmp sh ks vs=>
     obtain⟨b,es,cl,h1,h2,h3,h4,h5,h6⟩:=hv
     exact⟨b,es,cl,h1,h2,h3,h4,h5,h6⟩
    | ptr id off=>obtain⟨b,hr,_⟩:=hv;simp[Gh.pure]at hr
    | fn f caps=>
     obtain⟨vs,rfl,hs⟩:=hv
     exact⟨vs,rfl,ih.2 caps (by simp at he;omega) hs⟩
    | agg cs=>
     obtain⟨vs,rfl,hs⟩:=hv
     exact⟨vs,rfl,ih.2 cs (by simp at he;omega) hs⟩
    | tup cs=>
     obtain⟨vs,rfl,hs⟩:=hv
     exact⟨vs,rfl,ih.2 cs (by simp at he;omega) hs⟩
    | _=>exact hv
   ·cases es with
    | nil=>exact hv
    | cons e es=>
     obtain⟨u,us,rfl,h1,h2⟩:=hv
     simp at hes
     exact⟨u,us,rfl,ih.1 e (by omega) h1,ih.2 es (by omega) h2⟩
 exact⟨fun e _ h=>(key (sizeOf e)).1 e (Nat.le_refl _) h,fun es _ h=>(key (sizeOf es)).2 es (Nat.le_refl _) h⟩
theorem take_get {arr:Array Value}{n j:Nat}{v:Value}(h:(arr.toList.take n)[j]? = some v):arr[j]? = some v:=by
 rw[List.getElem?_take]at h
 split at h
 ·simpa using h
 ·cases h
def opLoad (P:Program)(S:St)(t:TypeId)(x:AV)(K:AV→St→Prop):Prop:=
 match x with
 | .ptr id off=>match S.bx[id]? with
  | some (.cells cs _)=>ldCells P t cs off (fun v=>K v S)
  | _=>False
 | .cptr e off=>ldCells P t e.cells off (fun v=>K v S)
 | _=>False
theorem opLoad_val {P:Program}{L:World→Prop}{w0:Orig L}{G:Gh}{S:St}{w:World}(hS:RelS w0 G S w){t:TypeId}{x:AV}{xv:Value}(hx:VR G S.fr w x xv){K:AV→St→Prop}(h:opLoad P S t x K) :
  ∃ad e r,xv=.pointer (some ad)∧K e S∧VR G S.fr w e r∧(loadVar t ad).run P w=.ok r w:=by
 unfold opLoad at h
 split at h
 ·rename_i id off
  split at h
  ·rename_i cs ty hb
   obtain⟨b,hr,rfl⟩:=hx
   obtain⟨b',ob,hr',hheap,arr,rfl,hasz,hv⟩:=hS.bx id _ hb rfl
   rw[hr]at hr';injection hr' with hr';subst hr'
   obtain⟨e,r,h1,h2,h3⟩:=ldCells_sound (P:=P) (S:=S) (b:=b) (o:=0) hv (fun _ _ h=>h) (fun j v hj=>by
    rw[Nat.zero_add,cell_of_row w b j arr ty (0,0) hheap];exact take_get hj) h
   simp only[Nat.zero_add]at h3
   exact⟨_,e,r,rfl,h1,h2,h3⟩
  ·exact h.elim
 ·rename_i e off
  obtain⟨b,o,rfl,hb,hok,u,hu,hn,hm⟩:=hx
  obtain⟨e,r,h1,h2,h3⟩:=ldCells_sound (P:=P) (S:=S) (b:=b) (o:=o) (hu.cells hn) (fun _ _ h=>VR.unpure_aux.1 _ h) (fun j v hj=>hm j v (by simpa using hj)) h
  exact⟨_,e,r,rfl,h1,h2,h3⟩
 ·exact h.elim
theorem opLoad_sound {P:Program}{L:World→Prop}{w0:Orig L}{G:Gh}{S:St}{w:World}(hS:RelS w0 G S w){t:TypeId}{x:AV}{xv:Value}(hx:VR G S.fr w x xv){K:AV→St→Prop}(h:opLoad P S t x K) :
  OutK w0 G S w K ((Instr.loadAt t xv).run P w):=by
 obtain⟨ad,e,r,rfl,h1,h2,h3⟩:=opLoad_val hS hx h
 have:(Instr.loadAt t (.pointer (some ad))).run P w=.ok r w:=by simpa[Instr.loadAt,Instr.sureAddr] using h3
 rw[this]
 exact OutK.same hS h2 h1
def opBox (S:St)(t:TypeId)(x:AV)(K:AV→St→Prop):Prop:=
 ((∃cs,x=.agg cs)∨x.isCell=true)∧K (.ptr S.bx.length 0) (S.addB (.cells x.cells t))
theorem opBox_sound {P:Program}{L:World→Prop}{w0:Orig L}{G:Gh}{S:St}{w:World}(hS:RelS w0 G S w){t:TypeId}{x:AV}{xv:Value}(hx:VR G S.fr w x xv){K:AV→St→Prop}(h:opBox S t x K) :
  OutK w0 G S w K ((Instr.box t xv).run P w):=by
 obtain⟨hc,hK⟩:=h
 have hcs:=hx.cells (hx.ncells hc)
 have hl:=hcs.length
 obtain⟨G',h1,h2,h3⟩:=hS.box (.cells x.cells t) (.cells xv.cells t) ⟨_,rfl,by simpa using hl,by rw[List.take_of_length_le (by omega)];exact hcs⟩
 exact⟨.pointer (some ⟨w.heap.size,0,none⟩),_,G',_,.ptr S.bx.length 0,by simp[Instr.box,newVar,newRow],h1,h2,⟨_,h3,rfl⟩,hK⟩
def opAlloc (P:Program)(S:St)(t:TypeId)(K:AV→St→Prop):Prop:=
 match tzero P t with
 | some cs=>K (.ptr S.bx.length 0) (S.addB (.cells cs t))
 | none=>False
theorem opAlloc_sound {P:Program}{L:World→Prop}{w0:Orig L}{G:Gh}{S:St}{w:World}(hS:RelS w0 G S w){t:TypeId}{K:AV→St→Prop}(h:opAlloc P S t K) :
  OutK w0 G S w K ((Instr.alloc t true (.tuple #[])).run P w):=by
 unfold opAlloc tzero at h
 split at h
 ·rename_i cs hz
  simp only[Option.map_eq_some_iff,Option.bind_eq_some_iff]at hz
  obtain⟨z,⟨i,hi,hz⟩,rfl⟩:=hz
  obtain⟨G',h1,h2,h3⟩:=hS.box (.cells (z.cells.toList.map ofC) t) (.cells z.cells t) ⟨_,rfl,by simp,by rw[List.take_of_length_le (by simp)];exact VRs.ofCs _ _ _ _⟩
  exact⟨.pointer (some ⟨w.heap.size,0,none⟩),_,G',_,.ptr S.bx.length 0,by simp[Instr.alloc,zeroValue,typeInfo,hi,hz,newVar,newRow],h1,h2,⟨_,h3,rfl⟩,h⟩
 ·exact h.elim
def splice:List AV→Nat→List AV→List AV
 | [],_,_=>[]
 | c :: cs,n+1,vs=>c :: splice cs n vs
 | c :: cs,0,[]=>c :: cs
 | _ :: cs,0,v :: vs=>v :: splice cs 0 vs
theorem splice_eq:∀(cs:List AV) (off:Nat) (vs:List AV),off+vs.length≤cs.length→splice cs off vs=cs.take off++vs++cs.drop (off+vs.length)
 | [],off,vs,h=>by
  have h1:off=0:=by simp at h;omega
  have h2:vs=[]:=by simp at h;exact h.2
  subst h1;subst h2;rfl
 | c :: cs,n+1,vs,h=>by
  have:=splice_eq cs n vs (by simp at h;omega)
  simp only[splice,this,List.take_succ_cons,List.cons_append]
  rw[show n+1+vs.length=n+vs.length+1 from by omega,List.drop_succ_cons]
 | c :: cs,0,[],_=>by simp[splice]
 | c :: cs,0,v :: vs,h=>by
  have hl:0+vs.length≤cs.length:=by
   simp only[List.length_cons]at h;omega
  have:=splice_eq cs 0 vs hl
  simp only[splice,this,List.take_zero,List.nil_append,List.cons_append,List.length_cons,Nat.zero_add,List.drop_succ_cons]
theorem splice_one:∀(cs:List AV) (off:Nat) (v:AV),splice cs off [v] = cs.set off v
 | [],off,v=>by simp[splice]
 | c :: cs,n+1,v=>by simp[splice,splice_one cs n v]
 | c :: cs,0,v=>by cases cs<;>simp[splice]
def opStore (P:Program)(S:St)(t:TypeId)(x v:AV)(K:AV→St→Prop):Prop:=
 match x with
 | .ptr id off=>match S.bx[id]? with
  | some (.cells cs ty)=>tsz P t=some v.ncells∧v.cells.all AV.isCell=true∧off+v.ncells≤cs.length∧K .undef (S.setB id (.cells (splice cs off v.cells) ty))
  | _=>False
 | _=>False
theorem splice_or {G:Gh}{fr:Frs}{w:World}{cs vs:List AV}{arr us:List Value}{off:Nat}{ty:TypeId}(h:VRs G fr w cs (arr.take cs.length))(hv:VRs G fr w vs us)(hle:off+vs.length≤cs.length)(_hmin:cs.length≤arr.length)(hsz:arr.length=cs.length)(hl:us.length=vs.length) :
  OR G fr w (.cells (splice cs off vs) ty) (.cells (arr.take off++us++arr.drop (off+us.length)).toArray ty):=by
 have hse:=splice_eq cs off vs hle
 rw[hse]
 refine⟨_,rfl,?_⟩
 have hsl:(cs.take off++vs++cs.drop (off+vs.length)).length=cs.length:=by simp;omega
 rw[hsl]
 have e:(arr.take off++us++arr.drop (off+us.length)).take cs.length=(arr.take cs.length).take off++us++(arr.take cs.length).drop (off+vs.length):=by
  rw[List.take_append,List.take_of_length_le (by simp;omega),List.take_take,Nat.min_eq_left (by omega),hl]
  congr 1
  rw[List.drop_take]
  congr 1
  simp;omega
 rw[e]
 refine⟨by simp;omega,?_⟩
 exact((h.take off).append hv).append (h.drop _)
theorem opStore_sound {P:Program}{L:World→Prop}{w0:Orig L}{G:Gh}{S:St}{w:World}(hS:RelS w0 G S w){t:TypeId}{x v:AV}{xv vv:Value}(hx:VR G S.fr w x xv)(hv:VR G S.fr w v vv){K:AV→St→Prop}(h:opStore P S t x v K) :
  ∃w' G' S',(Instr.storeAt t xv vv).run P w=.ok () w'∧RelS w0 G' S' w'∧KeepD G S.fr w G' S'.fr w'∧K .undef S':=by
 unfold opStore at h
 split at h
 ·rename_i id off
  split at h
  ·rename_i cs ty hb
   obtain⟨hsz,hall,hle,hK⟩:=h
   obtain⟨b,hr,rfl⟩:=hx
   obtain⟨b',ob,hr',hheap,arr,rfl,hasz,hvs⟩:=hS.bx id _ hb rfl
   rw[hr]at hr';injection hr' with hr';subst hr'
   have hu:(∃cs,v=.agg cs)∨v.isCell=true:=by
    cases v<;>first|exact .inl ⟨_,rfl⟩|exact .inr rfl|(simp[AV.cells,AV.isCell]at hall)
   have hn:=hv.ncells hu
   have hcs:=hv.cells hn
   have hlen:=hvs.length
   have hone:∀u∈vv.cells.toList,u.oneCell'=true:=by
    intro u hu'
    obtain⟨i,hi⟩:=List.getElem?_of_mem hu'
    have hl:=hcs.length
    have hil:i < v.cells.length:=by
     have:=(List.getElem?_eq_some_iff.1 hi).1
     omega
    obtain⟨u',hu2,hr2⟩:=hcs.get (List.getElem?_eq_getElem hil)
    rw[hi]at hu2;injection hu2 with hu2;subst hu2
    exact hr2.oneCell (List.all_eq_true.1 hall _ (List.getElem_mem hil))
   have hst:=run_storeCells_at P b off ty vv.cells.toList 0 arr w hheap (by simp only[Array.length_toList,Nat.add_zero,hn];simp at hlen;omega) hone
   unfold tsz at hsz
   cases hi:P.info? t with
   | none=>simp[hi]at hsz
   | some i=>
    simp[hi]at hsz
    simp only[Nat.add_zero]at hst
    have hl2:vv.cells.toList.length=v.cells.length:=hcs.length
    have hmin:cs.length≤arr.size:=by simp at hlen;omega
    have hset:=hS.setBox ⟨_,hb,rfl⟩ hr hheap (.cells (splice cs off v.cells) ty) (.cells (arr.toList.take off++vv.cells.toList++arr.toList.drop (off+vv.cells.toList.length)).toArray ty) (fun arr0 t0 h0=>by
      injection h0 with h1 h2 h3;subst h1;subst h2
      exact⟨_,rfl,by simp[hn];omega⟩) (by simp) (by simp) (splice_or hvs hcs hle hmin (by simpa using hasz) hl2)
     (w.setRow b (arr.toList.take off++vv.cells.toList++arr.toList.drop (off+vv.cells.toList.length)).toArray) (by simp[World.setRow]) rfl rfl rfl
     (setRow_heap w b arr _ ty _ hheap) (fun k hk=>setRow_other w b k _ hk)
    exact⟨_,G,_,by simpa[Instr.storeAt,Instr.sureAddr,storeVar,hn,Go.sizeOf,typeInfo,hi,hsz] using hst,hset.1,hset.2,hK⟩
  ·exact h.elim
 ·exact h.elim
open Go Go.RowKit
def InB (n:Int)(len:Nat):Prop:=0≤n∧n < len
def InC (n:Int)(len:Nat):Prop:=0≤n∧n≤len
def NonNeg (n:Int):Prop:=0≤n
def NonZero (n:Int):Prop:=n≠0
def intK (op:BinOp)(k:IntKind)(a:Int)(k':IntKind)(b:Int)(K:AV→Prop):Prop:=
 match op with
 | .shl=>NonNeg b∧K (.int k (k.wrap (a*2 ^ (min b.toNat k.bits))))
 | .shr=>NonNeg b∧K (.int k (a.fdiv (2 ^ (min b.toNat k.bits))))
 | .add=>k=k'∧K (.int k (k.wrap (a+b)))
 | .sub=>k=k'∧K (.int k (k.wrap (a-b)))
 | .mul=>k=k'∧K (.int k (k.wrap (a*b)))
 | .quo=>k=k'∧NonZero b∧K (.int k (k.wrap (a.tdiv b)))
 | .rem=>k=k'∧NonZero b∧K (.int k (a.tmod b))
 | .and=>k=k'∧K (.int k (k.wrap (BitVec.ofInt k.bits a &&& BitVec.ofInt k.bits b).toNat))
 | .or=>k=k'∧K (.int k (k.wrap (BitVec.ofInt k.bits a ||| BitVec.ofInt k.bits b).toNat))
 | .xor=>k=k'∧K (.int k (k.wrap (BitVec.ofInt k.bits a ^^^ BitVec.ofInt k.bits b).toNat))
 | .andNot=>k=k'∧K (.int k (k.wrap (BitVec.ofInt k.bits a &&& ~~~(BitVec.ofInt k.bits b)).toNat))
 | .eql=>k=k'∧K (.bool (a==b))
 | .neq=>k=k'∧K (.bool (a != b))
 | .lss=>k=k'∧K (.bool (decide (a < b)))
 | .leq=>k=k'∧K (.bool (decide (a≤b)))
 | .gtr=>k=k'∧K (.bool (decide (b < a)))
 | .geq=>k=k'∧K (.bool (decide (b≤a)))
theorem intK_sound {P:Program}{op:BinOp}{k k':IntKind}{a b:Int}{K:AV→Prop}(t:TypeId)(w:World)(h:intK op k a k' b K) :
  ∃e v,K e∧(∀G fr,VR G fr w e v)∧(binOp op t (.int k a) (.int k' b)).run P w=.ok v w:=by
 cases op<;>simp only[intK,NonNeg,NonZero]at h
 case shl=>exact⟨_,_,h.2,fun _ _=>rfl,by simp[binOp,Op.shift,show ¬b < 0 from by omega]⟩
 case shr=>exact⟨_,_,h.2,fun _ _=>rfl,by simp[binOp,Op.shift,show ¬b < 0 from by omega]⟩
 case quo=>exact⟨_,_,h.2.2,fun _ _=>rfl,by simp[binOp,h.1,Op.intDiv,h.2.1]⟩
 case rem=>exact⟨_,_,h.2.2,fun _ _=>rfl,by simp[binOp,h.1,Op.intDiv,h.2.1]⟩
 all_goals exact⟨_,_,h.2,fun _ _=>rfl,by simp[binOp,h.1,Op.intArith,Op.intBits,Op.intCmp]⟩
theorem eqGuard_plain {P:Program}(w:World)(op:BinOp)(t:TypeId)(x y:Operand)(a b:Value)(h:(∀cs,a≠.agg cs)∧a≠.nilIface):(eqGuard op t x y a b).run P w=.ok () w:=by
 unfold eqGuard
 cases op<;>simp
 all_goals
  split
  ·exact absurd rfl h.2
  ·exact absurd rfl (h.1 _)
  ·rfl
def eqTs (d:TypeId→List AV→List AV→Option Bool)(P:Program)(xs ys:List AV):List Field→Option Bool
 | []=>some true
 | f :: fs=>if f.name = "_" then none else match tsz P f.type with
  | some n=>match d f.type ((xs.drop f.offset).take n) ((ys.drop f.offset).take n),eqTs d P xs ys fs with
   | some r,some r'=>if f.offset+n≤xs.length∧f.offset+n≤ys.length then some (r&&r') else none
   | _,_=>none
  | none=>none
def eqT (P:Program):Nat→TypeId→List AV→List AV→Option Bool
 | 0,_,_,_=>none
 | d+1,t,xs,ys=>match P.underlying t with
  | some (.int _)=>match xs,ys with
   | [.int k a],[.int k' b]=>if k=k' then some (a==b) else none
   | _,_=>none
  | some .bool=>match xs,ys with
   | [.bool a],[.bool b]=>some (a==b)
   | _,_=>none
  | some .string=>match xs,ys with
   | [.str a],[.str b]=>some (a==b)
   | _,_=>none
  | some (.struct fs)=>if P.stoodInHeld t then none else eqTs (eqT P d) P xs ys fs.toList
  | _=>none
def ofCells (P:Program)(t:TypeId)(vs:List Value):Option Value:=match tagg P t with
 | some true=>some (.agg vs.toArray)
 | some false=>match vs with
  | [v]=>some v
  | _=>none
 | none=>none
theorem run_isAgg {P:Program}{t:TypeId}{b:Bool}(h:tagg P t=some b)(w:World):(isAgg t).run P w=.ok b w:=by
 unfold isAgg
 unfold tagg at h
 split at h
 ·rename_i hu;simp at h;subst h;simp[run_underlying hu]
 ·rename_i hu;simp at h;subst h;simp[run_underlying hu]
 ·rename_i d hs hr hu
  simp at h;subst h
  simp only[Sem.run_bind,run_underlying hu,Result.andThen_ok]
  cases d<;>first|rfl|exact absurd hu (hs _)|exact absurd hu (hr _ _)
 ·simp at h
theorem run_sizeOf {P:Program}{t:TypeId}{n:Nat}(h:tsz P t=some n)(w:World):(Go.sizeOf t).run P w=.ok n w:=by
 unfold tsz at h
 cases hi:P.info? t with
 | none=>simp[hi]at h
 | some i=>simp[hi]at h;simp[Go.sizeOf,typeInfo,hi,h]
theorem run_part {P:Program}{t:TypeId}{n off:Nat}(hn:tsz P t=some n)(w:World)(vs:Array Value)(_:off+n≤vs.size){v:Value}(hv:ofCells P t ((vs.toList.drop off).take n)=some v) :
  (part t vs off).run P w=.ok v w:=by
 unfold ofCells at hv
 split at hv
 ·rename_i ha
  simp at hv
  subst hv
  simp only[part,Sem.run_bind,run_isAgg ha,Result.andThen_ok,if_true,run_sizeOf hn,Sem.run_pure]
  congr 2
  apply Array.ext'
  simp[List.take_drop,Nat.add_comm]
 ·rename_i ha
  split at hv
  ·rename_i x hx
   simp at hv;subst hv
   have:vs[off]? = some x:=by
    have h0:((vs.toList.drop off).take n)[0]? = some x:=by rw[hx];rfl
    rw[List.getElem?_take]at h0
    split at h0
    ·simpa using h0
    ·cases h0
   simp[part,run_isAgg ha,this]
  ·cases hv
 ·cases hv
theorem eqT_sound {P:Program}:∀(n:Nat) (t:TypeId) (xs ys:List AV) (r:Bool),eqT P n t xs ys=some r→∀(G:Gh) (fr:Frs) (w:World) (us vs:List Value),VRs G fr w xs us→VRs G fr w ys vs →
  ∃u v,ofCells P t us=some u∧ofCells P t vs=some v∧∀d,n≤d→(Op.equalIn d t u v).run P w=.ok r w
 | 0,_,_,_,_,h,_,_,_,_,_,_,_=>by simp[eqT]at h
 | n+1,t,xs,ys,r,h,G,fr,w,us,vs,hu,hv=>by
  unfold eqT at h
  split at h
  ·rename_i kk hund
   have ha:tagg P t=some false:=by simp[tagg,hund]
   split at h
   ·rename_i k a k' b
    split at h
    ·rename_i hk
     simp at h;subst h;subst hk
     obtain⟨u,us',rfl,rfl,h2⟩:=hu
     obtain⟨v,vs',rfl,rfl,h3⟩:=hv
     simp[VRs]at h2 h3;subst h2;subst h3
     refine⟨.int k a,.int k b,by simp[ofCells,ha],by simp[ofCells,ha],fun d hd=>?_⟩
     obtain⟨d,rfl⟩:∃d',d=d'+1:=⟨d-1,by omega⟩
     exact run_equalIn_int w d t k kk a b hund
    ·cases h
   ·cases h
  ·rename_i hund
   have ha:tagg P t=some false:=by simp[tagg,hund]
   split at h
   ·rename_i a b
    simp at h;subst h
    obtain⟨u,us',rfl,rfl,h2⟩:=hu
    obtain⟨v,vs',rfl,rfl,h3⟩:=hv
    simp[VRs]at h2 h3;subst h2;subst h3
    refine⟨.bool a,.bool b,by simp[ofCells,ha],by simp[ofCells,ha],fun d hd=>?_⟩
    obtain⟨d,rfl⟩:∃d',d=d'+1:=⟨d-1,by omega⟩
    exact run_equalIn_bool w d t a b hund
   ·cases h
  ·rename_i hund
   have ha:tagg P t=some false:=by simp[tagg,hund]
   split at h
   ·rename_i a b
    simp at h;subst h
    obtain⟨u,us',rfl,rfl,h2⟩:=hu
    obtain⟨v,vs',rfl,rfl,h3⟩:=hv
    simp[VRs]at h2 h3;subst h2;subst h3
    refine⟨.string a,.string b,by simp[ofCells,ha],by simp[ofCells,ha],fun d hd=>?_⟩
    obtain⟨d,rfl⟩:∃d',d=d'+1:=⟨d-1,by omega⟩
    simp[Op.equalIn,run_underlying hund]
   ·cases h
  ·rename_i fs hund
   have ha:tagg P t=some true:=by simp[tagg,hund]
   split at h
   ·cases h
   ·rename_i hst
    refine⟨.agg us.toArray,.agg vs.toArray,by simp[ofCells,ha],by simp[ofCells,ha],fun d hd=>?_⟩
    obtain⟨d,rfl⟩:∃d',d=d'+1:=⟨d-1,by omega⟩
    have hfs:P.fieldsOf t=fs:=by simp[Program.fieldsOf,hund]
    rw[run_equalIn_struct w d t _ _ (by rw[hfs];exact hund) (by simpa using hst),hfs]
    generalize fs.toList=l at h
    clear hfs hund
    induction l generalizing r with
    | nil=>simp[eqTs]at h;subst h;rfl
    | cons f l ih=>
     unfold eqTs at h
     split at h
     ·cases h
     rename_i hname'
     split at h
     ·rename_i m hm
      split at h
      ·rename_i r1 r2 h1 h2
       split at h
       ·rename_i hle
        simp at h;subst h
        have hlu:=hu.length
        have hlv:=hv.length
        obtain⟨u1,v1,hu1,hv1,hrun⟩:=eqT_sound n f.type _ _ r1 h1 G fr w _ _ ((hu.drop f.offset).take m) ((hv.drop f.offset).take m)
        have hp1:=run_part (P:=P) hm w us.toArray (off:=f.offset) (by simp;omega) (by simpa using hu1)
        have hp2:=run_part (P:=P) hm w vs.toArray (off:=f.offset) (by simp;omega) (by simpa using hv1)
        simp only[Op.eqFields,hname',ne_eq,not_false_eq_true,if_true,Sem.run_bind,hp1,Result.andThen_ok,hp2,hrun d (by omega)]
        cases r1
        ·simp
        ·simp[ih _ h2]
       ·cases h
      ·cases h
     ·cases h
  ·cases h
theorem run_equal_one {P:Program}{w:World}{t:TypeId}{x y:Value}{r:Bool}(h:∀d,(Op.equalIn (d+1) t x y).run P w=.ok r w):(Op.equal t x y).run P w=.ok r w:=h (Op.maxDepth-1)
theorem run_equal_pnn {P:Program}{t e:TypeId}(w:World)(hund:P.underlying t=some (.pointer e)):(Op.equal t (.pointer none) (.pointer none)).run P w=.ok true w:=
 run_equal_one fun d=>by simp[Op.equalIn,run_underlying hund]
theorem run_equal_pn {P:Program}{t e:TypeId}(w:World)(hund:P.underlying t=some (.pointer e))(a:Addr):(Op.equal t (.pointer (some a)) (.pointer none)).run P w=.ok false w:=
 run_equal_one fun d=>by simp[Op.equalIn,run_underlying hund]
theorem run_equal_sn {P:Program}{t e:TypeId}(w:World)(hund:P.underlying t=some (.slice e))(A:Option Addr)(n c:Nat):(Op.equal t (.slice A n c) (.slice none 0 0)).run P w=.ok A.isNone w:=
 run_equal_one fun d=>by cases A<;>simp[Op.equalIn,run_underlying hund]
def tyEqGuard (P:Program)(t:TypeId):Bool:=P.eqGuardType P.depth t
def binK (P:Program)(op:BinOp)(t:TypeId)(x y:AV)(K:AV→Prop):Prop:=
 match x,y with
 | .int k a,.int k' b=>intK op k a k' b K
 | .bool a,.bool b=>match op,P.underlying t with
  | .eql,some .bool=>K (.bool (a==b))
  | .neq,some .bool=>K (.bool (!(a==b)))
  | _,_=>False
 | .agg xs,.agg ys=>match op,eqT P 4 t xs ys,tagg P t with
  | .eql,some r,some true=>tyEqGuard P t=false∧K (.bool r)
  | .neq,some r,some true=>tyEqGuard P t=false∧K (.bool (!r))
  | _,_,_=>False
 | .str a,.str b=>match op with
  | .add=>a.size+b.size≤9223372036854775807∧K (.str (a++b))
  | .eql=>K (.bool (a.toList==b.toList))
  | .neq=>K (.bool (!(a.toList==b.toList)))
  | _=>False
 | .nilp,.nilp=>match op,P.underlying t with
  | .eql,some (.pointer _)=>K (.bool true)
  | .neq,some (.pointer _)=>K (.bool false)
  | _,_=>False
 | .ptr id off,.ptr id' off'=>match op,P.underlying t with
  | .eql,some (.pointer e)=>id=id'∧off=off'∧(tsz P e).isSome=true∧tsz P e≠some 0∧K (.bool true)
  | .neq,some (.pointer e)=>id=id'∧off=off'∧(tsz P e).isSome=true∧tsz P e≠some 0∧K (.bool false)
  | _,_=>False
 | .ptr _ _,.nilp=>match op,P.underlying t with
  | .eql,some (.pointer _)=>K (.bool false)
  | .neq,some (.pointer _)=>K (.bool true)
  | _,_=>False
 | .cptr _ _,.nilp=>match op,P.underlying t with
  | .eql,some (.pointer _)=>K (.bool false)
  | .neq,some (.pointer _)=>K (.bool true)
  | _,_=>False
 | _,_=>False
theorem eqGuard_ptr {P:Program}(w:World)(op:BinOp)(t:TypeId)(x y:Operand)(A B:Option Addr):(eqGuard op t x y (.pointer A) (.pointer B)).run P w=.ok () w:=eqGuard_plain w op t x y _ _ ⟨by simp,by simp⟩
theorem run_sameAddr_self {P:Program}(w:World)(a:Addr):(Go.sameAddr a a).run P w=.ok true w:=by
 simp[Go.sameAddr]
theorem binK_sound {P:Program}{op:BinOp}{t:TypeId}{x y:AV}{K:AV→Prop}(G:Gh)(fr:Frs)(w:World){u v:Value}(hu:VR G fr w x u)(hv:VR G fr w y v)(ox oy:Operand)(h:binK P op t x y K) :
  ∃e r,K e∧(∀G fr,VR G fr w e r)∧(do eqGuard op t ox oy u v;binOp op t u v:Sem Value).run P w=.ok r w:=by
 unfold binK at h
 split at h
 ·rename_i k a k' b
  obtain rfl:u=_:=hu
  obtain rfl:v=_:=hv
  obtain⟨e,r,h1,h2,h3⟩:=intK_sound (P:=P) t w h
  exact⟨e,r,h1,h2,by rw[Sem.run_bind,eqGuard_plain w op t ox oy _ _ ⟨by simp,by simp⟩];exact h3⟩
 ·rename_i a b
  obtain rfl:u=_:=hu
  obtain rfl:v=_:=hv
  split at h
  ·rename_i hb
   exact⟨_,_,h,fun _ _=>rfl,by rw[Sem.run_bind,eqGuard_plain w .eql t ox oy _ _ ⟨by simp,by simp⟩];exact run_eql_bool w t a b hb⟩
  ·rename_i hb
   exact⟨_,_,h,fun _ _=>rfl,by rw[Sem.run_bind,eqGuard_plain w .neq t ox oy _ _ ⟨by simp,by simp⟩];exact run_neq_bool w t a b hb⟩
  ·exact h.elim
 ·rename_i xs ys
  obtain⟨us,rfl,hus⟩:=hu
  obtain⟨vs,rfl,hvs⟩:=hv
  have guard:∀op,tyEqGuard P t=false→(eqGuard op t ox oy (.agg us) (.agg vs)).run P w=.ok () w:=by
   intro op hg
   unfold tyEqGuard at hg
   unfold eqGuard
   cases op<;>simp[hg]
  split at h
  ·rename_i r hr ha
   obtain⟨u,v,h1,h2,h3⟩:=eqT_sound 4 t xs ys r hr G fr w _ _ hus hvs
   simp[ofCells,ha]at h1 h2
   subst h1;subst h2
   exact⟨_,_,h.2,fun _ _=>rfl,by rw[Sem.run_bind,guard _ h.1];simp[binOp,Op.equal,h3 Op.maxDepth (by simp[Op.maxDepth])]⟩
  ·rename_i r hr ha
   obtain⟨u,v,h1,h2,h3⟩:=eqT_sound 4 t xs ys r hr G fr w _ _ hus hvs
   simp[ofCells,ha]at h1 h2
   subst h1;subst h2
   exact⟨_,_,h.2,fun _ _=>rfl,by rw[Sem.run_bind,guard _ h.1];simp[binOp,Op.equal,h3 Op.maxDepth (by simp[Op.maxDepth])]⟩
  ·exact h.elim
 ·rename_i a b
  obtain rfl:u=_:=hu
  obtain rfl:v=_:=hv
  have hg:=eqGuard_plain (P:=P) w op t ox oy (.string a) (.string b) ⟨by simp,by simp⟩
  split at h
  ·exact⟨_,_,h.2,fun _ _=>rfl,by rw[Sem.run_bind,hg];simp only[Result.andThen_ok,binOp,Op.stringOp];rw[if_neg (by have:=h.1;simp[IntKind.max,IntKind.bits,IntKind.signed];omega)];rfl⟩
  ·exact⟨_,_,h,fun _ _=>rfl,by rw[Sem.run_bind,hg];rfl⟩
  ·exact⟨_,_,h,fun _ _=>rfl,by rw[Sem.run_bind,hg];rfl⟩
  ·exact h.elim
 ·obtain rfl:u=_:=hu
  obtain rfl:v=_:=hv
  split at h
  ·rename_i hund
   exact⟨_,_,h,fun _ _=>rfl,by rw[Sem.run_bind,eqGuard_ptr];simp[binOp,run_equal_pnn w hund]⟩
  ·rename_i hund
   exact⟨_,_,h,fun _ _=>rfl,by rw[Sem.run_bind,eqGuard_ptr];simp[binOp,run_equal_pnn w hund]⟩
  ·exact h.elim
 ·obtain⟨b,hr,rfl⟩:=hu
  obtain⟨b',hr',rfl⟩:=hv
  have key:∀e,P.underlying t=some (.pointer e)→(tsz P e).isSome=true→tsz P e≠some 0→∀ad:Addr,(Op.equal t (.pointer (some ad)) (.pointer (some ad))).run P w=.ok true w:=by
   intro e hund h1 h2 ad
   obtain⟨n,hn⟩:=Option.isSome_iff_exists.1 h1
   rw[hn]at h2
   have hn0:n≠0:=by simpa using h2
   exact run_equal_one fun d=>by simp[Op.equalIn,run_underlying hund,run_sizeOf hn,run_sameAddr_self]
  split at h
  ·rename_i e hund
   obtain⟨rfl,rfl,h1,h2,hK⟩:=h
   rw[hr]at hr';injection hr' with hr';subst hr'
   exact⟨_,_,hK,fun _ _=>rfl,by rw[Sem.run_bind,eqGuard_ptr];simp[binOp,key e hund h1 h2]⟩
  ·rename_i e hund
   obtain⟨rfl,rfl,h1,h2,hK⟩:=h
   rw[hr]at hr';injection hr' with hr';subst hr'
   exact⟨_,_,hK,fun _ _=>rfl,by rw[Sem.run_bind,eqGuard_ptr];simp[binOp,key e hund h1 h2]⟩
  ·exact h.elim
 ·obtain⟨b,hr,rfl⟩:=hu
  obtain rfl:v=_:=hv
  split at h
  ·rename_i hund
   exact⟨_,_,h,fun _ _=>rfl,by rw[Sem.run_bind,eqGuard_ptr];simp[binOp,run_equal_pn w hund]⟩
  ·rename_i hund
   exact⟨_,_,h,fun _ _=>rfl,by rw[Sem.run_bind,eqGuard_ptr];simp[binOp,run_equal_pn w hund]⟩
  ·exact h.elim
 ·obtain⟨b,o,rfl,_⟩:=hu
  obtain rfl:v=_:=hv
  split at h
  ·rename_i hund
   exact⟨_,_,h,fun _ _=>rfl,by rw[Sem.run_bind,eqGuard_ptr];simp[binOp,run_equal_pn w hund]⟩
  ·rename_i hund
   exact⟨_,_,h,fun _ _=>rfl,by rw[Sem.run_bind,eqGuard_ptr];simp[binOp,run_equal_pn w hund]⟩
  ·exact h.elim
 ·exact h.elim
def unK (op:UnOp)(x:AV)(K:AV→Prop):Prop:=
 match op,x with
 | .not,.bool b=>K (.bool (!b))
 | .neg,.int k n=>K (.int k (k.wrap (0-n)))
 | _,_=>False
theorem unK_sound {P:Program}{op:UnOp}{x:AV}{K:AV→Prop}{G:Gh}{fr:Frs}{w:World}{u:Value}(hu:VR G fr w x u)(h:unK op x K) :
  ∃e r,K e∧(∀G fr,VR G fr w e r)∧(Op.unary op u).run P w=.ok r w:=by
 unfold unK at h
 split at h
 ·obtain rfl:u=_:=hu
  exact⟨_,_,h,fun _ _=>rfl,rfl⟩
 ·obtain rfl:u=_:=hu
  exact⟨_,_,h,fun _ _=>rfl,rfl⟩
 ·exact h.elim
def fieldAddrK (P:Program)(s:TypeId)(x:AV)(f:Nat)(K:AV→Prop):Prop:=
 match tfield P s f with
 | some (o,ft)=>match tsz P ft,x with
  | some (_+1),.ptr id off=>K (.ptr id (off+o))
  | some (_+1),.cptr e off=>K (.cptr e (off+o))
  | _,_=>False
 | none=>False
theorem fieldAddrK_sound {P:Program}{s:TypeId}{x:AV}{f:Nat}{K:AV→Prop}{G:Gh}{fr:Frs}{w:World}{u:Value}(hu:VR G fr w x u)(h:fieldAddrK P s x f K) :
  ∃e r,K e∧VR G fr w e r∧(Instr.fieldAt s u f).run P w=.ok r w:=by
 unfold fieldAddrK at h
 split at h
 ·rename_i o ft hf
  unfold tfield at hf
  split at hf
  ·rename_i fs hund
   simp only[Option.map_eq_some_iff]at hf
   obtain⟨fd,hfd,he⟩:=hf
   simp at he
   obtain⟨rfl,rfl⟩:=he
   split at h
   ·rename_i n id off hn
    obtain⟨b,hr,rfl⟩:=hu
    exact⟨_,_,h,⟨b,hr,rfl⟩,by simp[Instr.fieldAt,run_underlying hund,hfd,Instr.sureAddr,fieldPlace,run_sizeOf hn,Addr.add_lit]⟩
   ·rename_i n e off hn
    obtain⟨b,o',rfl,hb,hok,hrest⟩:=hu
    exact⟨_,_,h,⟨b,o',rfl,hb,hok,hrest⟩,by simp[Instr.fieldAt,run_underlying hund,hfd,Instr.sureAddr,fieldPlace,run_sizeOf hn,Addr.add_lit,Nat.add_assoc]⟩
   ·exact h.elim
  ·cases hf
 ·exact h.elim
theorem MC.get {G:Gh}{fr:Frs}{w:World}{sz:Nat}:∀{es:List AV} {b o i:Nat} {e:AV},(∀e∈es,e.ncells=sz)→MC G fr w es b o→es[i]? = some e→∃u,VR G fr w e u∧u.cells.size=e.ncells∧AtMem w b (o+i*sz) u
 | [],_,_,_,_,_,_,h=>by simp at h
 | x :: es,b,o,0,e,_,hm,h=>by
  simp at h;subst h
  obtain⟨⟨u,h1,h2,h3⟩,_⟩:=hm
  exact⟨u,h1,h2,by simpa using h3⟩
 | x :: es,b,o,i+1,e,hu,hm,h=>by
  obtain⟨_,h4⟩:=hm
  obtain⟨u,h1,h2,h3⟩:=MC.get (sz:=sz) (fun e he=>hu e (by simp[he])) h4 (by simpa using h)
  rw[hu x (by simp)]at h3
  exact⟨u,h1,h2,by rw[show o+(i+1)*sz=o+sz+i*sz from by rw[Nat.add_mul];omega];exact h3⟩
def AV.elems:AV→Option (List AV)
 | .nils=>some []
 | .sl _ es=>some es
 | .own es _=>some es
 | _=>none
theorem VR.elems {G:Gh}{fr:Frs}{w:World}{x:AV}{v:Value}{es:List AV}(hv:VR G fr w x v)(he:x.elems=some es) :
  ∃A c,v=.slice A es.length c∧es.length≤c∧(es≠[]→∃b o sz,A=some ⟨b,o,none⟩∧b < w.heap.size∧(∀e∈es,e.ncells=sz)∧G.ok b (o+es.length*sz)∧MC G.pure [] w es b o):=by
 cases x<;>simp[AV.elems]at he<;>subst he
 ·exact⟨none,0,hv,by simp,by simp⟩
 ·obtain⟨A,c,h1,h2,_,h3⟩:=hv;exact⟨A,c,h1,h2,h3⟩
 ·obtain⟨F,sz,_,_,hu,(⟨rfl,rfl,_⟩|⟨b,o,c,h1,h2,h3,h4,h5,_⟩)⟩:=hv
  ·exact⟨none,0,rfl,by simp,by simp⟩
  ·exact⟨_,c,h1,h2,fun hne=>⟨b,o,sz,rfl,h3,hu,h4 hne,h5⟩⟩
def isNilC:Operand→Bool
 | .const (.slice none 0 0)=>true
 | _=>false
def nilCmpK (P:Program)(op:BinOp)(t:TypeId)(x:AV)(K:AV→Prop):Prop:=
 match tslice P t with
 | some _=>match op,x with
  | .eql,.nils=>K (.bool true)
  | .neq,.nils=>K (.bool false)
  | .eql,.sl _ es=>BrK es.isEmpty (∀b,K (.bool b)) (K (.bool false))
  | .neq,.sl _ es=>BrK es.isEmpty (∀b,K (.bool b)) (K (.bool true))
  | .eql,.own es _=>BrK es.isEmpty (∀b,K (.bool b)) (K (.bool false))
  | .neq,.own es _=>BrK es.isEmpty (∀b,K (.bool b)) (K (.bool true))
  | _,_=>False
 | none=>False
theorem nilCmpK_sound {P:Program}{op:BinOp}{t:TypeId}{x:AV}{K:AV→Prop}{G:Gh}{fr:Frs}{w:World}{u:Value}(hu:VR G fr w x u)(ox oy:Operand)(h:nilCmpK P op t x K) :
  ∃e r,K e∧(∀G fr,VR G fr w e r)∧(do eqGuard op t ox oy u (.slice none 0 0);binOp op t u (.slice none 0 0):Sem Value).run P w=.ok r w:=by
 unfold nilCmpK at h
 split at h
 ·rename_i e hs
  have hund:P.underlying t=some (.slice e):=by
   unfold tslice at hs;split at hs
   ·rename_i hh;simp at hs;subst hs;exact hh
   ·cases hs
  have gen:∀(A:Option Addr) (n c:Nat),(Op.equal t (.slice A n c) (.slice none 0 0)).run P w=.ok A.isNone w:=
   fun A n c=>run_equal_sn w hund A n c
  have eqlr:∀(A:Option Addr) (n c:Nat),(do eqGuard .eql t ox oy (.slice A n c) (.slice none 0 0);binOp .eql t (.slice A n c) (.slice none 0 0):Sem Value).run P w=.ok (.bool A.isNone) w:=by
   intro A n c
   rw[Sem.run_bind,eqGuard_plain w .eql t ox oy _ _ ⟨by simp,by simp⟩]
   simp[binOp,gen]
  have neqr:∀(A:Option Addr) (n c:Nat),(do eqGuard .neq t ox oy (.slice A n c) (.slice none 0 0);binOp .neq t (.slice A n c) (.slice none 0 0):Sem Value).run P w=.ok (.bool (!A.isNone)) w:=by
   intro A n c
   rw[Sem.run_bind,eqGuard_plain w .neq t ox oy _ _ ⟨by simp,by simp⟩]
   simp[binOp,gen]
  have dat:∀(es:List AV) (A:Option Addr),(es≠[]→A.isNone=false)→∀q:Bool,BrK es.isEmpty (∀b,K (.bool b)) (K (.bool q))→∀z:Bool,(A.isNone=false→z=q)→K (.bool z):=by
   intro es A hA q hb z hz
   cases es with
   | nil=>exact hb z
   | cons y ys=>rw[hz (hA (by simp))];exact hb
  have elemsA:∀es,x.elems=some es→∃A c,u=.slice A es.length c∧(es≠[]→A.isNone=false):=by
   intro es he
   obtain⟨A,c,h1,_,h2⟩:=hu.elems he
   refine⟨A,c,h1,fun hne=>?_⟩
   obtain⟨b,o,sz,hA,_⟩:=h2 hne
   rw[hA];rfl
  split at h
  ·obtain rfl:u=_:=hu
   exact⟨_,_,h,fun _ _=>rfl,eqlr _ _ _⟩
  ·obtain rfl:u=_:=hu
   exact⟨_,_,h,fun _ _=>rfl,neqr _ _ _⟩
  ·obtain⟨A,c,rfl,hA⟩:=elemsA _ rfl
   exact⟨_,_,dat _ A hA _ h A.isNone (fun h=>h),fun _ _=>rfl,eqlr _ _ _⟩
  ·obtain⟨A,c,rfl,hA⟩:=elemsA _ rfl
   exact⟨_,_,dat _ A hA _ h (!A.isNone) (fun h=>by rw[h];rfl),fun _ _=>rfl,neqr _ _ _⟩
  ·obtain⟨A,c,rfl,hA⟩:=elemsA _ rfl
   exact⟨_,_,dat _ A hA _ h A.isNone (fun h=>h),fun _ _=>rfl,eqlr _ _ _⟩
  ·obtain⟨A,c,rfl,hA⟩:=elemsA _ rfl
   exact⟨_,_,dat _ A hA _ h (!A.isNone) (fun h=>by rw[h];rfl),fun _ _=>rfl,neqr _ _ _⟩
  ·exact h.elim
 ·exact h.elim
def indexAddrK (P:Program)(t:TypeId)(x i:AV)(K:AV→Prop):Prop:=
 match i with
 | .int _ n=>match tarr P t,tslice P t with
  | some (len,e),_=>match tsz P e,x with
   | some sz,.ptr id off=>InB n len∧K (.ptr id (off+n.toNat*sz))
   | some sz,.cptr e off=>InB n len∧K (.cptr e (off+n.toNat*sz))
   | _,_=>False
  | none,some e=>match tsz P e,x with
   | some sz,.bsl id off len _=>InB n len∧K (.ptr id (off+n.toNat*sz))
   | some sz,.vsl id off len _=>InB n len∧K (.ptr id (off+n.toNat*sz))
   | some sz,x=>match x.elems with
    | some es=>InB n es.length∧match es[n.toNat]? with
     | some v=>v.ncells=sz∧K (.cptr v 0)
     | none=>False
    | none=>False
   | _,_=>False
  | _,_=>False
 | _=>False
theorem indexAddrK_sound {P:Program}{t:TypeId}{x i:AV}{K:AV→Prop}{G:Gh}{fr:Frs}{w:World}(dn:∀b e e',e'≤e→G.ok b e→G.ok b e'){u v:Value}(hu:VR G fr w x u)(hi:VR G fr w i v)(h:indexAddrK P t x i K) :
  ∃e r,K e∧VR G fr w e r∧(Instr.indexAt t u v).run P w=.ok r w:=by
 unfold indexAddrK at h
 split at h
 ·rename_i k n
  obtain rfl:v=_:=hi
  split at h
  ·rename_i len e ha
   have hund:P.underlying t=some (.array len e):=by
    unfold tarr at ha;split at ha
    ·rename_i hh;simp at ha;obtain⟨rfl,rfl⟩:=ha;exact hh
    ·cases ha
   split at h
   ·rename_i sz id off hsz
    obtain⟨⟨hn0,hn1⟩,hK⟩:=h
    obtain⟨b,hr,rfl⟩:=hu
    exact⟨_,_,hK,⟨b,hr,rfl⟩,by simp[Instr.indexAt,asIntOf,run_underlying hund,Instr.sureAddr,hn0,hn1,run_sizeOf hsz,Addr.add_lit]⟩
   ·rename_i sz e' off hsz
    obtain⟨⟨hn0,hn1⟩,hK⟩:=h
    obtain⟨b,o',rfl,hb,hok,hrest⟩:=hu
    exact⟨_,_,hK,⟨b,o',rfl,hb,hok,hrest⟩,by simp[Instr.indexAt,asIntOf,run_underlying hund,Instr.sureAddr,hn0,hn1,run_sizeOf hsz,Addr.add_lit,Nat.add_assoc]⟩
   ·exact h.elim
  ·rename_i e ha hs
   have hund:P.underlying t=some (.slice e):=by
    unfold tslice at hs;split at hs
    ·rename_i hh;simp at hs;subst hs;exact hh
    ·cases hs
   split at h
   ·rename_i sz id off len sz' hsz
    obtain⟨⟨hn0,hn1⟩,hK⟩:=h
    obtain⟨b,A,c,arr,tt,hr,_,rfl,hc,_,hA⟩:=hu
    have hA':=hA (by omega)
    subst hA'
    exact⟨_,_,hK,⟨b,hr,rfl⟩,by simp[Instr.indexAt,asIntOf,run_underlying hund,hn0,hn1,run_sizeOf hsz,Addr.add_lit]⟩
   ·rename_i sz id off len sz' hsz
    obtain⟨⟨hn0,hn1⟩,hK⟩:=h
    obtain⟨b,A,c,arr,tt,hr,_,rfl,hc,_,hA⟩:=hu
    have hA':=hA (by omega)
    subst hA'
    exact⟨_,_,hK,⟨b,hr,rfl⟩,by simp[Instr.indexAt,asIntOf,run_underlying hund,hn0,hn1,run_sizeOf hsz,Addr.add_lit]⟩
   ·rename_i sz hsz hne hne2
    split at h
    ·rename_i es hes
     obtain⟨⟨hn0,hn1⟩,h⟩:=h
     obtain⟨A,c,rfl,hc,hA⟩:=hu.elems hes
     split at h
     ·rename_i el hel
      obtain⟨hncell,hK⟩:=h
      obtain⟨b,o,sz',rfl,hb,huni,hok,hm⟩:=hA (by rintro rfl;simp at hel)
      have hszz:sz'=sz:=by rw[←huni el (List.mem_of_getElem? hel),hncell]
      subst hszz
      obtain⟨ue,hue,hsize,hat⟩:=MC.get huni hm hel
      have hlt:n.toNat < es.length:=by omega
      refine⟨.cptr el 0,_,hK,⟨b,o+n.toNat*sz',rfl,hb,dn _ _ _ ?_ hok,ue,hue,hsize,hat⟩,?_⟩
      ·rw[huni el (List.mem_of_getElem? hel),Nat.add_assoc,←Nat.succ_mul]
       exact Nat.add_le_add_left (Nat.mul_le_mul_right _ hlt) _
      ·simp[Instr.indexAt,asIntOf,run_underlying hund,hn0,hn1,run_sizeOf hsz,Addr.add_lit]
     ·exact h.elim
    ·exact h.elim
   ·exact h.elim
  ·exact h.elim
 ·exact h.elim
def extractK (x:AV)(i:Nat)(K:AV→Prop):Prop:=
 match x with
 | .tup vs=>match vs[i]? with
  | some v=>v.force K
  | none=>False
 | _=>False
theorem extractK_sound {P:Program}{x:AV}{i:Nat}{K:AV→Prop}{G:Gh}{fr:Frs}{w:World}{u:Value}(hu:VR G fr w x u)(h:extractK x i K) :
  ∃e r,K e∧VR G fr w e r∧(Instr.extract u i).run P w=.ok r w:=by
 unfold extractK at h
 split at h
 ·obtain⟨vs,rfl,hvs⟩:=hu
  split at h
  ·rename_i v hv
   rw[AV.force_eq]at h
   obtain⟨r,hr,hvr⟩:=hvs.get hv
   have hr':vs[i]? = some r:=by simpa using hr
   exact⟨v,r,h,hvr,by simp[Instr.extract,hr']⟩
  ·exact h.elim
 ·exact h.elim
end HM
