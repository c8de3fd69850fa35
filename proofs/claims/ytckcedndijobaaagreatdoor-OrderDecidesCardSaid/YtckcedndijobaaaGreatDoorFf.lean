/- From a body to a contract; ranges over functions. -/
import Derived.Test.YtckcedndijobaaaGreatDoorFe
import Derived.RangeFuncLeaves
import Derived.RangeFuncRecord
import Derived.IntWalk
namespace HM
open Go Go.RowKit
def resK (P:Program)(a:Nat→AV)(S:St):List ResultVar→(List AV→Prop)→Prop
 | [],K=>K []
 | .tmp t :: rs,K=>(a t).force fun v=>resK P a S rs fun vs=>K (v :: vs)
 | .cell d ty :: rs,K=>opLoad P S ty (a d) fun v _=>resK P a S rs fun vs=>K (v :: vs)
def oneOr (K:AV→St→Prop)(S:St):List AV→Prop
 | [v]=>K v S
 | vs=>K (.tup vs) S
def retQ (P:Program)(rs:List ResultVar)(K:AV→St→Prop):Exit→(Nat→AV)→St→Prop
 | .ret,a,S=>resK P a S rs (oneOr K S)
 | .normal,a,S=>resK P a S rs (oneOr K S)
 | _,_,_=>False
def initA:List AV→Nat→AV
 | [],_=>.undef
 | v :: _,0=>v
 | _ :: l,t+1=>initA l t
theorem initA_eq:∀(args:List AV) (t:Nat),initA args t=args.getD t .undef
 | [],t=>by simp[initA]
 | _ :: _,0=>by simp[initA]
 | _ :: l,t+1=>by simp[initA,initA_eq l t]
def resOf (tmps:Array Value):ResultVar→Sem Value
 | .tmp t=>pure (tmps.getD t undef)
 | .cell a t=>do loadVar t (←asAddr (tmps.getD a undef))
theorem resK_sound {P:Program}{L:World→Prop}{w0:Orig L}{G:Gh}{S:St}{w:World}{a:Nat→AV}{tmps:Array Value}(hS:RelS w0 G S w)(ht:∀t,VR G S.fr w (a t) (tmps.getD t undef)):∀(rs:List ResultVar) (K:List AV→Prop),resK P a S rs K →
  ∃es vs,(rs.mapM (resOf tmps)).run P w=.ok vs w∧VRs G S.fr w es vs∧K es
 | [],K,h=>⟨[],[],by simp,rfl,h⟩
 | .tmp t :: rs,K,h=>by
  simp only[resK,AV.force_eq]at h
  obtain⟨es,vs,h1,h2,h3⟩:=resK_sound hS ht rs _ h
  exact⟨a t :: es,tmps.getD t undef :: vs,by simp[List.mapM_cons,resOf,h1],⟨_,_,rfl,ht t,h2⟩,h3⟩
 | .cell d ty :: rs,K,h=>by
  simp only[resK]at h
  obtain⟨ad,e,r,had,h1,h2,h3⟩:=opLoad_val hS (ht d) h
  obtain⟨es,vs,h4,h5,h6⟩:=resK_sound hS ht rs _ h1
  exact⟨e :: es,r :: vs,by simp[List.mapM_cons,resOf,had,asAddr,h3,h4],⟨_,_,rfl,h2,h5⟩,h6⟩
theorem resK_results {P:Program}{L:World→Prop}{w0:Orig L}{G:Gh}{S:St}{w:World}{a:Nat→AV}{tmps:Array Value}(hS:RelS w0 G S w)(ht:∀t,VR G S.fr w (a t) (tmps.getD t undef)){fn:Func}{K:AV→St→Prop}(h:resK P a S fn.results.toList (oneOr K S)) :
  ∃e v,(results fn tmps).run P w=.ok v w∧VR G S.fr w e v∧K e S:=by
 have hres:results fn tmps=(do
   let vs ←fn.results.mapM (resOf tmps)
   pure (if h:vs.size=1 then vs[0] else .tuple vs):Sem Value):=by
  unfold results
  congr 1
 obtain⟨es,vs,h1,h2,h3⟩:=resK_sound hS ht _ _ h
 have hmap:(fn.results.mapM (resOf tmps)).run P w=.ok vs.toArray w:=by
  rw[Array.mapM_eq_mapM_toList]
  simp[h1]
 have hl:=h2.length
 unfold oneOr at h3
 split at h3
 ·rename_i v
  obtain⟨u,rfl⟩:=List.length_eq_one_iff.1 (by simpa using hl)
  obtain⟨u',us,he,hu,_⟩:=h2
  simp at he;obtain⟨rfl,rfl⟩:=he
  exact⟨v,u,by rw[hres,Sem.run_bind,hmap];simp,hu,h3⟩
 ·rename_i hne
  refine⟨.tup es,.tuple vs.toArray,?_,⟨_,rfl,by simpa using h2⟩,h3⟩
  have hne1:vs.length≠1:=by
   intro h1'
   obtain⟨e,rfl⟩:=List.length_eq_one_iff.1 (show es.length=1 by omega)
   exact hne e rfl
  rw[hres,Sem.run_bind,hmap]
  simp[hne1]
theorem RelS.shut {L:World→Prop}{w0:Orig L}{G:Gh}{S:St}{w:World}(h:RelS w0 G S w)(hwf:w0.w.heap.size≤w0.wf.heap.size){D:Nat}(hD:w.heap[D]? = some (Obj.deferred (some [])))(hlo:w0.wf.heap.size≤D) :
  RelS w0 G S (w.putObj D (.deferred none))∧Keep G S.fr w G S.fr (w.putObj D (.deferred none)):=by
 have hne:∀k ob,w.heap[k]? = some ob→ob≠Obj.deferred (some [])→(w.putObj D (.deferred none)).heap[k]? = w.heap[k]?:=fun k ob hk hob=>
  World.putObj_heap_other (by rintro rfl;rw[hD]at hk;injection hk with hk;exact hob hk.symm)
 have hk:Keep G S.fr w G S.fr (w.putObj D (.deferred none)):=by
  refine⟨by simp,fun _ _ _ hh=>hh,h.dn,fun b o _ _=>?_,fun _ _ hh=>hh,fun id b arr t _ ha=>⟨arr,(hne b _ ha (by simp)).trans ha,rfl⟩,fun b es cl _ _ hh=>(hne b _ hh (by simp)).trans hh,fun c F z hF=>⟨F,hF,Nat.le_refl _,fun _=>⟨rfl,fun b hb=>⟨?_,fun _ he=>he⟩⟩⟩⟩
  ·by_cases e:b=D
   ·subst e
    have h1:(w.putObj b (Obj.deferred none)).heap[b]? = some (Obj.deferred none):=World.putObj_heap_same (Array.getElem?_eq_some_iff.1 hD).1
    simp[World.cell?,h1,hD]
   ·exact World.cell?_of_block (w:=w) (a:=⟨b,o,none⟩) (World.putObj_heap_other e)
  ·obtain⟨_,⟨arr,fz,ha⟩,_⟩:=(h.ch c F z hF).2 b hb
   exact hne b _ ha (by simp)
 refine⟨⟨h.below.trans ⟨rfl,rfl,rfl,by simp,fun k hk'=>World.putObj_heap_other (by omega)⟩,by simpa using h.bsz,h.dn,h.ob,⟨h.kp.toKeep.trans hk,fun D' hD'=>?_,fun D' r hr=>?_⟩,h.n0,fun id o hx hd=>?_,h.ri,fun id b hr=>by simpa using h.rd id b hr,fun c F z hF=>⟨(h.ch c F z hF).1,fun b hb=>?_⟩,h.hl⟩,hk⟩
 ·have:=(Array.getElem?_eq_some_iff.1 hD').1
  exact(World.putObj_heap_other (by omega)).trans (h.kp.df D' hD')
 ·have:=(Array.getElem?_eq_some_iff.1 hr).1
  obtain⟨r',hr'⟩:=h.kp.lp D' r hr
  exact⟨r',(World.putObj_heap_other (by omega)).trans hr'⟩
 ·obtain⟨b,ob,hr,hheap,hv⟩:=h.bx id o hx hd
  refine⟨b,ob,hr,(hne b ob hheap ?_).trans hheap,hv.keep hk⟩
  rintro rfl
  cases o with
  | cells cs t=>obtain⟨arr,h1,_⟩:=hv;cases h1
  | loop Lp=>obtain⟨r,h1,_⟩:=hv;cases h1
  | map sh ks vs=>obtain⟨es,cl,h1,_⟩:=hv;cases h1
  | mapE sh ks vs i n=>obtain⟨es,cl,h1,_⟩:=hv;cases h1
  | iter sh ks vs seen=>obtain⟨b,es,cl,h1,_⟩:=hv;cases h1
  | dead=>cases hd
  | hole=>cases hd
 ·obtain⟨h1,⟨arr,fz,ha⟩,h3⟩:=(h.ch c F z hF).2 b hb
  exact⟨h1,⟨arr,fz,(hne b _ ha (by simp)).trans ha⟩,h3⟩
theorem leaves_marks {P:Program}{L:World→Prop}{w0:Orig L}{G:Gh}{S:St}(hwf:w0.w.heap.size≤w0.wf.heap.size){fn:Func}{tmps:Array Value}{a:Nat→AV}{R:Ending→World→Prop} :
  ∀(ds:List Deferred) (w:World),ds.Nodup→(∀d∈ds,∃D,d=mark D∧w0.wf.heap.size≤D∧w.heap[D]? = some (Obj.deferred (some [])))→RelS w0 G S w→(∀t,VR G S.fr w (a t) (tmps.getD t undef)) →
  (∀w',RelS w0 G S w'→(∀t,VR G S.fr w' (a t) (tmps.getD t undef))→∃v,(results fn tmps).run P w'=.ok v w'∧R (.returned v) w')→LeavesInM Fence.wide 0 P fn tmps R ds .returning w
 | [],w,_,_,hS,ht,hR=>by
  obtain⟨v,h1,h2⟩:=hR w hS ht
  exact⟨v,h1,h2⟩
 | d :: ds,w,hn,hd,hS,ht,hR=>by
  obtain⟨D,rfl,hlo,hD⟩:=hd d (by simp)
  obtain⟨h1,h2⟩:=hS.shut hwf hD hlo
  refine⟨by simp,.inl ⟨D,_,rfl,run_takeDeferred hD,leaves_marks hwf ds _ (List.nodup_cons.1 hn).2 (fun d' hd'=>?_) h1 (fun t=>VR.keep h2 _ (ht t)) hR⟩⟩
  obtain⟨D',rfl,hlo',hD'⟩:=hd d' (by simp[hd'])
  refine⟨D',rfl,hlo',(World.putObj_heap_other ?_).trans hD'⟩
  rintro rfl
  exact(List.nodup_cons.1 hn).1 hd'
def St.inner (S:St):St:={S with n0:=S.bx.length,m0:=S.fr.length}
def St.outer (S S0:St):St:={S with n0:=S0.n0,m0:=S0.m0}
def Orig.enter {L:World→Prop}(w0:Orig L)(G:Gh)(S:St)(w:World)(ro:Option Nat):Orig L:={w0 with G:=G,fr:=S.fr,wf:=w,n:=S.bx.length,ro:=ro}
theorem RelS.enter {L:World→Prop}{w0:Orig L}{G:Gh}{S:St}{w:World}(h:RelS w0 G S w)(ro:Option Nat):RelS (w0.enter G S w ro) G S.inner w:=
 ⟨h.below,h.bsz,h.dn,h.ob,KeepD.refl h.dn,⟨rfl,rfl,Nat.le_refl _,Nat.le_refl _,fun id b hr=>(h.rd id b hr).1⟩,h.bx,fun id id' b l1 l2=>h.ri id id' b l1 l2,fun id b hr=>h.rd id b hr,h.ch,h.hl⟩
theorem RelS.leave {L:World→Prop}{w0:Orig L}{G:Gh}{S:St}{w:World}(h:RelS w0 G S w){ro:Option Nat}{G':Gh}{S':St}{w':World}(h':RelS (w0.enter G S w ro) G' S' w'):RelS w0 G' (S'.outer S) w'∧KeepD G S.fr w G' (S'.outer S).fr w':=by
 obtain⟨n1,n2,n3,n4,n5⟩:=h.n0
 obtain⟨k1,k2,k3,k4,k5⟩:=h'.n0
 have hk:KeepD G S.fr w G' S'.fr w':=h'.kp
 simp only[Orig.enter]at k1 k2 k3 k4
 exact⟨⟨h'.below,h'.bsz,h'.dn,h'.ob,h.kp.trans hk,⟨n1,n2,by simp only[St.outer];omega,by simp only[St.outer];omega,n5⟩,h'.bx,h'.ri,h'.rd,h'.ch,h'.hl⟩,hk⟩
theorem ICall.intro {P:Program}{L:World→Prop}(hm:P.follows .mixedOrders=true)(ct:List Nat){f:FuncId}{fn:Func}{c:Code}{nt:Nat}{args:List AV}{S:St}{K:AV→St→Prop}(hf:P.funcs[f]? = some fn)(hb:fn.body=some c)(hn:fn.ntmps=nt)(hargs:args.length≤nt)
  (h:twC P L nt ct c (initA args) S.inner (retQ P fn.results.toList fun v S'=>K v (S'.outer S))):ICall P L f args S K:=by
 intro w0 G w hS vals hv
 have hlen:=hv.length
 have hR:Rel (w0.enter G S w none) G S.inner nt (initA args) {tmps:=vals.toArray++Array.replicate (fn.ntmps-vals.toArray.size) undef,defers:=[]} w:=by
  refine⟨hS.enter none,by simp[hn,hlen];omega,⟨by simp,by simp⟩,by simp[Orig.fi,Orig.enter],fun t=>?_⟩
  rw[initA_eq]
  by_cases ht:t < args.length
  ·obtain⟨v,hv',hr⟩:=hv.get (List.getElem?_eq_getElem ht)
   rw[List.getD_eq_getElem?_getD,List.getElem?_eq_getElem ht,Array.getD_eq_getD_getElem?,Array.getElem?_append_left (by simp;omega)]
   rw[show vals.toArray[t]? = some v from by simpa using hv']
   exact hr
  ·rw[List.getD_eq_getElem?_getD,List.getElem?_eq_none (by omega)]
   trivial
 refine callsIn_wide.1 (callsIn_of_wp_marks (n:=0) hf hb trivial ?_)
 have hw:=(twC_sound hm c _ _ _ h).out _ _ _ _ hR
 refine Go.wpIn_mono hw fun e act' w' ⟨G',a',S',hR',hq⟩=>?_
 have fin:resK P a' S' fn.results.toList (oneOr (fun v S'=>K v (S'.outer S)) S')→LeavesInM Fence.wide 0 P fn act'.tmps (fun e w'=>∃v r G' S',e=.returned v∧RelS w0 G' S' w'∧KeepD G S.fr w G' S'.fr w'∧VR G' S'.fr w' r v∧K r S') act'.defers .returning w':=by
  intro hres
  obtain⟨hS',hT'⟩:=hR'
  refine leaves_marks hS.bsz _ w' hT'.2.1.1 (fun d hd=>hT'.2.1.2 d hd) hS' hT'.2.2.2 fun w'' hS'' ht''=>?_
  obtain⟨r,v,h1,h2,h3⟩:=resK_results hS'' ht'' hres
  obtain⟨h4,h5⟩:=hS.leave hS''
  exact⟨v,h1,v,r,G',_,rfl,h4,h5,h2,h3⟩
 cases e with
 | ret=>exact fin hq
 | normal=>exact fin hq
 | _=>exact hq.elim
def resP (r:AV)(v:AV)(S:St):Prop:=∃r0,fzb S v=some r0∧Sees r0 r
theorem PCall.of_ICall {P:Program}{L:World→Prop}{f:FuncId}{args:List AV}{r:AV}(h:ICall P L f args St.none (resP r)):PCall P L f args r:=by
 intro w G hL hρ hdn vals hv
 have hS:RelS (⟨w,hL,G.ok,G,[],w,0,none⟩:Orig L) G St.none w:=
  ⟨Below.refl _ _,Nat.le_refl _,hdn,fun _ _ _ h=>h,KeepD.refl hdn,by simp[St.none,hρ],by simp[St.none],by simp[hρ],by simp[hρ],by simp[St.none],by simp[St.none]⟩
 refine(h _ G w hS vals hv).mono fun e w' ⟨v,r',G',S',he,h1,h2,h3,r0,h4,h5⟩=>?_
 refine⟨v,he,h1.below,?_⟩
 have hup:∀b n,G'.ok b n→(fun b n=>b < w.heap.size→G.ok b n) b n:=fun b n h hb=>h1.ob b n hb h
 have hnew:∀b n,w.heap.size≤b→(fun b n=>b < w.heap.size→G.ok b n) b n:=fun b n hb hlt=>by omega
 have h6:=h5.out _ _ _ _ (fzb_sound h1 _ hup hnew _ h4 h3)
 have hk:Keep {G'.pure with ok:=fun b n=>b < w.heap.size→G.ok b n} [] w' {G with ok:=fun b e=>b < w.heap.size→G.ok b e} [] w':=
  ⟨Nat.le_refl _,fun _ _ _ h=>h,fun b e e' he h hlt=>hdn b e e' he (h hlt),fun _ _ _ _=>rfl,fun _ _ h=>by simp[Gh.pure]at h,fun _ _ _ _ h=>by simp[Gh.pure]at h,fun _ _ _ _ _ h=>h,fun _ _ _ hF=>by simp at hF⟩
 exact VR.keep hk r h6
theorem PCall.intro {P:Program}{L:World→Prop}(hm:P.follows .mixedOrders=true)(ct:List Nat){f:FuncId}{fn:Func}{c:Code}{nt:Nat}{args:List AV}{r:AV}(hf:P.funcs[f]? = some fn)(hb:fn.body=some c)(hn:fn.ntmps=nt)(hargs:args.length≤nt)
  (h:twC P L nt ct c (initA args) St.none (retQ P fn.results.toList fun v S'=>resP r v (S'.outer St.none))):PCall P L f args r:=by
 refine PCall.of_ICall (ICall.intro hm ct hf hb hn hargs ?_)
 exact h
theorem w64 {x:Int}(h1:-9223372036854775808≤x)(h2:x≤9223372036854775807):IntKind.i64.wrap x=x:=IntWalk.i64_in x (by omega)
theorem Sees.int {k:IntKind}{a b:Int}(h:a=b):Sees (.int k a) (.int k b):=h▸Sees.rfl' _
theorem Sees.bool {a b:Bool}(h:a=b):Sees (.bool a) (.bool b):=h▸Sees.rfl' _
theorem Sees.sl {t:Bool}{a b:List AV}(h:a=b):Sees (.sl t a) (.sl t b):=h▸Sees.rfl' _
theorem Sees.own {ch:Nat}{a b:List AV}(h:a=b):Sees (.own a ch) (.own b ch):=h▸Sees.rfl' _
theorem resP.mk {v:AV}{S:St}{r0 r:AV}(h:fzb S v=some r0)(hs:Sees r0 r):resP r v S:=⟨r0,h,hs⟩
theorem le_b {a b:Nat}(h:Nat.ble a b=true):a≤b:=Nat.le_of_ble_eq_true h
theorem lt_b {a b:Nat}(h:Nat.ble (a+1) b=true):a < b:=Nat.le_of_ble_eq_true h
theorem Fits.mk' {a:Nat→AV}{S S1:St}{l:List (Nat×AV)}(h1:S1.n0=S.n0)(h2:S1.m0=S.m0)(h3:Nat.ble S1.n0 S1.bx.length=true)(h4:Nat.ble S1.m0 S1.fr.length=true)(h5:FitB S.bx S1.bx)(h6:FitF S.fr S1.fr)(h6':FitT S.ty S1.ty S1.fr.length)
  (h7:obsOk S1.bx.length S1.fr.length S1.bx) (h8:FitA S1.bx.length S1.fr.length a l):Fits a S l S1:=⟨⟨⟨h1,h2⟩,⟨le_b h3,le_b h4⟩,h5,h6,h6',h7⟩,h8⟩
theorem RangeK.weak {P:Program}{L:World→Prop}{nt:Nat}{g:Operand}{ps:Array Tmp}{asg body:Code}{a:Nat→AV}{S S1:St}{l:List (Nat×AV)}{Q:Exit→(Nat→AV)→St→Prop}(hf:Fits a S l S1)
  (h:RangeK P L nt g ps asg body (ofL l) S1 Q):RangeK P L nt g ps asg body a S Q:=⟨SemK.weak hf h.out⟩
def St.with (S:St)(o:Ob):St:={S with bx:=S.bx++[o]}
def St.put (S:St)(id:Nat)(o:Ob):St:={S with bx:=S.bx.set id o}
def endK (Q:Exit→(Nat→AV)→St→Prop)(a:Nat→AV)(id:Nat)(S:St):Prop:=
 match S.bx[id]? with
 | some (.loop L2)=>match L2.st,L2.pend with
  | .busy,_=>False
  | _,none=>Q .normal a (S.put id .dead)
  | _,some .ret=>Q .ret a (S.put id .dead)
  | _,some (.exit i)=>Q (.exit i) a (S.put id .dead)
  | _,_=>False
 | _=>False
theorem endK_cases {Q:Exit→(Nat→AV)→St→Prop}{a:Nat→AV}{id:Nat}{S:St}(h:endK Q a id S):∃L2,S.bx[id]? = some (.loop L2)∧L2.st≠.busy ∧
  ((L2.pend=none∧Q .normal a (S.put id .dead))∨(L2.pend=some .ret∧Q .ret a (S.put id .dead))∨∃i,L2.pend=some (.exit i)∧Q (.exit i) a (S.put id .dead)):=by
 unfold endK at h
 split at h
 ·rename_i L2 hL
  refine⟨L2,hL,?_⟩
  split at h
  ·exact h.elim
  ·rename_i h2 h1;exact⟨h1,.inl ⟨h2,h⟩⟩
  ·rename_i h2 h1;exact⟨h1,.inr (.inl ⟨h2,h⟩)⟩
  ·rename_i i h2 h1;exact⟨h1,.inr (.inr ⟨i,h2,h⟩)⟩
  ·exact h.elim
 ·exact h.elim
theorem RangeK.intro {P:Program}{L:World→Prop}{nt:Nat}{g:Operand}{ps:Array Tmp}{asg body:Code}{a:Nat→AV}{S:St}{Q:Exit→(Nat→AV)→St→Prop}{f:FuncId}{caps:List AV}(hg:evO a g=.fn f caps)(hc:callable P f=true)
  (h:ICall P L f (.yld S.bx.length :: caps) (S.with (.loop ⟨nt,a,ps,asg,body,.ready,none⟩)) fun _ S2=>endK Q a S.bx.length S2):RangeK P L nt g ps asg body a S Q:=by
 refine⟨⟨fun w0 G act w hR=>?_⟩⟩
 obtain⟨hS,hT⟩:=hR
 have hgv:=hT.eval g
 rw[hg]at hgv
 obtain⟨cvs,hgv,hcv⟩:=hgv
 have hcb:∃fn,P.funcs[f]? = some fn∧fn.name ≠ "runtime.NumGoroutine" ∧ fn.body.isNone=false:=by
  unfold callable at hc
  split at hc
  ·rename_i fn hfn
   simp at hc
   exact⟨fn,hfn,hc.1,by cases hh:fn.body<;>simp[hh]at hc ⊢⟩
  ·cases hc
 obtain⟨fn,hfn,hname,hbody⟩:=hcb
 refine wpIn_rangeFunc fun fnid _=>?_
 have enter:∃(l:Nat) (mk:List Deferred) (w₁:World) (G1:Gh),(Instr.enterLoop fnid act.tmps ps asg body (FW w0.ro).round).run P w=.ok (l,mk) w₁ ∧
   RelS w0 G1 (S.with (.loop ⟨nt,a,ps,asg,body,.ready,none⟩)) w₁∧KeepD G S.fr w G1 S.fr w₁∧G1.ρ S.bx.length=some l ∧
   ((mk++act.defers).Nodup∧∀d∈mk++act.defers,∃D,d=mark D∧w0.fi.1≤D∧w₁.heap[D]? = some (Obj.deferred (some []))):=by
  cases hro:w0.ro with
  | none=>
   have hb:Below w.heap.size w (w.alloc (.deferred (some []))):=(Below.refl _ _).alloc (Nat.le_refl _) _
   obtain⟨h1,h2⟩:=hS.of_below hb G.ok (fun _ _ _=>Iff.rfl) hS.dn
   have hv:OR {G with ok:=G.ok} S.fr (w.alloc (.deferred (some []))) (.loop ⟨nt,a,ps,asg,body,.ready,none⟩) (.loop {state:=.ready,pending:=none,fn:=fnid,tmps:=act.tmps,params:=ps,assign:=asg,body,defers:=w.heap.size}):=
    ⟨_,rfl,rfl,rfl,rfl,rfl,rfl,hT.1,fun t=>VR.keep h2.toKeep _ (hT.2.2.2 t)⟩
   obtain⟨G1,h3,h4,h5⟩:=h1.box _ _ hv
   have hD:((w.alloc (.deferred (some []))).alloc (.loop {state:=.ready,pending:=none,fn:=fnid,tmps:=act.tmps,params:=ps,assign:=asg,body,defers:=w.heap.size})).heap[w.heap.size]? = some (Obj.deferred (some [])):=by
    rw[@heap_alloc_old _ _ _ (by simp)];exact heap_alloc_new w _
   refine⟨w.heap.size+1,_,_,G1,by rw[show(FW none).round=none from rfl];exact run_enterLoop_outer fnid act.tmps ps asg body,h3,h2.trans h4,by simpa using h5,?_,?_⟩
   ·rw[List.cons_append,List.nil_append,List.nodup_cons]
    refine⟨fun hmem=>?_,hT.2.1.1⟩
    obtain⟨D,hd,_,hD'⟩:=hT.2.1.2 _ hmem
    have hDe:w.heap.size=D:=by
     have:=congrArg Deferred.target hd
     simp[mark]at this
     exact this
    have:=(Array.getElem?_eq_some_iff.1 hD').1
    omega
   ·intro d hd
    rcases List.mem_append.1 hd with hd|hd
    ·simp at hd
     exact⟨w.heap.size,hd,hS.kp.hs,hD⟩
    ·obtain⟨D,h6,h7,h8⟩:=hT.2.1.2 d hd
     exact⟨D,h6,h7,(h2.trans h4).df D h8⟩
  | some lo=>
   obtain⟨r,hr⟩:=hT.2.2.1 lo (by simp[Orig.fi,hro])
   have hv:OR G S.fr w (.loop ⟨nt,a,ps,asg,body,.ready,none⟩) (.loop {state:=.ready,pending:=none,fn:=fnid,tmps:=act.tmps,params:=ps,assign:=asg,body,defers:=r.defers}):=
    ⟨_,rfl,rfl,rfl,rfl,rfl,rfl,hT.1,fun t=>hT.2.2.2 t⟩
   obtain⟨G1,h3,h4,h5⟩:=hS.box _ _ hv
   refine⟨w.heap.size,[],_,G1,?_,h3,h4,h5,by simpa using hT.2.1.1,fun d hd=>?_⟩
   ·rw[show(FW (some lo)).round=some lo from rfl]
    unfold Instr.enterLoop
    simp only[Sem.run_bind,run_getLoop hr,run_newObj_alloc,Result.andThen,Sem.run_pure]
   ·obtain⟨D,h6,h7,h8⟩:=hT.2.1.2 d (by simpa using hd)
    exact⟨D,h6,h7,h4.df D h8⟩
 obtain⟨l,mk,w₁,G1,hent,hS1,hk1,hρ,hmk⟩:=enter
 have hT1:=hT.keep hk1
 have hargs:VRs G1 S.fr w₁ (.yld S.bx.length :: caps) ((#[Value.func (.yield l) #[] #[]]++cvs).toList):=by
  rw[Array.toList_append]
  exact⟨_,_,rfl,⟨l,hρ,rfl⟩,VRs.keep hk1.toKeep _ hcv⟩
 refine⟨l,mk,w₁,{target:=.fn (.func f) cvs,args:=#[.func (.yield l) #[] #[]]},w₁,f,#[.func (.yield l) #[] #[]]++cvs,w₁,hent,?_,fun _ _=>trivial,?_,fun hd=>by simp[FW,Fence.wide]at hd,?_⟩
 ·have he:∀v,act.eval (.const v)=v:=fun _=>rfl
  simp[resolve,hgv,Deferred.ofValue,he]
 ·simp only[invoke,callFunc,Sem.run_bind,run_program,Result.andThen_ok]
  simp[hfn,hname,hbody]
 ·have hcall:=h w0 G1 w₁ hS1 _ hargs
  have h2:CallsIn Fence.wide (0-1) P f (#[Value.func (.yield l) #[] #[]]++cvs) w₁ (rangePost (FW w0.ro) 0 P l (Post w0 nt Q) {act with defers:=mk++act.defers}):=by
   refine callsIn_wide.2 (hcall.mono fun e w' ⟨v,r,G',S2,he,h1,h2,h3,h4⟩=>?_)
   subst he
   obtain⟨L2,hL2,hbusy,hq⟩:=endK_cases h4
   obtain⟨b,ob,hr,hheap,rec,rfl,hst,hpend,hrest⟩:=h1.bx _ _ hL2 rfl
   have hbl:b=l:=by
    have:=h2.ρ _ _ hρ
    rw[hr]at this;injection this
   subst hbl
   have hlt:=(Array.getElem?_eq_some_iff.1 hheap).1
   have hset:=h1.setBox ⟨_,hL2,rfl⟩ hr hheap .dead (.loop {rec with state:=.exhausted}) (fun _ _ hh=>by cases hh) (by simp) (fun _ _=>⟨_,rfl⟩) trivial (w'.putObj b (.loop {rec with state:=.exhausted})) (by simp) rfl rfl rfl (World.putObj_heap_same hlt) (fun k hk=>World.putObj_heap_other hk)
   obtain⟨s1,s2⟩:=hset
   have hj:=run_endLoop (P:=P) hheap (by rw[hst];exact hbusy)
   revert s1 s2 hj
   generalize w'.putObj b (.loop {rec with state:=.exhausted})=W
   intro s1 s2 hj
   rw[hpend]at hj
   have hTf:RelT w0.fi G' S2.fr W nt a {act with defers:=mk++act.defers}:=by
    have hk:=(hk1.trans h2).trans s2
    have h5:=hT.keep hk
    refine⟨h5.1,⟨hmk.1,fun d hd=>?_⟩,h5.2.2.1,h5.2.2.2⟩
    obtain⟨D,h6,h7,h8⟩:=hmk.2 d hd
    exact⟨D,h6,h7,(h2.trans s2).df D h8⟩
   rcases hq with ⟨hp,hq⟩|⟨hp,hq⟩|⟨i,hp,hq⟩<;>rw[hp]at hj
   ·exact⟨_,_,hj,G',a,_,⟨s1,hTf⟩,hq⟩
   ·exact⟨_,_,hj,wpIn_ret ⟨G',a,_,⟨s1,hTf⟩,hq⟩⟩
   ·exact⟨_,_,hj,wpIn_exit ⟨G',a,_,⟨s1,hTf⟩,hq⟩⟩
  exact h2
def setPs (a:Nat→AV):List Tmp→List AV→Nat→AV
 | p :: ps,v :: vs=>setPs (upd a p v) ps vs
 | _,_=>a
theorem setPs_VR {G:Gh}{fr:Frs}{w:World}:∀(ps:List Tmp) (es:List AV) (vs:List Value) (a:Nat→AV) (tmps:Array Value),(∀p∈ps,p < tmps.size)→VRs G fr w es vs→(∀t,VR G fr w (a t) (tmps.getD t undef)) →
  (∀t,VR G fr w (setPs a ps es t) (((ps.zip vs).foldl (fun tmps (x:Tmp×Value)=>tmps.setIfInBounds x.1 x.2) tmps).getD t undef))∧((ps.zip vs).foldl (fun tmps (x:Tmp×Value)=>tmps.setIfInBounds x.1 x.2) tmps).size=tmps.size
 | [],es,vs,a,tmps,_,_,h=>by
  cases es<;>exact⟨by simpa[setPs] using h,by simp⟩
 | p :: ps,[],vs,a,tmps,_,hv,h=>by
  simp[VRs]at hv;subst hv
  exact⟨by simpa[setPs] using h,by simp⟩
 | p :: ps,e :: es,vs,a,tmps,hp,hv,h=>by
  obtain⟨u,us,rfl,h1,h2⟩:=hv
  have hput:=putVR h (hp p (by simp)) h1
  obtain⟨h3,h4⟩:=setPs_VR ps es us (upd a p e) (tmps.setIfInBounds p u) (fun q hq=>by simpa using hp q (by simp[hq])) h2 hput
  exact⟨by simpa[setPs] using h3,by simpa using h4⟩
theorem OR.loopSet {G:Gh}{fr:Frs}{w:World}{Lp:LoopA}{r:Loop}(h:OR G fr w (.loop Lp) (.loop r))(st:LoopState)(pend:Option Code):OR G fr w (.loop {Lp with st:=st,pend:=pend}) (.loop {r with state:=st,pending:=pend}):=by
 obtain⟨r',he,h1,h2,h3,h4,h5,h6,h7⟩:=h
 injection he with he;subst he
 exact⟨_,rfl,rfl,rfl,h3,h4,h5,h6,h7⟩
theorem RelS.recd {L:World→Prop}{w0:Orig L}{G:Gh}{S:St}{w:World}(h:RelS w0 G S w){id b:Nat}{Lp:LoopA}(hb:G.ρ id=some b)(hL:S.bx[id]? = some (.loop Lp)):∃r:Loop,w.heap[b]? = some (.loop r)∧OR G S.fr w (.loop Lp) (.loop r):=by
 obtain⟨b',ob,hr,hheap,hv⟩:=h.bx id _ hL rfl
 rw[hb]at hr;injection hr with hr;subst hr
 obtain⟨r,rfl,h1⟩:=hv
 exact⟨r,hheap,r,rfl,h1⟩
theorem RelS.setRec {L:World→Prop}{w0:Orig L}{G:Gh}{S:St}{w:World}(h:RelS w0 G S w){id b:Nat}{Lp:LoopA}(hb:G.ρ id=some b)(hL:S.bx[id]? = some (.loop Lp)){r:Loop}(hr:w.heap[b]? = some (.loop r))(ho:OR G S.fr w (.loop Lp) (.loop r))(st:LoopState)(pend:Option Code) :
  RelS w0 G (S.put id (.loop {Lp with st:=st,pend:=pend})) (w.putObj b (.loop {r with state:=st,pending:=pend}))∧KeepD G S.fr w G S.fr (w.putObj b (.loop {r with state:=st,pending:=pend})):=
 h.setBox ⟨_,hL,rfl⟩ hb hr _ _ (fun _ _ hh=>by cases hh) (by simp) (fun _ _=>⟨_,rfl⟩) (ho.loopSet st pend) _ (by simp) rfl rfl rfl (World.putObj_heap_same (Array.getElem?_eq_some_iff.1 hr).1) (fun k hk=>World.putObj_heap_other hk)
end HM
