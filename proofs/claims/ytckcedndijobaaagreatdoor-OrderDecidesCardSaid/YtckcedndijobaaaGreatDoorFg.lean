/- Further rules of the walk; arguments. -/
import Derived.Test.YtckcedndijobaaaGreatDoorFf
import Derived.Laws.Externs
import Derived.ChangeSlices
import Derived.SizedLaws
import Derived.ChangeArms
import Derived.ProofKit
namespace HM
open Go Go.RowKit
theorem RelS.froze {L:World→Prop}{w0:Orig L}{G:Gh}{S:St}{w:World}(h:RelS w0 G S w){ch g F z:Nat}(hF:S.fr[ch]? = some (F,z))(hχ:G.χ ch=some g)(w':World)(hos:w'.os=w.os)(htape:w'.tape=w.tape)(hout:w'.output=w.output)(hsz:w'.heap.size=w.heap.size)
  (hold:∀k,k≠g→w'.heap[k]? = w.heap[k]?) (hg:∀arr t fz,w.heap[g]? = some (.cells arr t fz)→∃fz',w'.heap[g]? = some (.cells arr t fz')) :
  RelS w0 G {S with fr:=S.fr.set ch (F+1,z)} w'∧KeepD G S.fr w G (S.fr.set ch (F+1,z)) w':=by
 obtain⟨_,⟨arr,fz,hrow⟩,c3,c4⟩:=(h.ch ch F z hF).2 g hχ
 have hlt:=(List.getElem?_eq_some_iff.1 hF).1
 have hglt:=(Array.getElem?_eq_some_iff.1 hrow).1
 obtain⟨fz',hrow'⟩:=hg _ _ _ hrow
 have c1:=((h.ch ch F z hF).2 g hχ).1
 have hk:KeepD G S.fr w G (S.fr.set ch (F+1,z)) w':=
  {hs:=by omega
   ok:=fun _ _ _ hh=>hh
   dn:=h.dn
   cell:=fun b o _ _=>by
    by_cases e:b=g
    ·subst e;simp[World.cell?,hrow,hrow']
    ·exact World.cell?_of_block (w:=w) (a:=⟨b,o,none⟩) (hold b e)
   ρ:=fun _ _ hh=>hh
   rs:=fun id b arr t hr ha=>⟨arr,by rw[hold b (fun e=>c3 id (by rw[hr,e]))];exact ha,rfl⟩
   mp:=fun b es cl _ _ hh=>(hold b (by rintro rfl;rw[hrow]at hh;cases hh)).trans hh
   χ:=fun k F' z' hF'=>by
    by_cases hkc:k=ch
    ·subst hkc
     rw[hF]at hF';injection hF' with hF';injection hF' with e1 e2;subst e1;subst e2
     exact⟨F+1,by simp[hlt],by omega,fun he=>by omega⟩
    ·refine⟨F',by rw[List.getElem?_set_ne (fun h=>hkc h.symm)];exact hF',Nat.le_refl _,fun _=>⟨rfl,fun b hb=>⟨hold b ?_,fun _ he=>he⟩⟩⟩
     rintro rfl
     exact hkc (((h.ch k F' z' hF').2 b hb).2.2.2 ch F z hF hχ)
   df:=fun D hD=>(hold D (by rintro rfl;rw[hrow]at hD;cases hD)).trans hD
   lp:=fun D r hD=>⟨r,(hold D (by rintro rfl;rw[hrow]at hD;cases hD)).trans hD⟩}
 refine⟨⟨h.below.trans ⟨hos,htape,hout,by omega,fun k hk'=>hold k (by omega)⟩,by have:=h.bsz;omega,h.dn,h.ob,h.kp.trans hk,by simpa using h.n0,fun id o hx hd=>?_,h.ri,fun id b hr=>by rw[hsz];exact h.rd id b hr,fun k F' z' hF'=>?_,h.hl⟩,hk⟩
 ·obtain⟨b,ob,hr,hheap,hv⟩:=h.bx id o hx hd
  exact⟨b,ob,hr,(hold b (fun e=>c3 id (by rw[hr,e]))).trans hheap,hv.keep hk.toKeep⟩
 ·have key:∀(k F' z':Nat),(S.fr.set ch (F+1,z))[k]? = some (F',z')→∃F'' z'',S.fr[k]? = some (F'',z'')∧(k≠ch→F'=F''):=by
   intro k F' z' hh
   by_cases hkc:k=ch
   ·subst hkc;exact⟨_,_,hF,fun h=>absurd rfl h⟩
   ·rw[List.getElem?_set_ne (fun h=>hkc h.symm)]at hh;exact⟨_,_,hh,fun _=>rfl⟩
  obtain⟨F2,z2,hF2,hsame⟩:=key k F' z' hF'
  obtain⟨h1,h2⟩:=h.ch k F2 z2 hF2
  refine⟨fun hn=>?_,fun b hb=>?_⟩
  ·by_cases hkc:k=ch
   ·subst hkc;rw[hχ]at hn;cases hn
   ·rw[hsame hkc];exact h1 hn
  ·obtain⟨h3,⟨arr',fz2,h4⟩,h5,h6⟩:=h2 b hb
   refine⟨h3,?_,h5,fun c' F3 z3 hF3 he=>?_⟩
   ·by_cases e:b=g
    ·subst e
     obtain⟨fz3,h7⟩:=hg _ _ _ h4
     exact⟨_,_,h7⟩
    ·exact⟨arr',fz2,(hold b e).trans h4⟩
   ·obtain⟨F4,z4,hF4,_⟩:=key c' F3 z3 hF3
    exact h6 c' F4 z4 hF4 he
theorem CallK.same {P:Program}{L:World→Prop}{S:St}{g:FuncId}{fn:Func}{x:AV}{K:AV→St→Prop}(hf:P.funcs[g]? = some fn)(hname:(fn.name == "runtime.NumGoroutine")=false)(hb:fn.body.isNone=true)(hn:Extern.findNext fn=none)(he:Extern.find fn=some Extern.AbiNoEscape.same)
  (hK:K x S):CallK P L S (.fn g []) [x] K:=by
 refine⟨fun ro w0 G w fvv vals hS ⟨cvs,hfv,hcv⟩ hargs=>?_⟩
 subst hfv
 have hcv:cvs.toList=[]:=hcv
 have hcv:cvs=#[]:=by simpa using hcv
 subst hcv
 obtain⟨u,us,rfl,hu,hus⟩:=hargs
 have hus:us=[]:=hus
 subst hus
 intro o act f args ts next Q ho hfe hv hnext
 have hva:args.map act.eval=#[u]:=by apply Array.ext';simpa using hv
 have hrun:(execOp act.eval o).run P w=.ok (.value u) w:=by
  simp only[execOp,ho,Sem.run_bind,resolve,hfe,Deferred.ofValue,Sem.run_pure,Result.andThen_ok,invoke]
  rw[show(#[]:Array Value)++args.map act.eval++#[] = #[u] from by rw[hva];rfl]
  rw[run_callFunc_extern hf hname hb hn he]
  rfl
 exact wp_plain (fun c hc=>by rw[ho]at hc;cases hc) hrun (hnext u w ⟨G,S,x,hS,KeepD.refl hS.dn,hu,hK⟩)
theorem PCall.of_calls {P:Program}{L:World→Prop}{f:FuncId}{args:List AV}{r:AV}
  (h:∀(w:World) (G:Gh) (vals:List Value),L w→VRs G [] w args vals→Calls P f vals.toArray w fun e w'=>∃v,e=.returned v∧Below w.heap.size w w'∧∀G' fr',VR G' fr' w' r v):PCall P L f args r:=by
 intro w G hL hρ hdn vals hv
 exact(h w G vals (hL w (Below.refl _ _)) hv).mono fun e w' ⟨v,h1,h2,h3⟩=>⟨v,h1,h2,h3 _ _⟩
def bornA (a:Nat→AV)(t ch:Nat):Nat→AV:=fun t'=>match Nat.beq t' t with
 | true=>.own [] ch
 | false=>a t'
theorem LoopK.born {P:Program}{L:World→Prop}{nt:Nat}{c:Code}{a:Nat→AV}{S:St}{Q:Exit→(Nat→AV)→St→Prop}(t:Nat)(z:Nat)(e:TypeId)(ht:a t=.nils)
  (h:LoopK P L nt c (bornA a t S.fr.length) (S.addF (0,z) e) Q):LoopK P L nt c a S Q:=by
 refine⟨⟨fun w0 G act w hR=>?_⟩⟩
 obtain⟨hS,hT1,hT2,hT3,hT4⟩:=hR
 obtain⟨G',u1,u2,u3⟩:=hS.unborn z e
 have hT:=RelT.keep (a:=a) ⟨hT1,hT2,hT3,hT4⟩ u2
 obtain⟨k1,k2,k3,k4⟩:=hT
 refine h.out.out w0 G' act w ⟨u1,k1,k2,k3,fun t'=>?_⟩
 unfold bornA
 split
 ·rename_i hb
  have hb:=Nat.eq_of_beq_eq_true hb
  subst hb
  have h0:=hT4 t'
  rw[ht]at h0
  have h0:_=Value.slice none 0 0:=h0
  rw[h0]
  exact u3
 ·exact k4 t'
theorem RangeK.named {P:Program}{L:World→Prop}{nt:Nat}{g:Operand}{ps:Array Tmp}{asg body:Code}{a:Nat→AV}{S:St}{Q:Exit→(Nat→AV)→St→Prop}{f:FuncId}{caps:List AV}(hg:evO a g=.fn f caps)(hc:callable P f=true)
  (h:∀Lp:LoopA,Lp=⟨nt,a,ps,asg,body,.ready,none⟩→ICall P L f (.yld S.bx.length :: caps) (S.with (.loop Lp)) fun _ S2=>endK Q a S.bx.length S2):RangeK P L nt g ps asg body a S Q:=
 RangeK.intro hg hc (h _ rfl)
def okL (k m:Nat):List (Nat×AV)→Prop
 | []=>True
 | (_,v) :: l=>v.okk k m∧okL k m l
theorem ofL_okk {k m:Nat}:∀{l:List (Nat×AV)},okL k m l→∀t,(ofL l t).okk k m
 | [],_,_=>trivial
 | (s,v) :: l,h,t=>by
  simp only[ofL]
  split
  ·exact h.1
  ·exact ofL_okk h.2 t
theorem loop_okk {k m:Nat}{Lp:LoopA}{l:List (Nat×AV)}(ha:Lp.a=ofL l)(h:okL k m l):Ob.okk k m (.loop Lp):=fun t=>by rw[ha];exact ofL_okk h t
def rndN (K:AV→St→Prop)(id:Nat)(S0:St)(Lp:LoopA):Exit→(Nat→AV)→St→Prop
 | .normal,_,S=>S.bx[id]? = some (.loop {Lp with st:=.busy})∧K (.bool true) ((S.put id (.loop Lp)).outer S0)
 | .ret,_,S=>S.bx[id]? = some (.loop {Lp with st:=.busy})∧K (.bool false) ((S.put id (.loop {Lp with st:=.done,pend:=some .ret})).outer S0)
 | .exit i,_,S=>S.bx[id]? = some (.loop {Lp with st:=.busy})∧K (.bool false) ((S.put id (.loop {Lp with st:=.done,pend:=some (.exit i)})).outer S0)
 | _,_,_=>False
theorem CallK.round {P:Program}{L:World→Prop}(hm:P.follows .mixedOrders=true)(ct:List Nat){S:St}{id:Nat}{args:List AV}{K:AV→St→Prop}{Lp:LoopA}{nt:Nat}{a:Nat→AV}{ps:Array Tmp}{asg body:Code}(hLp:Lp=⟨nt,a,ps,asg,body,.ready,none⟩)(hL:S.bx[id]? = some (.loop Lp))(hn':args.length=ps.size)(hp':ps.toList.all (fun p=>decide (p < nt))=true)
  (h':twC P L nt ct asg (setPs a ps.toList args) S.inner (seqQ (fun a' S'=>S'.bx[id]? = some (.loop Lp)∧twC P L nt ct body a' (S'.put id (.loop {Lp with st:=.busy})) (rndN K id S Lp)) fun _ _ _=>False)):CallK P L S (.yld id) args K:=by
 have hn:args.length=Lp.ps.size:=by rw[hLp];exact hn'
 have hp:Lp.ps.toList.all (fun p=>decide (p < Lp.nt))=true:=by rw[hLp];exact hp'
 have h:twC P L Lp.nt ct Lp.asg (setPs Lp.a Lp.ps.toList args) S.inner (seqQ (fun a' S'=>S'.bx[id]? = some (.loop Lp)∧twC P L Lp.nt ct Lp.body a' (S'.put id (.loop {Lp with st:=.busy})) (rndN K id S Lp)) fun _ _ _=>False):=by
  clear hn hp hn' hp' hL
  obtain⟨nt',a',ps',asg',body',st',pend'⟩:=Lp
  simp only[LoopA.mk.injEq]at hLp
  obtain⟨rfl,rfl,rfl,rfl,rfl,rfl,rfl⟩:=hLp
  exact h'
 refine⟨fun ro w0 G w fvv vals hS ⟨b,hρ,hfv⟩ hargs=>?_⟩
 subst hfv
 intro o act f as ts next Q ho hfe hv hnext
 obtain⟨r,hr,hor⟩:=hS.recd hρ hL
 obtain⟨r',he,h1,h2,h3,h4,h5,h6,h7⟩:=hor
 injection he with he;subst he
 have hlen:=hargs.length
 have hrun:(execOp act.eval o).run P w=.ok (.round b r.fn ((r.params.zip vals.toArray).foldl (fun tmps (t,a)=>tmps.setIfInBounds t a) r.tmps) r.assign r.body) w:=by
  have hy:=run_yield (P:=P) (args:=vals.toArray) hr (by rw[h3];simp;omega)
  have hva:vals.toArray=as.map act.eval:=by rw[←hv];apply Array.ext';simp
  rw[hva]at hy ⊢
  simp only[execOp,ho,Sem.run_bind,resolve,hfe,Deferred.ofValue,Sem.run_pure,Result.andThen_ok,invoke]
  simpa using hy
 refine⟨fun _ _=>trivial,?_⟩
 rw[Oper.semAt_eq _ _ _ (fun c hc'=>by rw[ho]at hc';cases hc'),hrun]
 refine⟨fun hd=>by simp[FW,Fence.wide]at hd,?_⟩
 refine roundIn_of_wpIn (F:=FW ro) trivial ?_
 have htm:((r.params.zip vals.toArray).foldl (fun tmps (t,a)=>tmps.setIfInBounds t a) r.tmps)=((r.params.toList.zip vals).foldl (fun tmps (x:Tmp×Value)=>tmps.setIfInBounds x.1 x.2) r.tmps):=by
  rw[←Array.foldl_toList];simp
 rw[htm,h3,h4,h5]
 have hplt:∀p∈Lp.ps.toList,p < r.tmps.size:=fun p hp'=>by rw[h6];simpa using List.all_eq_true.1 hp p hp'
 obtain⟨s1,s2⟩:=setPs_VR Lp.ps.toList args vals Lp.a r.tmps hplt hargs h7
 have hR:Rel (w0.enter G S w (some b)) G S.inner Lp.nt (setPs Lp.a Lp.ps.toList args) {tmps:=(Lp.ps.toList.zip vals).foldl (fun tmps (x:Tmp×Value)=>tmps.setIfInBounds x.1 x.2) r.tmps,defers:=[]} w:=by
  refine⟨hS.enter (some b),by rw[s2,h6],⟨by simp,by simp⟩,fun l hl=>?_,s1⟩
  simp only[Orig.fi,Orig.enter]at hl
  injection hl with hl;subst hl
  exact⟨r,hr⟩
 have hw:=(twC_sound hm Lp.asg _ _ _ h).out _ _ _ _ hR
 refine Go.wpIn_mono hw fun e act1 w1 ⟨G1,a1,S1,hR1,hq⟩=>?_
 cases e with
 | normal=>
  obtain⟨hL1,hq⟩:=hq
  have hst:Lp.st=.ready:=by rw[hLp]
  have hpend:Lp.pend=none:=by rw[hLp]
  ··let L1:=Lp
    have hρ1:G1.ρ id=some b:=hR1.1.kp.ρ id b hρ
    obtain⟨r1,hr1,hor1⟩:=hR1.1.recd hρ1 hL1
    obtain⟨t1,t2⟩:=hR1.1.setRec hρ1 hL1 hr1 hor1 .busy L1.pend
    have hrs:r1.state=.ready:=by obtain⟨r',he,g1,_⟩:=hor1;injection he with he;subst he;rw[g1,hst]
    have hrp:r1.pending=L1.pend:=by obtain⟨r',he,g1,g2,_⟩:=hor1;injection he with he;subst he;exact g2
    refine⟨_,run_beginRound hr1 hrs,?_⟩
    rw[←hrp]at t1 t2
    have hR2:Rel (w0.enter G S w (some b)) G1 (S1.put id (.loop {L1 with st:=.busy})) Lp.nt a1 act1 (w1.putObj b (.loop {r1 with state:=.busy})):=by
     refine⟨?_,hR1.2.keep t2⟩
     have:({L1 with st:=LoopState.busy,pend:=r1.pending}:LoopA)={L1 with st:=.busy}:=by rw[hrp]
     rw[this]at t1
     exact t1
    have hw2:=(twC_sound hm Lp.body _ _ _ hq).out _ _ _ _ hR2
    refine Go.wpIn_mono hw2 fun e act2 w2 ⟨G2,a2,S2,hR3,hq2⟩=>?_
    have hρ2:G2.ρ id=some b:=hR3.1.kp.ρ id b hρ
    have fin:∀(jump:Option Code),S2.bx[id]? = some (.loop {Lp with st:=.busy})∧K (.bool jump.isNone) ((S2.put id (.loop {Lp with st:=if jump.isNone then .ready else .done,pend:=jump})).outer S)→∃v w',(Instr.endRound b jump).run P w2=.ok v w'∧next (act.put o.dst v) w':=by
     intro jump ⟨hL2,hk⟩
     obtain⟨r2,hr2,hor2⟩:=hR3.1.recd hρ2 hL2
     obtain⟨u1,u2⟩:=hR3.1.setRec hρ2 hL2 hr2 hor2 (if jump.isNone then .ready else .done) jump
     obtain⟨u3,u4⟩:=hS.leave u1
     exact⟨_,_,run_endRound jump hr2,hnext _ _ ⟨G2,_,.bool jump.isNone,u3,u4,rfl,hk⟩⟩
    cases e with
    | normal=>exact fin none ⟨hq2.1,by
      have:({Lp with st:=if (none:Option Code).isNone then LoopState.ready else LoopState.done,pend:=none}:LoopA)=Lp:=by
       cases Lp;simp at hst hpend;subst hst;subst hpend;rfl
      rw[this];exact hq2.2⟩
    | ret=>exact fin (some .ret) hq2
    | exit i=>exact fin (some (.exit i)) hq2
    | goto _=>exact hq2.elim
    | panic _=>exact hq2.elim
    | outgrown=>exact hq2.elim
 | _=>exact hq.elim
def rdyOne (ops:List Oper)(l:List Bool)(i:Nat):Bool:=match ops[i]? with
 | some o=>!(l.getD i true)&&o.after.toList.all fun e=>!Region.binds .any e||l.getD e.on false
 | none=>false
def rdyL (ops:List Oper)(l:List Bool):List Nat:=(List.range ops.length).filter (rdyOne ops l)
def allR:List Nat→(Nat→Prop)→Prop
 | [],_=>True
 | i :: l,f=>f i∧allR l f
theorem allR_mem {f:Nat→Prop}:∀{l:List Nat},allR l f→∀i∈l,f i
 | [],_,_,h=>by simp at h
 | _ :: _,h,i,hi=>by
  rcases List.mem_cons.1 hi with rfl|hi
  ·exact h.1
  ·exact allR_mem h.2 i hi
def twAny (P:Program)(L:World→Prop)(ops:Array Oper):Nat→List Bool→(Nat→AV)→St→((Nat→AV)→St→Prop)→Prop
 | 0,_,a,S,K=>K a S
 | n+1,l,a,S,K=>match rdyL ops.toList l with
  | []=>K a S
  | i :: is=>allR (i :: is) fun i=>match ops.toList[i]? with
   | some o=>gdK ops a o (OpK P L false a S o fun v S'=>twAny P L ops n (l.set i true) (updo a o.dst v) S' K) (twAny P L ops n (l.set i true) (updo a o.dst (.tup [])) S K)
   | none=>False
theorem SeqK.cutS {P:Program}{L:World→Prop}{nt:Nat}(hm:P.follows .mixedOrders=true)(ct':List Nat){c d:Code}{a:Nat→AV}{S:St}{Q:Exit→(Nat→AV)→St→Prop}(sl:List (Nat×AV))(st:St)
  (hc:SemK P L nt c a S (seqQ (fun a' S'=>Fits a' S' sl st) Q)) (hd:twC P L nt ct' d (ofL sl) st Q):SeqK P L nt c d a S Q:=by
 refine⟨⟨fun w0 G act w hR=>?_⟩⟩
 refine wpIn_seq (Go.wpIn_mono (hc.out w0 G act w hR) fun e a' w' ⟨G',a1,S',hR',hq⟩=>?_)
 cases e with
 | normal=>exact(twC_sound hm d _ _ _ hd).out w0 _ a' w' (hR'.weak hq)
 | _=>exact⟨G',a1,S',hR',hq⟩
inductive Ty where
 | int (k:IntKind)
 | bool
 | str
 | sl (d:Ty)
 | st (ds:List Ty)
mutual
def Ty.n:Ty→Nat
 | .st ds=>nAll ds
 | _=>1
def nAll:List Ty→Nat
 | []=>0
 | d :: ds=>d.n+nAll ds
end
def Ty.isSt:Ty→Bool
 | .st _=>true
 | _=>false
def Ty.mk (d:Ty)(l:List AV):AV:=match d.isSt with
 | true=>.agg l
 | false=>l.headD .undef
mutual
def Ty.ok (P:Program):Ty→TypeId→Prop
 | .int k,t=>P.underlying t=some (.int k)
 | .bool,t=>P.underlying t=some .bool
 | .str,t=>P.underlying t=some .string
 | .sl d,t=>∃e,P.underlying t=some (.slice e)∧P.cellsOf e=d.n∧0 < d.n∧1≤P.bytesOf e∧d.ok P e
 | .st ds,t=>∃fs,P.underlying t=some (.struct fs)∧P.cellsOf t=nAll ds∧okAll P ds 0 fs.toList
def okAll (P:Program):List Ty→Nat→List Field→Prop
 | [],_,[]=>True
 | d :: ds,o,f :: fs=>f.offset=o∧P.cellsOf f.type=d.n∧d.ok P f.type∧okAll P ds (o+d.n) fs
 | _,_,_=>False
end
mutual
def Ty.sh:Ty→List AV→Prop
 | .int k,l=>∃n,l=[.int k n]∧(Lit.int k n).wf=true
 | .bool,l=>∃b,l=[.bool b]
 | .str,l=>∃s,l=[.str s]∧s.size≤140737488355328
 | .sl d,l=>∃els:List (List AV),l=[.sl false (els.map d.mk)]∧(∀c∈els,d.sh c∧c.length=d.n)∧els.length≤140737488355328
 | .st ds,l=>shAll ds l
def shAll:List Ty→List AV→Prop
 | [],l=>l=[]
 | d :: ds,l=>∃l1 l2,l=l1++l2∧l1.length=d.n∧d.sh l1∧shAll ds l2
end
def gOld (w:World):Gh:=⟨fun b _=>b < w.heap.size,fun _=>none,fun _=>none⟩
mutual
theorem Ty.cell:∀(d:Ty) {l:List AV},d.sh l→l.length=d.n∧l.all AV.isCell=true
 | .int _,l,h=>by obtain⟨n,rfl,_⟩:=h;exact⟨rfl,rfl⟩
 | .bool,l,h=>by obtain⟨n,rfl⟩:=h;exact⟨rfl,rfl⟩
 | .str,l,h=>by obtain⟨n,rfl,_⟩:=h;exact⟨rfl,rfl⟩
 | .sl _,l,h=>by obtain⟨n,rfl,_⟩:=h;exact⟨rfl,rfl⟩
 | .st ds,l,h=>cellAll ds h
theorem cellAll:∀(ds:List Ty) {l:List AV},shAll ds l→l.length=nAll ds∧l.all AV.isCell=true
 | [],l,h=>by simp[shAll]at h;subst h;exact⟨rfl,rfl⟩
 | d :: ds,l,h=>by
  obtain⟨l1,l2,rfl,_,h1,h2⟩:=h
  obtain⟨a1,a2⟩:=Ty.cell d h1
  obtain⟨b1,b2⟩:=cellAll ds h2
  exact⟨by simp[nAll,a1,b1],by simp[a2,b2]⟩
end
theorem VRs.app {G:Gh}{fr:Frs}{w:World}:∀{l1 l2:List AV} {v1 v2:List Value},VRs G fr w l1 v1→VRs G fr w l2 v2→VRs G fr w (l1++l2) (v1++v2)
 | [],_,v1,_,h1,h2=>by simp[VRs]at h1;subst h1;simpa using h2
 | e :: l1,_,v1,_,h1,h2=>by
  obtain⟨u,us,rfl,h3,h4⟩:=h1
  exact⟨u,us++_,rfl,h3,VRs.app h4 h2⟩
theorem Ty.mem {G:Gh}{fr:Frs}{w:World}(d:Ty){l:List AV}{cs:List Value}{b o:Nat}(h:d.sh l)(hv:VRs G fr w l cs)(hm:∀j v,cs[j]? = some v→w.cell? ⟨b,o+j,none⟩=some v) :
  (d.mk l).ncells=d.n∧∃u,VR G fr w (d.mk l) u∧u.cells.size=(d.mk l).ncells∧AtMem w b o u:=by
 obtain⟨h1,h2⟩:=d.cell h
 have hl:=hv.length
 unfold Ty.mk
 cases hst:d.isSt with
 | true=>
  refine⟨by simp[AV.ncells,AV.cells,h1],.agg cs.toArray,⟨cs.toArray,rfl,by simpa using hv⟩,by simp[AV.ncells,AV.cells,Value.cells,hl],fun j c hj=>hm j c (by simpa[Value.cells] using hj)⟩
 | false=>
  have hn:d.n=1:=by cases d<;>simp[Ty.isSt]at hst<;>rfl
  match l,h1,h2,hv with
  | [],h1,_,_=>rw[hn]at h1;simp at h1
  | [c],_,h2,hv=>
   obtain⟨u,us,rfl,hu,hus⟩:=hv
   have hus:us=[]:=hus
   subst hus
   have hc:c.isCell=true:=by simpa using h2
   have hnc:c.ncells=1:=by cases c<;>first|rfl|(simp[AV.isCell]at hc)
   have hall:c.cells.all AV.isCell=true:=by cases c<;>first|rfl|(simp[AV.isCell]at hc)
   have hsz:=(hu.ac hall).1
   have hcell:u.cells=#[u]:=by
    have hh:=(hu.ac hall).2
    have hcc:c.cells=[c]:=by cases c<;>first|rfl|(simp[AV.isCell]at hc)
    rw[hnc]at hsz
    cases u<;>first|rfl|skip
    all_goals(cases c<;>first|(simp[AV.isCell]at hc;done)|(simp[VR]at hu))
   exact⟨hnc.trans hn.symm,u,hu,by simpa using hsz,fun j c' hj=>by
    rw[hcell]at hj
    exact hm j c' (by simpa using hj)⟩
  | _ :: _ :: _,h1,_,_=>rw[hn]at h1;simp at h1
theorem addAdd (a:Addr)(i j:Nat):(a.add i).add j=a.add (i+j):=by
 unfold Addr.add
 by_cases hi:i=0<;>by_cases hj:j=0<;>simp[hi,hj,Nat.add_assoc]
theorem spot_none {w:World}{a:Addr}{v:Value}(h:w.cell? a=some v):a.spot=none∧a.block < w.heap.size:=by
 unfold World.cell? at h
 split at h
 ·rename_i hh
  split at h
  ·cases h
  ·rename_i h2
   exact⟨by cases hsp:a.spot<;>simp[hsp]at h2 ⊢,(Array.getElem?_eq_some_iff.1 hh).1⟩
 ·cases h
theorem weightsAll_mem {H:Type}{P:Program}{e:TypeId}{n:Nat}:∀{ds:List (DataW H)} {d:DataW H},d∈ds→n∈d.weights P e→n∈DataW.weightsAll P e ds
 | _ :: _,d,hd,hn=>by
  simp only[DataW.weightsAll,List.mem_append]
  rcases List.mem_cons.1 hd with rfl|hd
  ·exact .inl hn
  ·exact .inr (weightsAll_mem hd hn)
theorem buildMC {G:Gh}{fr:Frs}{w:World}(d:Ty){b:Nat}:∀(els:List (List AV)) (o:Nat),(∀i c,els[i]? = some c→d.sh c∧∃cs,VRs G fr w c cs∧∀j v,cs[j]? = some v→w.cell? ⟨b,o+i*d.n+j,none⟩=some v)→MC G fr w (els.map d.mk) b o
 | [],_,_=>trivial
 | c :: els,o,h=>by
  obtain⟨h1,cs,h2,h3⟩:=h 0 c rfl
  obtain⟨g1,g2⟩:=d.mem (b:=b) (o:=o) h1 h2 (fun j v hj=>by have:=h3 j v hj;simpa using this)
  refine⟨g2,?_⟩
  rw[g1]
  refine buildMC d els (o+d.n) fun i c' hc=>?_
  obtain⟨k1,cs',k2,k3⟩:=h (i+1) c' (by simpa using hc)
  refine⟨k1,cs',k2,fun j v hj=>?_⟩
  have:=k3 j v hj
  rw[Nat.add_mul,Nat.one_mul]at this
  rw[←this]
  congr 2
  omega
section
variable {H:Type} {enc:TypeId×Value→H} {P:Program} {w:World} {base:Nat} {spare:Nat→Bool} {held:Bool}
mutual
theorem Ty.read:∀(d:Ty) {fuel:Nat} {t:TypeId} {cs:List Value} {x:DataW H×List MemPlace},d.ok P t→DataW.trod enc P w base spare held fuel t cs=some x→(∀n∈x.1.weights P t,n≤reachBytes) →
  ∃l,d.sh l∧VRs (gOld w) [] w l cs
 | .int k,fuel,t,cs,x,ho,h,hw=>by
  obtain⟨n,rfl,rfl,hwf⟩:=DataW.trod_int ho h
  exact⟨_,⟨n,rfl,hwf⟩,⟨_,_,rfl,rfl,rfl⟩⟩
 | .bool,fuel,t,cs,x,ho,h,hw=>by
  obtain⟨b,rfl,rfl⟩:=DataW.trod_bool ho h
  exact⟨_,⟨b,rfl⟩,⟨_,_,rfl,rfl,rfl⟩⟩
 | .str,fuel,t,cs,x,ho,h,hw=>by
  obtain⟨s,rfl,rfl,hs⟩:=DataW.trod_string ho h
  have hb:=hw s.data.toList.length (by simp[DataW.weights])
  have hr:reachBytes≤140737488355328:=by decide
  exact⟨_,⟨s,rfl,by
             have:s.data.toList.length=s.size:=by simp
             omega⟩,⟨_,_,rfl,rfl,rfl⟩⟩
 | .sl d,fuel,t,cs,x,ho,h,hw=>by
  obtain⟨e,ht,hc,hpos,hby,hd⟩:=ho
  have hr:reachBytes≤140737488355328:=by decide
  rcases DataW.trod_slice ht h with ⟨rfl,rfl⟩|⟨a,len,cap,elems,rest,n,rfl,rfl,rfl,hb,hl,hm,hlen,hel,_,_⟩
  ·exact⟨_,⟨[],rfl,by simp,by simp⟩,⟨_,_,rfl,⟨none,0,rfl,by simp,by simp,by simp⟩,rfl⟩⟩
  ·have hwl:=hw ((elems.map (·.1)).length*P.bytesOf e+(rest.map (·.1)).length*P.bytesOf e) (by rw[←Nat.add_mul];simp[DataW.weights,ht])
   have hlen2:len≤140737488355328:=by
    have:len*1≤len*P.bytesOf e:=Nat.mul_le_mul_left _ hby
    simp only[List.length_map,hlen]at hwl
    omega
   have each:∀i,i < len→∃c,d.sh c∧∃cs',VRs (gOld w) [] w c cs'∧w.cells? base (a.add (i*P.cellsOf e)) (P.cellsOf e)=some cs':=by
    intro i hi
    have h1:=hel i hi
    rw[List.getElem?_eq_getElem (by omega)]at h1
    obtain⟨cs',h2,h3⟩:=Option.bind_eq_some_iff.1 h1
    obtain⟨c,h4,h5⟩:=Ty.read d hd h3 (fun m hm=>hw m (by
     simp only[DataW.weights,ht,List.mem_cons,List.mem_append]
     exact .inr (.inl (weightsAll_mem (List.mem_map.2 ⟨elems[i],List.getElem_mem _,rfl⟩) hm))))
    exact⟨c,h4,cs',h5,h2⟩
   have choose:∀m,m≤len→∃els:List (List AV),els.length=m∧∀i c,els[i]? = some c→d.sh c∧∃cs',VRs (gOld w) [] w c cs'∧w.cells? base (a.add (i*P.cellsOf e)) (P.cellsOf e)=some cs':=by
    intro m
    induction m with
    | zero=>intro _;exact⟨[],rfl,fun i c hc=>by simp at hc⟩
    | succ m ih=>
     intro hm
     obtain⟨els,h1,h2⟩:=ih (by omega)
     obtain⟨c,h3,h4⟩:=each m (by omega)
     refine⟨els++[c],by simp[h1],fun i c' hc=>?_⟩
     by_cases hi:i < els.length
     ·rw[List.getElem?_append_left hi]at hc;exact h2 i c' hc
     ·have him:i=m:=by
       have:=(List.getElem?_eq_some_iff.1 hc).1
       simp at this;omega
      subst him
      rw[List.getElem?_append_right (by omega),h1,Nat.sub_self]at hc
      simp at hc;subst hc
      exact⟨h3,h4⟩
   obtain⟨els,hell,hels⟩:=choose len (Nat.le_refl _)
   have hshn:∀c∈els,d.sh c∧c.length=d.n:=fun c hcm=>by
    obtain⟨i,hi⟩:=List.getElem?_of_mem hcm
    exact⟨(hels i c hi).1,(d.cell (hels i c hi).1).1⟩
   refine⟨[.sl false (els.map d.mk)],⟨els,rfl,hshn,by omega⟩,_,_,rfl,?_,rfl⟩
   refine⟨some a,cap,by rw[List.length_map,hell],by rw[List.length_map,hell];exact hl,by simp,fun hne=>?_⟩
   have hlp:0 < len:=by
    rw[←hell]
    exact List.length_pos_iff.2 fun hh=>hne (by rw[hh];rfl)
   have cell:∀i c,els[i]? = some c→∃cs',VRs (gOld w) [] w c cs'∧∀j v,cs'[j]? = some v→w.cell? (a.add (i*d.n+j))=some v:=fun i c hic=>by
    obtain⟨_,cs',h2,h3⟩:=hels i c hic
    obtain⟨_,k2,k3⟩:=World.cells?_some h3
    refine⟨cs',h2,fun j v hj=>?_⟩
    have:=k3 j (by have:=(List.getElem?_eq_some_iff.1 hj).1;omega)
    rw[addAdd,hc]at this
    rw[this,hj]
   obtain⟨c0,hc0⟩:∃c,els[0]? = some c:=⟨_,List.getElem?_eq_getElem (by omega)⟩
   have hsp:a.spot=none∧a.block < w.heap.size:=by
    obtain⟨cs',h2,h3⟩:=cell 0 c0 hc0
    have hl0:cs'.length=d.n:=by rw[h2.length];exact(hshn c0 (List.mem_of_getElem? hc0)).2
    have h5:=h3 0 _ (List.getElem?_eq_getElem (by omega))
    rw[Nat.zero_mul]at h5
    have h6:a.add (0+0)=a:=by simp[Addr.add]
    rw[h6]at h5
    exact spot_none h5
   obtain⟨ab,ao,asp⟩:=a
   obtain⟨rfl,hlt⟩:=hsp
   refine⟨ab,ao,d.n,rfl,hlt,fun x hx=>?_,hlt,?_⟩
   ·obtain⟨c,hcm,rfl⟩:=List.mem_map.1 hx
    obtain⟨i,hi⟩:=List.getElem?_of_mem hcm
    obtain⟨cs',h2,h3⟩:=cell i c hi
    exact(d.mem (b:=ab) (o:=ao+i*d.n) (hshn c hcm).1 h2 (fun j v hj=>by
     have:=h3 j v hj
     rw[Addr.add_lit]at this
     rw[←this];congr 2;omega)).1
   ·exact buildMC (G:=(gOld w).pure) d els ao fun i c hi=>by
     obtain⟨cs',h2,h3⟩:=cell i c hi
     refine⟨(hshn c (List.mem_of_getElem? hi)).1,cs',h2,fun j v hj=>?_⟩
     have:=h3 j v hj
     rw[Addr.add_lit]at this
     rw[←this];congr 2;omega
 | .st ds,fuel,t,cs,x,ho,h,hw=>by
  obtain⟨fs,ht,hcn,hok⟩:=ho
  obtain⟨xs,n,rfl,rfl,hl,hlen,hf⟩:=DataW.trod_struct ht h
  have:=readAll ds hok (xs:=xs) (by simpa using hlen) (fun i f hi=>hf i f (by simpa using hi)) (fun m hm=>hw m (by simpa[DataW.weights,ht] using hm))
  rw[List.drop_zero,List.take_of_length_le (by omega)]at this
  exact this
theorem readAll:∀(ds:List Ty) {o:Nat} {fs:List Field} {n:Nat} {cs:List Value} {xs:List (DataW H×List MemPlace)},okAll P ds o fs→xs.length=fs.length →
  (∀(i:Nat) (f:Field),fs[i]? = some f→DataW.trod enc P w base spare held n f.type ((cs.drop f.offset).take (P.cellsOf f.type))=xs[i]?)→(∀m∈DataW.weightsEach P (fs.map (fun f:Field=>f.type)) (xs.map (·.1)),m≤reachBytes) →
  ∃l,shAll ds l∧VRs (gOld w) [] w l ((cs.drop o).take (nAll ds))
 | [],o,fs,n,cs,xs,ho,hx,hf,hw=>⟨[],rfl,by simp[nAll,VRs]⟩
 | d :: ds,o,[],n,cs,xs,ho,hx,hf,hw=>ho.elim
 | d :: ds,o,f :: fs,n,cs,[],ho,hx,hf,hw=>by simp at hx
 | d :: ds,o,f :: fs,n,cs,x :: xs,ho,hx,hf,hw=>by
  obtain⟨h1,h2,h3,h4⟩:=ho
  have hr:=hf 0 f rfl
  simp only[List.getElem?_cons_zero]at hr
  obtain⟨l1,g1,g2⟩:=Ty.read d h3 hr (fun m hm=>hw m (by simp only[List.map_cons,DataW.weightsEach,List.mem_append];exact .inl hm))
  obtain⟨l2,g3,g4⟩:=readAll ds h4 (xs:=xs) (n:=n) (cs:=cs) (by simpa using hx) (fun i f' hi=>by simpa using hf (i+1) f' (by simpa using hi)) (fun m hm=>hw m (by simp only[List.map_cons,DataW.weightsEach,List.mem_append];exact .inr hm))
  refine⟨l1++l2,⟨l1,l2,rfl,(d.cell g1).1,g1,g3⟩,?_⟩
  have:=g2.app g4
  rw[h1,h2]at this
  rw[nAll,List.take_add,List.drop_drop]
  exact this
end
end
open Go Go.RowKit Go.ChangeShapes Go.WideShapes
def okArgs (P:Program):List Ty→List TypeId→Prop
 | [],[]=>True
 | d :: ds,t :: ts=>d.ok P t∧okArgs P ds ts
 | _,_=>False
def shArgs:List Ty→List AV→Prop
 | [],[]=>True
 | d :: ds,e :: es=>(∃l,d.sh l∧e=d.mk l)∧shArgs ds es
 | _,_=>False
section
variable {H:Type} {enc:TypeId×Value→H} {P:Program} {w:World} {b:Nat} {sp:Nat→Bool} {hd:Bool}
theorem Ty.one {d:Ty}{t:TypeId}{v:Value}{r:_root_.Go.Reach}{b0:Nat}(ho:d.ok P t)(hv:Value.okWide P w r b0 t v){l:List AV}(hs:d.sh l)(h:VRs (gOld w) [] w l v.cells.toList):VR (gOld w) [] w (d.mk l) v:=by
 cases d with
 | st ds=>
  obtain⟨fs,ht,_,_⟩:=ho
  unfold Value.okWide at hv
  rw[ht]at hv
  obtain⟨cs,rfl,_,_⟩:=hv
  exact⟨cs,rfl,by simpa[Value.cells] using h⟩
 | int k=>
  obtain⟨n,rfl⟩:=okWide_int ho hv
  obtain⟨m,rfl,_⟩:=hs
  obtain⟨u,us,h1,h2,h3⟩:=h
  simp[Value.cells]at h1
  rw[h1.1];exact h2
 | bool=>
  obtain⟨n,rfl⟩:=okWide_bool ho hv
  obtain⟨m,rfl⟩:=hs
  obtain⟨u,us,h1,h2,h3⟩:=h
  simp[Value.cells]at h1
  rw[h1.1];exact h2
 | str=>
  obtain⟨n,rfl⟩:=okWide_string ho hv
  obtain⟨m,rfl,_⟩:=hs
  obtain⟨u,us,h1,h2,h3⟩:=h
  simp[Value.cells]at h1
  rw[h1.1];exact h2
 | sl d=>
  obtain⟨e,ht,_⟩:=ho
  obtain⟨m,rfl,_⟩:=hs
  obtain⟨u,us,h1,h2,h3⟩:=h
  obtain⟨A,n',c',rfl⟩:=okWide_slice ht hv
  have hc:(Value.slice A n' c').cells=#[.slice A n' c']:=rfl
  rw[hc]at h1
  simp at h1
  rw[h1.1];exact h2
theorem readArgs {r:_root_.Go.Reach}{b0:Nat}:∀(ds:List Ty) {ts:List TypeId} {vs:List Value} {dds:List (DataW H)} {ps:List MemPlace},okArgs P ds ts→DataW.TrodAll enc P w b sp hd ts vs dds ps →
  (∀(j:Nat) t v,ts[j]? = some t→vs[j]? = some v→Value.okWide P w r b0 t v)→(∀m∈DataW.weightsEach P ts dds,m≤reachBytes)→∃es,shArgs ds es∧VRs (gOld w) [] w es vs
 | [],[],[],[],_,_,_,_,_=>⟨[],trivial,rfl⟩
 | d :: ds,t :: ts,v :: vs,dd :: dds,_,ho,h,hv,hw=>by
  obtain⟨p,q,⟨fuel,h1⟩,h2,_⟩:=h
  obtain⟨l,g1,g2⟩:=Ty.read d ho.1 h1 (fun m hm=>hw m (by simp only[DataW.weightsEach,List.mem_append];exact .inl hm))
  obtain⟨es,g3,g4⟩:=readArgs ds ho.2 h2 (fun j t v ht hv'=>hv (j+1) t v (by simpa using ht) (by simpa using hv')) (fun m hm=>hw m (by simp only[DataW.weightsEach,List.mem_append];exact .inr hm))
  exact⟨d.mk l :: es,⟨⟨l,g1,rfl⟩,g3⟩,_,_,rfl,Ty.one ho.1 (hv 0 t v rfl rfl) g1 g2,g4⟩
 | [],[],_ :: _,_,_,_,h,_,_=>by cases ‹List (DataW H)›<;>exact h.elim
 | [],[],[],_ :: _,_,_,h,_,_=>h.elim
 | [],_ :: _,_,_,_,ho,_,_,_=>ho.elim
 | _ :: _,[],_,_,_,ho,_,_,_=>ho.elim
 | _ :: _,_ :: _,[],_,_,_,h,_,_=>by cases ‹List (DataW H)›<;>exact h.elim
 | _ :: _,_ :: _,_ :: _,[],_,_,h,_,_=>h.elim
end
theorem trodAll_stays {H:Type}{enc:TypeId×Value→H}{P:Program}{W W':World}(hl:laidOutB P=true)(hb:Below W.heap.size W W'){sp:Nat→Bool}:∀{ts:List TypeId} {vs:List Value} {ds:List (DataW H)} {ps:List MemPlace},
  (ts.all fun t=>P.readableRec t&&decide (t < P.types.size))=true→DataW.TrodAll enc P W 0 (fun _=>true) true ts vs ds ps→(∀p∈ps,p.block < W.heap.size)→(∀p∈ps,sp p.block=true)→DataW.TrodAll enc P W' 0 sp true ts vs ds ps
 | [],[],[],_,_,h,_,_=>h
 | t :: ts,v :: vs,d :: ds,_,hr,h,hlt,hsp=>by
  obtain⟨p,q,h1,h2,rfl⟩:=h
  simp only[List.all_cons,Bool.and_eq_true,decide_eq_true_eq]at hr
  exact⟨p,q,WideElems.Trod_stays hl hr.1.1 hr.1.2 h1 (fun x hx=>hb.same (hlt x (by simp[hx]))) (fun x hx=>hsp x (by simp[hx])),trodAll_stays hl hb hr.2 h2 (fun x hx=>hlt x (by simp[hx])) (fun x hx=>hsp x (by simp[hx])),rfl⟩
 | [],[],_ :: _,_,_,h,_,_=>h.elim
 | [],_ :: _,_,_,_,h,_,_=>by cases ‹List (DataW H)›<;>exact h.elim
 | _ :: _,[],_,_,_,h,_,_=>by cases ‹List (DataW H)›<;>exact h.elim
 | _ :: _,_ :: _,[],_,_,h,_,_=>h.elim
theorem trodAll_len {H:Type}{enc:TypeId×Value→H}{P:Program}{W:World}{b:Nat}{sp:Nat→Bool}{hd:Bool}:∀{ts:List TypeId} {vs:List Value} {ds:List (DataW H)} {ps:List MemPlace},DataW.TrodAll enc P W b sp hd ts vs ds ps→ds.length=ts.length
 | [],[],[],_,_=>rfl
 | t :: ts,v :: vs,d :: ds,_,h=>by
  obtain⟨p,q,h1,h2,rfl⟩:=h
  simp[trodAll_len h2]
 | [],[],_ :: _,_,h=>h.elim
 | [],_ :: _,_,_,h=>by cases ‹List (DataW H)›<;>exact h.elim
 | _ :: _,[],_,_,h=>by cases ‹List (DataW H)›<;>exact h.elim
 | _ :: _,_ :: _,[],_,h=>h.elim
theorem len5 {α:Type}{l:List α}(h:l.length=5):∃a b c d e,l=[a,b,c,d,e]:=by
 match l,h with
 | [a,b,c,d,e],_=>exact⟨a,b,c,d,e,rfl⟩
end HM
