/- A valid schedule that serves requests: there is no reason against its size. -/
import Derived.Test.YtckcedndijobaaaGreatDoorDc
import Derived.Test.YtckcedndijobaaaGreatDoorDa
import Derived.Test.YtckcedndijobaaaGreatDoorDb
namespace HM
open Go Go.RowKit
section
variable {n:Net} {q:List Req} {s:Sched}
theorem heard_anti {m d d':Int}(hok:NetOk n)(h:heardB n m d=true)(hd:d'≤d):heardB n m d'=true:=by
 unfold heardB at h ⊢
 simp only[decide_eq_true_eq]at h ⊢
 have:=hok.thr
 have h2:n.thr*(n.noise+d')≤n.thr*(n.noise+d):=Int.mul_le_mul_of_nonneg_left (by omega) (by omega)
 omega
end
structure Claim where
 flow:Int
 routes:List (List Int)
 bounds:List Int
 worst:List Int
 slots:List (List Int)
 deriving DecidableEq
def Claim.av (c:Claim):AV:=.agg [.int .i64 c.flow,encRows c.routes,encIs c.bounds,encIs c.worst,encRows c.slots]
def encClaims (l:List Claim):AV:=.sl false (l.map Claim.av)
def claim0:Claim:=⟨0,[],[],[],[]⟩
def srvB (n:Net)(s:Sched)(x:Req)(r:List Int):Bool:=decide ((routeM n s x.flow r).2.2.2=0)&&decide ((routeM n s x.flow r).1≤x.flow.dead)
def claimT (n:Net)(s:Sched)(x:Req)(l:List (List Int)):Claim:=⟨x.flow.id,l,l.map fun r=>(routeM n s x.flow r).1,l.map fun r=>(routeM n s x.flow r).2.1,l.map fun r=>(routeM n s x.flow r).2.2.1⟩
def claimB (n:Net)(s:Sched)(x:Req):Bool:=x.routes.all (srvB n s x)
def claimM (n:Net)(s:Sched)(x:Req):Claim:=if claimB n s x then claimT n s x x.routes else claim0
def lateAt (n:Net)(s:Sched)(q:List Req)(i:Nat):Int:=match q[i]? with
 | some x=>if claimB n s x then 0 else 15
 | none=>0
def makeM (n:Net)(q:List Req)(s:Sched):List Claim×Int×Int:=
 if (reqE n q).2≠0 then([],(reqE n q).1,(reqE n q).2) else if (schedE n (flowsQ q) s).2≠0 then([],-1,1)
 else if (firstAt (lateAt n s q) q.length).2≠0 then([],firstAt (lateAt n s q) q.length) else(q.map (claimM n s),-1,0)
theorem VOk.form {n:Net}{l:List Flow}{s:Sched}(h:VOk n l s):formB s=true:=by
 unfold formB
 rw[h.size,decide_eq_true h.many,Bool.true_and,Bool.true_and]
 refine range_all fun i hi=>?_
 obtain⟨c,hc⟩:=getLt hi
 obtain⟨h1,h2,h3,h4⟩:=h.cell i c hc
 obtain⟨p,l',e1,e2,e3,e4⟩:=findL_at (good_find h2)
 have hb:=linkR_bd (h.net.link p l' e2).1
 have hn:=h.net.nodes
 obtain⟨f,hf,hid⟩:=List.any_eq_true.1 h3
 have hff:0≤f.id∧f.id≤255:=by
  obtain⟨k,hk⟩:=List.getElem?_of_mem hf
  have hkl:=(List.getElem?_eq_some_iff.1 hk).1
  have hfl:=h.flows
  unfold flowsE at hfl
  split at hfl
  ·cases hfl
  split at hfl
  ·cases hfl
  have g:=firstAt_ok.1 hfl k hkl
  unfold flowAt at g
  rw[hk]at g
  simp only at g
  have hfx:flowE n.nodes f=0:=by
   split at g
   ·rename_i hh;exact absurd g hh
   ·omega
  have:=flowE_ok hfx
  omega
 simp only[beq_iff_eq]at hid
 unfold okAt
 rw[hc]
 simp only
 have hfm:formedB s c=true:=by
  unfold formedB
  rw[h1]
  simp only[insB,Bool.true_and,Bool.and_eq_true,decide_eq_true_eq]
  omega
 rw[hfm,Bool.true_and]
 unfold ordC at h4
 cases i with
 | zero=>rfl
 | succ j=>exact h4
def distC (n:Net)(rest:List Cell)(node:Int):Int:=sumW (fun d:Cell=>powN n d.src node+powN n d.dst node) rest
theorem erase_take {α:Type}{l:List α}{k i:Nat}{x:α}(h:l[k]? = some x):(l.take (k+1)).eraseIdx i=(l.take k).eraseIdx i++if k=i then [] else [x]:=by
 rw[take_succ h]
 have hk:k < l.length:=(List.getElem?_eq_some_iff.1 h).1
 have hl:(l.take k).length=k:=by rw[List.length_take];omega
 rcases Nat.lt_trichotomy k i with hlt|rfl|hgt
 ·rw[List.eraseIdx_of_length_le (by rw[List.length_append,hl];simp;omega),List.eraseIdx_of_length_le (by omega),if_neg (by omega)]
 ·rw[List.eraseIdx_append_of_length_le (by omega),hl,List.eraseIdx_of_length_le (l:=l.take k) (by omega),if_pos rfl];simp
 ·rw[List.eraseIdx_append_of_lt_length (by omega),if_neg (by omega)]
theorem distU_rest (n:Net)(cs:List Cell)(i:Nat)(node:Int):∀k:Nat,k≤cs.length→distU n cs i node k=distC n ((cs.take k).eraseIdx i) node
 | 0,_=>by simp[distU,distC,sumW]
 | k+1,hk=>by
  obtain⟨x,hx⟩:=getLt (l:=cs) (k:=k) (by omega)
  rw[distU_succ,distU_rest n cs i node k (by omega),erase_take hx]
  unfold distC distAt
  rw[sumW_app,hx]
  simp only
  congr 1
  split
  ·rfl
  ·simp[sumW]
theorem distM_rest (n:Net)(cs:List Cell)(i:Nat)(node:Int):distM n cs i node=distC n (cs.eraseIdx i) node:=by
 unfold distM
 rw[distU_rest n cs i node _ (Nat.le_refl _),List.take_length]
theorem sum_permI {a b:List Int}(h:a.Perm b):a.sum=b.sum:=by
 induction h with
 | nil=>rfl
 | cons x _ ih=>simp only[List.sum_cons,ih]
 | swap x y l=>simp only[List.sum_cons];omega
 | trans _ _ h1 h2=>exact h1.trans h2
def AllRest {α:Type}(P:α→List α→Prop)(cs:List α):Prop:=∀(i:Nat) c,cs[i]? = some c→P c (cs.eraseIdx i)
theorem erase_perm {α:Type}{cs:List α}{i:Nat}{c:α}(h:cs[i]? = some c):cs.Perm (c :: cs.eraseIdx i):=by
 obtain⟨hi,rfl⟩:=List.getElem?_eq_some_iff.1 h
 rw[List.eraseIdx_eq_take_drop_succ]
 have e:cs=cs.take i++cs[i] :: cs.drop (i+1):=by rw[←List.drop_eq_getElem_cons hi,List.take_append_drop]
 exact(List.Perm.of_eq e).trans List.perm_middle
theorem AllRest.perm {α:Type}{P:α→List α→Prop}(hP:∀c r r',r.Perm r'→P c r→P c r'){cs cs':List α}(h:AllRest P cs)(hp:cs.Perm cs'):AllRest P cs':=fun j c hj=>by
 obtain⟨i,hi⟩:=List.getElem?_of_mem (hp.mem_iff.2 (List.mem_of_getElem? hj))
 refine hP c _ _ ?_ (h i c hi)
 exact List.Perm.cons_inv ((erase_perm hi).symm.trans (hp.trans (erase_perm hj)))
def heardC (n:Net)(c:Cell)(rest:List Cell):Prop:=heardB n (marginAt n c.src c.dst) (distC n rest c.dst)=true∧heardB n (marginAt n c.dst c.src) (distC n rest c.src)=true
theorem distC_perm {n:Net}{r r':List Cell}(h:r.Perm r')(node:Int):distC n r node=distC n r' node:=by
 have g:∀l:List Cell,distC n l node=(l.map fun d=>powN n d.src node+powN n d.dst node).sum:=fun l=>by
  unfold distC
  induction l with
  | nil=>rfl
  | cons x l ih=>simp only[List.map_cons,List.sum_cons,←ih];rfl
 rw[g,g]
 exact sum_permI (h.map _)
theorem heardC_perm {n:Net}{c:Cell}{r r':List Cell}(h:r.Perm r')(hc:heardC n c r):heardC n c r':=by
 unfold heardC at hc ⊢
 rw[←distC_perm h,←distC_perm h];exact hc
theorem filter_erase {α:Type}{p:α→Bool}{cs:List α}{i:Nat}{c:α}(h:cs[i]? = some c)(hp:p c=true):(cs.filter p).eraseIdx ((cs.take i).filter p).length=(cs.eraseIdx i).filter p∧(cs.filter p)[((cs.take i).filter p).length]? = some c:=by
 obtain⟨hi,rfl⟩:=List.getElem?_eq_some_iff.1 h
 have e:cs.filter p=(cs.take i).filter p++cs[i] :: (cs.drop (i+1)).filter p:=by
  have e0:cs=cs.take i++cs[i] :: cs.drop (i+1):=by rw[←List.drop_eq_getElem_cons hi,List.take_append_drop]
  conv=>lhs;rw[e0]
  rw[List.filter_append,List.filter_cons,if_pos hp]
 rw[e]
 refine⟨?_,by simp⟩
 rw[List.eraseIdx_append_of_length_le (Nat.le_refl _),Nat.sub_self,List.eraseIdx_cons_zero,List.eraseIdx_eq_take_drop_succ,List.filter_append]
theorem disturb_iff {n:Net}{cs:List Cell}{i:Nat}{c:Cell}(h:cs[i]? = some c):disturbB n cs i=false↔heardC n c ((cs.eraseIdx i).filter (shareB c)):=by
 have hs:shareB c c=true:=by unfold shareB;simp
 have:=(filter_erase (p:=shareB c) h hs).1
 unfold disturbB heardC
 rw[h]
 simp only[distM_rest,shareL,shareAt]
 rw[this]
 simp
def cellR2 (n:Net)(c:Cell)(rest:List Cell):Prop:=(∀d∈rest,d.slot=c.slot→touchB c d=false)∧heardC n c (rest.filter (shareB c))
theorem cellR2_perm {n:Net}(c:Cell)(r r':List Cell)(h:r.Perm r')(hc:cellR2 n c r):cellR2 n c r':=⟨fun d hd=>hc.1 d (h.mem_iff.2 hd),heardC_perm (h.filter _) hc.2⟩
theorem VOk.rest {n:Net}{l:List Flow}{s:Sched}(h:VOk n l s):AllRest (cellR2 n) s.cells:=fun i c hc=>by
 refine⟨fun d hd hs=>?_,(disturb_iff hc).1 (h.heard i (List.getElem?_eq_some_iff.1 hc).1)⟩
 obtain⟨j,hj⟩:=List.getElem?_of_mem hd
 rw[List.getElem?_eraseIdx]at hj
 split at hj
 ·exact h.apart hc hj (by omega) hs.symm
 ·exact h.apart hc hj (by omega) hs.symm
theorem schedE_of {n:Net}{l:List Flow}{s:Sched}(hn:netE n=0)(hf:(flowsE n.nodes l).2=0)(hz:sizedB s=true)(hp:∀f∈l,s.len % f.period=0)(hm:s.cells.length≤512)(hc:∀(i:Nat) c,s.cells[i]? = some c→placedB s c=true∧goodL n c.src c.dst=true∧idsB l c.flow=true∧ordC s.cells i c=true)(hr:AllRest (cellR2 n) s.cells):(schedE n l s).2=0:=by
 have h5:(firstAt (cellF n l s) s.cells.length).2=0:=by
  rw[firstAt_ok]
  intro i hi
  obtain⟨c,hg⟩:=getLt hi
  obtain⟨q1,q2,q3,q4⟩:=hc i c hg
  unfold cellF
  rw[hg]
  simp[q1,q2,q3,q4]
 have h6:(firstAt (twI s.cells) s.cells.length).2=0:=by
  rw[firstAt_ok]
  intro i hi
  obtain⟨c,hg⟩:=getLt hi
  unfold twI
  have:twiceM s.cells i=false:=by
   unfold twiceM
   rw[hg]
   refine List.any_eq_false.2 fun j hj=>?_
   have hj:=List.mem_range.1 hj
   obtain⟨d,hd⟩:=getLt (l:=s.cells) (k:=j) (by omega)
   unfold twAt
   rw[hd]
   have hmem:d∈s.cells.eraseIdx i:=List.mem_of_getElem? (i:=j) (by rw[List.getElem?_eraseIdx,if_pos hj];exact hd)
   have:=(hr i c hg).1 d hmem
   by_cases e:d.slot=c.slot
   ·simp[this e]
   ·simp[e]
  rw[this];rfl
 have h7:(firstAt (dsI n s.cells) s.cells.length).2=0:=by
  rw[firstAt_ok]
  intro i hi
  obtain⟨c,hg⟩:=getLt hi
  unfold dsI
  rw[(disturb_iff hg).2 (hr i c hg).2];rfl
 unfold schedE
 rw[if_neg (by omega),if_neg (by rw[hz];simp),if_neg (by
  intro h
  obtain⟨f,hf1,hf2⟩:=List.any_eq_true.1 h
  unfold mism at hf2
  rw[hp f hf1]at hf2
  simp at hf2),if_neg (by omega),if_neg (by omega),if_neg (by omega)]
 exact h7
def hasQ (q:List Req)(id:Int):Bool:=q.any fun y=>y.flow.id==id
theorem faulty_iff {n:Net}(hn:netE n=0)(q:List Req):((makeM n q ⟨0,0,[]⟩).2.2 != 1||decide (0≤(makeM n q ⟨0,0,[]⟩).2.1))=decide ((reqE n q).2≠0):=by
 have hok:=netE_ok hn
 have hnd:=hok.nodes
 by_cases h:(reqE n q).2=0
 ·have hs:(schedE n (flowsQ q) ⟨0,0,[]⟩).2≠0:=fun h0=>by
   have:=(schedE_ok h0).size
   revert this;decide
  have hM:makeM n q ⟨0,0,[]⟩=([],-1,1):=by unfold makeM;rw[if_neg (by omega),if_pos hs]
  rw[hM,decide_eq_false (by omega:¬(reqE n q).2≠0)];rfl
 ·have hM:makeM n q ⟨0,0,[]⟩=([],(reqE n q).1,(reqE n q).2):=by unfold makeM;rw[if_pos h]
  rw[hM,decide_eq_true h]
  simp only
  have key:(reqE n q).2≠1∨0≤(reqE n q).1:=by
   unfold reqE at h ⊢
   rw[if_neg (by omega)]at h ⊢
   split
   ·rename_i h1
    unfold flowsE at h1 ⊢
    rw[if_neg (by omega)]at h1 ⊢
    split
    ·left;simp
    ·rename_i h2
     rw[if_neg h2]at h1
     exact .inr (firstAt_lo h1)
   ·rename_i h1
    rw[if_neg h1]at h
    exact .inr (firstAt_lo h)
  rcases key with h1|h1
  ·rw[bne_iff_ne.2 h1];rfl
  ·rw[decide_eq_true h1,Bool.or_true]
theorem mono_req {q:List Req}(h:q.Pairwise fun a b=>a.flow.id < b.flow.id)(x:Req):Mono (fun y:Req=>cmpI y.flow.id x.flow.id) q:=fun i j a b hij ha hb hlt=>by
 have h1:=List.pairwise_iff_getElem.1 h i j (List.getElem?_eq_some_iff.1 ha).1 (List.getElem?_eq_some_iff.1 hb).1 hij
 rw[(List.getElem?_eq_some_iff.1 ha).2,(List.getElem?_eq_some_iff.1 hb).2]at h1
 show cmpI a.flow.id x.flow.id < 0
 have hlt:cmpI b.flow.id x.flow.id < 0:=hlt
 unfold cmpI at hlt ⊢
 split at hlt
 ·rw[if_pos (by omega)];omega
 ·split at hlt<;>omega
theorem ids_up {n:Net}{q:List Req}(h:(reqE n q).2=0):q.Pairwise fun a b=>a.flow.id < b.flow.id:=by
 have h1:=flows_sorted (reqE_ok h).2.2.2
 unfold flowsQ at h1
 exact List.Pairwise.of_map Req.flow (fun a b h=>h) h1
theorem make_parts {n:Net}{q:List Req}{s:Sched}(h:(makeM n q s).2.2=0):(reqE n q).2=0∧VOk n (flowsQ q) s∧(∀y∈q,claimB n s y=true)∧makeM n q s=(q.map (claimM n s),-1,0):=by
 unfold makeM at h ⊢
 split at h
 ·rename_i hh;exact absurd h hh
 rename_i h1
 rw[if_neg h1]
 split at h
 ·cases h
 rename_i h2
 rw[if_neg h2]
 split at h
 ·rename_i hh;exact absurd h hh
 rename_i h3
 rw[if_neg h3]
 refine⟨by omega,schedE_ok (by omega),fun y hy=>?_,rfl⟩
 obtain⟨k,hk⟩:=List.getElem?_of_mem hy
 have h4:=firstAt_ok.1 (show(firstAt (lateAt n s q) q.length).2=0 by omega) k (List.getElem?_eq_some_iff.1 hk).1
 unfold lateAt at h4
 rw[hk]at h4
 simp only at h4
 split at h4
 ·rename_i hh;exact hh
 ·cases h4
theorem id_uniq {q:List Req}(h:q.Pairwise fun a b=>a.flow.id < b.flow.id){a b:Req}(ha:a∈q)(hb:b∈q)(he:a.flow.id=b.flow.id):a=b:=by
 obtain⟨i,hi⟩:=List.getElem?_of_mem ha
 obtain⟨j,hj⟩:=List.getElem?_of_mem hb
 have hil:=(List.getElem?_eq_some_iff.1 hi).1
 have hjl:=(List.getElem?_eq_some_iff.1 hj).1
 rcases Nat.lt_trichotomy i j with h1|h1|h1
 ·have:=List.pairwise_iff_getElem.1 h i j hil hjl h1
  rw[(List.getElem?_eq_some_iff.1 hi).2,(List.getElem?_eq_some_iff.1 hj).2]at this
  omega
 ·subst h1
  rw[hi]at hj;injection hj
 ·have:=List.pairwise_iff_getElem.1 h j i hjl hil h1
  rw[(List.getElem?_eq_some_iff.1 hi).2,(List.getElem?_eq_some_iff.1 hj).2]at this
  omega
theorem distC_le {n:Net}(hok:NetOk n){r r':List Cell}(h:r'.Sublist r)(node:Int):distC n r' node≤distC n r node:=by
 unfold distC
 induction h with
 | slnil=>exact Int.le_refl _
 | cons a _ ih=>
  have h1:=powN_bd hok a.src node
  have h2:=powN_bd hok a.dst node
  simp only[sumW];omega
 | cons_cons a _ ih=>simp only[sumW];omega
theorem cellR2_sub {n:Net}(hok:NetOk n){c:Cell}{r r':List Cell}(h:r'.Sublist r)(hc:cellR2 n c r):cellR2 n c r':=by
 obtain⟨h1,h2,h3⟩:=hc
 exact⟨fun d hd=>h1 d (h.subset hd),heard_anti hok h2 (distC_le hok (h.filter _) _),heard_anti hok h3 (distC_le hok (h.filter _) _)⟩
theorem rest_left {n:Net}(hok:NetOk n){A B:List Cell}(h:AllRest (cellR2 n) (A++B)):AllRest (cellR2 n) A:=fun i c hc=>by
 have hi:=(List.getElem?_eq_some_iff.1 hc).1
 have h1:=h i c (by rw[List.getElem?_append_left hi];exact hc)
 rw[List.eraseIdx_append_of_lt_length hi]at h1
 exact cellR2_sub hok (List.sublist_append_left _ _) h1
theorem cel_irr (a:Cell):¬a.cmp a < 0:=by unfold Cell.cmp;rw[cmpL_eq.2 rfl];decide
section
variable {n:Net} {s t:Sched} {p:Cell→Bool} {f:Flow} {r:List Int}
end
def getQ (q:List Req)(id:Int):Option Req:=q.find? fun x=>x.flow.id==id
def differB (after:List Req)(x:Req):Bool:=match getQ after x.flow.id with
 | some y=>decide (y.flow≠x.flow)
 | none=>false
def stayQ (before after:List Req)(id:Int):Option (Req×Req):=match getQ before id,getQ after id with
 | some x,some y=>some (x,y)
 | _,_=>none
def flowsA (before after:List Req):List Flow:=flowsQ before++(after.filter fun x=>!hasQ before x.flow.id).map Req.flow
def bothF (before after:List Req)(id:Int):Option Flow:=match getQ before id with
 | some x=>some x.flow
 | none=>(getQ after id).map Req.flow
def bothN (before after:List Req)(k:Nat):List Flow:=(List.range k).filterMap fun (id:Nat)=>bothF before after id
def bothM (before after:List Req):List Flow:=bothN before after 256
def wholeC (n:Net)(before after:List Req)(s:Sched):Int:=
 if (makeM n before s).2.2≠0∨(reqE n after).2≠0 then 1 else if before.any (differB after)=true then 11 else if (after.any fun x=>s.len % x.flow.period != 0)=true then 2 else if 16 < (bothM before after).length then 2 else 0
def earlyD (c:Chg)(per:Int)(d:Chg):Bool:=d.add&&(d.cell.flow==c.cell.flow&&decide (IntKind.i64.wrap (c.slot-d.slot) < per))
def earlyB (before after:List Req)(done:List Chg)(c:Chg):Bool:=!c.add&&match stayQ before after c.cell.flow with
 | some (x,_)=>done.any (earlyD c x.flow.period)
 | none=>false
def keepF (n:Net)(before after:List Req)(s:Sched)(f:Flow):Bool:=match stayQ before after f.id with
 | some (x,y)=>(leastM n s f (x.routes++y.routes)).2==0&&decide ((leastM n s f (x.routes++y.routes)).1≤f.dead)
 | none=>true
def keepB (n:Net)(before after:List Req)(s:Sched):Bool:=(bothM before after).all (keepF n before after s)
def ownQ (after:List Req)(s:Sched):Sched:=⟨s.len,s.offs,s.cells.filter fun c=>(getQ after c.flow).isSome⟩
def endsB (n:Net)(after:List Req)(s:Sched):Bool:=decide ((makeM n after (ownQ after s)).2.2=0)
def lastSlot (done:List Chg):Option Int:=done.getLast?.map Chg.slot
def stepC (n:Net)(before after:List Req)(done:List Chg)(s:Sched)(c:Chg):Int:=
 if chgE (lastSlot done) c≠0 then chgE (lastSlot done) c else if (chgM s c).2≠0 then(chgM s c).2 else if earlyB before after done c=true then 12
 else if (schedE n (bothM before after) (chgM s c).1).2≠0 then 16 else if keepB n before after (chgM s c).1=false then 15 else 0
def afterC (s:Sched)(l:List Chg):Sched:=l.foldl (fun s c=>(chgM s c).1) s
def faultC (n:Net)(before after:List Req)(s:Sched)(l:List Chg)(k:Nat):Int:=match l[k]? with
 | none=>0
 | some c=>stepC n before after (l.take k) (afterC s (l.take k)) c
def checkC (n:Net)(before after:List Req)(s:Sched)(l:List Chg):Int×Int:=
 if wholeC n before after s≠0 then(-1,wholeC n before after s) else if 1024 < l.length then(-1,8)
 else if (firstAt (faultC n before after s l) l.length).2≠0 then firstAt (faultC n before after s l) l.length
 else if endsB n after (afterC s l)=false then(-1,18) else(-1,0)
theorem afterC_snoc {s:Sched}{l:List Chg}{k:Nat}{c:Chg}(h:l[k]? = some c):afterC s (l.take (k+1))=(chgM (afterC s (l.take k)) c).1:=by
 unfold afterC
 rw[take_succ h,List.foldl_append];rfl
theorem getQ_some {q:List Req}{id:Int}{x:Req}(h:getQ q id=some x):x∈q∧x.flow.id=id:=by
 unfold getQ at h
 exact⟨List.mem_of_find?_eq_some h,by simpa using List.find?_some h⟩
theorem getQ_has (q:List Req)(id:Int):(getQ q id).isSome=hasQ q id:=by
 unfold getQ hasQ
 rw[Bool.eq_iff_iff,List.find?_isSome,List.any_eq_true]
theorem getQ_mem {q:List Req}(h:q.Pairwise fun a b=>a.flow.id < b.flow.id){x:Req}(hx:x∈q):getQ q x.flow.id=some x:=by
 cases hg:getQ q x.flow.id with
 | none=>
  have:=getQ_has q x.flow.id
  rw[hg]at this
  have h2:hasQ q x.flow.id=true:=List.any_eq_true.2 ⟨x,hx,by simp⟩
  rw[h2]at this;cases this
 | some y=>
  obtain⟨h1,h2⟩:=getQ_some hg
  rw[id_uniq h h1 hx h2]
theorem bothF_id {before after:List Req}{id:Int}{f:Flow}(h:bothF before after id=some f):f.id=id:=by
 unfold bothF at h
 cases hb:getQ before id with
 | some x=>
  rw[hb]at h
  simp only[Option.some.injEq]at h
  rw[←h];exact(getQ_some hb).2
 | none=>
  rw[hb]at h
  cases ha:getQ after id with
  | some y=>
   rw[ha]at h
   simp only[Option.map_some,Option.some.injEq]at h
   rw[←h];exact(getQ_some ha).2
  | none=>rw[ha]at h;cases h
theorem bothN_succ (before after:List Req)(k:Nat):bothN before after (k+1)=bothN before after k++(bothF before after k).toList:=by
 unfold bothN
 rw[List.range_succ,List.filterMap_append]
 congr 1
theorem bothN_ids {before after:List Req}:∀{k:Nat} {f:Flow},f∈bothN before after k→0≤f.id∧f.id < k
 | 0,_,h=>by simp[bothN]at h
 | k+1,f,h=>by
  rw[bothN_succ]at h
  rcases List.mem_append.1 h with h|h
  ·have:=bothN_ids h;omega
  ·have:bothF before after k=some f:=by
    cases hb:bothF before after (k:Int) with
    | none=>rw[hb]at h;cases h
    | some g=>rw[hb]at h;simp at h;rw[h]
   have:=bothF_id this;omega
theorem bothN_sorted (before after:List Req):∀k:Nat,(bothN before after k).Pairwise fun a b=>a.id < b.id
 | 0=>by simp[bothN]
 | k+1=>by
  rw[bothN_succ]
  refine List.pairwise_append.2 ⟨bothN_sorted before after k,?_,fun a ha b hb=>?_⟩
  ·cases bothF before after (k:Int)<;>simp
  ·have h1:=bothN_ids ha
   have h2:b.id=k:=by
    cases hg:bothF before after (k:Int) with
    | none=>rw[hg]at hb;cases hb
    | some g=>rw[hg]at hb;simp at hb;rw[hb];exact bothF_id hg
   omega
theorem bothN_mem {before after:List Req}{f:Flow}:∀{k:Nat},f∈bothN before after k↔0≤f.id∧f.id < k∧bothF before after f.id=some f
 | 0=>by simp[bothN];intro h1 h2;omega
 | k+1=>by
  rw[bothN_succ,List.mem_append,bothN_mem (k:=k)]
  constructor
  ·rintro (⟨h1,h2,h3⟩|h)
   ·exact⟨h1,by omega,h3⟩
   ·cases hg:bothF before after (k:Int) with
    | none=>rw[hg]at h;cases h
    | some g=>
     rw[hg]at h;simp at h
     subst h
     have:=bothF_id hg
     rw[this]
     exact⟨by omega,by omega,hg⟩
  ·rintro⟨h1,h2,h3⟩
   by_cases hk:f.id=k
   ·right;rw[←hk,h3];simp
   ·left;exact⟨h1,by omega,h3⟩
structure ReqsOk (q:List Req):Prop where
 sorted:q.Pairwise fun a b=>a.flow.id < b.flow.id
 ids:∀x∈q,0≤x.flow.id∧x.flow.id≤255
theorem reqsOk {n:Net}{q:List Req}(h:(reqE n q).2=0):ReqsOk q where
 sorted:=ids_up h
 ids:=fun x hx=>by
  have:=flowE_ok ((reqE_ok h).2.2.1 x hx).flow
  omega
theorem flowsA_mem {before after:List Req}(hb:ReqsOk before)(ha:ReqsOk after){f:Flow}:f∈flowsA before after↔f∈bothM before after:=by
 unfold bothM
 rw[bothN_mem]
 unfold flowsA flowsQ
 rw[List.mem_append,List.mem_map,List.mem_map]
 constructor
 ·rintro (⟨x,hx,rfl⟩|⟨y,hy,rfl⟩)
  ·have:=hb.ids x hx
   refine⟨this.1,by omega,?_⟩
   unfold bothF
   rw[getQ_mem hb.sorted hx]
  ·obtain⟨h1,h2⟩:=List.mem_filter.1 hy
   have:=ha.ids y h1
   refine⟨this.1,by omega,?_⟩
   unfold bothF
   have hn:getQ before y.flow.id=none:=by
    have:=getQ_has before y.flow.id
    cases hg:getQ before y.flow.id with
    | none=>rfl
    | some z=>rw[hg]at this;rw[←this]at h2;simp at h2
   rw[hn,getQ_mem ha.sorted h1];rfl
 ·rintro⟨_,_,h⟩
  unfold bothF at h
  cases hg:getQ before f.id with
  | some x=>
   rw[hg]at h
   simp only[Option.some.injEq]at h
   exact .inl ⟨x,(getQ_some hg).1,h⟩
  | none=>
   rw[hg]at h
   cases hy:getQ after f.id with
   | none=>rw[hy]at h;cases h
   | some y=>
    rw[hy]at h
    simp only[Option.map_some,Option.some.injEq]at h
    refine .inr ⟨y,List.mem_filter.2 ⟨(getQ_some hy).1,?_⟩,h⟩
    have:=getQ_has before y.flow.id
    rw[(getQ_some hy).2,hg]at this
    rw[(getQ_some hy).2,←this];rfl
theorem flowsA_nodup {before after:List Req}(hb:ReqsOk before)(ha:ReqsOk after):(flowsA before after).Pairwise fun a b=>a.id≠b.id:=by
 unfold flowsA flowsQ
 refine List.pairwise_append.2 ⟨?_,?_,fun a hm b hm2=>?_⟩
 ·rw[List.pairwise_map];exact hb.sorted.imp fun h=>by omega
 ·rw[List.pairwise_map];exact(ha.sorted.filter _).imp fun h=>by omega
 ·obtain⟨x,hx,rfl⟩:=List.mem_map.1 hm
  obtain⟨y,hy,rfl⟩:=List.mem_map.1 hm2
  have h2:=(List.mem_filter.1 hy).2
  intro he
  have:hasQ before y.flow.id=true:=List.any_eq_true.2 ⟨x,hx,by simpa using he⟩
  rw[this]at h2;cases h2
theorem both_eq {before after:List Req}(hb:ReqsOk before)(ha:ReqsOk after){ds:List Flow}(hp:ds.Perm (flowsA before after))(hs:ds.Pairwise fun a b=>¬b.id < a.id):ds=bothM before after:=by
 have hn:ds.Pairwise fun a b=>a.id≠b.id:=(flowsA_nodup hb ha).perm hp.symm fun h=>Ne.symm h
 refine strict_ext (lt:=fun a b:Flow=>a.id < b.id) (fun a=>by omega) (fun a b h1 h2=>by omega) ((hs.and hn).imp fun⟨h1,h2⟩=>by omega) (bothN_sorted _ _ _) fun f=>?_
 rw[hp.mem_iff,flowsA_mem hb ha]
theorem both_len {before after:List Req}(hb:ReqsOk before)(ha:ReqsOk after):(bothM before after).length=(flowsA before after).length:=by
 have hperm:=List.mergeSort_perm (flowsA before after) fun a b=>decide (a.id≤b.id)
 have hs:=List.pairwise_mergeSort (le:=fun a b:Flow=>decide (a.id≤b.id)) (fun a b c h1 h2=>decide_eq_true (Int.le_trans (of_decide_eq_true h1) (of_decide_eq_true h2))) (fun a b=>by simp only[Bool.or_eq_true,decide_eq_true_eq];omega) (flowsA before after)
 rw[←both_eq hb ha hperm (hs.imp fun h=>by simp at h;omega),hperm.length_eq]
def stayB (before after:List Req)(id:Int):Bool:=match stayQ before after id with
 | some (x,y)=>decide (x.flow=y.flow)
 | none=>false
structure WholeOk (n:Net)(before after:List Req)(s:Sched):Prop where
 n0:netE n=0
 rb:(reqE n before).2=0
 ra:(reqE n after).2=0
 same:∀x∈before,∀y,getQ after x.flow.id=some y→y.flow=x.flow
 pb:∀x∈before,s.len % x.flow.period=0
 pa:∀x∈after,s.len % x.flow.period=0
 vok:VOk n (flowsQ before) s
theorem wholeC_ok {n:Net}{before after:List Req}{s:Sched}(h:wholeC n before after s=0):WholeOk n before after s:=by
 unfold wholeC at h
 split at h
 ·cases h
 rename_i h1
 simp only[not_or,ne_eq,Decidable.not_not]at h1
 split at h
 ·cases h
 rename_i h2
 split at h
 ·cases h
 rename_i h3
 obtain⟨a1,a2,_,_⟩:=make_parts h1.1
 refine⟨a2.n0,a1,h1.2,fun x hx y hy=>?_,fun x hx=>a2.per x.flow (List.mem_map.2 ⟨x,hx,rfl⟩),fun x hx=>?_,a2⟩
 ·have:=List.any_eq_false.1 (Bool.eq_false_iff.2 h2) x hx
  unfold differB at this
  rw[hy]at this
  simpa using this
 ·have:=List.any_eq_false.1 (Bool.eq_false_iff.2 h3) x hx
  simpa using this
theorem ids_hasQ (q:List Req)(id:Int):idsB (flowsQ q) id=(getQ q id).isSome:=by
 rw[getQ_has]
 unfold idsB flowsQ hasQ
 rw[List.any_map];rfl
theorem VOk.part2 {n:Net}{l l':List Flow}{s:Sched}(h:VOk n l s)(p:Cell→Bool)(hf:(flowsE n.nodes l').2=0)(hper:∀f∈l',s.len % f.period=0)(hp:∀c∈s.cells,p c=true→idsB l' c.flow=true):(schedE n l' ⟨s.len,s.offs,s.cells.filter p⟩).2=0:=by
 have hperm:s.cells.Perm (s.cells.filter p++s.cells.filter fun c=>!p c):=(List.filter_append_perm p s.cells).symm
 have hrest:=rest_left h.net (AllRest.perm (fun c r r'=>cellR2_perm c r r') h.rest hperm)
 have hso:=(h.sorted.filter p)
 refine schedE_of h.n0 hf h.size hper (Nat.le_trans (List.length_filter_le _ _) h.many) (fun i c hc=>?_) hrest
 obtain⟨hcm,hcp⟩:=List.mem_filter.1 (List.mem_of_getElem? hc)
 obtain⟨j,hj⟩:=List.getElem?_of_mem hcm
 obtain⟨h1,h2,_,_⟩:=h.cell j c hj
 refine⟨h1,h2,hp c hcm hcp,?_⟩
 unfold ordC
 cases i with
 | zero=>rfl
 | succ j=>
  simp only at hc ⊢
  cases hq:(s.cells.filter p)[j]? with
  | none=>rfl
  | some d=>
   refine decide_eq_true ?_
   obtain⟨hi,rfl⟩:=List.getElem?_eq_some_iff.1 hc
   obtain⟨hj,rfl⟩:=List.getElem?_eq_some_iff.1 hq
   exact List.pairwise_iff_getElem.1 hso j (j+1) hj hi (by omega)
def wrongE (s:Sched)(l:List Chg):Int:=if formB s=false then 1 else if 1024 < l.length then 8 else(behM none s l).2
def uptoW (l:List Chg)(t:Int):List Chg:=l.takeWhile fun c=>decide (c.slot≤t)
def applyP (s:Sched)(l:List Chg)(t:Int):Sched×Int:=if wrongE s l≠0 then(⟨0,0,[]⟩,wrongE s l) else(afterC s (uptoW l t),0)
theorem ready0 (s:Sched):readyM [] s [] 0=if formB s=false then 1 else 0:=by
 unfold readyM
 have h1:(flowsE 32 []).2=0:=by decide
 have h2:(scriptM []).2=0:=by decide
 by_cases hf:formB s=false
 ·rw[if_pos hf,if_pos (.inr (.inl hf))]
 ·rw[if_neg hf,if_neg (by simp[h1,h2,hf]),if_neg (by omega)]
theorem wrong_eq (s:Sched)(l:List Chg):(changeM [] s l [] 0).2=wrongE s l:=by
 unfold changeM wrongE
 rw[ready0]
 by_cases hf:formB s=false
 ·rw[if_pos hf,if_pos hf,if_pos (by decide)]
 ·rw[if_neg hf,if_neg hf,if_neg (by decide)]
  split
  ·rfl
  split
  ·rfl
  ·rename_i h
   have h2:(behM none s l).2=0:=by omega
   exact h2.symm
def lastAdd (out:List Chg)(id:Int):Option Int:=((out.filter fun d=>d.add&&d.cell.flow==id).getLast?).map Chg.slot
def flowOf (l:List Flow)(id:Int):Option Flow:=l.find? fun f=>f.id==id
def timeN (flows:List Flow)(out:List Chg)(t:Int)(c:Chg):Int:=if c.add=true then t else match flowOf flows c.cell.flow,lastAdd out c.cell.flow with
 | some f,some a=>max t (a+f.period)
 | _,_=>t
def timeG (flows:List Flow):Int→List Chg→List Chg→Option (List Chg)
 | _,out,[]=>some out
 | t,out,c :: cs=>if 1048576 < timeN flows out t c then none else timeG flows (timeN flows out t c) (out++[⟨timeN flows out t c,c.add,c.cell⟩]) cs
def timeM (flows:List Flow)(l:List Chg)(fr:Int):List Chg×Int:=
 if (flowsE 32 flows).2≠0 then([],1) else if fr < 0∨1048576 < fr then([],2) else if 1024 < l.length then([],8) else match timeG flows fr [] l with
 | none=>([],2)
 | some o=>(o,0)
theorem lastAdd_app (out:List Chg)(c:Chg)(id:Int):lastAdd (out++[c]) id=if (c.add&&c.cell.flow==id)=true then some c.slot else lastAdd out id:=by
 unfold lastAdd
 rw[List.filter_append]
 by_cases h:(c.add&&c.cell.flow==id)=true
 ·rw[if_pos h,show [c].filter (fun d=>d.add&&d.cell.flow==id)=[c] from List.filter_cons_of_pos (p:=fun d:Chg=>d.add&&d.cell.flow==id) h];simp
 ·rw[if_neg h,show [c].filter (fun d=>d.add&&d.cell.flow==id)=[] from List.filter_cons_of_neg (p:=fun d:Chg=>d.add&&d.cell.flow==id) h];simp
theorem flowOf_find (l:List Flow)(id:Int):(findF l id=-1∧flowOf l id=none)∨∃(k:Nat) (f:Flow),findF l id=k∧l[k]? = some f∧flowOf l id=some f:=by
 by_cases hneg:idxF (fun f:Flow=>f.id==id) l=-1
 ·refine .inl ⟨hneg,?_⟩
  have hnone:=idxF_none_iff hneg
  unfold flowOf
  rw[List.find?_eq_none]
  intro x hx
  obtain⟨k,hk⟩:=List.getElem?_of_mem hx
  simpa using hnone k x hk
 ·obtain⟨k,f,e1,e2,e3⟩:=idxF_at hneg
  obtain⟨_,_,_,e4⟩:=idxF_first e1
  have hkl:=(List.getElem?_eq_some_iff.1 e2).1
  refine .inr ⟨k,f,e1,e2,?_⟩
  unfold flowOf
  rw[List.find?_eq_some_iff_getElem]
  refine⟨e3,k,hkl,(List.getElem?_eq_some_iff.1 e2).2,fun j hj=>?_⟩
  have h4:=e4 j l[j] hj (List.getElem?_eq_getElem (by omega))
  simpa using h4
deriving instance DecidableEq for Chg
theorem idxF_find {α:Type}(p:α→Bool)(l:List α):(idxF p l=-1∧l.find? p=none)∨∃(k:Nat) (x:α),idxF p l=k∧l[k]? = some x∧l.find? p=some x:=by
 by_cases hneg:idxF p l=-1
 ·refine .inl ⟨hneg,?_⟩
  have hnone:=idxF_none_iff hneg
  rw[List.find?_eq_none]
  intro x hx
  obtain⟨k,hk⟩:=List.getElem?_of_mem hx
  simpa using hnone k x hk
 ·obtain⟨k,f,e1,e2,e3⟩:=idxF_at hneg
  obtain⟨_,_,_,e4⟩:=idxF_first e1
  have hkl:=(List.getElem?_eq_some_iff.1 e2).1
  refine .inr ⟨k,f,e1,e2,?_⟩
  rw[List.find?_eq_some_iff_getElem]
  refine⟨e3,k,hkl,(List.getElem?_eq_some_iff.1 e2).2,fun j hj=>?_⟩
  have h4:=e4 j l[j] hj (List.getElem?_eq_getElem (by omega))
  simpa using h4
def req0:Req:=⟨⟨0,0,0,0,0,0⟩,[]⟩
def getD (q:List Req)(id:Int):Req:=(getQ q id).getD req0
def movCs (n:Net)(before after:List Req)(flows:AV)(s:Sched)(done:AV):List AV:=[.int .i64 n.nodes,encRows n.power,.int .i64 n.noise,.int .i64 n.thr,encLinks n.links,encIs n.margin,encReqs before,encReqs after,flows,.int .i64 s.len,.int .i64 s.offs,encCells s.cells,done]
def movAv (n:Net)(before after:List Req)(flows:List Flow)(s:Sched)(done:List Chg):AV:=.agg (movCs n before after (encFlows flows) s (encChgs done))
def waitE (before after:List Req)(done:List Chg)(c:Chg):Int:=if earlyB before after done c=true then 12 else 0
theorem early_at {before after:List Req}{done:List Chg}{c:Chg}:earlyB before after done c=((((getQ before c.cell.flow).isSome&&(getQ after c.cell.flow).isSome)&&!c.add)&&done.any fun d=>d.add&&(d.cell.flow==(getD before c.cell.flow).flow.id&&decide (IntKind.i64.wrap (c.slot-d.slot) < (getD before c.cell.flow).flow.period))):=by
 unfold earlyB stayQ getD
 cases hb:getQ before c.cell.flow with
 | none=>simp
 | some x=>
  cases ha:getQ after c.cell.flow with
  | none=>simp
  | some y=>
   have hx:=(getQ_some hb).2
   simp only[Option.getD_some,Option.isSome_some,Bool.true_and]
   congr 1
   unfold earlyD
   rw[hx]
theorem keep_at {n:Net}{before after:List Req}{s:Sched}{f:Flow}:keepF n before after s f=(!((getQ before f.id).isSome&&(getQ after f.id).isSome)||((leastM n s f ((getD before f.id).routes++(getD after f.id).routes)).2==0&&decide ((leastM n s f ((getD before f.id).routes++(getD after f.id).routes)).1≤f.dead))):=by
 unfold keepF stayQ getD
 cases hb:getQ before f.id with
 | none=>simp
 | some x=>
  cases ha:getQ after f.id with
  | none=>simp
  | some y=>simp
def orE (b o:Int):Int:=IntKind.i64.wrap (BitVec.ofInt IntKind.i64.bits b ||| BitVec.ofInt IntKind.i64.bits (IntKind.i64.wrap (1*2 ^ (min o.toNat IntKind.i64.bits)))).toNat
def busF (l:List Cell):Int:=l.foldl (fun b c=>orE b c.off) 0
def busyP (s:Sched)(l:List Chg)(t:Int):Int×Int:=if (applyP s l t).2≠0 then(0,(applyP s l t).2) else if t < 0 then(0,2) else(busF (atM (applyP s l t).1 t),0)
theorem lastAdd_mem {o:List Chg}{id a:Int}(h:lastAdd o id=some a):∃d∈o,d.slot=a:=by
 unfold lastAdd at h
 obtain⟨d,h1,h2⟩:=Option.map_eq_some_iff.1 h
 exact⟨d,(List.mem_filter.1 (List.mem_of_getLast? h1)).1,h2⟩
theorem timeN_ge (flows:List Flow)(o:List Chg)(t:Int)(c:Chg):t≤timeN flows o t c:=by
 unfold timeN
 repeat' split
 all_goals omega
theorem flowsE_of {nodes:Int}{l:List Flow}(h1:2≤nodes)(h2:nodes≤32)(hl:l.length≤16)(hf:∀f∈l,flowE nodes f=0)(hs:l.Pairwise fun a b=>a.id < b.id):(flowsE nodes l).2=0:=by
 unfold flowsE
 rw[if_neg (by omega),if_neg (by omega),firstAt_ok]
 intro j hj
 unfold flowAt
 rw[List.getElem?_eq_getElem hj]
 simp only
 rw[if_neg (by rw[hf _ (List.getElem_mem hj)];decide),if_neg]
 rw[Bool.not_eq_false]
 unfold flowO
 cases j with
 | zero=>rfl
 | succ i=>
  simp only
  rw[List.getElem?_eq_getElem (by omega)]
  exact decide_eq_true (List.pairwise_iff_getElem.1 hs i (i+1) (by omega) hj (by omega))
theorem flowsE_nodes {nodes:Int}{l:List Flow}(h:(flowsE nodes l).2=0):2≤nodes∧nodes≤32:=by
 unfold flowsE at h
 split at h
 ·cases h
 ·omega
theorem flowE_32 {nodes:Int}{f:Flow}(h:flowE nodes f=0)(h2:nodes≤32):flowE 32 f=0:=by
 have:=flowE_ok h
 unfold flowE
 rw[if_neg (by simp[insB];omega),if_neg (by omega),if_neg (by omega)]
theorem both_flows {n:Net}{before after:List Req}{s:Sched}(h:wholeC n before after s=0):(flowsE n.nodes (bothM before after)).2=0:=by
 have hW:=wholeC_ok h
 obtain⟨_,_,b3,b4⟩:=reqE_ok hW.rb
 obtain⟨_,_,a3,_⟩:=reqE_ok hW.ra
 obtain⟨n2,n32⟩:=flowsE_nodes b4
 refine flowsE_of n2 n32 ?_ (fun f hf=>?_) (bothN_sorted _ _ _)
 ·unfold wholeC at h
  split at h
  ·cases h
  split at h
  ·cases h
  split at h
  ·cases h
  split at h
  ·cases h
  ·omega
 ·have h3:=(bothN_mem.1 hf).2.2
  unfold bothF at h3
  cases hg:getQ before f.id with
  | some x=>
   rw[hg]at h3
   simp only[Option.some.injEq]at h3
   rw[←h3];exact(b3 x (getQ_some hg).1).flow
  | none=>
   rw[hg]at h3
   cases hy:getQ after f.id with
   | none=>rw[hy]at h3;cases h3
   | some y=>
    rw[hy]at h3
    simp only[Option.map_some,Option.some.injEq]at h3
    rw[←h3];exact(a3 y (getQ_some hy).1).flow
theorem both_has {before after:List Req}{id:Int}(h:idsB (flowsQ before) id=true)(hr:0≤id∧id≤255):idsB (bothM before after) id=true:=by
 rw[ids_hasQ]at h
 cases hg:getQ before id with
 | none=>rw[hg]at h;cases h
 | some x=>
  refine List.any_eq_true.2 ⟨x.flow,bothN_mem.2 ?_,by simp[(getQ_some hg).2]⟩
  have hid:=(getQ_some hg).2
  rw[hid]
  refine⟨hr.1,by omega,?_⟩
  unfold bothF
  rw[hg]
theorem both_per {n:Net}{before after:List Req}{s:Sched}(hW:WholeOk n before after s):∀f∈bothM before after,s.len % f.period=0:=fun f hf=>by
 have h3:=(bothN_mem.1 hf).2.2
 unfold bothF at h3
 cases hg:getQ before f.id with
 | some x=>
  rw[hg]at h3
  simp only[Option.some.injEq]at h3
  rw[←h3];exact hW.pb x (getQ_some hg).1
 | none=>
  rw[hg]at h3
  cases hy:getQ after f.id with
  | none=>rw[hy]at h3;cases h3
  | some y=>
   rw[hy]at h3
   simp only[Option.map_some,Option.some.injEq]at h3
   rw[←h3];exact hW.pa y (getQ_some hy).1
theorem both_valid {n:Net}{before after:List Req}{s:Sched}(h:wholeC n before after s=0):(schedE n (bothM before after) s).2=0:=by
 have hW:=wholeC_ok h
 have:=hW.vok.part2 (fun _=>true) (both_flows h) (both_per hW) fun c hc _=>by
  obtain⟨i,hi⟩:=List.getElem?_of_mem hc
  have hid:=(hW.vok.cell i c hi).2.2.1
  refine both_has hid ?_
  rw[ids_hasQ]at hid
  cases hg:getQ before c.flow with
  | none=>rw[hg]at hid;cases hid
  | some x=>
   obtain⟨m1,m2⟩:=getQ_some hg
   have:=(reqsOk hW.rb).ids x m1
   omega
 rwa [List.filter_eq_self.2 (fun _ _=>rfl)]at this
structure CkOk (n:Net)(before after:List Req)(s:Sched)(l:List Chg):Prop where
 whole:wholeC n before after s=0
 few:l.length≤1024
 step:∀(k:Nat) c,l[k]? = some c→stepC n before after (l.take k) (afterC s (l.take k)) c=0
 ends:endsB n after (afterC s l)=true
theorem ckOk {n:Net}{before after:List Req}{s:Sched}{l:List Chg}(h:(checkC n before after s l).2=0):CkOk n before after s l:=by
 unfold checkC at h
 split at h
 ·rename_i h1;exact absurd h h1
 split at h
 ·cases h
 split at h
 ·rename_i h1;exact absurd h h1
 split at h
 ·cases h
 rename_i h1 h2 h3 h4
 refine⟨by omega,by omega,fun k c hk=>?_,by simpa using h4⟩
 have h5:=firstAt_ok.1 (by omega:(firstAt (faultC n before after s l) l.length).2=0) k (List.getElem?_eq_some_iff.1 hk).1
 unfold faultC at h5
 rw[hk]at h5
 exact h5
theorem CkOk.check {n:Net}{before after:List Req}{s:Sched}{l:List Chg}(h:CkOk n before after s l):checkC n before after s l=(-1,0):=by
 have h5:firstAt (faultC n before after s l) l.length=(-1,0):=firstAt_zero fun j hj=>by
  unfold faultC
  rw[List.getElem?_eq_getElem hj]
  exact h.step j _ (List.getElem?_eq_getElem hj)
 have:=h.few
 unfold checkC
 rw[if_neg (by rw[h.whole];decide),if_neg (by omega),if_neg (by rw[h5];decide),if_neg (by rw[h.ends];decide)]
theorem step_zero {n:Net}{before after:List Req}{done:List Chg}{s:Sched}{c:Chg}:stepC n before after done s c=0↔chgE (lastSlot done) c=0∧(chgM s c).2=0∧earlyB before after done c=false∧(schedE n (bothM before after) (chgM s c).1).2=0∧keepB n before after (chgM s c).1=true:=by
 unfold stepC
 constructor
 ·intro h
  split at h
  ·rename_i h1;exact absurd h h1
  split at h
  ·rename_i h1;exact absurd h h1
  split at h
  ·cases h
  split at h
  ·cases h
  split at h
  ·cases h
  rename_i h1 h2 h3 h4 h5
  exact⟨by omega,by omega,by simpa using h3,by omega,by simpa using h5⟩
 ·rintro⟨h1,h2,h3,h4,h5⟩
  rw[if_neg (by omega),if_neg (by omega),if_neg (by rw[h3];decide),if_neg (by omega),if_neg (by rw[h5];decide)]
theorem lastSlot_snoc (l:List Chg)(c:Chg):lastSlot (l++[c])=some c.slot:=by unfold lastSlot;simp
theorem chgE_zero {p:Option Int}{c:Chg}(h:chgE p c=0):0≤c.slot∧∀q,p=some q→q≤c.slot:=by
 unfold chgE at h
 split at h
 ·cases h
 refine⟨by omega,fun q hq=>?_⟩
 subst hq
 simp only at h
 split at h
 ·cases h
 ·omega
theorem beh_of {s:Sched}:∀(rest done:List Chg),(∀(k:Nat) c,rest[k]? = some c→chgE (lastSlot (done++rest.take k)) c=0∧(chgM (afterC s (done++rest.take k)) c).2=0)→(behM (lastSlot done) (afterC s done) rest).2=0
 | [],_,_=>rfl
 | c :: rest,done,h=>by
  have h0:=h 0 c rfl
  rw[List.take_zero,List.append_nil]at h0
  have ih:=beh_of (s:=s) rest (done++[c]) fun k d hk=>by
   have:=h (k+1) d hk
   rw[List.take_succ_cons,List.append_cons]at this
   exact this
  unfold behM
  rw[if_neg (by omega),if_neg (by omega)]
  simp only
  rw[lastSlot_snoc]at ih
  have e:afterC s (done++[c])=(chgM (afterC s done) c).1:=by unfold afterC;rw[List.foldl_append];rfl
  rw[e]at ih
  exact ih
section
variable {n:Net} {before after:List Req} {s:Sched} {l:List Chg}
theorem CkOk.wrong (h:CkOk n before after s l):wrongE s l=0:=by
 have hW:=wholeC_ok h.whole
 have:=h.few
 unfold wrongE
 rw[if_neg (by rw[hW.vok.form];decide),if_neg (by omega)]
 refine beh_of l [] fun k c hk=>?_
 have:=step_zero.1 (h.step k c hk)
 exact⟨this.1,this.2.1⟩
theorem CkOk.apply (h:CkOk n before after s l)(t:Int):applyP s l t=(afterC s (uptoW l t),0):=by
 unfold applyP
 rw[if_neg (by rw[h.wrong];decide)]
theorem CkOk.valid (h:CkOk n before after s l):∀k,(schedE n (bothM before after) (afterC s (l.take k))).2=0
 | 0=>both_valid h.whole
 | k+1=>by
  cases hk:l[k]? with
  | none=>
   have hl:l.length≤k:=by
    rcases Nat.lt_or_ge k l.length with h|h
    ·rw[List.getElem?_eq_getElem h]at hk;cases hk
    ·exact h
   have:=h.valid k
   rw[List.take_of_length_le hl]at this
   rw[List.take_of_length_le (by omega)]
   exact this
  | some c=>
   rw[afterC_snoc hk]
   exact(step_zero.1 (h.step k c hk)).2.2.2.1
end
end HM
