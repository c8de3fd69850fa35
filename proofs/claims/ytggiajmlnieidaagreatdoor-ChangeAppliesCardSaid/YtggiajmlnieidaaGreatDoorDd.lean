/- Whether a schedule is valid. -/
import Derived.Test.YtggiajmlnieidaaGreatDoorDb
import Derived.Test.YtggiajmlnieidaaGreatDoorDa
import Derived.Test.YtggiajmlnieidaaGreatDoorDc
namespace HM
open Go Go.RowKit
def idsB (l:List Flow)(id:Int):Bool:=l.any fun f=>f.id==id
def ordC (cs:List Cell)(i:Nat)(c:Cell):Bool:=match i with
 | 0=>true
 | j+1=>match cs[j]? with
  | some p=>decide (p.cmp c < 0)
  | none=>true
def cellF (n:Net)(l:List Flow)(s:Sched)(i:Nat):Int:=match s.cells[i]? with
 | none=>0
 | some c=>if placedB s c=false then 2 else if goodL n c.src c.dst=false∨idsB l c.flow=false then 7 else if ordC s.cells i c=false then 5 else 0
def twAt (cs:List Cell)(c:Cell)(k:Nat):Bool:=match cs[k]? with
 | some d=>d.slot==c.slot&&touchB c d
 | none=>false
def twiceM (cs:List Cell)(i:Nat):Bool:=match cs[i]? with
 | none=>false
 | some c=>(List.range i).any (twAt cs c)
def shareB (c d:Cell):Bool:=d.slot==c.slot&&d.off==c.off
def shareL (cs:List Cell)(c:Cell):List Cell:=cs.filter (shareB c)
def shareAt (cs:List Cell)(c:Cell)(i:Nat):Nat:=((cs.take i).filter (shareB c)).length
def disturbB (n:Net)(cs:List Cell)(i:Nat):Bool:=match cs[i]? with
 | none=>false
 | some c=>!heardB n (marginAt n c.src c.dst) (distM n (shareL cs c) (shareAt cs c i) c.dst)||!heardB n (marginAt n c.dst c.src) (distM n (shareL cs c) (shareAt cs c i) c.src)
def twI (cs:List Cell)(i:Nat):Int:=if twiceM cs i then 6 else 0
def dsI (n:Net)(cs:List Cell)(i:Nat):Int:=if disturbB n cs i then 16 else 0
def mism (s:Sched)(f:Flow):Bool:=s.len % f.period != 0
def schedE (n:Net)(l:List Flow)(s:Sched):Int×Int:=
 if netE n≠0∨(flowsE n.nodes l).2≠0 then(-1,1) else if sizedB s=false then(-1,2) else if l.any (mism s) then(-1,11) else if 512 < s.cells.length then(-1,8)
 else if (firstAt (cellF n l s) s.cells.length).2≠0 then firstAt (cellF n l s) s.cells.length
 else if (firstAt (twI s.cells) s.cells.length).2≠0 then firstAt (twI s.cells) s.cells.length
 else firstAt (dsI n s.cells) s.cells.length
structure VOk (n:Net)(l:List Flow)(s:Sched):Prop where
 net:NetOk n
 n0:netE n=0
 flows:(flowsE n.nodes l).2=0
 size:sizedB s=true
 per:∀f∈l,s.len % f.period=0
 many:s.cells.length≤512
 cell:∀(i:Nat) c,s.cells[i]? = some c→placedB s c=true∧goodL n c.src c.dst=true∧idsB l c.flow=true∧ordC s.cells i c=true
 once:∀(i j:Nat) c d,j < i→s.cells[i]? = some c→s.cells[j]? = some d→d.slot=c.slot→touchB c d=false
 heard:∀(i:Nat),i < s.cells.length→disturbB n s.cells i=false
theorem schedE_ok {n:Net}{l:List Flow}{s:Sched}(h:(schedE n l s).2=0):VOk n l s:=by
 unfold schedE at h
 split at h
 ·cases h
 rename_i h1
 split at h
 ·cases h
 rename_i h2
 split at h
 ·cases h
 rename_i h3
 split at h
 ·cases h
 rename_i h4
 split at h
 ·rename_i hh;exact absurd h hh
 rename_i h5
 split at h
 ·rename_i hh;exact absurd h hh
 rename_i h6
 have h5:(firstAt (cellF n l s) s.cells.length).2=0:=by omega
 have h6:(firstAt (twI s.cells) s.cells.length).2=0:=by omega
 rw[firstAt_ok]at h5 h6 h
 refine⟨netE_ok (by omega),by omega,by omega,by simpa using h2,fun f hf=>?_,by omega,fun i c hc=>?_,fun i j c d hji hc hd hs=>?_,fun i hi=>?_⟩
 ·have:=List.any_eq_false.1 (by simpa using h3) f hf
  simpa[mism] using this
 ·have:=h5 i (List.getElem?_eq_some_iff.1 hc).1
  unfold cellF at this
  rw[hc]at this
  simp only at this
  split at this
  ·cases this
  rename_i g1
  split at this
  ·cases this
  rename_i g2
  split at this
  ·cases this
  rename_i g3
  simp only[not_or,Bool.not_eq_false]at g1 g2 g3
  exact⟨g1,g2.1,g2.2,g3⟩
 ·have:=h6 i (List.getElem?_eq_some_iff.1 hc).1
  unfold twI twiceM at this
  rw[hc]at this
  simp only at this
  split at this
  ·cases this
  rename_i g
  have g2:=List.any_eq_false.1 (Bool.eq_false_iff.2 g) j (by simpa using hji)
  unfold twAt at g2
  rw[hd]at g2
  cases ht:touchB c d with
  | false=>rfl
  | true=>simp[hs,ht]at g2
 ·have:=h i hi
  unfold dsI at this
  split at this
  ·cases this
  ·rename_i g;simpa using g
theorem touchB_comm (a b:Cell):touchB a b=touchB b a:=by
 unfold touchB
 rw[Bool.eq_iff_iff]
 simp only[Bool.or_eq_true,beq_iff_eq]
 constructor
 ·rintro (((h|h)|h)|h)<;>simp[h]
 ·rintro (((h|h)|h)|h)<;>simp[h]
theorem VOk.apart {n:Net}{l:List Flow}{s:Sched}(h:VOk n l s){i j:Nat}{c d:Cell}(hc:s.cells[i]? = some c)(hd:s.cells[j]? = some d)(hij:i≠j)(hs:c.slot=d.slot):touchB c d=false:=by
 rcases Nat.lt_or_gt_of_ne hij with h1|h1
 ·rw[touchB_comm];exact h.once j i d c h1 hd hc hs
 ·exact h.once i j c d h1 hc hd hs.symm
theorem VOk.sorted {n:Net}{l:List Flow}{s:Sched}(h:VOk n l s):s.cells.Pairwise fun a b=>a.cmp b < 0:=by
 refine List.pairwise_iff_getElem.2 fun i j hi hj hij=>?_
 obtain⟨e,rfl⟩:∃e,j=i+e+1:=⟨j-i-1,by omega⟩
 induction e with
 | zero=>
  have:=(h.cell (i+0+1) _ (List.getElem?_eq_getElem hj)).2.2.2
  unfold ordC at this
  simp only[Nat.add_zero]at this
  rw[List.getElem?_eq_getElem hi]at this
  simpa using this
 | succ e ih=>
  have h1:=ih (by omega) (by omega)
  have:=(h.cell (i+(e+1)+1) _ (List.getElem?_eq_getElem hj)).2.2.2
  unfold ordC at this
  simp only at this
  rw[List.getElem?_eq_getElem (by omega:i+(e+1) < s.cells.length)]at this
  exact cmpL_trans h1 (of_decide_eq_true this)
theorem VOk.at {n:Net}{l:List Flow}{s:Sched}(h:VOk n l s){c:Cell}(hc:c∈s.cells):0≤c.slot∧c.slot < s.len∧0≤c.off∧c.off < s.offs∧goodL n c.src c.dst=true∧idsB l c.flow=true:=by
 obtain⟨i,hi⟩:=List.getElem?_of_mem hc
 obtain⟨h1,h2,h3,_⟩:=h.cell i c hi
 simp only[placedB,insB,Bool.and_eq_true,decide_eq_true_eq]at h1
 exact⟨h1.1.1,h1.1.2,h1.2.1,h1.2.2,h2,h3⟩
theorem flows_sorted {nodes:Int}{l:List Flow}(h:(flowsE nodes l).2=0):l.Pairwise fun a b=>a.id < b.id:=by
 unfold flowsE at h
 split at h
 ·cases h
 split at h
 ·cases h
 rw[firstAt_ok]at h
 refine List.pairwise_iff_getElem.2 fun i j hi hj hij=>?_
 have step:∀k,(hk:k+1 < l.length)→(l[k]'(by omega)).id < (l[k+1]).id:=fun k hk=>by
  have:=h (k+1) hk
  unfold flowAt at this
  rw[List.getElem?_eq_getElem hk]at this
  simp only at this
  split at this
  ·rename_i hh;exact absurd this hh
  split at this
  ·cases this
  rename_i g
  unfold flowO at g
  simp only at g
  rw[List.getElem?_eq_getElem (by omega:k < l.length)]at g
  simpa using g
 obtain⟨e,rfl⟩:∃e,j=i+e+1:=⟨j-i-1,by omega⟩
 clear hij
 induction e with
 | zero=>exact step i hj
 | succ e ih=>exact Int.lt_trans (ih (by omega) step) (step (i+(e+1)) hj)
section
variable {n:Net} {q:List Req} {s:Sched}
theorem heard_anti {m d d':Int}(hok:NetOk n)(h:heardB n m d=true)(hd:d'≤d):heardB n m d'=true:=by
 unfold heardB at h ⊢
 simp only[decide_eq_true_eq]at h ⊢
 have:=hok.thr
 have h2:n.thr*(n.noise+d')≤n.thr*(n.noise+d):=Int.mul_le_mul_of_nonneg_left (by omega) (by omega)
 omega
end
structure Claim where
 flow:Int
 routes:List (List Int)
 bounds:List Int
 worst:List Int
 slots:List (List Int)
 deriving DecidableEq
def Claim.av (c:Claim):AV:=.agg [.int .i64 c.flow,encRows c.routes,encIs c.bounds,encIs c.worst,encRows c.slots]
def encClaims (l:List Claim):AV:=.sl false (l.map Claim.av)
def claim0:Claim:=⟨0,[],[],[],[]⟩
def srvB (n:Net)(s:Sched)(x:Req)(r:List Int):Bool:=decide ((routeM n s x.flow r).2.2.2=0)&&decide ((routeM n s x.flow r).1≤x.flow.dead)
def claimT (n:Net)(s:Sched)(x:Req)(l:List (List Int)):Claim:=⟨x.flow.id,l,l.map fun r=>(routeM n s x.flow r).1,l.map fun r=>(routeM n s x.flow r).2.1,l.map fun r=>(routeM n s x.flow r).2.2.1⟩
def claimB (n:Net)(s:Sched)(x:Req):Bool:=x.routes.all (srvB n s x)
def claimM (n:Net)(s:Sched)(x:Req):Claim:=if claimB n s x then claimT n s x x.routes else claim0
def lateAt (n:Net)(s:Sched)(q:List Req)(i:Nat):Int:=match q[i]? with
 | some x=>if claimB n s x then 0 else 15
 | none=>0
def makeM (n:Net)(q:List Req)(s:Sched):List Claim×Int×Int:=
 if (reqE n q).2≠0 then([],(reqE n q).1,(reqE n q).2) else if (schedE n (flowsQ q) s).2≠0 then([],-1,1)
 else if (firstAt (lateAt n s q) q.length).2≠0 then([],firstAt (lateAt n s q) q.length) else(q.map (claimM n s),-1,0)
theorem VOk.form {n:Net}{l:List Flow}{s:Sched}(h:VOk n l s):formB s=true:=by
 unfold formB
 rw[h.size,decide_eq_true h.many,Bool.true_and,Bool.true_and]
 refine range_all fun i hi=>?_
 obtain⟨c,hc⟩:=getLt hi
 obtain⟨h1,h2,h3,h4⟩:=h.cell i c hc
 obtain⟨p,l',e1,e2,e3,e4⟩:=findL_at (good_find h2)
 have hb:=linkR_bd (h.net.link p l' e2).1
 have hn:=h.net.nodes
 obtain⟨f,hf,hid⟩:=List.any_eq_true.1 h3
 have hff:0≤f.id∧f.id≤255:=by
  obtain⟨k,hk⟩:=List.getElem?_of_mem hf
  have hkl:=(List.getElem?_eq_some_iff.1 hk).1
  have hfl:=h.flows
  unfold flowsE at hfl
  split at hfl
  ·cases hfl
  split at hfl
  ·cases hfl
  have g:=firstAt_ok.1 hfl k hkl
  unfold flowAt at g
  rw[hk]at g
  simp only at g
  have hfx:flowE n.nodes f=0:=by
   split at g
   ·rename_i hh;exact absurd g hh
   ·omega
  have:=flowE_ok hfx
  omega
 simp only[beq_iff_eq]at hid
 unfold okAt
 rw[hc]
 simp only
 have hfm:formedB s c=true:=by
  unfold formedB
  rw[h1]
  simp only[insB,Bool.true_and,Bool.and_eq_true,decide_eq_true_eq]
  omega
 rw[hfm,Bool.true_and]
 unfold ordC at h4
 cases i with
 | zero=>rfl
 | succ j=>exact h4
def AllRest {α:Type}(P:α→List α→Prop)(cs:List α):Prop:=∀(i:Nat) c,cs[i]? = some c→P c (cs.eraseIdx i)
theorem erase_perm {α:Type}{cs:List α}{i:Nat}{c:α}(h:cs[i]? = some c):cs.Perm (c :: cs.eraseIdx i):=by
 obtain⟨hi,rfl⟩:=List.getElem?_eq_some_iff.1 h
 rw[List.eraseIdx_eq_take_drop_succ]
 have e:cs=cs.take i++cs[i] :: cs.drop (i+1):=by rw[←List.drop_eq_getElem_cons hi,List.take_append_drop]
 exact(List.Perm.of_eq e).trans List.perm_middle
theorem AllRest.perm {α:Type}{P:α→List α→Prop}(hP:∀c r r',r.Perm r'→P c r→P c r'){cs cs':List α}(h:AllRest P cs)(hp:cs.Perm cs'):AllRest P cs':=fun j c hj=>by
 obtain⟨i,hi⟩:=List.getElem?_of_mem (hp.mem_iff.2 (List.mem_of_getElem? hj))
 refine hP c _ _ ?_ (h i c hi)
 exact List.Perm.cons_inv ((erase_perm hi).symm.trans (hp.trans (erase_perm hj)))
def heardC (n:Net)(c:Cell)(rest:List Cell):Prop:=heardB n (marginAt n c.src c.dst) (distC n rest c.dst)=true∧heardB n (marginAt n c.dst c.src) (distC n rest c.src)=true
theorem distC_perm {n:Net}{r r':List Cell}(h:r.Perm r')(node:Int):distC n r node=distC n r' node:=by
 have g:∀l:List Cell,distC n l node=(l.map fun d=>powN n d.src node+powN n d.dst node).sum:=fun l=>by
  unfold distC
  induction l with
  | nil=>rfl
  | cons x l ih=>simp only[List.map_cons,List.sum_cons,←ih];rfl
 rw[g,g]
 exact sum_permI (h.map _)
theorem heardC_perm {n:Net}{c:Cell}{r r':List Cell}(h:r.Perm r')(hc:heardC n c r):heardC n c r':=by
 unfold heardC at hc ⊢
 rw[←distC_perm h,←distC_perm h];exact hc
theorem faultyC_iff {n:Net}{c:Cell}{r:List Cell}:faultyC n c r=false↔goodL n c.src c.dst=true∧(∀d∈r,touchB c d=false)∧heardC n c r:=by
 unfold faultyC heardC
 constructor
 ·intro h
  split at h
  ·cases h
  rename_i h1
  split at h
  ·cases h
  rename_i h2
  split at h
  ·cases h
  rename_i h3
  exact⟨by simpa using h1,fun d hd=>by simpa using List.any_eq_false.1 (Bool.eq_false_iff.2 h2) d hd,by simpa using h3,by simpa using h⟩
 ·rintro⟨h1,h2,h3,h4⟩
  have h5:r.any (touchB c)=false:=List.any_eq_false.2 fun d hd=>by rw[h2 d hd];simp
  rw[h1,h5,h3,h4];simp
theorem filter_erase {α:Type}{p:α→Bool}{cs:List α}{i:Nat}{c:α}(h:cs[i]? = some c)(hp:p c=true):(cs.filter p).eraseIdx ((cs.take i).filter p).length=(cs.eraseIdx i).filter p∧(cs.filter p)[((cs.take i).filter p).length]? = some c:=by
 obtain⟨hi,rfl⟩:=List.getElem?_eq_some_iff.1 h
 have e:cs.filter p=(cs.take i).filter p++cs[i] :: (cs.drop (i+1)).filter p:=by
  have e0:cs=cs.take i++cs[i] :: cs.drop (i+1):=by rw[←List.drop_eq_getElem_cons hi,List.take_append_drop]
  conv=>lhs;rw[e0]
  rw[List.filter_append,List.filter_cons,if_pos hp]
 rw[e]
 refine⟨?_,by simp⟩
 rw[List.eraseIdx_append_of_length_le (Nat.le_refl _),Nat.sub_self,List.eraseIdx_cons_zero,List.eraseIdx_eq_take_drop_succ,List.filter_append]
theorem disturb_iff {n:Net}{cs:List Cell}{i:Nat}{c:Cell}(h:cs[i]? = some c):disturbB n cs i=false↔heardC n c ((cs.eraseIdx i).filter (shareB c)):=by
 have hs:shareB c c=true:=by unfold shareB;simp
 have:=(filter_erase (p:=shareB c) h hs).1
 unfold disturbB heardC
 rw[h]
 simp only[distM_rest,shareL,shareAt]
 rw[this]
 simp
def cellR2 (n:Net)(c:Cell)(rest:List Cell):Prop:=(∀d∈rest,d.slot=c.slot→touchB c d=false)∧heardC n c (rest.filter (shareB c))
theorem cellR2_perm {n:Net}(c:Cell)(r r':List Cell)(h:r.Perm r')(hc:cellR2 n c r):cellR2 n c r':=⟨fun d hd=>hc.1 d (h.mem_iff.2 hd),heardC_perm (h.filter _) hc.2⟩
theorem VOk.rest {n:Net}{l:List Flow}{s:Sched}(h:VOk n l s):AllRest (cellR2 n) s.cells:=fun i c hc=>by
 refine⟨fun d hd hs=>?_,(disturb_iff hc).1 (h.heard i (List.getElem?_eq_some_iff.1 hc).1)⟩
 obtain⟨j,hj⟩:=List.getElem?_of_mem hd
 rw[List.getElem?_eraseIdx]at hj
 split at hj
 ·exact h.apart hc hj (by omega) hs.symm
 ·exact h.apart hc hj (by omega) hs.symm
theorem schedE_of {n:Net}{l:List Flow}{s:Sched}(hn:netE n=0)(hf:(flowsE n.nodes l).2=0)(hz:sizedB s=true)(hp:∀f∈l,s.len % f.period=0)(hm:s.cells.length≤512)(hc:∀(i:Nat) c,s.cells[i]? = some c→placedB s c=true∧goodL n c.src c.dst=true∧idsB l c.flow=true∧ordC s.cells i c=true)(hr:AllRest (cellR2 n) s.cells):(schedE n l s).2=0:=by
 have h5:(firstAt (cellF n l s) s.cells.length).2=0:=by
  rw[firstAt_ok]
  intro i hi
  obtain⟨c,hg⟩:=getLt hi
  obtain⟨q1,q2,q3,q4⟩:=hc i c hg
  unfold cellF
  rw[hg]
  simp[q1,q2,q3,q4]
 have h6:(firstAt (twI s.cells) s.cells.length).2=0:=by
  rw[firstAt_ok]
  intro i hi
  obtain⟨c,hg⟩:=getLt hi
  unfold twI
  have:twiceM s.cells i=false:=by
   unfold twiceM
   rw[hg]
   refine List.any_eq_false.2 fun j hj=>?_
   have hj:=List.mem_range.1 hj
   obtain⟨d,hd⟩:=getLt (l:=s.cells) (k:=j) (by omega)
   unfold twAt
   rw[hd]
   have hmem:d∈s.cells.eraseIdx i:=List.mem_of_getElem? (i:=j) (by rw[List.getElem?_eraseIdx,if_pos hj];exact hd)
   have:=(hr i c hg).1 d hmem
   by_cases e:d.slot=c.slot
   ·simp[this e]
   ·simp[e]
  rw[this];rfl
 have h7:(firstAt (dsI n s.cells) s.cells.length).2=0:=by
  rw[firstAt_ok]
  intro i hi
  obtain⟨c,hg⟩:=getLt hi
  unfold dsI
  rw[(disturb_iff hg).2 (hr i c hg).2];rfl
 unfold schedE
 rw[if_neg (by omega),if_neg (by rw[hz];simp),if_neg (by
  intro h
  obtain⟨f,hf1,hf2⟩:=List.any_eq_true.1 h
  unfold mism at hf2
  rw[hp f hf1]at hf2
  simp at hf2),if_neg (by omega),if_neg (by omega),if_neg (by omega)]
 exact h7
theorem apart_nodup:∀{l:List Cell},l.Pairwise (fun a b=>touchB a b=false)→(∀c∈l,0≤c.src∧0≤c.dst∧c.src≠c.dst)→(l.flatMap fun c=>[c.src.toNat,c.dst.toNat]).Nodup
 | [],_,_=>by simp
 | c :: l,h,hn=>by
  obtain⟨h1,h2⟩:=List.pairwise_cons.1 h
  have ih:=apart_nodup h2 fun d hd=>hn d (List.mem_cons_of_mem _ hd)
  have hc:=hn c (List.mem_cons_self ..)
  have key:∀x∈(l.flatMap fun c=>[c.src.toNat,c.dst.toNat]),c.src.toNat≠x∧c.dst.toNat≠x:=fun x hx=>by
   obtain⟨d,hd,hxd⟩:=List.mem_flatMap.1 hx
   have ht:=h1 d hd
   have hdn:=hn d (List.mem_cons_of_mem _ hd)
   simp only[touchB,Bool.or_eq_false_iff,beq_eq_false_iff_ne]at ht
   simp only[List.mem_cons,List.not_mem_nil,or_false]at hxd
   rcases hxd with rfl|rfl<;>omega
  rw[List.flatMap_cons]
  refine List.nodup_append.2 ⟨?_,ih,fun a ha b hb=>?_⟩
  ·simp;omega
  ·simp only[List.mem_cons,List.not_mem_nil,or_false]at ha
   rcases ha with rfl|rfl
   ·exact(key b hb).1
   ·exact(key b hb).2
theorem pairs_len (l:List Cell):(l.flatMap fun c=>[c.src.toNat,c.dst.toNat]).length=2*l.length:=by
 induction l with
 | nil=>rfl
 | cons c l ih=>rw[List.flatMap_cons,List.length_append,ih];simp;omega
theorem apart_len {l:List Cell}{m:Nat}(h:l.Pairwise fun a b=>touchB a b=false)(hn:∀c∈l,0≤c.src∧c.src < m∧0≤c.dst∧c.dst < m∧c.src≠c.dst):2*l.length≤m:=by
 have h1:=apart_nodup h fun c hc=>⟨(hn c hc).1,(hn c hc).2.2.1,(hn c hc).2.2.2.2⟩
 rw[←pairs_len]
 refine nodup_len h1 fun x hx=>?_
 obtain⟨c,hc,hx⟩:=List.mem_flatMap.1 hx
 have:=hn c hc
 simp only[List.mem_cons,List.not_mem_nil,or_false]at hx
 rcases hx with rfl|rfl<;>omega
def ApartS (cs:List Cell):Prop:=cs.Pairwise fun a b=>a.slot=b.slot→touchB a b=false
theorem slotA_len {cs:List Cell}(h:ApartS cs)(hn:∀c∈cs,0≤c.src∧c.src < 32∧0≤c.dst∧c.dst < 32∧c.src≠c.dst)(k:Int):(cs.filter fun c=>c.slot==k).length≤16:=by
 have h1:(cs.filter fun c=>c.slot==k).Pairwise fun a b=>touchB a b=false:=by
  rw[List.pairwise_filter]
  refine h.imp fun {a b} hab ha hb=>hab ?_
  rw[beq_iff_eq]at ha hb
  rw[ha,hb]
 have:=apart_len (m:=32) h1 fun c hc=>hn c (List.mem_filter.1 hc).1
 omega
def hasQ (q:List Req)(id:Int):Bool:=q.any fun y=>y.flow.id==id
theorem faulty_iff {n:Net}(hn:netE n=0)(q:List Req):((makeM n q ⟨0,0,[]⟩).2.2 != 1||decide (0≤(makeM n q ⟨0,0,[]⟩).2.1))=decide ((reqE n q).2≠0):=by
 have hok:=netE_ok hn
 have hnd:=hok.nodes
 by_cases h:(reqE n q).2=0
 ·have hs:(schedE n (flowsQ q) ⟨0,0,[]⟩).2≠0:=fun h0=>by
   have:=(schedE_ok h0).size
   revert this;decide
  have hM:makeM n q ⟨0,0,[]⟩=([],-1,1):=by unfold makeM;rw[if_neg (by omega),if_pos hs]
  rw[hM,decide_eq_false (by omega:¬(reqE n q).2≠0)];rfl
 ·have hM:makeM n q ⟨0,0,[]⟩=([],(reqE n q).1,(reqE n q).2):=by unfold makeM;rw[if_pos h]
  rw[hM,decide_eq_true h]
  simp only
  have key:(reqE n q).2≠1∨0≤(reqE n q).1:=by
   unfold reqE at h ⊢
   rw[if_neg (by omega)]at h ⊢
   split
   ·rename_i h1
    unfold flowsE at h1 ⊢
    rw[if_neg (by omega)]at h1 ⊢
    split
    ·left;simp
    ·rename_i h2
     rw[if_neg h2]at h1
     exact .inr (firstAt_lo h1)
   ·rename_i h1
    rw[if_neg h1]at h
    exact .inr (firstAt_lo h)
  rcases key with h1|h1
  ·rw[bne_iff_ne.2 h1];rfl
  ·rw[decide_eq_true h1,Bool.or_true]
theorem MoreS.trans {s t u:Sched}(h:MoreS s t)(h':MoreS t u):MoreS s u:=⟨h'.len.trans h.len,fun p=>Nat.le_trans (h.cells p) (h'.cells p)⟩
theorem slotsUp_eq {n:Net}{s t:Sched}{f:Flow}{r:List Int}{rel more:Int}(hl:t.len=s.len)(h:∀a b,cellsL t f a b=cellsL s f a b):∀k:Nat,slotsUp n t f r rel more k=slotsUp n s f r rel more k
 | 0=>rfl
 | k+1=>by
  rw[slotsUp,slotsUp,slotsUp_eq hl h k]
  unfold slotsOn
  rw[hl]
  simp only[h]
theorem boundUp_eq {n:Net}{s t:Sched}{f:Flow}{r:List Int}{more:Int}(hl:t.len=s.len)(h:∀a b,cellsL t f a b=cellsL s f a b):∀k:Nat,boundUp n t f r more k=boundUp n s f r more k
 | 0=>rfl
 | k+1=>by
  have hr:relR n t f r more (f.phase+k*f.period)=relR n s f r more (f.phase+k*f.period):=by
   unfold relR slotsW
   rw[slotsUp_eq hl h]
  rw[boundUp,boundUp,boundUp_eq hl h k,hr]
theorem boundR_eq {n:Net}{s t:Sched}{f:Flow}{r:List Int}{more:Int}(hl:t.len=s.len)(h:∀a b,cellsL t f a b=cellsL s f a b):boundR n t f r more=boundR n s f r more:=by
 unfold boundR relsN
 rw[hl]
 exact boundUp_eq hl h _
theorem ids_up {n:Net}{q:List Req}(h:(reqE n q).2=0):q.Pairwise fun a b=>a.flow.id < b.flow.id:=by
 have h1:=flows_sorted (reqE_ok h).2.2.2
 unfold flowsQ at h1
 exact List.Pairwise.of_map Req.flow (fun a b h=>h) h1
theorem make_parts {n:Net}{q:List Req}{s:Sched}(h:(makeM n q s).2.2=0):(reqE n q).2=0∧VOk n (flowsQ q) s∧(∀y∈q,claimB n s y=true)∧makeM n q s=(q.map (claimM n s),-1,0):=by
 unfold makeM at h ⊢
 split at h
 ·rename_i hh;exact absurd h hh
 rename_i h1
 rw[if_neg h1]
 split at h
 ·cases h
 rename_i h2
 rw[if_neg h2]
 split at h
 ·rename_i hh;exact absurd h hh
 rename_i h3
 rw[if_neg h3]
 refine⟨by omega,schedE_ok (by omega),fun y hy=>?_,rfl⟩
 obtain⟨k,hk⟩:=List.getElem?_of_mem hy
 have h4:=firstAt_ok.1 (show(firstAt (lateAt n s q) q.length).2=0 by omega) k (List.getElem?_eq_some_iff.1 hk).1
 unfold lateAt at h4
 rw[hk]at h4
 simp only at h4
 split at h4
 ·rename_i hh;exact hh
 ·cases h4
theorem make_of {n:Net}{q:List Req}{s:Sched}(h1:(reqE n q).2=0)(h2:(schedE n (flowsQ q) s).2=0)(h3:∀y∈q,claimB n s y=true):makeM n q s=(q.map (claimM n s),-1,0):=by
 have h4:(firstAt (lateAt n s q) q.length).2=0:=firstAt_ok.2 fun k hk=>by
  obtain⟨y,hy⟩:=getLt hk
  unfold lateAt
  rw[hy]
  simp only
  rw[if_pos (h3 y (List.mem_of_getElem? hy))]
 unfold makeM
 rw[if_neg (by omega),if_neg (by omega),if_neg (by omega)]
theorem ends_zero {n:Net}(h0:netE n=0){a b:Int}(ha:0≤a∧a < n.nodes)(hb:0≤b∧b < n.nodes)(hab:a≠b):endsE n a b=0:=by
 unfold endsE insB
 simp[h0,ha,hb,hab]
theorem id_uniq {q:List Req}(h:q.Pairwise fun a b=>a.flow.id < b.flow.id){a b:Req}(ha:a∈q)(hb:b∈q)(he:a.flow.id=b.flow.id):a=b:=by
 obtain⟨i,hi⟩:=List.getElem?_of_mem ha
 obtain⟨j,hj⟩:=List.getElem?_of_mem hb
 have hil:=(List.getElem?_eq_some_iff.1 hi).1
 have hjl:=(List.getElem?_eq_some_iff.1 hj).1
 rcases Nat.lt_trichotomy i j with h1|h1|h1
 ·have:=List.pairwise_iff_getElem.1 h i j hil hjl h1
  rw[(List.getElem?_eq_some_iff.1 hi).2,(List.getElem?_eq_some_iff.1 hj).2]at this
  omega
 ·subst h1
  rw[hi]at hj;injection hj
 ·have:=List.pairwise_iff_getElem.1 h j i hjl hil h1
  rw[(List.getElem?_eq_some_iff.1 hi).2,(List.getElem?_eq_some_iff.1 hj).2]at this
  omega
theorem distC_le {n:Net}(hok:NetOk n){r r':List Cell}(h:r'.Sublist r)(node:Int):distC n r' node≤distC n r node:=by
 unfold distC
 induction h with
 | slnil=>exact Int.le_refl _
 | cons a _ ih=>
  have h1:=powN_bd hok a.src node
  have h2:=powN_bd hok a.dst node
  simp only[sumW];omega
 | cons_cons a _ ih=>simp only[sumW];omega
theorem cellR2_sub {n:Net}(hok:NetOk n){c:Cell}{r r':List Cell}(h:r'.Sublist r)(hc:cellR2 n c r):cellR2 n c r':=by
 obtain⟨h1,h2,h3⟩:=hc
 exact⟨fun d hd=>h1 d (h.subset hd),heard_anti hok h2 (distC_le hok (h.filter _) _),heard_anti hok h3 (distC_le hok (h.filter _) _)⟩
theorem rest_left {n:Net}(hok:NetOk n){A B:List Cell}(h:AllRest (cellR2 n) (A++B)):AllRest (cellR2 n) A:=fun i c hc=>by
 have hi:=(List.getElem?_eq_some_iff.1 hc).1
 have h1:=h i c (by rw[List.getElem?_append_left hi];exact hc)
 rw[List.eraseIdx_append_of_lt_length hi]at h1
 exact cellR2_sub hok (List.sublist_append_left _ _) h1
section
variable {n:Net} {s t:Sched} {p:Cell→Bool} {f:Flow} {r:List Int}
end
def getQ (q:List Req)(id:Int):Option Req:=q.find? fun x=>x.flow.id==id
def differB (after:List Req)(x:Req):Bool:=match getQ after x.flow.id with
 | some y=>decide (y.flow≠x.flow)
 | none=>false
def stayQ (before after:List Req)(id:Int):Option (Req×Req):=match getQ before id,getQ after id with
 | some x,some y=>some (x,y)
 | _,_=>none
def flowsA (before after:List Req):List Flow:=flowsQ before++(after.filter fun x=>!hasQ before x.flow.id).map Req.flow
def bothF (before after:List Req)(id:Int):Option Flow:=match getQ before id with
 | some x=>some x.flow
 | none=>(getQ after id).map Req.flow
def bothN (before after:List Req)(k:Nat):List Flow:=(List.range k).filterMap fun (id:Nat)=>bothF before after id
def bothM (before after:List Req):List Flow:=bothN before after 256
def wholeC (n:Net)(before after:List Req)(s:Sched):Int:=
 if (makeM n before s).2.2≠0∨(reqE n after).2≠0 then 1 else if before.any (differB after)=true then 11 else if (after.any fun x=>s.len % x.flow.period != 0)=true then 2 else if 16 < (bothM before after).length then 2 else 0
def earlyD (c:Chg)(per:Int)(d:Chg):Bool:=d.add&&(d.cell.flow==c.cell.flow&&decide (IntKind.i64.wrap (c.slot-d.slot) < per))
def earlyB (before after:List Req)(done:List Chg)(c:Chg):Bool:=!c.add&&match stayQ before after c.cell.flow with
 | some (x,_)=>done.any (earlyD c x.flow.period)
 | none=>false
def keepF (n:Net)(before after:List Req)(s:Sched)(f:Flow):Bool:=match stayQ before after f.id with
 | some (x,y)=>(leastM n s f (x.routes++y.routes)).2==0&&decide ((leastM n s f (x.routes++y.routes)).1≤f.dead)
 | none=>true
def keepB (n:Net)(before after:List Req)(s:Sched):Bool:=(bothM before after).all (keepF n before after s)
def ownQ (after:List Req)(s:Sched):Sched:=⟨s.len,s.offs,s.cells.filter fun c=>(getQ after c.flow).isSome⟩
def endsB (n:Net)(after:List Req)(s:Sched):Bool:=decide ((makeM n after (ownQ after s)).2.2=0)
def lastSlot (done:List Chg):Option Int:=done.getLast?.map Chg.slot
def stepC (n:Net)(before after:List Req)(done:List Chg)(s:Sched)(c:Chg):Int:=
 if chgE (lastSlot done) c≠0 then chgE (lastSlot done) c else if (chgM s c).2≠0 then(chgM s c).2 else if earlyB before after done c=true then 12
 else if (schedE n (bothM before after) (chgM s c).1).2≠0 then 16 else if keepB n before after (chgM s c).1=false then 15 else 0
def afterC (s:Sched)(l:List Chg):Sched:=l.foldl (fun s c=>(chgM s c).1) s
def faultC (n:Net)(before after:List Req)(s:Sched)(l:List Chg)(k:Nat):Int:=match l[k]? with
 | none=>0
 | some c=>stepC n before after (l.take k) (afterC s (l.take k)) c
def checkC (n:Net)(before after:List Req)(s:Sched)(l:List Chg):Int×Int:=
 if wholeC n before after s≠0 then(-1,wholeC n before after s) else if 1024 < l.length then(-1,8)
 else if (firstAt (faultC n before after s l) l.length).2≠0 then firstAt (faultC n before after s l) l.length
 else if endsB n after (afterC s l)=false then(-1,18) else(-1,0)
theorem afterC_snoc {s:Sched}{l:List Chg}{k:Nat}{c:Chg}(h:l[k]? = some c):afterC s (l.take (k+1))=(chgM (afterC s (l.take k)) c).1:=by
 unfold afterC
 rw[take_succ h,List.foldl_append];rfl
theorem getQ_some {q:List Req}{id:Int}{x:Req}(h:getQ q id=some x):x∈q∧x.flow.id=id:=by
 unfold getQ at h
 exact⟨List.mem_of_find?_eq_some h,by simpa using List.find?_some h⟩
theorem getQ_has (q:List Req)(id:Int):(getQ q id).isSome=hasQ q id:=by
 unfold getQ hasQ
 rw[Bool.eq_iff_iff,List.find?_isSome,List.any_eq_true]
theorem getQ_mem {q:List Req}(h:q.Pairwise fun a b=>a.flow.id < b.flow.id){x:Req}(hx:x∈q):getQ q x.flow.id=some x:=by
 cases hg:getQ q x.flow.id with
 | none=>
  have:=getQ_has q x.flow.id
  rw[hg]at this
  have h2:hasQ q x.flow.id=true:=List.any_eq_true.2 ⟨x,hx,by simp⟩
  rw[h2]at this;cases this
 | some y=>
  obtain⟨h1,h2⟩:=getQ_some hg
  rw[id_uniq h h1 hx h2]
theorem findF_get (q:List Req)(id:Int):(findF (flowsQ q) id=-1∧getQ q id=none)∨∃(k:Nat) (x:Req),findF (flowsQ q) id=k∧q[k]? = some x∧getQ q id=some x:=by
 have hfl:∀k:Nat,(flowsQ q)[k]? = q[k]?.map Req.flow:=fun k=>by unfold flowsQ;rw[List.getElem?_map]
 by_cases hneg:idxF (fun f:Flow=>f.id==id) (flowsQ q)=-1
 ·refine .inl ⟨hneg,?_⟩
  have hnone:=idxF_none_iff hneg
  unfold getQ
  rw[List.find?_eq_none]
  intro x hx
  obtain⟨k,hk⟩:=List.getElem?_of_mem hx
  have:=hnone k x.flow (by rw[hfl,hk];rfl)
  simpa using this
 ·obtain⟨k,f,e1,e2,e3⟩:=idxF_at hneg
  obtain⟨_,_,_,e4⟩:=idxF_first e1
  have hk:=hfl k
  rw[e2]at hk
  cases hq:q[k]? with
  | none=>rw[hq]at hk;cases hk
  | some x=>
   rw[hq]at hk
   simp only[Option.map_some,Option.some.injEq]at hk
   have hkl:=(List.getElem?_eq_some_iff.1 hq).1
   refine .inr ⟨k,x,e1,hq,?_⟩
   unfold getQ
   rw[List.find?_eq_some_iff_getElem]
   refine⟨by rw[←hk];exact e3,k,hkl,(List.getElem?_eq_some_iff.1 hq).2,fun j hj=>?_⟩
   have h4:=e4 j (q[j]).flow hj (by rw[hfl,List.getElem?_eq_getElem (by omega)];rfl)
   simpa using h4
theorem bothF_id {before after:List Req}{id:Int}{f:Flow}(h:bothF before after id=some f):f.id=id:=by
 unfold bothF at h
 cases hb:getQ before id with
 | some x=>
  rw[hb]at h
  simp only[Option.some.injEq]at h
  rw[←h];exact(getQ_some hb).2
 | none=>
  rw[hb]at h
  cases ha:getQ after id with
  | some y=>
   rw[ha]at h
   simp only[Option.map_some,Option.some.injEq]at h
   rw[←h];exact(getQ_some ha).2
  | none=>rw[ha]at h;cases h
theorem bothN_succ (before after:List Req)(k:Nat):bothN before after (k+1)=bothN before after k++(bothF before after k).toList:=by
 unfold bothN
 rw[List.range_succ,List.filterMap_append]
 congr 1
theorem bothN_ids {before after:List Req}:∀{k:Nat} {f:Flow},f∈bothN before after k→0≤f.id∧f.id < k
 | 0,_,h=>by simp[bothN]at h
 | k+1,f,h=>by
  rw[bothN_succ]at h
  rcases List.mem_append.1 h with h|h
  ·have:=bothN_ids h;omega
  ·have:bothF before after k=some f:=by
    cases hb:bothF before after (k:Int) with
    | none=>rw[hb]at h;cases h
    | some g=>rw[hb]at h;simp at h;rw[h]
   have:=bothF_id this;omega
theorem bothN_sorted (before after:List Req):∀k:Nat,(bothN before after k).Pairwise fun a b=>a.id < b.id
 | 0=>by simp[bothN]
 | k+1=>by
  rw[bothN_succ]
  refine List.pairwise_append.2 ⟨bothN_sorted before after k,?_,fun a ha b hb=>?_⟩
  ·cases bothF before after (k:Int)<;>simp
  ·have h1:=bothN_ids ha
   have h2:b.id=k:=by
    cases hg:bothF before after (k:Int) with
    | none=>rw[hg]at hb;cases hb
    | some g=>rw[hg]at hb;simp at hb;rw[hb];exact bothF_id hg
   omega
theorem bothN_mem {before after:List Req}{f:Flow}:∀{k:Nat},f∈bothN before after k↔0≤f.id∧f.id < k∧bothF before after f.id=some f
 | 0=>by simp[bothN];intro h1 h2;omega
 | k+1=>by
  rw[bothN_succ,List.mem_append,bothN_mem (k:=k)]
  constructor
  ·rintro (⟨h1,h2,h3⟩|h)
   ·exact⟨h1,by omega,h3⟩
   ·cases hg:bothF before after (k:Int) with
    | none=>rw[hg]at h;cases h
    | some g=>
     rw[hg]at h;simp at h
     subst h
     have:=bothF_id hg
     rw[this]
     exact⟨by omega,by omega,hg⟩
  ·rintro⟨h1,h2,h3⟩
   by_cases hk:f.id=k
   ·right;rw[←hk,h3];simp
   ·left;exact⟨h1,by omega,h3⟩
structure ReqsOk (q:List Req):Prop where
 sorted:q.Pairwise fun a b=>a.flow.id < b.flow.id
 ids:∀x∈q,0≤x.flow.id∧x.flow.id≤255
theorem reqsOk {n:Net}{q:List Req}(h:(reqE n q).2=0):ReqsOk q where
 sorted:=ids_up h
 ids:=fun x hx=>by
  have:=flowE_ok ((reqE_ok h).2.2.1 x hx).flow
  omega
theorem flowsA_mem {before after:List Req}(hb:ReqsOk before)(ha:ReqsOk after){f:Flow}:f∈flowsA before after↔f∈bothM before after:=by
 unfold bothM
 rw[bothN_mem]
 unfold flowsA flowsQ
 rw[List.mem_append,List.mem_map,List.mem_map]
 constructor
 ·rintro (⟨x,hx,rfl⟩|⟨y,hy,rfl⟩)
  ·have:=hb.ids x hx
   refine⟨this.1,by omega,?_⟩
   unfold bothF
   rw[getQ_mem hb.sorted hx]
  ·obtain⟨h1,h2⟩:=List.mem_filter.1 hy
   have:=ha.ids y h1
   refine⟨this.1,by omega,?_⟩
   unfold bothF
   have hn:getQ before y.flow.id=none:=by
    have:=getQ_has before y.flow.id
    cases hg:getQ before y.flow.id with
    | none=>rfl
    | some z=>rw[hg]at this;rw[←this]at h2;simp at h2
   rw[hn,getQ_mem ha.sorted h1];rfl
 ·rintro⟨_,_,h⟩
  unfold bothF at h
  cases hg:getQ before f.id with
  | some x=>
   rw[hg]at h
   simp only[Option.some.injEq]at h
   exact .inl ⟨x,(getQ_some hg).1,h⟩
  | none=>
   rw[hg]at h
   cases hy:getQ after f.id with
   | none=>rw[hy]at h;cases h
   | some y=>
    rw[hy]at h
    simp only[Option.map_some,Option.some.injEq]at h
    refine .inr ⟨y,List.mem_filter.2 ⟨(getQ_some hy).1,?_⟩,h⟩
    have:=getQ_has before y.flow.id
    rw[(getQ_some hy).2,hg]at this
    rw[(getQ_some hy).2,←this];rfl
theorem flowsA_nodup {before after:List Req}(hb:ReqsOk before)(ha:ReqsOk after):(flowsA before after).Pairwise fun a b=>a.id≠b.id:=by
 unfold flowsA flowsQ
 refine List.pairwise_append.2 ⟨?_,?_,fun a hm b hm2=>?_⟩
 ·rw[List.pairwise_map];exact hb.sorted.imp fun h=>by omega
 ·rw[List.pairwise_map];exact(ha.sorted.filter _).imp fun h=>by omega
 ·obtain⟨x,hx,rfl⟩:=List.mem_map.1 hm
  obtain⟨y,hy,rfl⟩:=List.mem_map.1 hm2
  have h2:=(List.mem_filter.1 hy).2
  intro he
  have:hasQ before y.flow.id=true:=List.any_eq_true.2 ⟨x,hx,by simpa using he⟩
  rw[this]at h2;cases h2
theorem both_eq {before after:List Req}(hb:ReqsOk before)(ha:ReqsOk after){ds:List Flow}(hp:ds.Perm (flowsA before after))(hs:ds.Pairwise fun a b=>¬b.id < a.id):ds=bothM before after:=by
 have hn:ds.Pairwise fun a b=>a.id≠b.id:=(flowsA_nodup hb ha).perm hp.symm fun h=>Ne.symm h
 refine strict_ext (lt:=fun a b:Flow=>a.id < b.id) (fun a=>by omega) (fun a b h1 h2=>by omega) ((hs.and hn).imp fun⟨h1,h2⟩=>by omega) (bothN_sorted _ _ _) fun f=>?_
 rw[hp.mem_iff,flowsA_mem hb ha]
theorem both_len {before after:List Req}(hb:ReqsOk before)(ha:ReqsOk after):(bothM before after).length=(flowsA before after).length:=by
 have hperm:=List.mergeSort_perm (flowsA before after) fun a b=>decide (a.id≤b.id)
 have hs:=List.pairwise_mergeSort (le:=fun a b:Flow=>decide (a.id≤b.id)) (fun a b c h1 h2=>decide_eq_true (Int.le_trans (of_decide_eq_true h1) (of_decide_eq_true h2))) (fun a b=>by simp only[Bool.or_eq_true,decide_eq_true_eq];omega) (flowsA before after)
 rw[←both_eq hb ha hperm (hs.imp fun h=>by simp at h;omega),hperm.length_eq]
theorem leastF_iff {n:Net}{s:Sched}{f:Flow}{d:Int}:∀{l:List (List Int)} {m:Int},0≤m→(∀r∈l,∀B,boundR n s f r 0=some B→1≤B.b)→(l.foldl (leastS n s f) m≠0∧l.foldl (leastS n s f) m≤d↔(m≠0∧m≤d)∨∃r∈l,∃B,boundR n s f r 0=some B∧B.b≤d)
 | [],m,_,_=>by simp
 | r :: l,m,hm,h=>by
  have hr:=h r (List.mem_cons_self ..)
  have ht:∀x∈l,∀B,boundR n s f x 0=some B→1≤B.b:=fun x hx=>h x (List.mem_cons_of_mem _ hx)
  rw[List.foldl_cons]
  cases hb:boundR n s f r 0 with
  | none=>
   have e:leastS n s f m r=m:=by unfold leastS;rw[hb]
   rw[e,leastF_iff hm ht]
   constructor
   ·rintro (h1|⟨x,h1,h2⟩)
    ·exact .inl h1
    ·exact .inr ⟨x,List.mem_cons_of_mem _ h1,h2⟩
   ·rintro (h1|⟨x,h1,B,h2,h3⟩)
    ·exact .inl h1
    ·rcases List.mem_cons.1 h1 with rfl|h1
     ·rw[hb]at h2;cases h2
     ·exact .inr ⟨x,h1,B,h2,h3⟩
  | some X=>
   have hX:=hr X hb
   have e:leastS n s f m r=if m=0∨X.b < m then X.b else m:=by unfold leastS;rw[hb]
   have h0:0≤leastS n s f m r:=by rw[e];split<;>omega
   have key:(leastS n s f m r≠0∧leastS n s f m r≤d)↔(m≠0∧m≤d)∨X.b≤d:=by rw[e];split<;>omega
   rw[leastF_iff h0 ht,key]
   constructor
   ·rintro ((h1|h1)|⟨x,h1,h2⟩)
    ·exact .inl h1
    ·exact .inr ⟨r,List.mem_cons_self ..,X,hb,h1⟩
    ·exact .inr ⟨x,List.mem_cons_of_mem _ h1,h2⟩
   ·rintro (h1|⟨x,h1,B,h2,h3⟩)
    ·exact .inl (.inl h1)
    ·rcases List.mem_cons.1 h1 with rfl|h1
     ·rw[hb]at h2;cases h2;exact .inl (.inr h3)
     ·exact .inr ⟨x,h1,B,h2,h3⟩
theorem fitsB_iff {n:Net}{s:Sched}{f:Flow}{r:List Int}:fitsB n s f r 0=true↔∃B,boundR n s f r 0=some B∧B.b≤f.dead:=by
 unfold fitsB
 cases hb:boundR n s f r ((0:Nat):Int) with
 | none=>simp
 | some B=>
  simp only[decide_eq_true_eq]
  constructor
  ·intro h;exact⟨B,rfl,h⟩
  ·rintro⟨C,h1,h2⟩
   cases h1;exact h2
theorem way_zero {n:Net}{s:Sched}{x:Req}{r:List Int}(h0:netE n=0)(hf:formB s=true)(hx:ReqOk n x)(hp:s.len % x.flow.period=0){f:Flow}(hfe:f=x.flow)(hr:routeF n f.src f.dst r=0):wayE n s f r=0:=by
 subst hfe
 have h:=flowE_ok hx.flow
 unfold wayE
 rw[if_neg (by simp[h0,hf,hx.flow]),if_neg (by omega)]
 unfold routeE
 rw[if_neg (by rw[ends_zero h0 ⟨h.2.2.1,h.2.2.2.1⟩ ⟨h.2.2.2.2.1,h.2.2.2.2.2.1⟩ h.2.2.2.2.2.2.2.2.2.2.2.2];decide)]
 exact hr
theorem leastM_iff {n:Net}{s:Sched}{f:Flow}{l:List (List Int)}(hl:l≠[])(hw:∀r∈l,wayE n s f r=0):((leastM n s f l).2==0&&decide ((leastM n s f l).1≤f.dead))=l.any fun r=>fitsB n s f r 0:=by
 have h1:firstW n s f l=0:=firstW_zero fun k r hr=>hw r (List.mem_of_getElem? hr)
 have key:=leastF_iff (n:=n) (s:=s) (f:=f) (d:=f.dead) (l:=l) (m:=0) (by omega) fun r hr B hB=>(bound_range (wayE_ok (hw r hr)) hB).1
 have hany:(l.any fun r=>fitsB n s f r 0)=decide (leastF n s f l≠0∧leastF n s f l≤f.dead):=by
  rw[Bool.eq_iff_iff,List.any_eq_true,decide_eq_true_eq]
  rw[show leastF n s f l=l.foldl (leastS n s f) 0 from rfl,key]
  constructor
  ·rintro⟨r,hr,h⟩;exact .inr ⟨r,hr,fitsB_iff.1 h⟩
  ·rintro (⟨h,_⟩|⟨r,hr,h⟩)
   ·exact absurd rfl h
   ·exact⟨r,hr,fitsB_iff.2 h⟩
 rw[hany]
 unfold leastM
 rw[if_neg (by simpa using hl),if_neg (by simp[h1])]
 by_cases h2:leastF n s f l=0
 ·rw[if_pos h2];simp[h2]
 ·rw[if_neg h2];simp[h2]
def stayB (before after:List Req)(id:Int):Bool:=match stayQ before after id with
 | some (x,y)=>decide (x.flow=y.flow)
 | none=>false
def unionM (a b:List (List Int)):List (List Int):=a++b.filter fun r=>!(a.any fun x=>decide (x=r))
def keptR (n:Net)(before after:List Req)(s:Sched):Bool:=before.all fun x=>match getQ after x.flow.id with
 | some y=>!(stayB before after x.flow.id)||(unionM x.routes y.routes).any fun r=>fitsB n s x.flow r 0
 | none=>true
def endsR (n:Net)(after:List Req)(s:Sched):Bool:=after.all fun x=>x.routes.all fun r=>fitsB n s x.flow r 0
theorem union_any (a b:List (List Int))(p:List Int→Bool):(unionM a b).any p=(a++b).any p:=by
 unfold unionM
 rw[Bool.eq_iff_iff,List.any_eq_true,List.any_eq_true]
 constructor
 ·rintro⟨r,hr,hp⟩
  rcases List.mem_append.1 hr with h|h
  ·exact⟨r,List.mem_append_left _ h,hp⟩
  ·exact⟨r,List.mem_append_right _ (List.mem_filter.1 h).1,hp⟩
 ·rintro⟨r,hr,hp⟩
  rcases List.mem_append.1 hr with h|h
  ·exact⟨r,List.mem_append_left _ h,hp⟩
  ·by_cases ha:r∈a
   ·exact⟨r,List.mem_append_left _ ha,hp⟩
   ·refine⟨r,List.mem_append_right _ (List.mem_filter.2 ⟨h,?_⟩),hp⟩
    rw[Bool.not_eq_true',List.any_eq_false]
    intro x hx
    simp only[decide_eq_true_eq]
    rintro rfl;exact ha hx
structure WholeOk (n:Net)(before after:List Req)(s:Sched):Prop where
 n0:netE n=0
 rb:(reqE n before).2=0
 ra:(reqE n after).2=0
 same:∀x∈before,∀y,getQ after x.flow.id=some y→y.flow=x.flow
 pb:∀x∈before,s.len % x.flow.period=0
 pa:∀x∈after,s.len % x.flow.period=0
 vok:VOk n (flowsQ before) s
theorem wholeC_ok {n:Net}{before after:List Req}{s:Sched}(h:wholeC n before after s=0):WholeOk n before after s:=by
 unfold wholeC at h
 split at h
 ·cases h
 rename_i h1
 simp only[not_or,ne_eq,Decidable.not_not]at h1
 split at h
 ·cases h
 rename_i h2
 split at h
 ·cases h
 rename_i h3
 obtain⟨a1,a2,_,_⟩:=make_parts h1.1
 refine⟨a2.n0,a1,h1.2,fun x hx y hy=>?_,fun x hx=>a2.per x.flow (List.mem_map.2 ⟨x,hx,rfl⟩),fun x hx=>?_,a2⟩
 ·have:=List.any_eq_false.1 (Bool.eq_false_iff.2 h2) x hx
  unfold differB at this
  rw[hy]at this
  simpa using this
 ·have:=List.any_eq_false.1 (Bool.eq_false_iff.2 h3) x hx
  simpa using this
theorem keep_iff {n:Net}{before after:List Req}{s0 s:Sched}(hW:WholeOk n before after s0)(hl:s.len=s0.len)(hf:formB s=true):keepB n before after s=keptR n before after s:=by
 have hb:=reqsOk hW.rb
 have ha:=reqsOk hW.ra
 have one:∀x∈before,∀y,getQ after x.flow.id=some y→stayQ before after x.flow.id=some (x,y):=fun x hx y hy=>by
  unfold stayQ
  rw[getQ_mem hb.sorted hx,hy]
 have two:∀x∈before,∀y,getQ after x.flow.id=some y→keepF n before after s x.flow=(unionM x.routes y.routes).any fun r=>fitsB n s x.flow r 0:=fun x hx y hy=>by
  have hxo:=(reqE_ok hW.rb).2.2.1 x hx
  have hyo:=(reqE_ok hW.ra).2.2.1 y (getQ_some hy).1
  have hfe:=hW.same x hx y hy
  unfold keepF
  rw[one x hx y hy,union_any]
  refine leastM_iff (fun e=>?_) fun r hr=>?_
  ·have:=hxo.len.1
   rw[List.append_eq_nil_iff.1 e |>.1]at this;simp at this
  ·rcases List.mem_append.1 hr with h|h
   ·exact way_zero hW.n0 hf hxo (by rw[hl];exact hW.pb x hx) rfl (hxo.route r h)
   ·exact way_zero hW.n0 hf hyo (by rw[hl];exact hW.pa y (getQ_some hy).1) hfe.symm (by rw[←hfe];exact hyo.route r h)
 unfold keepB keptR
 rw[Bool.eq_iff_iff,List.all_eq_true,List.all_eq_true]
 constructor
 ·intro h x hx
  cases hy:getQ after x.flow.id with
  | none=>rfl
  | some y=>
   have hm:x.flow∈bothM before after:=(flowsA_mem hb ha).1 (List.mem_append_left _ (List.mem_map.2 ⟨x,hx,rfl⟩))
   have:=h x.flow hm
   rw[two x hx y hy]at this
   simp[this]
 ·intro h f hfm
  cases hst:stayQ before after f.id with
  | none=>unfold keepF;rw[hst]
  | some p=>
   obtain⟨x,y⟩:=p
   unfold stayQ at hst
   cases hgx:getQ before f.id with
   | none=>rw[hgx]at hst;cases hst
   | some x'=>
    cases hgy:getQ after f.id with
    | none=>rw[hgx,hgy]at hst;cases hst
    | some y'=>
     obtain⟨m1,m2⟩:=getQ_some hgx
     have hfx:f=x'.flow:=by
      unfold bothM at hfm
      have:=(bothN_mem.1 hfm).2.2
      unfold bothF at this
      rw[hgx]at this
      simpa using this.symm
     have hy2:getQ after x'.flow.id=some y':=by rw[m2];exact hgy
     have h1:=h x' m1
     rw[hy2]at h1
     simp only at h1
     have hs:stayB before after x'.flow.id=true:=by
      unfold stayB
      rw[one x' m1 y' hy2]
      simp[hW.same x' m1 y' hy2]
     rw[hs]at h1
     rw[hfx,two x' m1 y' hy2]
     simpa using h1
theorem ids_hasQ (q:List Req)(id:Int):idsB (flowsQ q) id=(getQ q id).isSome:=by
 rw[getQ_has]
 unfold idsB flowsQ hasQ
 rw[List.any_map];rfl
theorem VOk.part2 {n:Net}{l l':List Flow}{s:Sched}(h:VOk n l s)(p:Cell→Bool)(hf:(flowsE n.nodes l').2=0)(hper:∀f∈l',s.len % f.period=0)(hp:∀c∈s.cells,p c=true→idsB l' c.flow=true):(schedE n l' ⟨s.len,s.offs,s.cells.filter p⟩).2=0:=by
 have hperm:s.cells.Perm (s.cells.filter p++s.cells.filter fun c=>!p c):=(List.filter_append_perm p s.cells).symm
 have hrest:=rest_left h.net (AllRest.perm (fun c r r'=>cellR2_perm c r r') h.rest hperm)
 have hso:=(h.sorted.filter p)
 refine schedE_of h.n0 hf h.size hper (Nat.le_trans (List.length_filter_le _ _) h.many) (fun i c hc=>?_) hrest
 obtain⟨hcm,hcp⟩:=List.mem_filter.1 (List.mem_of_getElem? hc)
 obtain⟨j,hj⟩:=List.getElem?_of_mem hcm
 obtain⟨h1,h2,_,_⟩:=h.cell j c hj
 refine⟨h1,h2,hp c hcm hcp,?_⟩
 unfold ordC
 cases i with
 | zero=>rfl
 | succ j=>
  simp only at hc ⊢
  cases hq:(s.cells.filter p)[j]? with
  | none=>rfl
  | some d=>
   refine decide_eq_true ?_
   obtain⟨hi,rfl⟩:=List.getElem?_eq_some_iff.1 hc
   obtain⟨hj,rfl⟩:=List.getElem?_eq_some_iff.1 hq
   exact List.pairwise_iff_getElem.1 hso j (j+1) hj hi (by omega)
theorem ends_iff {n:Net}{before after:List Req}{s0 s:Sched}{L:List Flow}(hW:WholeOk n before after s0)(hl:s.len=s0.len)(hv:VOk n L s):endsB n after s=endsR n after s:=by
 have ha:=reqsOk hW.ra
 obtain⟨hok,hq16,hreq,hfl⟩:=reqE_ok hW.ra
 have hsv:(schedE n (flowsQ after) (ownQ after s)).2=0:=hv.part2 _ hfl (fun f hf=>by
  obtain⟨x,hx,rfl⟩:=List.mem_map.1 hf
  rw[hl];exact hW.pa x hx) fun c _ hc=>by rw[ids_hasQ];exact hc
 have hform:formB (ownQ after s)=true:=(schedE_ok hsv).form
 have hclm:∀x∈after,claimB n (ownQ after s) x=x.routes.all fun r=>fitsB n s x.flow r 0:=fun x hx=>by
  unfold claimB
  rw[Bool.eq_iff_iff,List.all_eq_true,List.all_eq_true]
  refine forall_congr' fun r=>forall_congr' fun hr=>?_
  have hway:=way_zero (s:=ownQ after s) hW.n0 hform (hreq x hx) (by show s.len % _=0;rw[hl];exact hW.pa x hx) rfl ((hreq x hx).route r hr)
  have hcells:∀a b,cellsL (ownQ after s) x.flow a b=cellsL s x.flow a b:=fun a b=>by
   unfold cellsL ownQ
   simp only
   rw[List.filter_filter]
   refine List.filter_congr fun c _=>?_
   cases ho:offL x.flow.id a b c with
   | true=>rfl
   | false=>
    have hcf:c.flow=x.flow.id:=by unfold offL at ho;simp at ho;exact ho.1.1
    rw[hcf,getQ_mem ha.sorted hx];rfl
  have hbr:boundR n (ownQ after s) x.flow r 0=boundR n s x.flow r 0:=boundR_eq rfl hcells
  unfold srvB routeM
  rw[if_neg (by simp[hway]),hbr,fitsB_iff]
  cases hb:boundR n s x.flow r 0 with
  | none=>simp
  | some B=>simp
 unfold endsB endsR
 rw[Bool.eq_iff_iff,decide_eq_true_eq,List.all_eq_true]
 constructor
 ·intro h x hx
  rw[←hclm x hx]
  exact(make_parts h).2.2.1 x hx
 ·intro h
  rw[make_of hW.ra hsv fun x hx=>by rw[hclm x hx];exact h x hx]
def wrongE (s:Sched)(l:List Chg):Int:=if formB s=false then 1 else if 1024 < l.length then 8 else(behM none s l).2
def uptoW (l:List Chg)(t:Int):List Chg:=l.takeWhile fun c=>decide (c.slot≤t)
def applyP (s:Sched)(l:List Chg)(t:Int):Sched×Int:=if wrongE s l≠0 then(⟨0,0,[]⟩,wrongE s l) else(afterC s (uptoW l t),0)
theorem ready0 (s:Sched):readyM [] s [] 0=if formB s=false then 1 else 0:=by
 unfold readyM
 have h1:(flowsE 32 []).2=0:=by decide
 have h2:(scriptM []).2=0:=by decide
 by_cases hf:formB s=false
 ·rw[if_pos hf,if_pos (.inr (.inl hf))]
 ·rw[if_neg hf,if_neg (by simp[h1,h2,hf]),if_neg (by omega)]
theorem wrong_eq (s:Sched)(l:List Chg):(changeM [] s l [] 0).2=wrongE s l:=by
 unfold changeM wrongE
 rw[ready0]
 by_cases hf:formB s=false
 ·rw[if_pos hf,if_pos hf,if_pos (by decide)]
 ·rw[if_neg hf,if_neg hf,if_neg (by decide)]
  split
  ·rfl
  split
  ·rfl
  ·rename_i h
   have h2:(behM none s l).2=0:=by omega
   exact h2.symm
theorem app_late {t:Int}:∀{p:Option Int} {s out:Sched} {cs:List Chg},(behM p s cs).2=0→(∀c∈cs,t < c.slot)→(appM p s out cs t).1=out
 | _,_,_,[],_,_=>rfl
 | p,s,out,c :: cs,h,hs=>by
  unfold behM at h
  split at h
  ·rename_i h1;exact absurd h h1
  split at h
  ·rename_i h1;exact absurd h h1
  rename_i h1 h2
  unfold appM
  rw[if_neg h1,if_neg h2,if_neg (by have:=hs c (List.mem_cons_self ..);omega)]
  exact app_late h fun d hd=>hs d (List.mem_cons_of_mem _ hd)
theorem app_while {t:Int}:∀{p:Option Int} {s:Sched} {cs:List Chg},(behM p s cs).2=0→(appM p s s cs t).1=afterC s (uptoW cs t)
 | _,_,[],_=>rfl
 | p,s,c :: cs,h=>by
  unfold behM at h
  split at h
  ·rename_i h1;exact absurd h h1
  split at h
  ·rename_i h1;exact absurd h h1
  rename_i h1 h2
  unfold appM
  rw[if_neg h1,if_neg h2]
  by_cases hc:c.slot≤t
  ·rw[if_pos hc,app_while h]
   unfold uptoW
   rw[List.takeWhile_cons,if_pos (by simpa using hc)]
   rfl
  ·rw[if_neg hc,app_late h fun d hd=>by have:=beh_after h d hd;omega]
   unfold uptoW
   rw[List.takeWhile_cons,if_neg (by simpa using hc)]
   rfl
theorem apply_ref (s:Sched)(l:List Chg)(t:Int):applyP s l t=if formB s=false then(⟨0,0,[]⟩,1) else if (applyM s l t).2≠0 then(⟨0,0,[]⟩,(applyM s l t).2) else((applyM s l t).1,0):=by
 unfold applyP wrongE applyM
 by_cases hf:formB s=false
 ·rw[if_pos hf,if_pos hf,if_pos (by decide)]
 ·rw[if_neg hf,if_neg hf]
  by_cases hl:1024 < l.length
  ·rw[if_pos hl,if_pos hl,if_pos (by decide),if_pos (show(8:Int)≠0 by decide)]
  ·rw[if_neg hl,if_neg hl,app_err]
   by_cases hb:(behM none s l).2=0
   ·rw[if_neg (by simp[hb]),if_neg (by simp[hb]),app_while hb]
   ·rw[if_pos hb,if_pos hb]
def lastAdd (out:List Chg)(id:Int):Option Int:=((out.filter fun d=>d.add&&d.cell.flow==id).getLast?).map Chg.slot
def flowOf (l:List Flow)(id:Int):Option Flow:=l.find? fun f=>f.id==id
def timeN (flows:List Flow)(out:List Chg)(t:Int)(c:Chg):Int:=if c.add=true then t else match flowOf flows c.cell.flow,lastAdd out c.cell.flow with
 | some f,some a=>max t (a+f.period)
 | _,_=>t
def timeG (flows:List Flow):Int→List Chg→List Chg→Option (List Chg)
 | _,out,[]=>some out
 | t,out,c :: cs=>if 1048576 < timeN flows out t c then none else timeG flows (timeN flows out t c) (out++[⟨timeN flows out t c,c.add,c.cell⟩]) cs
def timeM (flows:List Flow)(l:List Chg)(fr:Int):List Chg×Int:=
 if (flowsE 32 flows).2≠0 then([],1) else if fr < 0∨1048576 < fr then([],2) else if 1024 < l.length then([],8) else match timeG flows fr [] l with
 | none=>([],2)
 | some o=>(o,0)
theorem lastAdd_app (out:List Chg)(c:Chg)(id:Int):lastAdd (out++[c]) id=if (c.add&&c.cell.flow==id)=true then some c.slot else lastAdd out id:=by
 unfold lastAdd
 rw[List.filter_append]
 by_cases h:(c.add&&c.cell.flow==id)=true
 ·rw[if_pos h,show [c].filter (fun d=>d.add&&d.cell.flow==id)=[c] from List.filter_cons_of_pos (p:=fun d:Chg=>d.add&&d.cell.flow==id) h];simp
 ·rw[if_neg h,show [c].filter (fun d=>d.add&&d.cell.flow==id)=[] from List.filter_cons_of_neg (p:=fun d:Chg=>d.add&&d.cell.flow==id) h];simp
theorem flowOf_find (l:List Flow)(id:Int):(findF l id=-1∧flowOf l id=none)∨∃(k:Nat) (f:Flow),findF l id=k∧l[k]? = some f∧flowOf l id=some f:=by
 by_cases hneg:idxF (fun f:Flow=>f.id==id) l=-1
 ·refine .inl ⟨hneg,?_⟩
  have hnone:=idxF_none_iff hneg
  unfold flowOf
  rw[List.find?_eq_none]
  intro x hx
  obtain⟨k,hk⟩:=List.getElem?_of_mem hx
  simpa using hnone k x hk
 ·obtain⟨k,f,e1,e2,e3⟩:=idxF_at hneg
  obtain⟨_,_,_,e4⟩:=idxF_first e1
  have hkl:=(List.getElem?_eq_some_iff.1 e2).1
  refine .inr ⟨k,f,e1,e2,?_⟩
  unfold flowOf
  rw[List.find?_eq_some_iff_getElem]
  refine⟨e3,k,hkl,(List.getElem?_eq_some_iff.1 e2).2,fun j hj=>?_⟩
  have h4:=e4 j l[j] hj (List.getElem?_eq_getElem (by omega))
  simpa using h4
def n42:Net:=⟨2,[[0,9],[9,0]],1,1000,[⟨0,1,0⟩,⟨1,0,0⟩],[9,9]⟩
def q42:List Req:=[⟨⟨1,0,1,4,0,4⟩,[[0,1]]⟩]
def s42:Sched:=⟨4,1,[⟨0,0,0,1,1⟩]⟩
def l42 (r:Int):List Chg:=[⟨10,true,⟨2,0,0,1,1⟩⟩,⟨r,false,⟨0,0,0,1,1⟩⟩]
theorem e_check42:checkC n42 q42 q42 s42 (l42 14)=(-1,0):=by decide +kernel
theorem e_check42b:checkC n42 q42 q42 s42 (l42 13)=(1,12):=by decide +kernel
theorem e_apply42:(applyP s42 (l42 14) 12).2=0∧(applyP s42 (l42 14) 12).1.cells.length=2:=by decide +kernel
deriving instance DecidableEq for Chg
theorem e_time42:timeM (flowsQ q42) (l42 13) 10=(l42 14,0):=by decide +kernel
theorem idxF_find {α:Type}(p:α→Bool)(l:List α):(idxF p l=-1∧l.find? p=none)∨∃(k:Nat) (x:α),idxF p l=k∧l[k]? = some x∧l.find? p=some x:=by
 by_cases hneg:idxF p l=-1
 ·refine .inl ⟨hneg,?_⟩
  have hnone:=idxF_none_iff hneg
  rw[List.find?_eq_none]
  intro x hx
  obtain⟨k,hk⟩:=List.getElem?_of_mem hx
  simpa using hnone k x hk
 ·obtain⟨k,f,e1,e2,e3⟩:=idxF_at hneg
  obtain⟨_,_,_,e4⟩:=idxF_first e1
  have hkl:=(List.getElem?_eq_some_iff.1 e2).1
  refine .inr ⟨k,f,e1,e2,?_⟩
  rw[List.find?_eq_some_iff_getElem]
  refine⟨e3,k,hkl,(List.getElem?_eq_some_iff.1 e2).2,fun j hj=>?_⟩
  have h4:=e4 j l[j] hj (List.getElem?_eq_getElem (by omega))
  simpa using h4
def req0:Req:=⟨⟨0,0,0,0,0,0⟩,[]⟩
def getD (q:List Req)(id:Int):Req:=(getQ q id).getD req0
def movCs (n:Net)(before after:List Req)(flows:AV)(s:Sched)(done:AV):List AV:=[.int .i64 n.nodes,encRows n.power,.int .i64 n.noise,.int .i64 n.thr,encLinks n.links,encIs n.margin,encReqs before,encReqs after,flows,.int .i64 s.len,.int .i64 s.offs,encCells s.cells,done]
def movAv (n:Net)(before after:List Req)(flows:List Flow)(s:Sched)(done:List Chg):AV:=.agg (movCs n before after (encFlows flows) s (encChgs done))
def waitE (before after:List Req)(done:List Chg)(c:Chg):Int:=if earlyB before after done c=true then 12 else 0
theorem early_at {before after:List Req}{done:List Chg}{c:Chg}:earlyB before after done c=((((getQ before c.cell.flow).isSome&&(getQ after c.cell.flow).isSome)&&!c.add)&&done.any fun d=>d.add&&(d.cell.flow==(getD before c.cell.flow).flow.id&&decide (IntKind.i64.wrap (c.slot-d.slot) < (getD before c.cell.flow).flow.period))):=by
 unfold earlyB stayQ getD
 cases hb:getQ before c.cell.flow with
 | none=>simp
 | some x=>
  cases ha:getQ after c.cell.flow with
  | none=>simp
  | some y=>
   have hx:=(getQ_some hb).2
   simp only[Option.getD_some,Option.isSome_some,Bool.true_and]
   congr 1
   unfold earlyD
   rw[hx]
theorem keep_at {n:Net}{before after:List Req}{s:Sched}{f:Flow}:keepF n before after s f=(!((getQ before f.id).isSome&&(getQ after f.id).isSome)||((leastM n s f ((getD before f.id).routes++(getD after f.id).routes)).2==0&&decide ((leastM n s f ((getD before f.id).routes++(getD after f.id).routes)).1≤f.dead))):=by
 unfold keepF stayQ getD
 cases hb:getQ before f.id with
 | none=>simp
 | some x=>
  cases ha:getQ after f.id with
  | none=>simp
  | some y=>simp
theorem beh_formA:∀{p:Option Int} {s:Sched} {cs:List Chg},formB s=true→(behM p s cs).2=0→∀k,formB (afterC s (cs.take k))=true
 | _,s,[],hs,_,k=>by rw[List.take_nil];exact hs
 | p,s,c :: cs,hs,h,0=>hs
 | p,s,c :: cs,hs,h,k+1=>by
  unfold behM at h
  split at h
  ·rename_i h1;exact absurd h h1
  split at h
  ·rename_i h1;exact absurd h h1
  rename_i h1 h2
  exact beh_formA (s:=(chgM s c).1) (chgM_form (by omega)) h k
theorem upto_take (l:List Chg)(t:Int):uptoW l t=l.take (uptoW l t).length:=by
 have h:uptoW l t <+: l:=List.takeWhile_prefix _
 exact(List.prefix_iff_eq_take.1 h)
theorem wrong_ok {s:Sched}{l:List Chg}(h:wrongE s l=0):formB s=true∧l.length≤1024∧(behM none s l).2=0:=by
 unfold wrongE at h
 split at h
 ·cases h
 split at h
 ·cases h
 rename_i h1 h2
 exact⟨by simpa using h1,by omega,h⟩
theorem apply_ok {s:Sched}{l:List Chg}{t:Int}(h:(applyP s l t).2=0):wrongE s l=0∧(applyP s l t).1=afterC s (uptoW l t)∧formB (applyP s l t).1=true:=by
 unfold applyP at h ⊢
 by_cases hw:wrongE s l≠0
 ·rw[if_pos hw]at h;exact absurd h hw
 ·rw[if_neg hw]
  obtain⟨h1,_,h3⟩:=wrong_ok (s:=s) (l:=l) (by omega)
  refine⟨by omega,rfl,?_⟩
  show formB (afterC s (uptoW l t))=true
  rw[upto_take]
  exact beh_formA h1 h3 _
def orE (b o:Int):Int:=IntKind.i64.wrap (BitVec.ofInt IntKind.i64.bits b ||| BitVec.ofInt IntKind.i64.bits (IntKind.i64.wrap (1*2 ^ (min o.toNat IntKind.i64.bits)))).toNat
def busF (l:List Cell):Int:=l.foldl (fun b c=>orE b c.off) 0
def busyP (s:Sched)(l:List Chg)(t:Int):Int×Int:=if (applyP s l t).2≠0 then(0,(applyP s l t).2) else if t < 0 then(0,2) else(busF (atM (applyP s l t).1 t),0)
theorem busF_snoc (l:List Cell)(c:Cell):busF (l++[c])=orE (busF l) c.off:=by unfold busF;rw[List.foldl_append];rfl
theorem at_mem {s:Sched}{t:Int}{c:Cell}(h:c∈atM s t):c∈s.cells:=by
 unfold atM at h
 split at h
 ·cases h
 ·exact(List.mem_filter.1 h).1
theorem form_off15 {s:Sched}(h:formB s=true){c:Cell}(hc:c∈s.cells):0≤c.off∧c.off≤15:=by
 obtain⟨h1,_,h3⟩:=form_all h
 have h4:=h3 c hc
 simp only[sizedB,formedB,placedB,insB,Bool.and_eq_true,decide_eq_true_eq]at h1 h4
 omega
def inS (flows:List Flow)(c:Chg)(t:Int)(d:Chg):Int:=if (!c.add&&(flowOf flows c.cell.flow).isSome&&d.add&&d.cell.flow==c.cell.flow)=true then max t (d.slot+((flowOf flows c.cell.flow).getD ⟨0,0,0,0,0,0⟩).period) else t
def inF (flows:List Flow)(c:Chg)(t:Int)(o:List Chg):Int:=o.foldl (inS flows c) t
theorem inF_snoc (flows:List Flow)(c:Chg)(t:Int)(o:List Chg)(d:Chg):inF flows c t (o++[d])=inS flows c (inF flows c t o) d:=by unfold inF;rw[List.foldl_append];rfl
theorem lastAdd_mem {o:List Chg}{id a:Int}(h:lastAdd o id=some a):∃d∈o,d.slot=a:=by
 unfold lastAdd at h
 obtain⟨d,h1,h2⟩:=Option.map_eq_some_iff.1 h
 exact⟨d,(List.mem_filter.1 (List.mem_of_getLast? h1)).1,h2⟩
theorem inF_take {flows:List Flow}{c:Chg}{t:Int}{o:List Chg}(hs:o.Pairwise fun a b=>a.slot≤b.slot):∀k,inF flows c t (o.take k)=timeN flows (o.take k) t c
 | 0=>by
  unfold timeN inF
  simp only[List.take_zero,List.foldl_nil]
  split
  ·rfl
  ·rw[show lastAdd [] c.cell.flow=none from rfl]
   cases flowOf flows c.cell.flow<;>rfl
 | k+1=>by
  have ih:=inF_take (flows:=flows) (c:=c) (t:=t) hs k
  cases hk:o[k]? with
  | none=>
   have hl:o.length≤k:=by
    rcases Nat.lt_or_ge k o.length with h|h
    ·rw[List.getElem?_eq_getElem h]at hk;cases hk
    ·exact h
   rw[List.take_of_length_le (by omega)]
   rw[List.take_of_length_le hl]at ih
   exact ih
  | some d=>
   rw[take_succ hk,inF_snoc,ih]
   unfold inS
   unfold timeN
   rw[lastAdd_app]
   cases hc:c.add with
   | true=>simp
   | false=>
    cases hf:flowOf flows c.cell.flow with
    | none=>simp
    | some f=>
     cases hd:(d.add&&d.cell.flow==c.cell.flow) with
     | false=>
      simp only[Bool.not_false,Bool.true_and,Option.isSome_some,Bool.false_eq_true,if_false]
      rw[hd]
      simp only[Bool.false_eq_true,if_false]
     | true=>
      have:(true&&d.add&&d.cell.flow==c.cell.flow)=true:=by rw[Bool.true_and];exact hd
      simp only[Bool.not_false,Bool.true_and,Option.isSome_some,Option.getD_some,if_true,Bool.false_eq_true,if_false]
      rw[if_pos hd]
      cases hla:lastAdd (o.take k) c.cell.flow with
      | none=>rfl
      | some a=>
       simp only
       obtain⟨e,he,rfl⟩:=lastAdd_mem hla
       have:e.slot≤d.slot:=by
        obtain⟨i,hi,rfl⟩:=List.mem_iff_getElem.1 he
        rw[List.length_take]at hi
        rw[List.getElem_take]
        obtain⟨hk1,rfl⟩:=List.getElem?_eq_some_iff.1 hk
        exact List.pairwise_iff_getElem.1 hs i k (by omega) hk1 (by omega)
       omega
theorem timeN_ge (flows:List Flow)(o:List Chg)(t:Int)(c:Chg):t≤timeN flows o t c:=by
 unfold timeN
 repeat' split
 all_goals omega
end HM
