/- Lists of changes without a fault: what their Check says; ChangeBegins and ChangeEarliest in plain words. -/
import Derived.Test.YtggiajmlnieidaaGreatDoorDd
import Derived.Test.YtggiajmlnieidaaGreatDoorDc
import Derived.Test.YtggiajmlnieidaaGreatDoorDa
import Derived.Test.YtggiajmlnieidaaGreatDoorDb
namespace HM
open Go Go.RowKit
theorem flowsE_of {nodes:Int}{l:List Flow}(h1:2≤nodes)(h2:nodes≤32)(hl:l.length≤16)(hf:∀f∈l,flowE nodes f=0)(hs:l.Pairwise fun a b=>a.id < b.id):(flowsE nodes l).2=0:=by
 unfold flowsE
 rw[if_neg (by omega),if_neg (by omega),firstAt_ok]
 intro j hj
 unfold flowAt
 rw[List.getElem?_eq_getElem hj]
 simp only
 rw[if_neg (by rw[hf _ (List.getElem_mem hj)];decide),if_neg]
 rw[Bool.not_eq_false]
 unfold flowO
 cases j with
 | zero=>rfl
 | succ i=>
  simp only
  rw[List.getElem?_eq_getElem (by omega)]
  exact decide_eq_true (List.pairwise_iff_getElem.1 hs i (i+1) (by omega) hj (by omega))
theorem flowsE_nodes {nodes:Int}{l:List Flow}(h:(flowsE nodes l).2=0):2≤nodes∧nodes≤32:=by
 unfold flowsE at h
 split at h
 ·cases h
 ·omega
theorem flowE_32 {nodes:Int}{f:Flow}(h:flowE nodes f=0)(h2:nodes≤32):flowE 32 f=0:=by
 have:=flowE_ok h
 unfold flowE
 rw[if_neg (by simp[insB];omega),if_neg (by omega),if_neg (by omega)]
theorem both_flows {n:Net}{before after:List Req}{s:Sched}(h:wholeC n before after s=0):(flowsE n.nodes (bothM before after)).2=0:=by
 have hW:=wholeC_ok h
 obtain⟨_,_,b3,b4⟩:=reqE_ok hW.rb
 obtain⟨_,_,a3,_⟩:=reqE_ok hW.ra
 obtain⟨n2,n32⟩:=flowsE_nodes b4
 refine flowsE_of n2 n32 ?_ (fun f hf=>?_) (bothN_sorted _ _ _)
 ·unfold wholeC at h
  split at h
  ·cases h
  split at h
  ·cases h
  split at h
  ·cases h
  split at h
  ·cases h
  ·omega
 ·have h3:=(bothN_mem.1 hf).2.2
  unfold bothF at h3
  cases hg:getQ before f.id with
  | some x=>
   rw[hg]at h3
   simp only[Option.some.injEq]at h3
   rw[←h3];exact(b3 x (getQ_some hg).1).flow
  | none=>
   rw[hg]at h3
   cases hy:getQ after f.id with
   | none=>rw[hy]at h3;cases h3
   | some y=>
    rw[hy]at h3
    simp only[Option.map_some,Option.some.injEq]at h3
    rw[←h3];exact(a3 y (getQ_some hy).1).flow
theorem both_has {before after:List Req}{id:Int}(h:idsB (flowsQ before) id=true)(hr:0≤id∧id≤255):idsB (bothM before after) id=true:=by
 rw[ids_hasQ]at h
 cases hg:getQ before id with
 | none=>rw[hg]at h;cases h
 | some x=>
  refine List.any_eq_true.2 ⟨x.flow,bothN_mem.2 ?_,by simp[(getQ_some hg).2]⟩
  have hid:=(getQ_some hg).2
  rw[hid]
  refine⟨hr.1,by omega,?_⟩
  unfold bothF
  rw[hg]
theorem both_per {n:Net}{before after:List Req}{s:Sched}(hW:WholeOk n before after s):∀f∈bothM before after,s.len % f.period=0:=fun f hf=>by
 have h3:=(bothN_mem.1 hf).2.2
 unfold bothF at h3
 cases hg:getQ before f.id with
 | some x=>
  rw[hg]at h3
  simp only[Option.some.injEq]at h3
  rw[←h3];exact hW.pb x (getQ_some hg).1
 | none=>
  rw[hg]at h3
  cases hy:getQ after f.id with
  | none=>rw[hy]at h3;cases h3
  | some y=>
   rw[hy]at h3
   simp only[Option.map_some,Option.some.injEq]at h3
   rw[←h3];exact hW.pa y (getQ_some hy).1
theorem both_valid {n:Net}{before after:List Req}{s:Sched}(h:wholeC n before after s=0):(schedE n (bothM before after) s).2=0:=by
 have hW:=wholeC_ok h
 have:=hW.vok.part2 (fun _=>true) (both_flows h) (both_per hW) fun c hc _=>by
  obtain⟨i,hi⟩:=List.getElem?_of_mem hc
  have hid:=(hW.vok.cell i c hi).2.2.1
  refine both_has hid ?_
  rw[ids_hasQ]at hid
  cases hg:getQ before c.flow with
  | none=>rw[hg]at hid;cases hid
  | some x=>
   obtain⟨m1,m2⟩:=getQ_some hg
   have:=(reqsOk hW.rb).ids x m1
   omega
 rwa [List.filter_eq_self.2 (fun _ _=>rfl)]at this
structure CkOk (n:Net)(before after:List Req)(s:Sched)(l:List Chg):Prop where
 whole:wholeC n before after s=0
 few:l.length≤1024
 step:∀(k:Nat) c,l[k]? = some c→stepC n before after (l.take k) (afterC s (l.take k)) c=0
 ends:endsB n after (afterC s l)=true
theorem ckOk {n:Net}{before after:List Req}{s:Sched}{l:List Chg}(h:(checkC n before after s l).2=0):CkOk n before after s l:=by
 unfold checkC at h
 split at h
 ·rename_i h1;exact absurd h h1
 split at h
 ·cases h
 split at h
 ·rename_i h1;exact absurd h h1
 split at h
 ·cases h
 rename_i h1 h2 h3 h4
 refine⟨by omega,by omega,fun k c hk=>?_,by simpa using h4⟩
 have h5:=firstAt_ok.1 (by omega:(firstAt (faultC n before after s l) l.length).2=0) k (List.getElem?_eq_some_iff.1 hk).1
 unfold faultC at h5
 rw[hk]at h5
 exact h5
theorem CkOk.check {n:Net}{before after:List Req}{s:Sched}{l:List Chg}(h:CkOk n before after s l):checkC n before after s l=(-1,0):=by
 have h5:firstAt (faultC n before after s l) l.length=(-1,0):=firstAt_zero fun j hj=>by
  unfold faultC
  rw[List.getElem?_eq_getElem hj]
  exact h.step j _ (List.getElem?_eq_getElem hj)
 have:=h.few
 unfold checkC
 rw[if_neg (by rw[h.whole];decide),if_neg (by omega),if_neg (by rw[h5];decide),if_neg (by rw[h.ends];decide)]
theorem step_zero {n:Net}{before after:List Req}{done:List Chg}{s:Sched}{c:Chg}:stepC n before after done s c=0↔chgE (lastSlot done) c=0∧(chgM s c).2=0∧earlyB before after done c=false∧(schedE n (bothM before after) (chgM s c).1).2=0∧keepB n before after (chgM s c).1=true:=by
 unfold stepC
 constructor
 ·intro h
  split at h
  ·rename_i h1;exact absurd h h1
  split at h
  ·rename_i h1;exact absurd h h1
  split at h
  ·cases h
  split at h
  ·cases h
  split at h
  ·cases h
  rename_i h1 h2 h3 h4 h5
  exact⟨by omega,by omega,by simpa using h3,by omega,by simpa using h5⟩
 ·rintro⟨h1,h2,h3,h4,h5⟩
  rw[if_neg (by omega),if_neg (by omega),if_neg (by rw[h3];decide),if_neg (by omega),if_neg (by rw[h5];decide)]
theorem lastSlot_snoc (l:List Chg)(c:Chg):lastSlot (l++[c])=some c.slot:=by unfold lastSlot;simp
theorem chgE_zero {p:Option Int}{c:Chg}(h:chgE p c=0):0≤c.slot∧∀q,p=some q→q≤c.slot:=by
 unfold chgE at h
 split at h
 ·cases h
 refine⟨by omega,fun q hq=>?_⟩
 subst hq
 simp only at h
 split at h
 ·cases h
 ·omega
theorem beh_of {s:Sched}:∀(rest done:List Chg),(∀(k:Nat) c,rest[k]? = some c→chgE (lastSlot (done++rest.take k)) c=0∧(chgM (afterC s (done++rest.take k)) c).2=0)→(behM (lastSlot done) (afterC s done) rest).2=0
 | [],_,_=>rfl
 | c :: rest,done,h=>by
  have h0:=h 0 c rfl
  rw[List.take_zero,List.append_nil]at h0
  have ih:=beh_of (s:=s) rest (done++[c]) fun k d hk=>by
   have:=h (k+1) d hk
   rw[List.take_succ_cons,List.append_cons]at this
   exact this
  unfold behM
  rw[if_neg (by omega),if_neg (by omega)]
  simp only
  rw[lastSlot_snoc]at ih
  have e:afterC s (done++[c])=(chgM (afterC s done) c).1:=by unfold afterC;rw[List.foldl_append];rfl
  rw[e]at ih
  exact ih
section
variable {n:Net} {before after:List Req} {s:Sched} {l:List Chg}
theorem CkOk.wrong (h:CkOk n before after s l):wrongE s l=0:=by
 have hW:=wholeC_ok h.whole
 have:=h.few
 unfold wrongE
 rw[if_neg (by rw[hW.vok.form];decide),if_neg (by omega)]
 refine beh_of l [] fun k c hk=>?_
 have:=step_zero.1 (h.step k c hk)
 exact⟨this.1,this.2.1⟩
theorem CkOk.apply (h:CkOk n before after s l)(t:Int):applyP s l t=(afterC s (uptoW l t),0):=by
 unfold applyP
 rw[if_neg (by rw[h.wrong];decide)]
theorem CkOk.valid (h:CkOk n before after s l):∀k,(schedE n (bothM before after) (afterC s (l.take k))).2=0
 | 0=>both_valid h.whole
 | k+1=>by
  cases hk:l[k]? with
  | none=>
   have hl:l.length≤k:=by
    rcases Nat.lt_or_ge k l.length with h|h
    ·rw[List.getElem?_eq_getElem h]at hk;cases hk
    ·exact h
   have:=h.valid k
   rw[List.take_of_length_le hl]at this
   rw[List.take_of_length_le (by omega)]
   exact this
  | some c=>
   rw[afterC_snoc hk]
   exact(step_zero.1 (h.step k c hk)).2.2.2.1
theorem CkOk.upto (h:CkOk n before after s l)(t:Int):(schedE n (bothM before after) (afterC s (uptoW l t))).2=0:=by
 rw[upto_take]
 exact h.valid _
theorem upto_all {t:Int}(h:∀c∈l,c.slot≤t):uptoW l t=l:=by
 unfold uptoW
 induction l with
 | nil=>rfl
 | cons a l ih=>rw[List.takeWhile_cons,if_pos (decide_eq_true (h a (List.mem_cons_self ..))),ih fun c hc=>h c (List.mem_cons_of_mem _ hc)]
end
def stayF (before after:List Req):List Flow:=(before.filter fun x=>stayB before after x.flow.id).map Req.flow
theorem stayQ_some {before after:List Req}{id:Int}{x y:Req}(h:stayQ before after id=some (x,y)):getQ before id=some x∧getQ after id=some y:=by
 unfold stayQ at h
 cases hb:getQ before id with
 | none=>rw[hb]at h;cases h
 | some x'=>
  cases ha:getQ after id with
  | none=>rw[hb,ha]at h;cases h
  | some y'=>rw[hb,ha]at h;cases h;exact⟨rfl,rfl⟩
theorem stayB_at {n:Net}{before after:List Req}{s:Sched}(hW:WholeOk n before after s)(id:Int):stayB before after id=(stayQ before after id).isSome:=by
 unfold stayB
 cases h:stayQ before after id with
 | none=>rfl
 | some p=>
  obtain⟨x,y⟩:=p
  obtain⟨h1,h2⟩:=stayQ_some h
  obtain⟨m1,m2⟩:=getQ_some h1
  simp[hW.same x m1 y (by rw[m2];exact h2)]
theorem flowOf_stay {n:Net}{before after:List Req}{s:Sched}(hW:WholeOk n before after s)(id:Int):flowOf (stayF before after) id=(stayQ before after id).map fun p=>p.1.flow:=by
 have hb:=reqsOk hW.rb
 cases h:stayQ before after id with
 | none=>
  unfold flowOf
  rw[Option.map_none,List.find?_eq_none]
  intro f hf
  obtain⟨x,hx,rfl⟩:=List.mem_map.1 hf
  have h2:=(List.mem_filter.1 hx).2
  rw[stayB_at hW]at h2
  intro he
  rw[show x.flow.id=id by simpa using he,h]at h2
  cases h2
 | some p=>
  obtain⟨x,y⟩:=p
  obtain⟨h1,h2⟩:=stayQ_some h
  obtain⟨m1,m2⟩:=getQ_some h1
  have hx:x.flow∈stayF before after:=List.mem_map.2 ⟨x,List.mem_filter.2 ⟨m1,by rw[stayB_at hW,m2,h];rfl⟩,rfl⟩
  cases hf:flowOf (stayF before after) id with
  | none=>
   unfold flowOf at hf
   rw[List.find?_eq_none]at hf
   have:=hf x.flow hx
   simp[m2]at this
  | some f=>
   unfold flowOf at hf
   have hm:=List.mem_of_find?_eq_some hf
   have hi:f.id=id:=by simpa using List.find?_some hf
   obtain⟨z,hz,rfl⟩:=List.mem_map.1 hm
   have hzb:=(List.mem_filter.1 hz).1
   have:x=z:=id_uniq hb.sorted m1 hzb (by rw[m2,hi])
   rw[this];rfl
theorem stay_ok {n:Net}{before after:List Req}{s:Sched}(hW:WholeOk n before after s):(flowsE 32 (stayF before after)).2=0:=by
 obtain⟨_,b2,b3,b4⟩:=reqE_ok hW.rb
 obtain⟨n2,n32⟩:=flowsE_nodes b4
 refine flowsE_of (by omega) (by omega) ?_ (fun f hf=>?_) ?_
 ·unfold stayF
  rw[List.length_map]
  exact Nat.le_trans (List.length_filter_le _ _) b2
 ·obtain⟨x,hx,rfl⟩:=List.mem_map.1 hf
  exact flowE_32 (b3 x (List.mem_filter.1 hx).1).flow n32
 ·unfold stayF
  rw[List.pairwise_map]
  exact(reqsOk hW.rb).sorted.filter _
def prvS (t:Int)(ds:List Chg):Nat→Int
 | 0=>t
 | j+1=>((ds[j]?).map Chg.slot).getD 0
theorem prvS_succ (t:Int)(ds:List Chg)(j:Nat):prvS t ds (j+1)=((ds[j]?).map Chg.slot).getD 0:=rfl
theorem timeG_spec {flows:List Flow}:∀{cs:List Chg} {t:Int} {out o:List Chg},timeG flows t out cs=some o→∃ds,o=out++ds∧ds.length=cs.length∧∀(k:Nat) c,cs[k]? = some c→ds[k]? = some ⟨timeN flows (out++ds.take k) (prvS t ds k) c,c.add,c.cell⟩∧timeN flows (out++ds.take k) (prvS t ds k) c≤1048576
 | [],t,out,o,h=>⟨[],by unfold timeG at h;rw[List.append_nil];exact(Option.some.inj h).symm,rfl,fun k c hk=>by simp at hk⟩
 | c :: cs,t,out,o,h=>by
  unfold timeG at h
  split at h
  ·cases h
  rename_i h1
  obtain⟨ds,e1,e2,e3⟩:=timeG_spec h
  refine⟨⟨timeN flows out t c,c.add,c.cell⟩ :: ds,by rw[e1,List.append_assoc];rfl,by simp[e2],fun k d hk=>?_⟩
  cases k with
  | zero=>
   rw[List.getElem?_cons_zero]at hk
   cases hk
   rw[List.take_zero,List.append_nil,List.getElem?_cons_zero]
   exact⟨rfl,by show timeN flows out t c≤_;omega⟩
  | succ k=>
   have:=e3 k d (by simpa using hk)
   have hp:prvS t (⟨timeN flows out t c,c.add,c.cell⟩ :: ds) (k+1)=prvS (timeN flows out t c) ds k:=by cases k with
    | zero=>rfl
    | succ j=>rfl
   rw[hp,List.take_succ_cons,List.append_cons,List.getElem?_cons_succ]
   exact this
structure Timed (flows:List Flow)(fr:Int)(l o:List Chg):Prop where
 len:o.length=l.length
 at_:∀(k:Nat) c,l[k]? = some c→o[k]? = some ⟨timeN flows (o.take k) (prvS fr o k) c,c.add,c.cell⟩
 hi:∀(k:Nat) c,l[k]? = some c→timeN flows (o.take k) (prvS fr o k) c≤1048576
theorem timed_of {flows:List Flow}{fr:Int}{l o:List Chg}(h:timeG flows fr [] l=some o):Timed flows fr l o:=by
 obtain⟨ds,e1,e2,e3⟩:=timeG_spec h
 rw[List.nil_append]at e1
 subst e1
 exact⟨e2,fun k c hk=>(e3 k c hk).1,fun k c hk=>(e3 k c hk).2⟩
section
variable {flows:List Flow} {fr:Int} {l o:List Chg}
theorem Timed.orig (h:Timed flows fr l o){k:Nat}{d:Chg}(hd:o[k]? = some d):∃c,l[k]? = some c∧d=⟨timeN flows (o.take k) (prvS fr o k) c,c.add,c.cell⟩:=by
 have hk:=(List.getElem?_eq_some_iff.1 hd).1
 rw[h.len]at hk
 refine⟨l[k],List.getElem?_eq_getElem hk,?_⟩
 have:=h.at_ k _ (List.getElem?_eq_getElem hk)
 rw[hd]at this
 exact Option.some.inj this
theorem Timed.prv (h:Timed flows fr l o){k:Nat}{d:Chg}(hd:o[k]? = some d):prvS fr o k≤d.slot:=by
 obtain⟨c,_,rfl⟩:=h.orig hd
 exact timeN_ge ..
theorem Timed.step (h:Timed flows fr l o){k:Nat}{d e:Chg}(hd:o[k]? = some d)(he:o[k+1]? = some e):d.slot≤e.slot:=by
 have:=h.prv he
 rw[prvS_succ,hd]at this
 exact this
theorem Timed.mono (h:Timed flows fr l o):∀(j k:Nat) (d e:Chg),o[k]? = some d→o[k+j]? = some e→d.slot≤e.slot
 | 0,k,d,e,hd,he=>by rw[Nat.add_zero,hd]at he;cases he;omega
 | j+1,k,d,e,hd,he=>by
  have hlt:k+j < o.length:=by have:=(List.getElem?_eq_some_iff.1 he).1;omega
  have h1:=h.mono j k d _ hd (List.getElem?_eq_getElem hlt)
  have h2:=h.step (List.getElem?_eq_getElem hlt) he
  omega
theorem Timed.sorted (h:Timed flows fr l o):o.Pairwise fun a b=>a.slot≤b.slot:=
 List.pairwise_iff_getElem.2 fun i j hi hj hij=>h.mono (j-i) i _ _ (List.getElem?_eq_getElem hi) (by rw[show i+(j-i)=j by omega];exact List.getElem?_eq_getElem hj)
theorem Timed.lo (h:Timed flows fr l o){k:Nat}{d:Chg}(hd:o[k]? = some d):fr≤d.slot:=by
 have h0:0 < o.length:=by have:=(List.getElem?_eq_some_iff.1 hd).1;omega
 have h1:=h.prv (k:=0) (List.getElem?_eq_getElem h0)
 have h2:=h.mono k 0 _ d (List.getElem?_eq_getElem h0) (by rw[Nat.zero_add];exact hd)
 have:fr≤o[0].slot:=h1
 omega
theorem Timed.top (h:Timed flows fr l o){k:Nat}{d:Chg}(hd:o[k]? = some d):d.slot≤1048576:=by
 obtain⟨c,hc,rfl⟩:=h.orig hd
 exact h.hi k c hc
theorem chgM_same {s:Sched}{c d:Chg}(h1:d.add=c.add)(h2:d.cell=c.cell):chgM s d=chgM s c:=by unfold chgM;rw[h1,h2]
theorem Timed.after (h:Timed flows fr l o)(s:Sched):∀k,afterC s (o.take k)=afterC s (l.take k)
 | 0=>rfl
 | k+1=>by
  cases hd:o[k]? with
  | none=>
   have hl:o.length≤k:=by
    rcases Nat.lt_or_ge k o.length with h|h
    ·rw[List.getElem?_eq_getElem h]at hd;cases hd
    ·exact h
   have:=h.after s k
   have hln:=h.len
   rw[List.take_of_length_le hl,List.take_of_length_le (by omega)]at this
   rw[List.take_of_length_le (by omega),List.take_of_length_le (by omega)]
   exact this
  | some d=>
   obtain⟨c,hc,e⟩:=h.orig hd
   rw[afterC_snoc hd,afterC_snoc hc,h.after s k]
   rw[chgM_same (c:=c) (by rw[e]) (by rw[e])]
theorem Timed.afterAll (h:Timed flows fr l o)(s:Sched):afterC s o=afterC s l:=by
 have:=h.after s o.length
 rwa [List.take_length,h.len,List.take_length]at this
theorem last_most {α:Type}{R:α→α→Prop}{l:List α}(hs:l.Pairwise R){d e:α}(hd:d∈l)(he:l.getLast? = some e):d=e∨R d e:=by
 obtain⟨i,hi,rfl⟩:=List.mem_iff_getElem.1 hd
 rw[List.getLast?_eq_getElem?]at he
 obtain⟨hj,rfl⟩:=List.getElem?_eq_some_iff.1 he
 by_cases hij:i=l.length-1
 ·left;subst hij;rfl
 ·right;exact List.pairwise_iff_getElem.1 hs i _ hi hj (by omega)
theorem lastAdd_ge {out:List Chg}{id:Int}{d:Chg}(hs:out.Pairwise fun a b=>a.slot≤b.slot)(hd:d∈out)(ha:d.add=true)(hf:d.cell.flow=id):∃a,lastAdd out id=some a∧d.slot≤a:=by
 have hm:d∈out.filter fun d=>d.add&&d.cell.flow==id:=List.mem_filter.2 ⟨hd,by simp[ha,hf]⟩
 unfold lastAdd
 cases hg:(out.filter fun d=>d.add&&d.cell.flow==id).getLast? with
 | none=>rw[List.getLast?_eq_none_iff]at hg;rw[hg]at hm;cases hm
 | some e=>
  refine⟨e.slot,rfl,?_⟩
  rcases last_most (hs.filter _) hm hg with rfl|h
  ·omega
  ·exact h
theorem lastAdd_is {out:List Chg}{id a:Int}(h:lastAdd out id=some a):∃d∈out,d.slot=a∧d.add=true∧d.cell.flow=id:=by
 unfold lastAdd at h
 obtain⟨d,h1,h2⟩:=Option.map_eq_some_iff.1 h
 obtain⟨h3,h4⟩:=List.mem_filter.1 (List.mem_of_getLast? h1)
 simp only[Bool.and_eq_true,beq_iff_eq]at h4
 exact⟨d,h3,h2,h4.1,h4.2⟩
theorem timeN_add {out:List Chg}{t:Int}{c d:Chg}{f:Flow}(hs:out.Pairwise fun a b=>a.slot≤b.slot)(hc:c.add=false)(hf:flowOf flows c.cell.flow=some f)(hd:d∈out)(ha:d.add=true)(hfl:d.cell.flow=c.cell.flow):d.slot+f.period≤timeN flows out t c:=by
 obtain⟨a,h1,h2⟩:=lastAdd_ge hs hd ha hfl
 unfold timeN
 rw[if_neg (by rw[hc];decide),hf,h1]
 simp only
 omega
theorem timeN_ne {out:List Chg}{t:Int}{c:Chg}(h:timeN flows out t c≠t):c.add=false∧∃f a,flowOf flows c.cell.flow=some f∧lastAdd out c.cell.flow=some a∧timeN flows out t c=a+f.period:=by
 unfold timeN at h ⊢
 cases hc:c.add with
 | true=>rw[if_pos hc]at h;exact absurd rfl h
 | false=>
  rw[hc]at h
  simp only[Bool.false_eq_true,if_false]at h ⊢
  cases hf:flowOf flows c.cell.flow with
  | none=>rw[hf]at h;exact absurd rfl h
  | some f=>
   cases ha:lastAdd out c.cell.flow with
   | none=>rw[hf,ha]at h;exact absurd rfl h
   | some a=>
    rw[hf,ha]at h
    simp only at h ⊢
    exact⟨trivial,f,a,rfl,rfl,by omega⟩
theorem lastSlot_take {k:Nat}{d:Chg}(h:o[k]? = some d):lastSlot (o.take (k+1))=some d.slot:=by rw[take_succ h,lastSlot_snoc]
theorem chgE_of {p:Option Int}{c:Chg}(h0:0≤c.slot)(h:∀q,p=some q→q≤c.slot):chgE p c=0:=by
 unfold chgE
 rw[if_neg (by omega)]
 cases p with
 | none=>rfl
 | some q=>simp only;rw[if_neg (by have:=h q rfl;omega)]
end
section
variable {n:Net} {before after:List Req} {s:Sched} {l o:List Chg} {fr:Int}
theorem early_no {done:List Chg}{c:Chg}(h:c.add=false→∀x y,stayQ before after c.cell.flow=some (x,y)→∀d∈done,d.add=true→d.cell.flow=c.cell.flow→x.flow.period≤IntKind.i64.wrap (c.slot-d.slot)):earlyB before after done c=false:=by
 unfold earlyB
 cases hc:c.add with
 | true=>rfl
 | false=>
  cases hq:stayQ before after c.cell.flow with
  | none=>rfl
  | some p=>
   obtain⟨x,y⟩:=p
   rw[Bool.not_false,Bool.true_and]
   simp only
   rw[List.any_eq_false]
   intro d hd
   unfold earlyD
   intro h2
   simp only[Bool.and_eq_true,beq_iff_eq,decide_eq_true_eq]at h2
   have:=h hc x y hq d hd h2.1 h2.2.1
   omega
theorem early_yes {done:List Chg}{c:Chg}(h:earlyB before after done c=false)(hc:c.add=false){x y:Req}(hq:stayQ before after c.cell.flow=some (x,y)){d:Chg}(hd:d∈done)(ha:d.add=true)(hf:d.cell.flow=c.cell.flow):x.flow.period≤IntKind.i64.wrap (c.slot-d.slot):=by
 unfold earlyB at h
 rw[hc,hq,Bool.not_false,Bool.true_and]at h
 simp only at h
 have:=List.any_eq_false.1 h d hd
 unfold earlyD at this
 simp only[ha,hf,Bool.true_and,beq_self_eq_true,decide_eq_true_eq]at this
 omega
theorem timed_ok (hk:CkOk n before after s l)(h0:0≤fr)(ht:Timed (stayF before after) fr l o):CkOk n before after s o:=by
 have hW:=wholeC_ok hk.whole
 have hso:=ht.sorted
 refine⟨hk.whole,by rw[ht.len];exact hk.few,fun k d hd=>?_,by rw[ht.afterAll];exact hk.ends⟩
 obtain⟨c,hc,e⟩:=ht.orig hd
 obtain⟨z1,z2,z3,z4,z5⟩:=step_zero.1 (hk.step k c hc)
 have hlo:=ht.lo hd
 have htop:=ht.top hd
 have hch:∀S,chgM S d=chgM S c:=fun S=>chgM_same (by rw[e]) (by rw[e])
 rw[step_zero,ht.after,hch]
 refine⟨chgE_of (by omega) fun q hq=>?_,z2,early_no fun ha x y hxy f hf h1 h2=>?_,z4,z5⟩
 ·cases k with
  | zero=>cases hq
  | succ j=>
   have hj:j < o.length:=by have:=(List.getElem?_eq_some_iff.1 hd).1;omega
   rw[lastSlot_take (List.getElem?_eq_getElem hj)]at hq
   cases hq
   exact ht.step (List.getElem?_eq_getElem hj) hd
 ·have hfl:=flowOf_stay hW d.cell.flow
  rw[hxy]at hfl
  have hcd:c.cell=d.cell:=by rw[e]
  obtain⟨i,hi,hie⟩:=List.mem_iff_getElem.1 (List.mem_of_mem_take hf)
  have hfl1:=ht.lo (List.getElem?_eq_getElem hi)
  have hfl2:=ht.top (List.getElem?_eq_getElem hi)
  rw[hie]at hfl1 hfl2
  have key:=timeN_add (flows:=stayF before after) (t:=prvS fr o k) (c:=c) (hso.sublist (List.take_sublist k o)) (by rw[e]at ha;exact ha) (by rw[hcd];exact hfl) hf h1 (by rw[hcd];exact h2)
  have hds:d.slot=timeN (stayF before after) (o.take k) (prvS fr o k) c:=by rw[e]
  rw[←hds]at key
  simp only at key
  rw[w64 (by omega) (by omega)]
  omega
theorem early_one (hk:CkOk n before after s l)(h0:0≤fr)(ht:Timed (stayF before after) fr l o){k:Nat}{d e:Chg}(he:o[k]? = some e)(hd:o[k+1]? = some d)(hne:d.slot≠e.slot):checkC n before after s (o.set (k+1) ⟨d.slot-1,d.add,d.cell⟩)=((k:Int)+1,12):=by
 have hW:=wholeC_ok hk.whole
 have hm:=timed_ok hk h0 ht
 have hl:=(List.getElem?_eq_some_iff.1 hd).1
 obtain⟨p,hp⟩:∃p,p=o.set (k+1) ⟨d.slot-1,d.add,d.cell⟩:=⟨_,rfl⟩
 rw[←hp]
 have hpl:p.length=o.length:=by rw[hp,List.length_set]
 have hpt:∀j,j≤k+1→p.take j=o.take j:=fun j hj=>by
  refine List.ext_getElem? fun i=>?_
  rw[List.getElem?_take,List.getElem?_take,hp,List.getElem?_set]
  split
  ·rw[if_neg (by omega)]
  ·rfl
 have h1:∀j,j < k+1→faultC n before after s p j=0:=fun j hj=>by
  unfold faultC
  have:p[j]? = o[j]?:=by rw[hp,List.getElem?_set,if_neg (by omega)]
  rw[this,hpt j (by omega),List.getElem?_eq_getElem (by omega:j < o.length)]
  exact hm.step j _ (List.getElem?_eq_getElem (by omega))
 have h2:faultC n before after s p (k+1)=12:=by
  unfold faultC
  have:p[k+1]? = some ⟨d.slot-1,d.add,d.cell⟩:=by rw[hp,List.getElem?_set,if_pos rfl,if_pos hl]
  rw[this,hpt (k+1) (by omega)]
  simp only
  obtain⟨z1,z2,z3,z4,z5⟩:=step_zero.1 (hm.step (k+1) d hd)
  have hst:=ht.step he hd
  have hlo:=ht.lo he
  have htop:=ht.top hd
  have hch:∀S,chgM S ⟨d.slot-1,d.add,d.cell⟩=chgM S d:=fun S=>chgM_same rfl rfl
  unfold stepC
  rw[if_neg,if_neg,if_pos]
  ·obtain⟨c,hc,ed⟩:=ht.orig hd
   have hpr:prvS fr o (k+1)=e.slot:=by rw[prvS_succ,he];rfl
   have hds:d.slot=timeN (stayF before after) (o.take (k+1)) (prvS fr o (k+1)) c:=by rw[ed]
   obtain⟨a1,f,a,a2,a3,a4⟩:=timeN_ne (flows:=stayF before after) (out:=o.take (k+1)) (t:=prvS fr o (k+1)) (c:=c) (by rw[←hds,hpr];exact hne)
   obtain⟨g,b1,b2,b3,b4⟩:=lastAdd_is a3
   have hcd:c.cell=d.cell:=by rw[ed]
   rw[flowOf_stay hW,hcd]at a2
   obtain⟨⟨x,y⟩,c1,c2⟩:=Option.map_eq_some_iff.1 a2
   simp only at c2
   cases hh:earlyB before after (o.take (k+1)) ⟨d.slot-1,d.add,d.cell⟩ with
   | true=>rfl
   | false=>
   exfalso
   have key:=early_yes hh (by show d.add=false;rw[ed];exact a1) c1 b1 b3 (by show _=d.cell.flow;rw[b4,hcd])
   simp only at key
   obtain⟨i,hi,hie⟩:=List.mem_iff_getElem.1 (List.mem_of_mem_take b1)
   have hfl1:=ht.lo (List.getElem?_eq_getElem hi)
   have hfl2:=ht.top (List.getElem?_eq_getElem hi)
   rw[hie]at hfl1 hfl2
   rw[w64 (by omega) (by omega)]at key
   rw[c2]at key
   omega
  ·rw[hch,z2];decide
  ·rw[chgE_of (by show 0≤d.slot-1;omega) fun q hq=>?_];decide
   rw[lastSlot_take he]at hq
   cases hq
   show e.slot≤d.slot-1
   omega
 have:=hk.few
 have hln:=ht.len
 have h5:firstAt (faultC n before after s p) p.length=(((k+1:Nat):Int),12):=by
  rw[firstAt_hit (k:=k+1) h1 (by rw[h2];decide) (by rw[hpl];exact hl),h2]
 unfold checkC
 rw[if_neg (by rw[hk.whole];decide),if_neg (by rw[hpl];omega),h5,if_pos (show(12:Int)≠0 by decide)]
 simp
theorem timeG_some {flows:List Flow}(hp:∀f∈flows,0≤f.period∧f.period≤512):∀(cs:List Chg) (t:Int) (out:List Chg),(∀d∈out,d.slot≤t)→t+512*(cs.length:Int)≤1048576→∃o,timeG flows t out cs=some o
 | [],_,out,_,_=>⟨out,rfl⟩
 | c :: cs,t,out,h,hb=>by
  have h1:timeN flows out t c≤t+512:=by
   unfold timeN
   split
   ·omega
   split
   ·rename_i f a hf ha
    obtain⟨d,hd,rfl⟩:=lastAdd_mem ha
    have:=h d hd
    unfold flowOf at hf
    have:=hp f (List.mem_of_find?_eq_some hf)
    omega
   ·omega
  have h2:=timeN_ge flows out t c
  simp only[List.length_cons]at hb
  unfold timeG
  rw[if_neg (by omega)]
  refine timeG_some hp cs _ _ (fun d hd=>?_) (by omega)
  rcases List.mem_append.1 hd with hd|hd
  ·have:=h d hd;omega
  ·rw[List.mem_singleton.1 hd];simp only;omega
theorem timeG_le (hk:CkOk n before after s l)(hs:∀c∈l,c.slot≤1048576):∀(cs l1 out:List Chg) (t:Int),l=l1++cs→out.length=l1.length→(∀(j:Nat) d,out[j]? = some d→∃c,l1[j]? = some c∧d.slot≤c.slot∧d.add=c.add∧d.cell=c.cell)→(∀d∈out,0≤d.slot)→0≤t→(∀c,cs.head? = some c→t≤c.slot)→∃ds,timeG (stayF before after) t out cs=some (out++ds)∧∀(k:Nat) c d,cs[k]? = some c→ds[k]? = some d→d.slot≤c.slot
 | [],_,out,_,_,_,_,_,_,_=>⟨[],by rw[List.append_nil];rfl,fun k c d h=>by simp at h⟩
 | c :: cs,l1,out,t,hl,hlen,ho,hp,h0,ht=>by
  have hW:=wholeC_ok hk.whole
  have hc:l[l1.length]? = some c:=by rw[hl,List.getElem?_append_right (Nat.le_refl _),Nat.sub_self];rfl
  have htk:l.take l1.length=l1:=by rw[hl];simp
  obtain⟨z1,_,z3,_,_⟩:=step_zero.1 (hk.step l1.length c hc)
  rw[htk]at z3
  have hc0:=(chgE_zero z1).1
  have hct:=hs c (List.mem_of_getElem? hc)
  have htc:=ht c rfl
  have h1:timeN (stayF before after) out t c≤c.slot:=by
   by_cases hn:timeN (stayF before after) out t c=t
   ·omega
   obtain⟨a1,f,a,a2,a3,a4⟩:=timeN_ne hn
   obtain⟨d,b1,b2,b3,b4⟩:=lastAdd_is a3
   obtain⟨j,hj⟩:=List.getElem?_of_mem b1
   obtain⟨e,e1,e2,e3,e4⟩:=ho j d hj
   rw[flowOf_stay hW]at a2
   obtain⟨⟨x,y⟩,c1,c2⟩:=Option.map_eq_some_iff.1 a2
   simp only at c2
   have hel:e∈l:=by rw[hl];exact List.mem_append_left _ (List.mem_of_getElem? e1)
   have he2:=hs e hel
   have key:=early_yes z3 a1 c1 (List.mem_of_getElem? e1) (by rw[←e3];exact b3) (by rw[←e4];exact b4)
   have hd0:=hp d b1
   rw[w64 (by omega) (by omega),c2]at key
   omega
  have h2:=timeN_ge (stayF before after) out t c
  obtain⟨ds,r1,r2⟩:=timeG_le hk hs cs (l1++[c]) (out++[⟨timeN (stayF before after) out t c,c.add,c.cell⟩]) (timeN (stayF before after) out t c) (by rw[hl,List.append_assoc];rfl) (by simp[hlen]) (fun j d hj=>by
   by_cases hjl:j < out.length
   ·rw[List.getElem?_append_left hjl]at hj
    obtain⟨e,e1,e2⟩:=ho j d hj
    exact⟨e,by rw[List.getElem?_append_left (List.getElem?_eq_some_iff.1 e1).1];exact e1,e2⟩
   ·rw[List.getElem?_append_right (by omega)]at hj
    have hj1:=(List.getElem?_eq_some_iff.1 hj).1
    rw[List.length_singleton]at hj1
    rw[show j-out.length=0 by omega]at hj
    cases hj
    exact⟨c,by rw[List.getElem?_append_right (by omega),show j-l1.length=0 by omega];rfl,h1,rfl,rfl⟩) (fun d hd=>by
   rcases List.mem_append.1 hd with hd|hd
   ·exact hp d hd
   ·rw[List.mem_singleton.1 hd];simp only;omega) (by omega) (fun d hd=>by
   cases cs with
   | nil=>cases hd
   | cons e cs=>
    cases hd
    have he:l[l1.length+1]? = some d:=by rw[hl,List.getElem?_append_right (by omega),show l1.length+1-l1.length=1 by omega];rfl
    have:=(chgE_zero (step_zero.1 (hk.step (l1.length+1) d he)).1).2 c.slot (lastSlot_take hc)
    omega)
  refine⟨⟨timeN (stayF before after) out t c,c.add,c.cell⟩ :: ds,?_,fun k c' d hk1 hd=>?_⟩
  ·unfold timeG
   rw[if_neg (by omega),r1,List.append_assoc];rfl
  ·cases k with
   | zero=>
    cases hk1;cases hd
    exact h1
   | succ k=>exact r2 k c' d hk1 hd
end
section
variable {s:Sched} {c:Chg} {f:Flow}
theorem chg_len (h:(chgM s c).2=0):(chgM s c).1.len=s.len:=by
 unfold chgM at h ⊢
 split at h
 ·rename_i hc
  rw[if_pos hc]
  rw[(addM_ok (t:=(addM s c.cell).1) (by rw[←h])).2.2.2.2]
 ·rename_i hc
  rw[if_neg hc]
  unfold remM at h ⊢
  split at h
  ·cases h
  split at h
  ·cases h
  rename_i h1 h2
  rw[if_neg h1,if_neg h2]
end
section
variable {n:Net} {before after:List Req} {s:Sched} {l:List Chg} {f:Flow}
theorem CkOk.chg (h:CkOk n before after s l){k:Nat}{c:Chg}(hc:l[k]? = some c):(chgM (afterC s (l.take k)) c).2=0:=(step_zero.1 (h.step k c hc)).2.1
theorem CkOk.len (h:CkOk n before after s l):∀k,(afterC s (l.take k)).len=s.len
 | 0=>rfl
 | k+1=>by
  cases hk:l[k]? with
  | none=>
   have hl:l.length≤k:=by
    rcases Nat.lt_or_ge k l.length with h|h
    ·rw[List.getElem?_eq_getElem h]at hk;cases hk
    ·exact h
   have:=h.len k
   rw[List.take_of_length_le hl]at this
   rw[List.take_of_length_le (by omega)]
   exact this
  | some c=>rw[afterC_snoc hk,chg_len (h.chg hk),h.len k]
theorem CkOk.vok (h:CkOk n before after s l)(k:Nat):VOk n (bothM before after) (afterC s (l.take k)):=schedE_ok (h.valid k)
theorem CkOk.form (h:CkOk n before after s l)(k:Nat):formB (afterC s (l.take k))=true:=(h.vok k).form
theorem CkOk.sorted (h:CkOk n before after s l):∀(j k:Nat) (c d:Chg),l[k]? = some c→l[k+j]? = some d→c.slot≤d.slot
 | 0,k,c,d,hc,hd=>by rw[Nat.add_zero,hc]at hd;cases hd;omega
 | j+1,k,c,d,hc,hd=>by
  have hlt:k+j < l.length:=by have:=(List.getElem?_eq_some_iff.1 hd).1;omega
  have h1:=h.sorted j k c _ hc (List.getElem?_eq_getElem hlt)
  have h2:=(chgE_zero (step_zero.1 (h.step (k+j+1) d hd)).1).2 _ (lastSlot_take (List.getElem?_eq_getElem hlt))
  omega
theorem takeWhile_stop {α:Type}{p:α→Bool}:∀{l:List α} {x:α},l[(l.takeWhile p).length]? = some x→p x=false
 | [],_,h=>by cases h
 | a :: l,x,h=>by
  rw[List.takeWhile_cons]at h
  cases ha:p a with
  | true=>rw[if_pos ha,List.length_cons,List.getElem?_cons_succ]at h;exact takeWhile_stop h
  | false=>rw[if_neg (by rw[ha];decide)]at h;cases h;exact ha
theorem CkOk.out (h:CkOk n before after s l){t:Int}{i:Nat}{c:Chg}(hi:(uptoW l t).length≤i)(hc:l[i]? = some c):t < c.slot:=by
 have hil:=(List.getElem?_eq_some_iff.1 hc).1
 have h1:(uptoW l t).length < l.length:=by omega
 have h2:=takeWhile_stop (p:=fun c:Chg=>decide (c.slot≤t)) (List.getElem?_eq_getElem h1)
 have h3:=h.sorted (i-(uptoW l t).length) (uptoW l t).length _ c (List.getElem?_eq_getElem h1) (by rw[show(uptoW l t).length+(i-(uptoW l t).length)=i by omega];exact hc)
 simp only[decide_eq_false_iff_not]at h2
 omega
end
def wholeM (n:Net)(l:List Flow)(s:Sched):Int:=
 if netE n≠0∨(flowsE n.nodes l).2≠0 then 1 else if sizedB s=false then 2 else if l.any (mism s) then 11 else if 512 < s.cells.length then 8 else 0
theorem schedE_whole {n:Net}{l:List Flow}{s:Sched}(h:wholeM n l s≠0):schedE n l s=(-1,wholeM n l s):=by
 unfold wholeM at h ⊢
 unfold schedE
 split
 ·rfl
 rename_i h1;rw[if_neg h1]at h
 split
 ·rfl
 rename_i h2;rw[if_neg h2]at h
 split
 ·rfl
 rename_i h3;rw[if_neg h3]at h
 split
 ·rfl
 rename_i h4;rw[if_neg h4]at h
 exact absurd rfl h
theorem schedE_parts {n:Net}{l:List Flow}{s:Sched}(h:wholeM n l s=0):netE n=0∧(flowsE n.nodes l).2=0∧sizedB s=true∧s.cells.length≤512∧schedE n l s=if (firstAt (cellF n l s) s.cells.length).2≠0 then firstAt (cellF n l s) s.cells.length
 else if (firstAt (twI s.cells) s.cells.length).2≠0 then firstAt (twI s.cells) s.cells.length
 else firstAt (dsI n s.cells) s.cells.length:=by
 unfold wholeM at h
 split at h
 ·cases h
 rename_i h1
 split at h
 ·cases h
 rename_i h2
 split at h
 ·cases h
 rename_i h3
 split at h
 ·cases h
 rename_i h4
 exact⟨by omega,by omega,by simpa using h2,by omega,by unfold schedE;rw[if_neg h1,if_neg h2,if_neg h3,if_neg h4]⟩
theorem once_rest {cs:List Cell}(h:∀j,j < cs.length→twI cs j=0){i:Nat}{c:Cell}(hc:cs[i]? = some c):∀d∈cs.eraseIdx i,d.slot=c.slot→touchB c d=false:=by
 intro d hd hs
 obtain⟨j,hne,hj⟩:=List.mem_eraseIdx_iff_getElem?.1 hd
 have key:∀{a b:Nat} {x y:Cell},a < b→cs[a]? = some x→cs[b]? = some y→x.slot=y.slot→touchB y x=false:=fun {a b x y} hab hx hy hxy=>by
  have h1:=h b (List.getElem?_eq_some_iff.1 hy).1
  have h2:twiceM cs b=false:=by
   unfold twI at h1
   cases ht:twiceM cs b with
   | false=>rfl
   | true=>rw[ht]at h1;simp at h1
  unfold twiceM at h2
  rw[hy]at h2
  simp only at h2
  have h3:=List.any_eq_false.1 h2 a (List.mem_range.2 hab)
  unfold twAt at h3
  rw[hx]at h3
  simpa[hxy] using h3
 rcases Nat.lt_or_gt_of_ne hne with hlt|hgt
 ·exact key hlt hj hc hs
 ·rw[touchB_comm];exact key hgt hc hj hs.symm
theorem share_fault {n:Net}{cs:List Cell}{c:Cell}{i:Nat}(h:cs[i]? = some c)(hg:goodL n c.src c.dst=true)(ht:∀d∈cs.eraseIdx i,d.slot=c.slot→touchB c d=false):faultyM n (shareL cs c) (shareAt cs c i)=disturbB n cs i:=by
 have hp:shareB c c=true:=by simp[shareB]
 obtain⟨e1,e2⟩:=filter_erase (p:=shareB c) h hp
 have hf:faultyM n (shareL cs c) (shareAt cs c i)=faultyC n c ((cs.eraseIdx i).filter (shareB c)):=by
  unfold shareL shareAt
  rw[faultyM_rest e2,e1]
 rw[hf]
 have h1:faultyC n c ((cs.eraseIdx i).filter (shareB c))=false↔disturbB n cs i=false:=by
  rw[faultyC_iff,disturb_iff h]
  constructor
  ·exact fun hh=>hh.2.2
  ·exact fun hh=>⟨hg,fun d hd=>ht d (List.mem_filter.1 hd).1 (by have:=(List.mem_filter.1 hd).2;simp[shareB]at this;exact this.1),hh⟩
 cases ha:faultyC n c ((cs.eraseIdx i).filter (shareB c))<;>cases hb:disturbB n cs i<;>simp_all
theorem findF_ids (l:List Flow)(id:Int):decide (findF l id < 0)=!idsB l id:=by
 unfold idsB
 cases h:l.any fun f=>f.id==id with
 | false=>
  have h1:findF l id=-1:=idxF_none fun j y hj hy=>by
   have:=List.any_eq_false.1 h y (List.mem_of_getElem? hy)
   simpa using this
  rw[h1];rfl
 | true=>
  have h1:¬findF l id < 0:=fun hneg=>by
   obtain⟨f,hf,he⟩:=List.any_eq_true.1 h
   exact findF_neg hneg f hf (by simpa using he)
  rw[decide_eq_false h1];rfl
def shareT (cs:List Cell)(c:Cell)(k:Nat):List Cell:=(cs.take k).filter (shareB c)
theorem shareT_succ {cs:List Cell}{c d:Cell}{k:Nat}(h:cs[k]? = some d):shareT cs c (k+1)=shareT cs c k++if shareB c d=true then [d] else []:=by
 unfold shareT
 rw[take_succ h,List.filter_append]
 congr 1
 simp only[List.filter_cons,List.filter_nil]
theorem shareT_len (cs:List Cell)(c:Cell)(k:Nat):(shareT cs c k).length≤cs.length:=Nat.le_trans (List.length_filter_le _ _) (by rw[List.length_take];omega)
theorem good_nodes {n:Net}(hok:NetOk n){a b:Int}(h:goodL n a b=true):0≤a∧a < 32∧0≤b∧b < 32∧a≠b:=by
 unfold goodL at h
 simp only[Bool.and_eq_true,decide_eq_true_eq]at h
 obtain⟨k,l,e1,e2,e3,e4⟩:=findL_at h.1.1.1
 have hb:=linkR_bd (hok.link k l e2).1
 have hn:=hok.nodes
 rw[←e3,←e4]
 omega
theorem once_apart {cs:List Cell}(h:∀j,j < cs.length→twI cs j=0):ApartS cs:=by
 unfold ApartS
 rw[List.pairwise_iff_getElem]
 intro i j hi hj hij hs
 have h1:=h j hj
 unfold twI twiceM at h1
 rw[List.getElem?_eq_getElem hj]at h1
 simp only at h1
 split at h1
 ·cases h1
 rename_i g
 have g2:=List.any_eq_false.1 (Bool.eq_false_iff.2 g) i (by simpa using hij)
 unfold twAt at g2
 rw[List.getElem?_eq_getElem hi]at g2
 rw[touchB_comm]
 cases ht:touchB cs[j] cs[i] with
 | false=>rfl
 | true=>simp[hs,ht]at g2
theorem share_few {n:Net}(hok:NetOk n){cs:List Cell}(h:∀j,j < cs.length→twI cs j=0)(hg:∀(i:Nat) c,cs[i]? = some c→goodL n c.src c.dst=true)(c:Cell):(shareL cs c).length≤32:=by
 have h1:=slotA_len (once_apart h) (fun d hd=>by
  obtain⟨i,hi⟩:=List.getElem?_of_mem hd
  exact good_nodes hok (hg i d hi)) c.slot
 have h2:(cs.filter (shareB c)).length≤(cs.filter fun d=>d.slot==c.slot).length:=by
  rw[←List.countP_eq_length_filter,←List.countP_eq_length_filter]
  exact List.countP_mono_left fun x _ hx=>by unfold shareB at hx;simp only[Bool.and_eq_true]at hx;exact hx.1
 unfold shareL
 omega
section
variable {n:Net} {before after:List Req} {s:Sched} {l:List Chg} {fr:Int}
theorem stay_per (hW:WholeOk n before after s):∀f∈stayF before after,0≤f.period∧f.period≤512:=fun f hf=>by
 obtain⟨x,hx,rfl⟩:=List.mem_map.1 hf
 have:=flowE_ok ((reqE_ok hW.rb).2.2.1 x (List.mem_filter.1 hx).1).flow
 omega
theorem timeM_of (hW:WholeOk n before after s)(hl:l.length≤1024)(h0:0≤fr)(h1:fr≤1048576){o:List Chg}(h:timeG (stayF before after) fr [] l=some o):timeM (stayF before after) l fr=(o,0):=by
 unfold timeM
 rw[if_neg (by rw[stay_ok hW];decide),if_neg (by omega),if_neg (by omega),h]
theorem time_from (hk:CkOk n before after s l)(h0:0≤fr)(h1:fr+512*(l.length:Int)≤1048576):∃m,timeM (stayF before after) l fr=(m,0)∧Timed (stayF before after) fr l m:=by
 have hW:=wholeC_ok hk.whole
 obtain⟨o,ho⟩:=timeG_some (stay_per hW) l fr [] (by simp) h1
 exact⟨o,timeM_of hW hk.few h0 (by omega) ho,timed_of ho⟩
theorem time_first (hk:CkOk n before after s l)(hs:∀c∈l,c.slot≤1048576){c0:Chg}(hc:l[0]? = some c0):∃o,timeM (stayF before after) l c0.slot=(o,0)∧Timed (stayF before after) c0.slot l o∧∀(k:Nat) c d,l[k]? = some c→o[k]? = some d→d.slot≤c.slot:=by
 have hW:=wholeC_ok hk.whole
 have h0:=(chgE_zero (step_zero.1 (hk.step 0 c0 hc)).1).1
 have h1:=hs c0 (List.mem_of_getElem? hc)
 obtain⟨ds,e1,e2⟩:=timeG_le hk hs l [] [] c0.slot rfl rfl (fun j d h=>by simp at h) (fun d h=>by cases h) h0 (fun c h=>by
  cases l with
  | nil=>cases h
  | cons a b=>cases hc;cases h;exact Int.le_refl _)
 rw[List.nil_append]at e1
 exact⟨ds,timeM_of hW hk.few h0 h1 e1,timed_of e1,e2⟩
end
theorem sh_chgsB {l:List AV}(h:(Ty.sl tChg).sh l):∃cs:List Chg,l=[encChgs cs]∧cs.length≤140737488355328∧∀c∈cs,c.slot≤9223372036854775807:=by
 obtain⟨els,rfl,h1,h2⟩:=h
 obtain⟨cs,h3,h4,h5⟩:=list_ofP (f:=Chg.av) (Q:=fun c:Chg=>c.slot≤9223372036854775807) (fun l hl=>by
  obtain⟨_,_,rfl,_,h1,_,_,rfl,_,h2,_,_,rfl,_,h3,h6⟩:=hl
  obtain⟨a,rfl,ha⟩:=sh_int h1
  obtain⟨b,rfl⟩:=h2
  obtain⟨c,rfl⟩:=sh_cell h3
  obtain rfl:=h6
  exact⟨⟨a,b,c⟩,rfl,by unfold I64b at ha;exact ha.2⟩) els h1
 exact⟨cs,by rw[h3];rfl,by omega,h5⟩
theorem CkOk.busy {n:Net}{before after:List Req}{s:Sched}{l:List Chg}(h:CkOk n before after s l){t:Int}(h0:0≤t):busyP s l t=(busF (atM (afterC s (uptoW l t)) t),0):=by
 unfold busyP
 rw[h.apply,if_neg (show ¬(0:Int)≠0 by decide),if_neg (by omega)]
theorem CkOk.formU {n:Net}{before after:List Req}{s:Sched}{l:List Chg}(h:CkOk n before after s l)(t:Int):formB (afterC s (uptoW l t))=true:=(schedE_ok (h.upto t)).form
end HM
