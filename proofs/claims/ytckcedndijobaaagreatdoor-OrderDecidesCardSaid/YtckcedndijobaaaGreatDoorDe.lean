/- Changes with the earliest slots: they have no fault either, none comes too early, and one slot earlier would be too early. -/
import Derived.Test.YtckcedndijobaaaGreatDoorDd
import Derived.Test.YtckcedndijobaaaGreatDoorDb
import Derived.Test.YtckcedndijobaaaGreatDoorDa
import Derived.Test.YtckcedndijobaaaGreatDoorFh
namespace HM
open Go Go.RowKit
def stayF (before after:List Req):List Flow:=(before.filter fun x=>stayB before after x.flow.id).map Req.flow
theorem stayQ_some {before after:List Req}{id:Int}{x y:Req}(h:stayQ before after id=some (x,y)):getQ before id=some x∧getQ after id=some y:=by
 unfold stayQ at h
 cases hb:getQ before id with
 | none=>rw[hb]at h;cases h
 | some x'=>
  cases ha:getQ after id with
  | none=>rw[hb,ha]at h;cases h
  | some y'=>rw[hb,ha]at h;cases h;exact⟨rfl,rfl⟩
theorem stayB_at {n:Net}{before after:List Req}{s:Sched}(hW:WholeOk n before after s)(id:Int):stayB before after id=(stayQ before after id).isSome:=by
 unfold stayB
 cases h:stayQ before after id with
 | none=>rfl
 | some p=>
  obtain⟨x,y⟩:=p
  obtain⟨h1,h2⟩:=stayQ_some h
  obtain⟨m1,m2⟩:=getQ_some h1
  simp[hW.same x m1 y (by rw[m2];exact h2)]
theorem flowOf_stay {n:Net}{before after:List Req}{s:Sched}(hW:WholeOk n before after s)(id:Int):flowOf (stayF before after) id=(stayQ before after id).map fun p=>p.1.flow:=by
 have hb:=reqsOk hW.rb
 cases h:stayQ before after id with
 | none=>
  unfold flowOf
  rw[Option.map_none,List.find?_eq_none]
  intro f hf
  obtain⟨x,hx,rfl⟩:=List.mem_map.1 hf
  have h2:=(List.mem_filter.1 hx).2
  rw[stayB_at hW]at h2
  intro he
  rw[show x.flow.id=id by simpa using he,h]at h2
  cases h2
 | some p=>
  obtain⟨x,y⟩:=p
  obtain⟨h1,h2⟩:=stayQ_some h
  obtain⟨m1,m2⟩:=getQ_some h1
  have hx:x.flow∈stayF before after:=List.mem_map.2 ⟨x,List.mem_filter.2 ⟨m1,by rw[stayB_at hW,m2,h];rfl⟩,rfl⟩
  cases hf:flowOf (stayF before after) id with
  | none=>
   unfold flowOf at hf
   rw[List.find?_eq_none]at hf
   have:=hf x.flow hx
   simp[m2]at this
  | some f=>
   unfold flowOf at hf
   have hm:=List.mem_of_find?_eq_some hf
   have hi:f.id=id:=by simpa using List.find?_some hf
   obtain⟨z,hz,rfl⟩:=List.mem_map.1 hm
   have hzb:=(List.mem_filter.1 hz).1
   have:x=z:=id_uniq hb.sorted m1 hzb (by rw[m2,hi])
   rw[this];rfl
theorem stay_ok {n:Net}{before after:List Req}{s:Sched}(hW:WholeOk n before after s):(flowsE 32 (stayF before after)).2=0:=by
 obtain⟨_,b2,b3,b4⟩:=reqE_ok hW.rb
 obtain⟨n2,n32⟩:=flowsE_nodes b4
 refine flowsE_of (by omega) (by omega) ?_ (fun f hf=>?_) ?_
 ·unfold stayF
  rw[List.length_map]
  exact Nat.le_trans (List.length_filter_le _ _) b2
 ·obtain⟨x,hx,rfl⟩:=List.mem_map.1 hf
  exact flowE_32 (b3 x (List.mem_filter.1 hx).1).flow n32
 ·unfold stayF
  rw[List.pairwise_map]
  exact(reqsOk hW.rb).sorted.filter _
def prvS (t:Int)(ds:List Chg):Nat→Int
 | 0=>t
 | j+1=>((ds[j]?).map Chg.slot).getD 0
theorem prvS_succ (t:Int)(ds:List Chg)(j:Nat):prvS t ds (j+1)=((ds[j]?).map Chg.slot).getD 0:=rfl
theorem timeG_spec {flows:List Flow}:∀{cs:List Chg} {t:Int} {out o:List Chg},timeG flows t out cs=some o→∃ds,o=out++ds∧ds.length=cs.length∧∀(k:Nat) c,cs[k]? = some c→ds[k]? = some ⟨timeN flows (out++ds.take k) (prvS t ds k) c,c.add,c.cell⟩∧timeN flows (out++ds.take k) (prvS t ds k) c≤1048576
 | [],t,out,o,h=>⟨[],by unfold timeG at h;rw[List.append_nil];exact(Option.some.inj h).symm,rfl,fun k c hk=>by simp at hk⟩
 | c :: cs,t,out,o,h=>by
  unfold timeG at h
  split at h
  ·cases h
  rename_i h1
  obtain⟨ds,e1,e2,e3⟩:=timeG_spec h
  refine⟨⟨timeN flows out t c,c.add,c.cell⟩ :: ds,by rw[e1,List.append_assoc];rfl,by simp[e2],fun k d hk=>?_⟩
  cases k with
  | zero=>
   rw[List.getElem?_cons_zero]at hk
   cases hk
   rw[List.take_zero,List.append_nil,List.getElem?_cons_zero]
   exact⟨rfl,by show timeN flows out t c≤_;omega⟩
  | succ k=>
   have:=e3 k d (by simpa using hk)
   have hp:prvS t (⟨timeN flows out t c,c.add,c.cell⟩ :: ds) (k+1)=prvS (timeN flows out t c) ds k:=by cases k with
    | zero=>rfl
    | succ j=>rfl
   rw[hp,List.take_succ_cons,List.append_cons,List.getElem?_cons_succ]
   exact this
structure Timed (flows:List Flow)(fr:Int)(l o:List Chg):Prop where
 len:o.length=l.length
 at_:∀(k:Nat) c,l[k]? = some c→o[k]? = some ⟨timeN flows (o.take k) (prvS fr o k) c,c.add,c.cell⟩
 hi:∀(k:Nat) c,l[k]? = some c→timeN flows (o.take k) (prvS fr o k) c≤1048576
theorem timed_of {flows:List Flow}{fr:Int}{l o:List Chg}(h:timeG flows fr [] l=some o):Timed flows fr l o:=by
 obtain⟨ds,e1,e2,e3⟩:=timeG_spec h
 rw[List.nil_append]at e1
 subst e1
 exact⟨e2,fun k c hk=>(e3 k c hk).1,fun k c hk=>(e3 k c hk).2⟩
section
variable {flows:List Flow} {fr:Int} {l o:List Chg}
theorem Timed.orig (h:Timed flows fr l o){k:Nat}{d:Chg}(hd:o[k]? = some d):∃c,l[k]? = some c∧d=⟨timeN flows (o.take k) (prvS fr o k) c,c.add,c.cell⟩:=by
 have hk:=(List.getElem?_eq_some_iff.1 hd).1
 rw[h.len]at hk
 refine⟨l[k],List.getElem?_eq_getElem hk,?_⟩
 have:=h.at_ k _ (List.getElem?_eq_getElem hk)
 rw[hd]at this
 exact Option.some.inj this
theorem Timed.prv (h:Timed flows fr l o){k:Nat}{d:Chg}(hd:o[k]? = some d):prvS fr o k≤d.slot:=by
 obtain⟨c,_,rfl⟩:=h.orig hd
 exact timeN_ge ..
theorem Timed.step (h:Timed flows fr l o){k:Nat}{d e:Chg}(hd:o[k]? = some d)(he:o[k+1]? = some e):d.slot≤e.slot:=by
 have:=h.prv he
 rw[prvS_succ,hd]at this
 exact this
theorem Timed.mono (h:Timed flows fr l o):∀(j k:Nat) (d e:Chg),o[k]? = some d→o[k+j]? = some e→d.slot≤e.slot
 | 0,k,d,e,hd,he=>by rw[Nat.add_zero,hd]at he;cases he;omega
 | j+1,k,d,e,hd,he=>by
  have hlt:k+j < o.length:=by have:=(List.getElem?_eq_some_iff.1 he).1;omega
  have h1:=h.mono j k d _ hd (List.getElem?_eq_getElem hlt)
  have h2:=h.step (List.getElem?_eq_getElem hlt) he
  omega
theorem Timed.sorted (h:Timed flows fr l o):o.Pairwise fun a b=>a.slot≤b.slot:=
 List.pairwise_iff_getElem.2 fun i j hi hj hij=>h.mono (j-i) i _ _ (List.getElem?_eq_getElem hi) (by rw[show i+(j-i)=j by omega];exact List.getElem?_eq_getElem hj)
theorem Timed.lo (h:Timed flows fr l o){k:Nat}{d:Chg}(hd:o[k]? = some d):fr≤d.slot:=by
 have h0:0 < o.length:=by have:=(List.getElem?_eq_some_iff.1 hd).1;omega
 have h1:=h.prv (k:=0) (List.getElem?_eq_getElem h0)
 have h2:=h.mono k 0 _ d (List.getElem?_eq_getElem h0) (by rw[Nat.zero_add];exact hd)
 have:fr≤o[0].slot:=h1
 omega
theorem Timed.top (h:Timed flows fr l o){k:Nat}{d:Chg}(hd:o[k]? = some d):d.slot≤1048576:=by
 obtain⟨c,hc,rfl⟩:=h.orig hd
 exact h.hi k c hc
theorem chgM_same {s:Sched}{c d:Chg}(h1:d.add=c.add)(h2:d.cell=c.cell):chgM s d=chgM s c:=by unfold chgM;rw[h1,h2]
theorem Timed.after (h:Timed flows fr l o)(s:Sched):∀k,afterC s (o.take k)=afterC s (l.take k)
 | 0=>rfl
 | k+1=>by
  cases hd:o[k]? with
  | none=>
   have hl:o.length≤k:=by
    rcases Nat.lt_or_ge k o.length with h|h
    ·rw[List.getElem?_eq_getElem h]at hd;cases hd
    ·exact h
   have:=h.after s k
   have hln:=h.len
   rw[List.take_of_length_le hl,List.take_of_length_le (by omega)]at this
   rw[List.take_of_length_le (by omega),List.take_of_length_le (by omega)]
   exact this
  | some d=>
   obtain⟨c,hc,e⟩:=h.orig hd
   rw[afterC_snoc hd,afterC_snoc hc,h.after s k]
   rw[chgM_same (c:=c) (by rw[e]) (by rw[e])]
theorem Timed.afterAll (h:Timed flows fr l o)(s:Sched):afterC s o=afterC s l:=by
 have:=h.after s o.length
 rwa [List.take_length,h.len,List.take_length]at this
theorem last_most {α:Type}{R:α→α→Prop}{l:List α}(hs:l.Pairwise R){d e:α}(hd:d∈l)(he:l.getLast? = some e):d=e∨R d e:=by
 obtain⟨i,hi,rfl⟩:=List.mem_iff_getElem.1 hd
 rw[List.getLast?_eq_getElem?]at he
 obtain⟨hj,rfl⟩:=List.getElem?_eq_some_iff.1 he
 by_cases hij:i=l.length-1
 ·left;subst hij;rfl
 ·right;exact List.pairwise_iff_getElem.1 hs i _ hi hj (by omega)
theorem lastAdd_ge {out:List Chg}{id:Int}{d:Chg}(hs:out.Pairwise fun a b=>a.slot≤b.slot)(hd:d∈out)(ha:d.add=true)(hf:d.cell.flow=id):∃a,lastAdd out id=some a∧d.slot≤a:=by
 have hm:d∈out.filter fun d=>d.add&&d.cell.flow==id:=List.mem_filter.2 ⟨hd,by simp[ha,hf]⟩
 unfold lastAdd
 cases hg:(out.filter fun d=>d.add&&d.cell.flow==id).getLast? with
 | none=>rw[List.getLast?_eq_none_iff]at hg;rw[hg]at hm;cases hm
 | some e=>
  refine⟨e.slot,rfl,?_⟩
  rcases last_most (hs.filter _) hm hg with rfl|h
  ·omega
  ·exact h
theorem timeN_add {out:List Chg}{t:Int}{c d:Chg}{f:Flow}(hs:out.Pairwise fun a b=>a.slot≤b.slot)(hc:c.add=false)(hf:flowOf flows c.cell.flow=some f)(hd:d∈out)(ha:d.add=true)(hfl:d.cell.flow=c.cell.flow):d.slot+f.period≤timeN flows out t c:=by
 obtain⟨a,h1,h2⟩:=lastAdd_ge hs hd ha hfl
 unfold timeN
 rw[if_neg (by rw[hc];decide),hf,h1]
 simp only
 omega
theorem lastSlot_take {k:Nat}{d:Chg}(h:o[k]? = some d):lastSlot (o.take (k+1))=some d.slot:=by rw[take_succ h,lastSlot_snoc]
theorem chgE_of {p:Option Int}{c:Chg}(h0:0≤c.slot)(h:∀q,p=some q→q≤c.slot):chgE p c=0:=by
 unfold chgE
 rw[if_neg (by omega)]
 cases p with
 | none=>rfl
 | some q=>simp only;rw[if_neg (by have:=h q rfl;omega)]
end
section
variable {n:Net} {before after:List Req} {s:Sched} {l o:List Chg} {fr:Int}
theorem early_no {done:List Chg}{c:Chg}(h:c.add=false→∀x y,stayQ before after c.cell.flow=some (x,y)→∀d∈done,d.add=true→d.cell.flow=c.cell.flow→x.flow.period≤IntKind.i64.wrap (c.slot-d.slot)):earlyB before after done c=false:=by
 unfold earlyB
 cases hc:c.add with
 | true=>rfl
 | false=>
  cases hq:stayQ before after c.cell.flow with
  | none=>rfl
  | some p=>
   obtain⟨x,y⟩:=p
   rw[Bool.not_false,Bool.true_and]
   simp only
   rw[List.any_eq_false]
   intro d hd
   unfold earlyD
   intro h2
   simp only[Bool.and_eq_true,beq_iff_eq,decide_eq_true_eq]at h2
   have:=h hc x y hq d hd h2.1 h2.2.1
   omega
theorem early_yes {done:List Chg}{c:Chg}(h:earlyB before after done c=false)(hc:c.add=false){x y:Req}(hq:stayQ before after c.cell.flow=some (x,y)){d:Chg}(hd:d∈done)(ha:d.add=true)(hf:d.cell.flow=c.cell.flow):x.flow.period≤IntKind.i64.wrap (c.slot-d.slot):=by
 unfold earlyB at h
 rw[hc,hq,Bool.not_false,Bool.true_and]at h
 simp only at h
 have:=List.any_eq_false.1 h d hd
 unfold earlyD at this
 simp only[ha,hf,Bool.true_and,beq_self_eq_true,decide_eq_true_eq]at this
 omega
theorem timed_ok (hk:CkOk n before after s l)(h0:0≤fr)(ht:Timed (stayF before after) fr l o):CkOk n before after s o:=by
 have hW:=wholeC_ok hk.whole
 have hso:=ht.sorted
 refine⟨hk.whole,by rw[ht.len];exact hk.few,fun k d hd=>?_,by rw[ht.afterAll];exact hk.ends⟩
 obtain⟨c,hc,e⟩:=ht.orig hd
 obtain⟨z1,z2,z3,z4,z5⟩:=step_zero.1 (hk.step k c hc)
 have hlo:=ht.lo hd
 have htop:=ht.top hd
 have hch:∀S,chgM S d=chgM S c:=fun S=>chgM_same (by rw[e]) (by rw[e])
 rw[step_zero,ht.after,hch]
 refine⟨chgE_of (by omega) fun q hq=>?_,z2,early_no fun ha x y hxy f hf h1 h2=>?_,z4,z5⟩
 ·cases k with
  | zero=>cases hq
  | succ j=>
   have hj:j < o.length:=by have:=(List.getElem?_eq_some_iff.1 hd).1;omega
   rw[lastSlot_take (List.getElem?_eq_getElem hj)]at hq
   cases hq
   exact ht.step (List.getElem?_eq_getElem hj) hd
 ·have hfl:=flowOf_stay hW d.cell.flow
  rw[hxy]at hfl
  have hcd:c.cell=d.cell:=by rw[e]
  obtain⟨i,hi,hie⟩:=List.mem_iff_getElem.1 (List.mem_of_mem_take hf)
  have hfl1:=ht.lo (List.getElem?_eq_getElem hi)
  have hfl2:=ht.top (List.getElem?_eq_getElem hi)
  rw[hie]at hfl1 hfl2
  have key:=timeN_add (flows:=stayF before after) (t:=prvS fr o k) (c:=c) (hso.sublist (List.take_sublist k o)) (by rw[e]at ha;exact ha) (by rw[hcd];exact hfl) hf h1 (by rw[hcd];exact h2)
  have hds:d.slot=timeN (stayF before after) (o.take k) (prvS fr o k) c:=by rw[e]
  rw[←hds]at key
  simp only at key
  rw[w64 (by omega) (by omega)]
  omega
theorem timeG_some {flows:List Flow}(hp:∀f∈flows,0≤f.period∧f.period≤512):∀(cs:List Chg) (t:Int) (out:List Chg),(∀d∈out,d.slot≤t)→t+512*(cs.length:Int)≤1048576→∃o,timeG flows t out cs=some o
 | [],_,out,_,_=>⟨out,rfl⟩
 | c :: cs,t,out,h,hb=>by
  have h1:timeN flows out t c≤t+512:=by
   unfold timeN
   split
   ·omega
   split
   ·rename_i f a hf ha
    obtain⟨d,hd,rfl⟩:=lastAdd_mem ha
    have:=h d hd
    unfold flowOf at hf
    have:=hp f (List.mem_of_find?_eq_some hf)
    omega
   ·omega
  have h2:=timeN_ge flows out t c
  simp only[List.length_cons]at hb
  unfold timeG
  rw[if_neg (by omega)]
  refine timeG_some hp cs _ _ (fun d hd=>?_) (by omega)
  rcases List.mem_append.1 hd with hd|hd
  ·have:=h d hd;omega
  ·rw[List.mem_singleton.1 hd];simp only;omega
end
section
variable {n:Net} {before after:List Req} {s:Sched} {l:List Chg} {fr:Int}
theorem stay_per (hW:WholeOk n before after s):∀f∈stayF before after,0≤f.period∧f.period≤512:=fun f hf=>by
 obtain⟨x,hx,rfl⟩:=List.mem_map.1 hf
 have:=flowE_ok ((reqE_ok hW.rb).2.2.1 x (List.mem_filter.1 hx).1).flow
 omega
theorem timeM_of (hW:WholeOk n before after s)(hl:l.length≤1024)(h0:0≤fr)(h1:fr≤1048576){o:List Chg}(h:timeG (stayF before after) fr [] l=some o):timeM (stayF before after) l fr=(o,0):=by
 unfold timeM
 rw[if_neg (by rw[stay_ok hW];decide),if_neg (by omega),if_neg (by omega),h]
theorem time_from (hk:CkOk n before after s l)(h0:0≤fr)(h1:fr+512*(l.length:Int)≤1048576):∃m,timeM (stayF before after) l fr=(m,0)∧Timed (stayF before after) fr l m:=by
 have hW:=wholeC_ok hk.whole
 obtain⟨o,ho⟩:=timeG_some (stay_per hW) l fr [] (by simp) h1
 exact⟨o,timeM_of hW hk.few h0 (by omega) ho,timed_of ho⟩
end
def bitB (S i:Nat):Bool:=S.testBit i
def nextM (m:Nat)(can:Nat→Bool)(S:Nat):List Nat:=(List.range m).filter fun i=>!bitB S i&&can (S ||| 2 ^ i)
def compM (m:Nat)(can:Nat→Bool):Nat→Nat→List (List Nat)
 | 0,S=>if S=2 ^ m-1 then [[]] else []
 | f+1,S=>if S=2 ^ m-1 then [[]] else(nextM m can S).flatMap fun i=>(compM m can f (S ||| 2 ^ i)).map (i :: ·)
def pathB (m:Nat)(can:Nat→Bool):Nat→List Nat→Nat→Prop
 | S,[],T=>S=T
 | S,i :: p,T=>i < m∧bitB S i=false∧can (S ||| 2 ^ i)=true∧pathB m can (S ||| 2 ^ i) p T
theorem path_app (m:Nat)(can:Nat→Bool):∀{S T U:Nat} {p q:List Nat},pathB m can S p T→pathB m can T q U→pathB m can S (p++q) U
 | S,T,U,[],q,h1,h2=>by cases h1;exact h2
 | S,T,U,i :: p,q,⟨a,b,c,d⟩,h2=>⟨a,b,c,path_app m can d h2⟩
theorem path_split (m:Nat)(can:Nat→Bool):∀{S U:Nat} {p q:List Nat},pathB m can S (p++q) U→∃T,pathB m can S p T∧pathB m can T q U
 | S,U,[],q,h=>⟨S,rfl,h⟩
 | S,U,i :: p,q,⟨a,b,c,d⟩=>by
  obtain⟨T,h1,h2⟩:=path_split m can d
  exact⟨T,⟨a,b,c,h1⟩,h2⟩
theorem nextM_mem {m:Nat}{can:Nat→Bool}{S i:Nat}:i∈nextM m can S↔i < m∧bitB S i=false∧can (S ||| 2 ^ i)=true:=by
 unfold nextM
 rw[List.mem_filter,List.mem_range]
 simp
theorem or_lt {m S i:Nat}(hS:S < 2 ^ m)(hi:i < m):S ||| 2 ^ i < 2 ^ m:=Nat.or_lt_two_pow hS (Nat.pow_lt_pow_right (by omega) hi)
theorem full_bit {m i:Nat}(hi:i < m):bitB (2 ^ m-1) i=true:=by unfold bitB;rw[Nat.testBit_two_pow_sub_one];simpa using hi
theorem or_bit (S i j:Nat):bitB (S ||| 2 ^ i) j=(bitB S j||decide (i=j)):=by unfold bitB;rw[Nat.testBit_or,Nat.testBit_two_pow]
def unM (m S:Nat):Nat:=(List.range m).countP fun i=>!bitB S i
theorem count_one {p q:Nat→Bool}{i:Nat}(hp:p i=true)(hq:q i=false)(h:∀j,j≠i→q j=p j):∀{m:Nat},i < m→(List.range m).countP q+1=(List.range m).countP p
 | 0,hi=>by omega
 | m+1,hi=>by
  rw[List.range_succ,List.countP_append,List.countP_append]
  by_cases e:i=m
  ·subst e
   have:(List.range i).countP q=(List.range i).countP p:=List.countP_congr fun j hj=>by
    have:=List.mem_range.1 hj
    rw[h j (by omega)]
   rw[this]
   simp[hp,hq]
  ·have ih:=count_one hp hq h (m:=m) (by omega)
   have:[m].countP q=[m].countP p:=by simp only[List.countP_cons,List.countP_nil,h m (Ne.symm e)]
   rw[this]
   omega
theorem un_step {m S i:Nat}(hi:i < m)(hb:bitB S i=false):unM m (S ||| 2 ^ i)+1=unM m S:=by
 unfold unM
 refine count_one (i:=i) (by rw[hb];rfl) (by rw[or_bit];simp) (fun j hj=>?_) hi
 rw[or_bit,decide_eq_false (Ne.symm hj),Bool.or_false]
theorem un_le (m S:Nat):unM m S≤m:=by
 unfold unM
 have:=List.countP_le_length (p:=fun i=>!bitB S i) (l:=List.range m)
 rwa [List.length_range]at this
theorem path_len {m:Nat}{can:Nat→Bool}:∀{S T:Nat} {p:List Nat},pathB m can S p T→p.length+unM m T=unM m S
 | S,T,[],h=>by cases h;simp
 | S,T,i :: p,⟨a,b,c,d⟩=>by
  have:=path_len d
  have:=un_step a b
  rw[List.length_cons];omega
theorem path_short {m:Nat}{can:Nat→Bool}{S T:Nat}{p:List Nat}(h:pathB m can S p T):p.length≤m:=by
 have:=path_len h
 have:=un_le m S
 omega
theorem path_full {m:Nat}{can:Nat→Bool}{p:List Nat}{T:Nat}(h:pathB m can (2 ^ m-1) p T):p=[]:=by
 cases p with
 | nil=>rfl
 | cons i p=>
  obtain⟨a,b,_,_⟩:=h
  rw[full_bit a]at b;cases b
theorem comp_mem {m:Nat}{can:Nat→Bool}:∀{f S:Nat} {p:List Nat},p∈compM m can f S↔pathB m can S p (2 ^ m-1)∧p.length≤f
 | 0,S,p=>by
  unfold compM
  by_cases hS:S=2 ^ m-1
  ·rw[if_pos hS,List.mem_singleton]
   constructor
   ·rintro rfl;exact⟨hS,by simp⟩
   ·rintro⟨_,h⟩;exact List.length_eq_zero_iff.1 (by omega)
  ·rw[if_neg hS]
   constructor
   ·intro h;cases h
   ·rintro⟨h1,h2⟩
    have:p=[]:=List.length_eq_zero_iff.1 (by omega)
    subst this
    exact absurd h1 hS
 | f+1,S,p=>by
  unfold compM
  by_cases hS:S=2 ^ m-1
  ·rw[if_pos hS,List.mem_singleton]
   constructor
   ·rintro rfl;exact⟨hS,by simp⟩
   ·rintro⟨h,_⟩;subst hS;exact path_full h
  ·rw[if_neg hS,List.mem_flatMap]
   constructor
   ·rintro⟨i,hi,hp⟩
    obtain⟨q,hq,rfl⟩:=List.mem_map.1 hp
    obtain⟨a,b,c⟩:=nextM_mem.1 hi
    obtain⟨d,e⟩:=comp_mem.1 hq
    exact⟨⟨a,b,c,d⟩,by rw[List.length_cons];omega⟩
   ·rintro⟨h1,h2⟩
    cases p with
    | nil=>exact absurd h1 hS
    | cons i q=>
     obtain⟨a,b,c,d⟩:=h1
     rw[List.length_cons]at h2
     exact⟨i,nextM_mem.2 ⟨a,b,c⟩,List.mem_map.2 ⟨q,comp_mem.2 ⟨d,by omega⟩,rfl⟩⟩
def clrB (T i:Nat):Nat:=T ^^^ 2 ^ i
theorem clr_bit {T i:Nat}(j:Nat):bitB (clrB T i) j=(bitB T j ^^ decide (i=j)):=by unfold bitB clrB;rw[Nat.testBit_xor,Nat.testBit_two_pow]
theorem clr_or {T i:Nat}(h:bitB T i=true):clrB T i ||| 2 ^ i=T∧bitB (clrB T i) i=false:=by
 refine⟨Nat.eq_of_testBit_eq fun j=>?_,by rw[clr_bit,h];simp⟩
 have:=or_bit (clrB T i) i j
 rw[clr_bit]at this
 unfold bitB at this h
 rw[this]
 by_cases e:i=j
 ·subst e;simp[h]
 ·simp[e]
theorem or_clr {S i:Nat}(h:bitB S i=false):clrB (S ||| 2 ^ i) i=S:=by
 refine Nat.eq_of_testBit_eq fun j=>?_
 have h1:=clr_bit (T:=S ||| 2 ^ i) (i:=i) j
 rw[or_bit]at h1
 unfold bitB at h1 h
 rw[h1]
 by_cases e:i=j
 ·subst e;simp[h]
 ·simp[e]
def begM (m:Nat)(can:Nat→Bool):Nat→Nat→List (List Nat)
 | 0,T=>if T=0 then [[]] else []
 | f+1,T=>if T=0 then [[]] else if can T=true then((List.range m).filter fun i=>bitB T i).flatMap fun i=>(begM m can f (clrB T i)).map (·++[i]) else []
theorem path_zero {m:Nat}{can:Nat→Bool}:∀{p:List Nat} {S T:Nat},pathB m can S p T→∀j,bitB S j=true→bitB T j=true
 | [],S,T,h,j,hj=>by cases h;exact hj
 | i :: p,S,T,⟨a,b,c,d⟩,j,hj=>path_zero d j (by rw[or_bit,hj];rfl)
theorem path_to_zero {m:Nat}{can:Nat→Bool}{p:List Nat}(h:pathB m can 0 p 0):p=[]:=by
 cases p with
 | nil=>rfl
 | cons i p=>
  obtain⟨a,b,c,d⟩:=h
  have:=path_zero d i (by rw[or_bit];simp)
  unfold bitB at this
  simp at this
theorem beg_mem {m:Nat}{can:Nat→Bool}:∀{f T:Nat} {p:List Nat},p∈begM m can f T↔pathB m can 0 p T∧p.length≤f
 | 0,T,p=>by
  unfold begM
  by_cases hT:T=0
  ·rw[if_pos hT,List.mem_singleton]
   constructor
   ·rintro rfl;exact⟨hT.symm,by simp⟩
   ·rintro⟨_,h⟩;exact List.length_eq_zero_iff.1 (by omega)
  ·rw[if_neg hT]
   constructor
   ·intro h;cases h
   ·rintro⟨h1,h2⟩
    have:p=[]:=List.length_eq_zero_iff.1 (by omega)
    subst this
    exact absurd h1.symm hT
 | f+1,T,p=>by
  unfold begM
  by_cases hT:T=0
  ·rw[if_pos hT,List.mem_singleton]
   constructor
   ·rintro rfl;exact⟨hT.symm,by simp⟩
   ·rintro⟨h,_⟩;subst hT;exact path_to_zero h
  rw[if_neg hT]
  constructor
  ·intro h
   split at h
   ·rename_i hc
    obtain⟨i,hi,hp⟩:=List.mem_flatMap.1 h
    obtain⟨q,hq,rfl⟩:=List.mem_map.1 hp
    obtain⟨h1,h2⟩:=List.mem_filter.1 hi
    obtain⟨d,e⟩:=beg_mem.1 hq
    obtain⟨c1,c2⟩:=clr_or h2
    refine⟨path_app m can d ⟨List.mem_range.1 h1,c2,by rw[c1];exact hc,c1⟩,by rw[List.length_append,List.length_singleton];omega⟩
   ·cases h
  ·rintro⟨h1,h2⟩
   rcases List.eq_nil_or_concat p with rfl|⟨q,i,rfl⟩
   ·exact absurd h1.symm hT
   ·rw[List.concat_eq_append]at h1 h2 ⊢
    obtain⟨U,u1,u2⟩:=path_split m can h1
    obtain⟨a,b,c,d⟩:=u2
    have d':U ||| 2 ^ i=T:=d
    rw[d']at c
    rw[if_pos c]
    rw[List.length_append,List.length_singleton]at h2
    refine List.mem_flatMap.2 ⟨i,List.mem_filter.2 ⟨List.mem_range.2 a,by rw[←d',or_bit];simp⟩,List.mem_map.2 ⟨q,beg_mem.2 ⟨?_,by omega⟩,rfl⟩⟩
    rw[←d',or_clr b]
    exact u1
structure StpOk (s:Sched)(L:List Chg):Prop where
 form:formB s=true
 room:s.cells.length+L.length≤512
 add:∀x∈L,x.add=true→formedB s x.cell=true∧x.cell ∉ s.cells
 rem:∀x∈L,x.add=false→x.cell∈s.cells
 once:∀(i j:Nat) x y,L[i]? = some x→L[j]? = some y→x.cell=y.cell→i=j
def inSet (s:Sched)(L:List Chg)(b:Nat→Bool)(c:Cell):Prop:=(c∈s.cells∧∀(i:Nat) x,L[i]? = some x→b i=true→x.add=false→x.cell≠c)∨∃(i:Nat) (x:Chg),L[i]? = some x∧b i=true∧x.add=true∧x.cell=c
structure SetP (s:Sched)(L:List Chg)(b:Nat→Bool)(u:Sched):Prop where
 len:u.len=s.len
 offs:u.offs=s.offs
 sorted:u.cells.Pairwise fun a b=>a.cmp b < 0
 mem:∀c,c∈u.cells↔inSet s L b c
 few:u.cells.length+(List.range L.length).countP (fun i=>!b i)≤s.cells.length+L.length
theorem pw_sorted {l:List Cell}(h:l.Pairwise fun a b=>a.cmp b < 0):Sorted Cell.cmp l:=fun i j x y hij hx hy=>by
 obtain⟨hi,rfl⟩:=List.getElem?_eq_some_iff.1 hx
 obtain⟨hj,rfl⟩:=List.getElem?_eq_some_iff.1 hy
 exact List.pairwise_iff_getElem.1 h i j hi hj hij
theorem inSet_congr {s:Sched}{L:List Chg}{b b':Nat→Bool}(h:∀i,i < L.length→b i=b' i)(c:Cell):inSet s L b c↔inSet s L b' c:=by
 unfold inSet
 have hi:∀{i:Nat} {x:Chg},L[i]? = some x→b i=b' i:=fun hx=>h _ (List.getElem?_eq_some_iff.1 hx).1
 constructor
 ·rintro (⟨h1,h2⟩|⟨i,x,h1,h2,h3⟩)
  ·exact .inl ⟨h1,fun i x hx hb=>h2 i x hx (by rw[hi hx];exact hb)⟩
  ·exact .inr ⟨i,x,h1,by rw[←hi h1];exact h2,h3⟩
 ·rintro (⟨h1,h2⟩|⟨i,x,h1,h2,h3⟩)
  ·exact .inl ⟨h1,fun i x hx hb=>h2 i x hx (by rw[←hi hx];exact hb)⟩
  ·exact .inr ⟨i,x,h1,by rw[hi h1];exact h2,h3⟩
theorem SetP.congr {s u:Sched}{L:List Chg}{b b':Nat→Bool}(hu:SetP s L b u)(h:∀i,i < L.length→b i=b' i):SetP s L b' u where
 len:=hu.len
 offs:=hu.offs
 sorted:=hu.sorted
 mem:=fun c=>(hu.mem c).trans (inSet_congr h c)
 few:=by
  have:(List.range L.length).countP (fun i=>!b' i)=(List.range L.length).countP (fun i=>!b i):=List.countP_congr fun i hi=>by rw[h i (List.mem_range.1 hi)]
  rw[this];exact hu.few
theorem SetP.uniq {s u v:Sched}{L:List Chg}{b:Nat→Bool}(hu:SetP s L b u)(hv:SetP s L b v):u=v:=by
 have hc:u.cells=v.cells:=strict_ext (lt:=fun a b:Cell=>a.cmp b < 0) cel_irr (fun a b h1 h2=>by have:=cmpL_trans h1 h2;exact cel_irr a this) hu.sorted hv.sorted fun c=>(hu.mem c).trans (hv.mem c).symm
 obtain⟨a1,a2,a3⟩:=u
 obtain⟨b1,b2,b3⟩:=v
 have h1:=hu.len.trans hv.len.symm
 have h2:=hu.offs.trans hv.offs.symm
 simp only at h1 h2 hc
 subst h1;subst h2;subst hc;rfl
section
variable {s u:Sched} {L:List Chg} {b:Nat→Bool}
theorem SetP.zero (h:StpOk s L):SetP s L (fun _=>false) s where
 len:=rfl
 offs:=rfl
 sorted:=sorted_pw h.form
 mem:=fun c=>by unfold inSet;simp
 few:=by simp
theorem SetP.form (h:StpOk s L)(hu:SetP s L b u):formB u=true:=by
 obtain⟨f1,f2,f3⟩:=form_all h.form
 have hfew:=hu.few
 have hroom:=h.room
 refine formB_mk (by unfold sizedB at f1 ⊢;rw[hu.len,hu.offs];exact f1) (by omega) (fun c hc=>?_) (pw_sorted hu.sorted)
 rw[formedB_len hu.len hu.offs]
 rcases (hu.mem c).1 hc with ⟨h1,_⟩|⟨i,x,h1,_,h2,rfl⟩
 ·exact f3 c h1
 ·exact(h.add x (List.mem_of_getElem? h1) h2).1
theorem SetP.step (h:StpOk s L)(hu:SetP s L b u){i:Nat}{x:Chg}(hx:L[i]? = some x)(hb:b i=false):(chgM u x).2=0∧SetP s L (fun j=>b j||decide (j=i)) (chgM u x).1:=by
 have hform:=hu.form h
 have hxm:=List.mem_of_getElem? hx
 have hil:=(List.getElem?_eq_some_iff.1 hx).1
 obtain⟨bi,hbi⟩:∃bi:Nat→Bool,bi=fun j=>b j||decide (j=i):=⟨_,rfl⟩
 have hb1:bi i=true:=by rw[hbi];simp
 have hb2:∀j,j≠i→bi j=b j:=fun j hj=>by rw[hbi];simp[hj]
 have hb3:∀j,b j=true→bi j=true:=fun j hj=>by rw[hbi];simp[hj]
 rw[←hbi]
 have hcnt:(List.range L.length).countP (fun j=>!bi j)+1=(List.range L.length).countP (fun j=>!b j):=count_one (i:=i) (by rw[hb];rfl) (by rw[hb1];rfl) (fun j hj=>by rw[hb2 j hj]) hil
 have hfew:=hu.few
 have hroom:=h.room
 unfold chgM
 by_cases ha:x.add=true
 ·rw[if_pos ha]
  obtain⟨a1,a2⟩:=h.add x hxm ha
  have hno:x.cell ∉ u.cells:=fun hm=>by
   rcases (hu.mem x.cell).1 hm with ⟨h1,_⟩|⟨j,y,h1,h2,_,h4⟩
   ·exact a2 h1
   ·have:=h.once j i y x h1 hx h4
    subst this
    rw[hb]at h2;cases h2
  have hhas:hasC u x.cell=false:=by rw[hasC_mem hform];exact decide_eq_false hno
  have he:addM u x.cell=(⟨u.len,u.offs,insAt u.cells (posC u x.cell) x.cell⟩,0):=by
   unfold addM
   rw[if_neg (by rw[hform];decide),if_neg (by rw[formedB_len hu.len hu.offs,a1];decide),if_neg (by rw[hhas];decide),if_neg (by omega)]
  rw[he]
  refine⟨rfl,hu.len,hu.offs,?_,fun c=>?_,?_⟩
  ·have hs:=add_sorted hform hhas
   exact List.pairwise_iff_getElem.2 fun k j hk hj hkj=>hs k j _ _ hkj (List.getElem?_eq_getElem hk) (List.getElem?_eq_getElem hj)
  ·rw[insAt_mem,hu.mem]
   unfold inSet
   constructor
   ·rintro (rfl|⟨h1,h2⟩|⟨j,y,h1,h2,h3⟩)
    ·exact .inr ⟨i,x,hx,hb1,ha,rfl⟩
    ·refine .inl ⟨h1,fun j y hy hbj hya=>?_⟩
     by_cases e:j=i
     ·subst e;rw[hx]at hy;cases hy;rw[ha]at hya;cases hya
     ·rw[hb2 j e]at hbj;exact h2 j y hy hbj hya
    ·exact .inr ⟨j,y,h1,hb3 j h2,h3⟩
   ·rintro (⟨h1,h2⟩|⟨j,y,h1,h2,h3,h4⟩)
    ·exact .inr (.inl ⟨h1,fun j y hy hbj hya=>h2 j y hy (hb3 j hbj) hya⟩)
    ·by_cases e:j=i
     ·subst e;rw[hx]at h1;cases h1;exact .inl h4.symm
     ·rw[hb2 j e]at h2
      exact .inr (.inr ⟨j,y,h1,h2,h3,h4⟩)
  ·show(insAt u.cells _ _).length+_≤_
   rw[insAt_len]
   omega
 ·rw[if_neg ha]
  have ha':x.add=false:=by simpa using ha
  have hin:x.cell∈u.cells:=(hu.mem x.cell).2 (.inl ⟨h.rem x hxm ha',fun j y hy hbj _ he=>by
   have:=h.once j i y x hy hx he
   subst this
   rw[hb]at hbj;cases hbj⟩)
  have hhas:hasC u x.cell=true:=by rw[hasC_mem hform];exact decide_eq_true hin
  have he:remM u x.cell=(⟨u.len,u.offs,u.cells.filter fun y=>decide (y≠x.cell)⟩,0):=by
   unfold remM
   rw[if_neg (by rw[hform];decide),if_neg (by rw[hhas];decide),remM_filter hform hhas]
  rw[he]
  refine⟨rfl,hu.len,hu.offs,hu.sorted.filter _,fun c=>?_,?_⟩
  ·rw[List.mem_filter,hu.mem,decide_eq_true_eq]
   unfold inSet
   constructor
   ·rintro⟨⟨h1,h2⟩|⟨j,y,h1,h2,h3⟩,hne⟩
    ·refine .inl ⟨h1,fun j y hy hbj hya=>?_⟩
     by_cases e:j=i
     ·subst e;rw[hx]at hy;cases hy;exact fun e=>hne e.symm
     ·rw[hb2 j e]at hbj;exact h2 j y hy hbj hya
    ·exact .inr ⟨j,y,h1,hb3 j h2,h3⟩
   ·rintro (⟨h1,h2⟩|⟨j,y,h1,h2,h3,h4⟩)
    ·exact⟨.inl ⟨h1,fun j y hy hbj hya=>h2 j y hy (hb3 j hbj) hya⟩,fun e=>h2 i x hx hb1 ha' e.symm⟩
    ·have e:j≠i:=by
      rintro rfl
      rw[hx]at h1;cases h1
      rw[ha']at h3;cases h3
     rw[hb2 j e]at h2
     refine⟨.inr ⟨j,y,h1,h2,h3,h4⟩,fun e2=>?_⟩
     subst e2
     exact e (h.once j i y x h1 hx h4)
  ·show(u.cells.filter _).length+_≤_
   have:=List.length_filter_le (fun y=>decide (y≠x.cell)) u.cells
   omega
end
def setK (s:Sched)(L:List Chg)(b:Nat→Bool):Nat→Sched
 | 0=>s
 | k+1=>match L[k]? with
  | some x=>if b k=true then(chgM (setK s L b k) x).1 else setK s L b k
  | none=>setK s L b k
def setU (s:Sched)(L:List Chg)(S:Nat):Sched:=setK s L (bitB S) L.length
theorem setK_ok {s:Sched}{L:List Chg}(h:StpOk s L)(b:Nat→Bool):∀k,SetP s L (fun j=>b j&&decide (j < k)) (setK s L b k)
 | 0=>(SetP.zero h).congr fun i _=>by simp
 | k+1=>by
  have ih:=setK_ok h b k
  unfold setK
  cases hx:L[k]? with
  | none=>
   refine ih.congr fun i hi=>?_
   have:¬k < L.length:=fun hk=>by rw[List.getElem?_eq_getElem hk]at hx;cases hx
   rw[decide_eq_true (show i < k by omega),decide_eq_true (show i < k+1 by omega)]
  | some x=>
   simp only
   by_cases hb:b k=true
   ·rw[if_pos hb]
    refine(ih.step h hx (by simp)).2.congr fun i _=>?_
    by_cases e:i=k
    ·subst e;simp[hb]
    ·rw[decide_eq_false e,Bool.or_false]
     congr 1
     exact decide_eq_decide.2 (by omega)
   ·rw[if_neg hb]
    refine ih.congr fun i _=>?_
    by_cases e:i=k
    ·subst e;simp[hb]
    ·congr 1
     exact decide_eq_decide.2 (by omega)
theorem setU_ok {s:Sched}{L:List Chg}(h:StpOk s L)(S:Nat):SetP s L (bitB S) (setU s L S):=(setK_ok h (bitB S) L.length).congr fun i hi=>by rw[decide_eq_true hi,Bool.and_true]
theorem setU_step {s:Sched}{L:List Chg}(h:StpOk s L){S i:Nat}{x:Chg}(hx:L[i]? = some x)(hb:bitB S i=false):(chgM (setU s L S) x).2=0∧(chgM (setU s L S) x).1=setU s L (S ||| 2 ^ i):=by
 obtain⟨h1,h2⟩:=(setU_ok h S).step h hx hb
 refine⟨h1,(h2.congr fun j _=>?_).uniq (setU_ok h (S ||| 2 ^ i))⟩
 rw[or_bit]
 congr 1
 exact decide_eq_decide.2 ⟨fun e=>e.symm,fun e=>e.symm⟩
theorem setU_zero {s:Sched}{L:List Chg}(h:StpOk s L):setU s L 0=s:=(setU_ok h 0).uniq ((SetP.zero h).congr fun i _=>by unfold bitB;simp)
def onlyD (a b:Sched):List Cell:=a.cells.filter fun c=>!decide (c∈b.cells)
def stepsL (s t:Sched):List Chg:=((onlyD t s).map fun c=>⟨0,true,c⟩)++(onlyD s t).map fun c=>⟨0,false,c⟩
def stepsM (s t:Sched):List Chg×Int:=if formB s=false∨formB t=false then([],1) else if s.len≠t.len∨s.offs≠t.offs then([],11) else(stepsL s t,0)
theorem stepsM_ok {s t:Sched}(h:(stepsM s t).2=0):formB s=true∧formB t=true∧t.len=s.len∧t.offs=s.offs∧stepsM s t=(stepsL s t,0):=by
 unfold stepsM at h ⊢
 split at h
 ·cases h
 split at h
 ·cases h
 rename_i h1 h2
 simp only[not_or,Bool.not_eq_false,ne_eq,Decidable.not_not]at h1 h2
 exact⟨h1.1,h1.2,h2.1.symm,h2.2.symm,by rw[if_neg (by simp[h1]),if_neg (by simp[h2])]⟩
theorem nodup_pw {l:List Cell}(h:l.Pairwise fun a b=>a.cmp b < 0):l.Nodup:=h.imp fun {a b} hab e=>by subst e;exact cel_irr a hab
theorem stepsL_cells (s t:Sched):(stepsL s t).map Chg.cell=onlyD t s++onlyD s t:=by
 unfold stepsL
 rw[List.map_append,List.map_map,List.map_map]
 congr 1
 ·exact List.map_id _
 ·exact List.map_id _
theorem stepsL_nodup {s t:Sched}(hs:formB s=true)(ht:formB t=true):((stepsL s t).map Chg.cell).Nodup:=by
 rw[stepsL_cells]
 unfold List.Nodup
 rw[List.pairwise_append]
 refine⟨(nodup_pw (sorted_pw ht)).filter _,(nodup_pw (sorted_pw hs)).filter _,fun a ha b hb e=>?_⟩
 subst e
 have h1:=(List.mem_filter.1 ha).2
 have h2:=(List.mem_filter.1 hb).1
 simp[h2]at h1
theorem stepsL_at {s t:Sched}{x:Chg}(h:x∈stepsL s t):(x.add=true∧x.cell∈t.cells∧x.cell ∉ s.cells)∨(x.add=false∧x.cell∈s.cells∧x.cell ∉ t.cells):=by
 unfold stepsL at h
 rcases List.mem_append.1 h with h|h
 ·obtain⟨c,hc,rfl⟩:=List.mem_map.1 h
  obtain⟨h1,h2⟩:=List.mem_filter.1 hc
  exact .inl ⟨rfl,h1,by simpa using h2⟩
 ·obtain⟨c,hc,rfl⟩:=List.mem_map.1 h
  obtain⟨h1,h2⟩:=List.mem_filter.1 hc
  exact .inr ⟨rfl,h1,by simpa using h2⟩
theorem stepsL_len (s t:Sched):(stepsL s t).length≤s.cells.length+t.cells.length:=by
 unfold stepsL onlyD
 rw[List.length_append,List.length_map,List.length_map]
 have h1:=List.length_filter_le (fun c=>!decide (c∈s.cells)) t.cells
 have h2:=List.length_filter_le (fun c=>!decide (c∈t.cells)) s.cells
 omega
theorem stepsL_ok {s t:Sched}(hs:formB s=true)(ht:formB t=true)(hl:t.len=s.len)(ho:t.offs=s.offs)(hr:s.cells.length+(stepsL s t).length≤512):StpOk s (stepsL s t) where
 form:=hs
 room:=hr
 add:=fun x hx ha=>by
  rcases stepsL_at hx with ⟨_,h2,h3⟩|⟨h1,_⟩
  ·exact⟨by rw[←formedB_len hl ho];exact(form_all ht).2.2 _ h2,h3⟩
  ·rw[ha]at h1;cases h1
 rem:=fun x hx ha=>by
  rcases stepsL_at hx with ⟨h1,_⟩|⟨_,h2,_⟩
  ·rw[ha]at h1;cases h1
  ·exact h2
 once:=fun i j x y hx hy he=>by
  have hn:=stepsL_nodup hs ht
  obtain⟨hi,hxe⟩:=List.getElem?_eq_some_iff.1 hx
  obtain⟨hj,hye⟩:=List.getElem?_eq_some_iff.1 hy
  have hpi:=List.pairwise_iff_getElem.1 hn
  rcases Nat.lt_trichotomy i j with h|h|h
  ·have:=hpi i j (by rw[List.length_map];exact hi) (by rw[List.length_map];exact hj) h
   rw[List.getElem_map,List.getElem_map,hxe,hye]at this
   exact absurd he this
  ·exact h
  ·have:=hpi j i (by rw[List.length_map];exact hj) (by rw[List.length_map];exact hi) h
   rw[List.getElem_map,List.getElem_map,hxe,hye]at this
   exact absurd he.symm this
theorem setU_full {s t:Sched}(hs:formB s=true)(ht:formB t=true)(hl:t.len=s.len)(ho:t.offs=s.offs)(hr:s.cells.length+(stepsL s t).length≤512):setU s (stepsL s t) (2 ^ (stepsL s t).length-1)=t:=by
 have h:=stepsL_ok hs ht hl ho hr
 refine(setU_ok h _).uniq ⟨hl,ho,sorted_pw ht,fun c=>?_,?_⟩
 ·have hbit:∀(i:Nat) (x:Chg),(stepsL s t)[i]? = some x→bitB (2 ^ (stepsL s t).length-1) i=true:=fun i x hx=>full_bit (List.getElem?_eq_some_iff.1 hx).1
  unfold inSet
  constructor
  ·intro hc
   by_cases hcs:c∈s.cells
   ·refine .inl ⟨hcs,fun i x hx _ ha e=>?_⟩
    rcases stepsL_at (List.mem_of_getElem? hx) with ⟨h1,_⟩|⟨_,_,h3⟩
    ·rw[ha]at h1;cases h1
    ·exact h3 (by rw[e];exact hc)
   ·have hm:(⟨0,true,c⟩:Chg)∈stepsL s t:=by
     unfold stepsL
     exact List.mem_append_left _ (List.mem_map.2 ⟨c,List.mem_filter.2 ⟨hc,by simp[hcs]⟩,rfl⟩)
    obtain⟨i,hi⟩:=List.getElem?_of_mem hm
    exact .inr ⟨i,_,hi,hbit i _ hi,rfl,rfl⟩
  ·rintro (⟨h1,h2⟩|⟨i,x,h1,_,h3,rfl⟩)
   ·apply Decidable.byContradiction
    intro hc
    have hm:(⟨0,false,c⟩:Chg)∈stepsL s t:=by
     unfold stepsL
     exact List.mem_append_right _ (List.mem_map.2 ⟨c,List.mem_filter.2 ⟨h1,by simp[hc]⟩,rfl⟩)
    obtain⟨i,hi⟩:=List.getElem?_of_mem hm
    exact h2 i _ hi (hbit i _ hi) rfl rfl
   ·rcases stepsL_at (List.mem_of_getElem? h1) with ⟨_,h2,_⟩|⟨h4,_⟩
    ·exact h2
    ·rw[h3]at h4;cases h4
 ·have hz:(List.range (stepsL s t).length).countP (fun i=>!bitB (2 ^ (stepsL s t).length-1) i)=0:=List.countP_eq_zero.2 fun i hi=>by
   rw[full_bit (List.mem_range.1 hi)];simp
  rw[hz]
  have hsub:t.cells.length≤s.cells.length+(onlyD t s).length:=by
   have hn:=nodup_pw (sorted_pw ht)
   have hsplit:t.cells.length=(t.cells.filter fun c=>decide (c∈s.cells)).length+(onlyD t s).length:=by
    unfold onlyD
    rw[←List.length_append]
    exact(List.filter_append_perm (fun c=>decide (c∈s.cells)) t.cells).symm.length_eq
   have hsub2:(t.cells.filter fun c=>decide (c∈s.cells)).Sublist s.cells:=by
    have hp:=sorted_pw hs
    have e:(t.cells.filter fun c=>decide (c∈s.cells))=s.cells.filter fun c=>decide (c∈t.cells):=strict_ext (lt:=fun a b:Cell=>a.cmp b < 0) cel_irr (fun a b h1 h2=>by have:=cmpL_trans h1 h2;exact cel_irr a this) ((sorted_pw ht).filter _) (hp.filter _) fun c=>by
     rw[List.mem_filter,List.mem_filter,decide_eq_true_eq,decide_eq_true_eq];exact And.comm
    rw[e]
    exact List.filter_sublist
   have:=hsub2.length_le
   omega
  unfold stepsL
  rw[List.length_append,List.length_map,List.length_map]
  omega
def takesP (L:List Chg):List Nat→List Chg→Prop
 | [],[]=>True
 | i :: p,c :: cs=>(∃x,L[i]? = some x∧c.add=x.add∧c.cell=x.cell)∧takesP L p cs
 | _,_=>False
def canO (n:Net)(before after:List Req)(s:Sched)(L:List Chg)(S:Nat):Bool:=(schedE n (bothM before after) (setU s L S)).2==0&&keepB n before after (setU s L S)
theorem path_takes {n:Net}{before after:List Req}{s:Sched}{L:List Chg}(h:StpOk s L):∀{p:List Nat} {S T:Nat} {done cs:List Chg},pathB L.length (canO n before after s L) S p T→takesP L p cs→afterC s done=setU s L S →
  (∀(k:Nat) c,cs[k]? = some c→(chgM (afterC s (done++cs.take k)) c).2=0∧(schedE n (bothM before after) (chgM (afterC s (done++cs.take k)) c).1).2=0∧keepB n before after (chgM (afterC s (done++cs.take k)) c).1=true)∧afterC s (done++cs)=setU s L T
 | [],S,T,done,cs,hp,ht,hd=>by
  cases hp
  cases cs with
  | nil=>exact⟨fun k c hk=>by simp at hk,by rw[List.append_nil];exact hd⟩
  | cons c cs=>exact ht.elim
 | i :: p,S,T,done,cs,hp,ht,hd=>by
  cases cs with
  | nil=>exact ht.elim
  | cons c cs=>
   obtain⟨a,b,e,d⟩:=hp
   obtain⟨⟨x,hx,h1,h2⟩,ht2⟩:=ht
   obtain⟨u1,u2⟩:=setU_step h hx b
   have hcx:∀u,chgM u c=chgM u x:=fun u=>chgM_same h1 h2
   have hd2:afterC s (done++[c])=setU s L (S ||| 2 ^ i):=by
    have:afterC s (done++[c])=(chgM (afterC s done) c).1:=by unfold afterC;rw[List.foldl_append];rfl
    rw[this,hd,hcx,u2]
   obtain⟨r1,r2⟩:=path_takes h d ht2 hd2
   refine⟨fun k c' hk=>?_,by rw[List.append_cons];exact r2⟩
   cases k with
   | zero=>
    cases hk
    rw[List.take_zero,List.append_nil,hd,hcx,u2]
    unfold canO at e
    simp only[Bool.and_eq_true,beq_iff_eq]at e
    exact⟨u1,e.1,e.2⟩
   | succ k=>
    rw[List.take_succ_cons,List.append_cons]
    exact r1 k c' hk
def slotsB (before after:List Req)(l:List Chg):Prop:=∀(k:Nat) c,l[k]? = some c→chgE (lastSlot (l.take k)) c=0∧earlyB before after (l.take k) c=false
theorem path_ck {n:Net}{before after:List Req}{s:Sched}{L:List Chg}(hw:wholeC n before after s=0)(h:StpOk s L){p:List Nat}{T:Nat}(hp:pathB L.length (canO n before after s L) 0 p T){l:List Chg}(ht:takesP L p l)(hl:l.length≤1024)(hs:slotsB before after l)(he:endsB n after (setU s L T)=true):CkOk n before after s l:=by
 obtain⟨r1,r2⟩:=path_takes h hp ht (done:=[]) (setU_zero h).symm
 rw[List.nil_append]at r2
 refine⟨hw,hl,fun k c hk=>?_,by rw[r2];exact he⟩
 obtain⟨z1,z2,z3⟩:=r1 k c hk
 rw[List.nil_append]at z1 z2 z3
 obtain⟨s1,s2⟩:=hs k c hk
 exact step_zero.2 ⟨s1,z1,s2,z2,z3⟩
theorem sh_chgsB {l:List AV}(h:(Ty.sl tChg).sh l):∃cs:List Chg,l=[encChgs cs]∧cs.length≤140737488355328∧∀c∈cs,c.slot≤9223372036854775807:=by
 obtain⟨els,rfl,h1,h2⟩:=h
 obtain⟨cs,h3,h4,h5⟩:=list_ofP (f:=Chg.av) (Q:=fun c:Chg=>c.slot≤9223372036854775807) (fun l hl=>by
  obtain⟨_,_,rfl,_,h1,_,_,rfl,_,h2,_,_,rfl,_,h3,h6⟩:=hl
  obtain⟨a,rfl,ha⟩:=sh_int h1
  obtain⟨b,rfl⟩:=h2
  obtain⟨c,rfl⟩:=sh_cell h3
  obtain rfl:=h6
  exact⟨⟨a,b,c⟩,rfl,by unfold I64b at ha;exact ha.2⟩) els h1
 exact⟨cs,by rw[h3];rfl,by omega,h5⟩
theorem CkOk.busy {n:Net}{before after:List Req}{s:Sched}{l:List Chg}(h:CkOk n before after s l){t:Int}(h0:0≤t):busyP s l t=(busF (atM (afterC s (uptoW l t)) t),0):=by
 unfold busyP
 rw[h.apply,if_neg (show ¬(0:Int)≠0 by decide),if_neg (by omega)]
def pickL (L:List Chg)(p:List Nat):List Chg:=p.filterMap fun i=>L[i]?
theorem takes_pick {L:List Chg}{can:Nat→Bool}:∀{p:List Nat} {S T:Nat},pathB L.length can S p T→takesP L p (pickL L p)
 | [],_,_,_=>trivial
 | i :: p,S,T,⟨a,b,c,d⟩=>by
  unfold pickL
  rw[List.filterMap_cons,List.getElem?_eq_getElem a]
  exact⟨⟨L[i],List.getElem?_eq_getElem a,rfl,rfl⟩,takes_pick d⟩
theorem takes_len {L:List Chg}:∀{p:List Nat} {l:List Chg},takesP L p l→l.length=p.length
 | [],[],_=>rfl
 | i :: p,c :: cs,⟨_,h⟩=>by rw[List.length_cons,List.length_cons,takes_len h]
 | [],_ :: _,h=>h.elim
 | _ :: _,[],h=>h.elim
def spcL:Nat→List Chg→List Chg
 | _,[]=>[]
 | k,c :: cs=>⟨512*(k:Int),c.add,c.cell⟩ :: spcL (k+1) cs
theorem spc_at:∀(l:List Chg) (k j:Nat),(spcL k l)[j]? = (l[j]?).map fun c=>⟨512*((k+j:Nat):Int),c.add,c.cell⟩
 | [],_,_=>by simp[spcL]
 | c :: cs,k,0=>by simp[spcL]
 | c :: cs,k,j+1=>by
  unfold spcL
  rw[List.getElem?_cons_succ,List.getElem?_cons_succ,spc_at cs (k+1) j,show k+1+j=k+(j+1) by omega]
theorem spc_len (l:List Chg):∀k,(spcL k l).length=l.length:=by
 induction l with
 | nil=>intro k;rfl
 | cons c cs ih=>intro k;unfold spcL;rw[List.length_cons,List.length_cons,ih]
theorem takes_spc {L:List Chg}:∀{p:List Nat} {l:List Chg} (k:Nat),takesP L p l→takesP L p (spcL k l)
 | [],[],_,_=>trivial
 | _i :: _p,_c :: _cs,k,⟨h1,h2⟩=>⟨h1,takes_spc (k+1) h2⟩
 | [],_ :: _,_,h=>h.elim
 | _ :: _,[],_,h=>h.elim
theorem spc_slots {n:Net}{before after:List Req}{s:Sched}(hW:WholeOk n before after s){l:List Chg}(hl:l.length≤1024):slotsB before after (spcL 0 l):=fun k c hk=>by
 rw[spc_at,Nat.zero_add]at hk
 obtain⟨x,hx,rfl⟩:=Option.map_eq_some_iff.1 hk
 have hkl:=(List.getElem?_eq_some_iff.1 hx).1
 have hat:∀j,j < k→∃y:Chg,(spcL 0 l)[j]? = some ⟨512*(j:Int),y.add,y.cell⟩:=fun j hj=>by
  rw[spc_at,Nat.zero_add,List.getElem?_eq_getElem (by omega)]
  exact⟨_,rfl⟩
 refine⟨chgE_of (by simp only;omega) fun q hq=>?_,early_no fun ha y z hyz d hd h1 h2=>?_⟩
 ·cases k with
  | zero=>cases hq
  | succ j=>
   obtain⟨y,hy⟩:=hat j (by omega)
   rw[lastSlot_take hy]at hq
   cases hq
   simp only
   omega
 ·obtain⟨j,hj,hje⟩:=List.mem_iff_getElem.1 hd
  rw[List.length_take]at hj
  obtain⟨w,hw⟩:=hat j (by omega)
  have:d=⟨512*(j:Int),w.add,w.cell⟩:=by
   rw[List.getElem_take]at hje
   have:=(List.getElem?_eq_some_iff.1 hw).2
   rw[←hje,this]
  obtain⟨q1,_⟩:=stayQ_some hyz
  have hp:=flowE_ok ((reqE_ok hW.rb).2.2.1 y (getQ_some q1).1).flow
  rw[this]
  simp only
  rw[w64 (by omega) (by omega)]
  omega
theorem timeG_same {flows:List Flow}:∀{l l':List Chg},(l.map fun c=>(c.add,c.cell))=(l'.map fun c=>(c.add,c.cell))→∀(t:Int) (out:List Chg),timeG flows t out l=timeG flows t out l'
 | [],[],_,_,_=>rfl
 | c :: l,d :: l',h,t,out=>by
  simp only[List.map_cons,List.cons.injEq,Prod.mk.injEq]at h
  obtain⟨⟨h1,h2⟩,h3⟩:=h
  have e:timeN flows out t c=timeN flows out t d:=by unfold timeN;rw[h1,h2]
  rw[timeG,timeG,e,h1,h2]
  split
  ·rfl
  ·exact timeG_same h3 _ _
 | [],_ :: _,h,_,_=>by cases h
 | _ :: _,[],h,_,_=>by cases h
theorem timeM_same {flows:List Flow}{l l':List Chg}(h:(l.map fun c=>(c.add,c.cell))=(l'.map fun c=>(c.add,c.cell)))(fr:Int):timeM flows l fr=timeM flows l' fr:=by
 have hl:l.length=l'.length:=by
  have:=congrArg List.length h
  rwa [List.length_map,List.length_map]at this
 unfold timeM
 rw[timeG_same h,hl]
theorem spc_same (l:List Chg):∀k,((spcL k l).map fun c=>(c.add,c.cell))=(l.map fun c=>(c.add,c.cell)):=by
 induction l with
 | nil=>intro k;rfl
 | cons c cs ih=>intro k;unfold spcL;rw[List.map_cons,List.map_cons,ih]
theorem un_zero (m:Nat):unM m 0=m:=by
 unfold unM bitB
 simp
theorem un_full (m:Nat):unM m (2 ^ m-1)=0:=by
 unfold unM
 exact List.countP_eq_zero.2 fun i hi=>by rw[full_bit (List.mem_range.1 hi)];simp
theorem path_has {m:Nat}{can:Nat→Bool}:∀{p:List Nat} {S T:Nat},pathB m can S p T→∀j,bitB T j=true→bitB S j=true∨j∈p
 | [],S,T,h,j,hj=>by cases h;exact .inl hj
 | i :: p,S,T,⟨a,b,c,d⟩,j,hj=>by
  rcases path_has d j hj with h|h
  ·rw[or_bit,Bool.or_eq_true,decide_eq_true_eq]at h
   rcases h with h|h
   ·exact .inl h
   ·exact .inr (by rw[h];exact List.mem_cons_self ..)
  ·exact .inr (List.mem_cons_of_mem _ h)
theorem takes_has {L:List Chg}:∀{p:List Nat} {l:List Chg},takesP L p l→∀i∈p,∃x y,L[i]? = some x∧y∈l∧y.add=x.add∧y.cell=x.cell
 | [],_,_,i,hi=>by cases hi
 | j :: p,c :: cs,⟨⟨x,h1,h2,h3⟩,h⟩,i,hi=>by
  rcases List.mem_cons.1 hi with rfl|hi
  ·exact⟨x,c,h1,List.mem_cons_self ..,h2,h3⟩
  ·obtain⟨x,y,e1,e2,e3⟩:=takes_has h i hi
   exact⟨x,y,e1,List.mem_cons_of_mem _ e2,e3⟩
 | _ :: _,[],h,_,_=>h.elim
theorem takes_timed {L:List Chg}{flows:List Flow}{fr:Int}{l o:List Chg}(h:Timed flows fr l o):∀{p:List Nat},takesP L p l→takesP L p o:=by
 have key:∀{p:List Nat} {l o:List Chg},o.length=l.length→(∀(k:Nat) c d,l[k]? = some c→o[k]? = some d→d.add=c.add∧d.cell=c.cell)→takesP L p l→takesP L p o:=by
  intro p
  induction p with
  | nil=>
   intro l o hl _ ht
   cases l with
   | nil=>cases o with
    | nil=>trivial
    | cons _ _=>simp at hl
   | cons _ _=>exact ht.elim
  | cons i p ih=>
   intro l o hl hh ht
   cases l with
   | nil=>exact ht.elim
   | cons c cs=>
    cases o with
    | nil=>simp at hl
    | cons d ds=>
     obtain⟨⟨x,h1,h2,h3⟩,h4⟩:=ht
     obtain⟨e1,e2⟩:=hh 0 c d rfl rfl
     exact⟨⟨x,h1,e1.trans h2,e2.trans h3⟩,ih (by simpa using hl) (fun k a b ha hb=>hh (k+1) a b ha hb) h4⟩
 intro p ht
 refine key h.len (fun k c d hc hd=>?_) ht
 have:=h.at_ k c hc
 rw[hd]at this
 cases this
 exact⟨rfl,rfl⟩
theorem found_safe {n:Net}{before after:List Req}{s:Sched}{L:List Chg}(hw:wholeC n before after s=0)(h:StpOk s L)(hm:L.length≤12){p:List Nat}(hp:pathB L.length (canO n before after s L) 0 p (2 ^ L.length-1))(he:endsB n after (setU s L (2 ^ L.length-1))=true) :
  ∃o,timeM (stayF before after) (pickL L p) 0=(o,0)∧CkOk n before after s o∧o.length=L.length∧afterC s o=setU s L (2 ^ L.length-1)∧(∀c∈o,0≤c.slot∧c.slot≤1048576)∧∀x∈L,∃y∈o,y.add=x.add∧y.cell=x.cell:=by
 have hW:=wholeC_ok hw
 have ht:=takes_pick hp
 have hlen:=path_len hp
 rw[un_zero,un_full]at hlen
 have hpl:=takes_len ht
 have hcs:=path_ck hw h hp (takes_spc 0 ht) (by rw[spc_len];omega) (spc_slots hW (by omega)) he
 obtain⟨o,h1,h2⟩:=time_from hcs (Int.le_refl 0) (by rw[spc_len];omega)
 have hto:=takes_timed h2 (takes_spc 0 ht)
 refine⟨o,by rw[←h1];exact timeM_same (spc_same _ 0).symm 0,timed_ok hcs (Int.le_refl 0) h2,?_,?_,fun c hc=>?_,fun x hx=>?_⟩
 ·rw[takes_len hto];omega
 ·exact(path_takes h hp hto (done:=[]) (setU_zero h).symm).2
 ·obtain⟨k,hk⟩:=List.getElem?_of_mem hc
  exact⟨h2.lo hk,h2.top hk⟩
 ·obtain⟨i,hi⟩:=List.getElem?_of_mem hx
  have hib:=full_bit (List.getElem?_eq_some_iff.1 hi).1
  rcases path_has hp i hib with h3|h3
  ·unfold bitB at h3;simp at h3
  ·obtain⟨x',y,e1,e2,e3,e4⟩:=takes_has hto i h3
   rw[hi]at e1;cases e1
   exact⟨y,e2,e3,e4⟩
theorem ck_shift {n:Net}{before after:List Req}{s:Sched}{l:List Chg}(h:CkOk n before after s l)(hs:∀c∈l,0≤c.slot∧c.slot≤1048576){d:Int}(h0:0≤d)(h1:d≤65535):CkOk n before after s (l.map fun c=>⟨c.slot+d,c.add,c.cell⟩):=by
 have haf:∀(l:List Chg) (u:Sched),afterC u (l.map fun c=>⟨c.slot+d,c.add,c.cell⟩)=afterC u l:=fun l=>by
  induction l with
  | nil=>intro u;rfl
  | cons c cs ih=>intro u;exact ih _
 refine⟨h.whole,by rw[List.length_map];exact h.few,fun k c hk=>?_,by rw[haf];exact h.ends⟩
 rw[List.getElem?_map]at hk
 obtain⟨x,hx,rfl⟩:=Option.map_eq_some_iff.1 hk
 obtain⟨z1,z2,z3,z4,z5⟩:=step_zero.1 (h.step k x hx)
 rw[←List.map_take,haf]
 have hch:∀u,chgM u ⟨x.slot+d,x.add,x.cell⟩=chgM u x:=fun u=>chgM_same rfl rfl
 have hxs:=hs x (List.mem_of_getElem? hx)
 obtain⟨a1,a2⟩:=chgE_zero z1
 refine step_zero.2 ⟨chgE_of (by simp only;omega) fun q hq=>?_,by rw[hch];exact z2,early_no fun ha y z hyz e hem h3 h4=>?_,by rw[hch];exact z4,by rw[hch];exact z5⟩
 ·unfold lastSlot at hq a2
  rw[List.getLast?_map,Option.map_map]at hq
  obtain⟨w,hw,rfl⟩:=Option.map_eq_some_iff.1 hq
  have:=a2 w.slot (by rw[hw];rfl)
  show w.slot+d≤x.slot+d
  omega
 ·obtain⟨w,hw,rfl⟩:=List.mem_map.1 hem
  have hws:=hs w (List.mem_of_mem_take hw)
  have:=early_yes z3 ha hyz hw h3 h4
  simp only
  rw[w64 (by omega) (by omega)]at this ⊢
  omega
theorem nodup_sub {α:Type}[DecidableEq α]:∀{a b:List α},a.Nodup→(∀x∈a,x∈b)→a.length≤b.length
 | [],_,_,_=>by simp
 | x :: a,b,hn,hs=>by
  obtain⟨h1,h2⟩:=List.nodup_cons.1 hn
  have hx:=hs x (List.mem_cons_self ..)
  have:=nodup_sub (a:=a) (b:=b.erase x) h2 fun y hy=>(List.mem_erase_of_ne (by rintro rfl;exact h1 hy)).2 (hs y (List.mem_cons_of_mem _ hy))
  rw[List.length_erase_of_mem hx]at this
  have:=List.length_pos_of_mem hx
  rw[List.length_cons];omega
theorem nodup_same {α:Type}[DecidableEq α]:∀{a b:List α},a.Nodup→(∀x∈a,x∈b)→b.length=a.length→b.Perm a
 | [],b,_,_,hl=>by
  have:b=[]:=List.length_eq_zero_iff.1 hl
  rw[this]
 | x :: a,b,hn,hs,hl=>by
  obtain⟨h1,h2⟩:=List.nodup_cons.1 hn
  have hx:=hs x (List.mem_cons_self ..)
  have:=nodup_same (a:=a) (b:=b.erase x) h2 (fun y hy=>(List.mem_erase_of_ne (by rintro rfl;exact h1 hy)).2 (hs y (List.mem_cons_of_mem _ hy))) (by rw[List.length_erase_of_mem hx,hl,List.length_cons];rfl)
  exact(List.perm_cons_erase hx).trans (this.cons x)
deriving instance DecidableEq for Cell
theorem chg_in {s:Sched}{x:Chg}(h:(chgM s x).2=0){c:Cell}(hc:c∈(chgM s x).1.cells)(hn:c ∉ s.cells):x.add=true∧x.cell=c:=by
 unfold chgM at h hc
 by_cases ha:x.add=true
 ·rw[if_pos ha]at h hc
  rw[(addM_ok (t:=(addM s x.cell).1) (by rw[←h])).2.2.2.2]at hc
  rcases insAt_mem.1 hc with rfl|hc
  ·exact⟨ha,rfl⟩
  ·exact absurd hc hn
 ·rw[if_neg ha]at h hc
  unfold remM at h hc
  split at h
  ·cases h
  split at h
  ·cases h
  rename_i h1 h2
  rw[if_neg h1,if_neg h2]at hc
  exact absurd ((delAt_sub _ _).mem hc) hn
theorem chg_out {s:Sched}{x:Chg}(h:(chgM s x).2=0){c:Cell}(hc:c ∉ (chgM s x).1.cells)(hn:c∈s.cells):x.add=false∧x.cell=c:=by
 unfold chgM at h hc
 by_cases ha:x.add=true
 ·rw[if_pos ha]at h hc
  rw[(addM_ok (t:=(addM s x.cell).1) (by rw[←h])).2.2.2.2]at hc
  exact absurd (insAt_mem.2 (.inr hn)) hc
 ·rw[if_neg ha]at h hc
  unfold remM at h hc
  split at h
  ·cases h
  split at h
  ·cases h
  rename_i h1 h2
  rw[if_neg h1,if_neg h2]at hc
  have hf:formB s=true:=by simpa using h1
  have hh:hasC s x.cell=true:=by simpa using h2
  simp only at hc
  rw[remM_filter hf hh,List.mem_filter]at hc
  refine⟨by simpa using ha,?_⟩
  apply Decidable.byContradiction
  intro e
  exact hc ⟨hn,decide_eq_true fun e2=>e e2.symm⟩
def fineL (s:Sched)(l:List Chg):Prop:=∀(k:Nat) c,l[k]? = some c→(chgM (afterC s (l.take k)) c).2=0
theorem fineL_cons {s:Sched}{x:Chg}{l:List Chg}(h:fineL s (x :: l)):(chgM s x).2=0∧fineL (chgM s x).1 l:=⟨h 0 x rfl,fun k c hk=>h (k+1) c hk⟩
theorem gets_in:∀{l:List Chg} {s:Sched} {c:Cell},fineL s l→c ∉ s.cells→c∈(afterC s l).cells→∃x∈l,x.add=true∧x.cell=c
 | [],s,c,_,hn,hc=>absurd hc hn
 | x :: l,s,c,h,hn,hc=>by
  obtain⟨h1,h2⟩:=fineL_cons h
  by_cases hm:c∈(chgM s x).1.cells
  ·exact⟨x,List.mem_cons_self ..,chg_in h1 hm hn⟩
  ·obtain⟨y,hy,e⟩:=gets_in h2 hm hc
   exact⟨y,List.mem_cons_of_mem _ hy,e⟩
theorem gets_out:∀{l:List Chg} {s:Sched} {c:Cell},fineL s l→c∈s.cells→c ∉ (afterC s l).cells→∃x∈l,x.add=false∧x.cell=c
 | [],s,c,_,hn,hc=>absurd hn hc
 | x :: l,s,c,h,hn,hc=>by
  obtain⟨h1,h2⟩:=fineL_cons h
  by_cases hm:c∈(chgM s x).1.cells
  ·obtain⟨y,hy,e⟩:=gets_out h2 hm hc
   exact⟨y,List.mem_cons_of_mem _ hy,e⟩
  ·exact⟨x,List.mem_cons_self ..,chg_out h1 hm hn⟩
section
variable {n:Net} {before after:List Req} {s:Sched} {l:List Chg}
theorem CkOk.fine (h:CkOk n before after s l):fineL s l:=fun k c hk=>(step_zero.1 (h.step k c hk)).2.1
theorem steps_occur (h:fineL s l){x:Chg}(hx:x∈stepsL s (afterC s l)):∃y∈l,y.add=x.add∧y.cell=x.cell:=by
 rcases stepsL_at hx with ⟨h1,h2,h3⟩|⟨h1,h2,h3⟩
 ·obtain⟨y,hy,e1,e2⟩:=gets_in h h3 h2
  exact⟨y,hy,by rw[h1,e1],e2⟩
 ·obtain⟨y,hy,e1,e2⟩:=gets_out h h2 h3
  exact⟨y,hy,by rw[h1,e1],e2⟩
theorem steps_fewest (h:fineL s l)(hs:formB s=true)(ht:formB (afterC s l)=true):(stepsL s (afterC s l)).length≤l.length:=by
 have:=nodup_sub (b:=l.map Chg.cell) (stepsL_nodup hs ht) fun c hc=>by
  obtain⟨x,hx,rfl⟩:=List.mem_map.1 hc
  obtain⟨y,hy,_,e⟩:=steps_occur h hx
  exact List.mem_map.2 ⟨y,hy,e⟩
 rwa [List.length_map,List.length_map]at this
theorem path_of {L:List Chg}(h:StpOk s L):∀{p:List Nat} {S:Nat} {done cs:List Chg},takesP L p cs→p.Nodup→(∀i∈p,i < L.length∧bitB S i=false)→afterC s done=setU s L S →
  (∀(k:Nat) c,cs[k]? = some c→(schedE n (bothM before after) (chgM (afterC s (done++cs.take k)) c).1).2=0∧keepB n before after (chgM (afterC s (done++cs.take k)) c).1=true)→∃T,pathB L.length (canO n before after s L) S p T
 | [],S,done,cs,_,_,_,_,_=>⟨S,rfl⟩
 | i :: p,S,done,[],ht,_,_,_,_=>ht.elim
 | i :: p,S,done,c :: cs,⟨⟨x,hx,h1,h2⟩,ht⟩,hn,hb,hd,hk=>by
  obtain⟨n1,n2⟩:=List.nodup_cons.1 hn
  obtain⟨b1,b2⟩:=hb i (List.mem_cons_self ..)
  obtain⟨u1,u2⟩:=setU_step h hx b2
  have hcx:∀u,chgM u c=chgM u x:=fun u=>chgM_same h1 h2
  have k0:=hk 0 c rfl
  rw[List.take_zero,List.append_nil,hd,hcx,u2]at k0
  have hd2:afterC s (done++[c])=setU s L (S ||| 2 ^ i):=by
   have:afterC s (done++[c])=(chgM (afterC s done) c).1:=by unfold afterC;rw[List.foldl_append];rfl
   rw[this,hd,hcx,u2]
  obtain⟨T,hT⟩:=path_of h (S:=S ||| 2 ^ i) (done:=done++[c]) ht n2 (fun j hj=>by
   obtain⟨c1,c2⟩:=hb j (List.mem_cons_of_mem _ hj)
   refine⟨c1,?_⟩
   rw[or_bit,c2,decide_eq_false (by rintro rfl;exact n1 hj)];rfl) hd2 fun k c' hk'=>by
    have:=hk (k+1) c' hk'
    rw[List.take_succ_cons,List.append_cons]at this
    exact this
  exact⟨T,b1,b2,by unfold canO;rw[k0.1,k0.2];rfl,hT⟩
theorem bits_full {m T:Nat}(hT:T < 2 ^ m)(h:unM m T=0):T=2 ^ m-1:=by
 refine Nat.eq_of_testBit_eq fun i=>?_
 rw[Nat.testBit_two_pow_sub_one]
 by_cases hi:i < m
 ·rw[decide_eq_true hi]
  have:=List.countP_eq_zero.1 h i (List.mem_range.2 hi)
  unfold bitB at this
  simpa using this
 ·rw[decide_eq_false hi]
  exact Nat.testBit_lt_two_pow (Nat.lt_of_lt_of_le hT (Nat.pow_le_pow_right (by omega) (by omega)))
theorem path_lt {m:Nat}{can:Nat→Bool}:∀{p:List Nat} {S T:Nat},S < 2 ^ m→pathB m can S p T→T < 2 ^ m
 | [],S,T,hS,h=>by cases h;exact hS
 | i :: p,S,T,hS,⟨a,_,_,d⟩=>path_lt (or_lt hS a) d
theorem shortest_order (hck:CkOk n before after s l)(hl:(stepsL s (afterC s l)).length=l.length)(hoff:(afterC s l).offs=s.offs)(hroom:s.cells.length+l.length≤512):∃p,pathB (stepsL s (afterC s l)).length (canO n before after s (stepsL s (afterC s l))) 0 p (2 ^ (stepsL s (afterC s l)).length-1):=by
 have hs:=(wholeC_ok hck.whole).vok.form
 have ht:formB (afterC s l)=true:=by
  have:=(schedE_ok (hck.valid l.length)).form
  rwa [List.take_length]at this
 have hlen:(afterC s l).len=s.len:=by
  have key:∀{l:List Chg} {u:Sched},fineL u l→(afterC u l).len=u.len:=by
   intro l
   induction l with
   | nil=>intro u _;rfl
   | cons x l ih=>
    intro u h
    obtain⟨h1,h2⟩:=fineL_cons h
    have e:(chgM u x).1.len=u.len:=by
     unfold chgM at h1 ⊢
     split at h1
     ·rename_i hc
      rw[if_pos hc,(addM_ok (t:=(addM u x.cell).1) (by rw[←h1])).2.2.2.2]
     ·rename_i hc
      rw[if_neg hc]
      unfold remM at h1 ⊢
      split at h1
      ·cases h1
      split at h1
      ·cases h1
      rename_i a1 a2
      rw[if_neg a1,if_neg a2]
    rw[←e];exact ih h2
  exact key hck.fine
 obtain⟨L,hL⟩:∃L,L=stepsL s (afterC s l):=⟨_,rfl⟩
 have hfine:=hck.fine
 have hocc:∀x∈L,∃y∈l,y.add=x.add∧y.cell=x.cell:=fun x hx=>steps_occur hfine (by rw[←hL];exact hx)
 have hok:StpOk s L:=by rw[hL];exact stepsL_ok hs ht hlen hoff (by rw[hl];exact hroom)
 have hnd:(L.map Chg.cell).Nodup:=by rw[hL];exact stepsL_nodup hs ht
 rw[←hL]at hl ⊢
 have hperm:(l.map Chg.cell).Perm (L.map Chg.cell):=nodup_same hnd (fun c hc=>by
  obtain⟨x,hx,rfl⟩:=List.mem_map.1 hc
  obtain⟨y,hy,_,e⟩:=hocc x hx
  exact List.mem_map.2 ⟨y,hy,e⟩) (by rw[List.length_map,List.length_map,hl])
 have hnl:(l.map Chg.cell).Nodup:=hperm.nodup_iff.2 hnd
 have hst:∀c∈l,∃(i:Nat) (x:Chg),L[i]? = some x∧c.add=x.add∧c.cell=x.cell:=fun c hc=>by
  obtain⟨x,hx,e⟩:=List.mem_map.1 ((hperm.mem_iff).1 (List.mem_map.2 ⟨c,hc,rfl⟩))
  obtain⟨i,hi⟩:=List.getElem?_of_mem hx
  obtain⟨y,hy,y1,y2⟩:=hocc x hx
  have hyc:y=c:=by
   obtain⟨j,hj,rfl⟩:=List.mem_iff_getElem.1 hy
   obtain⟨k,hk,rfl⟩:=List.mem_iff_getElem.1 hc
   have hpi:=List.pairwise_iff_getElem.1 hnl
   have he:l[j].cell=l[k].cell:=y2.trans e
   rcases Nat.lt_trichotomy j k with h|h|h
   ·have:=hpi j k (by rw[List.length_map];exact hj) (by rw[List.length_map];exact hk) h
    rw[List.getElem_map,List.getElem_map]at this
    exact absurd he this
   ·subst h;rfl
   ·have:=hpi k j (by rw[List.length_map];exact hk) (by rw[List.length_map];exact hj) h
    rw[List.getElem_map,List.getElem_map]at this
    exact absurd he.symm this
  subst hyc
  exact⟨i,x,hi,y1,e.symm⟩
 obtain⟨p,hp,hpn⟩:∃p:List Nat,takesP L p l∧(∀i∈p,∃(c:Chg) (x:Chg),c∈l∧L[i]? = some x∧c.cell=x.cell)∧p.Nodup:=by
  clear hperm hl hocc hfine hlen ht hoff hroom hck hL
  induction l with
  | nil=>exact⟨[],trivial,fun i hi=>by(cases hi),List.nodup_nil⟩
  | cons c cs ih=>
   rw[List.map_cons]at hnl
   obtain⟨n1,n2⟩:=List.nodup_cons.1 hnl
   obtain⟨p,h1,h2,h3⟩:=ih n2 (fun d hd=>hst d (List.mem_cons_of_mem _ hd))
   obtain⟨i,x,hx,e1,e2⟩:=hst c (List.mem_cons_self ..)
   refine⟨i :: p,⟨⟨x,hx,e1,e2⟩,h1⟩,fun j hj=>?_,List.nodup_cons.2 ⟨fun hi=>?_,h3⟩⟩
   ·rcases List.mem_cons.1 hj with rfl|hj
    ·exact⟨c,x,List.mem_cons_self ..,hx,e2⟩
    ·obtain⟨d,y,d1,d2,d3⟩:=h2 j hj
     exact⟨d,y,List.mem_cons_of_mem _ d1,d2,d3⟩
   ·obtain⟨d,y,d1,d2,d3⟩:=h2 i hi
    rw[hx]at d2;cases d2
    exact n1 (List.mem_map.2 ⟨d,d1,d3.trans e2.symm⟩)
 obtain⟨T,hT⟩:=path_of (n:=n) (before:=before) (after:=after) hok (S:=0) (done:=[]) hp hpn.2 (fun i hi=>by
  obtain⟨c,x,_,hx,_⟩:=hpn.1 i hi
  exact⟨(List.getElem?_eq_some_iff.1 hx).1,by unfold bitB;simp⟩) (setU_zero hok).symm fun k c hk=>by
   rw[List.nil_append]
   have:=step_zero.1 (hck.step k c hk)
   exact⟨this.2.2.2.1,this.2.2.2.2⟩
 have hlt:=path_lt (Nat.pos_of_ne_zero (by simp)) hT
 have hpl:=path_len hT
 rw[un_zero]at hpl
 have:=takes_len hp
 have hfull:=bits_full hlt (by omega)
 rw[hfull]at hT
 exact⟨p,hT⟩
end
theorem flatMap_same {α β:Type}{f g:α→List β}:∀{l:List α},(∀a∈l,f a=g a)→l.flatMap f=l.flatMap g
 | [],_=>rfl
 | a :: l,h=>by rw[List.flatMap_cons,List.flatMap_cons,h a (List.mem_cons_self ..),flatMap_same fun b hb=>h b (List.mem_cons_of_mem _ hb)]
section
variable {m:Nat} {can:Nat→Bool}
theorem comp_fuel:∀{f S:Nat},unM m S≤f→compM m can f S=compM m can (unM m S) S
 | 0,S,h=>by rw[show unM m S=0 by omega]
 | f+1,S,h=>by
  by_cases hS:S=2 ^ m-1
  ·subst hS
   rw[un_full]
   unfold compM
   rw[if_pos rfl,if_pos rfl]
  ·cases hu:unM m S with
   | zero=>
    have hn:nextM m can S=[]:=List.eq_nil_iff_forall_not_mem.2 fun i hi=>by
     obtain⟨a,b,_⟩:=nextM_mem.1 hi
     have:=un_step a b
     omega
    unfold compM
    rw[if_neg hS,if_neg hS,hn];rfl
   | succ u=>
    rw[compM,compM,if_neg hS,if_neg hS]
    refine flatMap_same fun i hi=>?_
    obtain⟨a,b,_⟩:=nextM_mem.1 hi
    have hs:=un_step a b
    rw[comp_fuel (f:=f) (S:=S ||| 2 ^ i) (by omega),show unM m (S ||| 2 ^ i)=u by omega]
def cmpO (m:Nat)(can:Nat→Bool)(S:Nat):List (List Nat):=compM m can m S
theorem cmpO_full:cmpO m can (2 ^ m-1)=[[]]:=by
 unfold cmpO
 cases m with
 | zero=>unfold compM;rw[if_pos rfl]
 | succ m=>unfold compM;rw[if_pos rfl]
theorem cmpO_step {S:Nat}(hS:S≠2 ^ m-1):cmpO m can S=(nextM m can S).flatMap fun i=>(cmpO m can (S ||| 2 ^ i)).map (i :: ·):=by
 unfold cmpO
 rw[comp_fuel (un_le m S)]
 cases hu:unM m S with
 | zero=>
  have hn:nextM m can S=[]:=List.eq_nil_iff_forall_not_mem.2 fun i hi=>by
   obtain⟨a,b,_⟩:=nextM_mem.1 hi
   have:=un_step a b
   omega
  unfold compM
  rw[if_neg hS,hn];rfl
 | succ u=>
  rw[compM,if_neg hS]
  refine flatMap_same fun i hi=>?_
  obtain⟨a,b,_⟩:=nextM_mem.1 hi
  have hs:=un_step a b
  rw[comp_fuel (f:=m) (S:=S ||| 2 ^ i) (un_le m _),show unM m (S ||| 2 ^ i)=u by omega]
theorem cmpO_mem {S:Nat}{p:List Nat}:p∈cmpO m can S↔pathB m can S p (2 ^ m-1):=by
 unfold cmpO
 rw[comp_mem]
 exact⟨fun h=>h.1,fun h=>⟨h,path_short h⟩⟩
def cntO (m:Nat)(can:Nat→Bool)(S:Nat):Nat:=(cmpO m can S).length
theorem cntO_step {S:Nat}(hS:S≠2 ^ m-1):cntO m can S=((nextM m can S).map fun i=>cntO m can (S ||| 2 ^ i)).sum:=by
 unfold cntO
 rw[cmpO_step hS,List.length_flatMap]
 congr 1
 refine List.map_congr_left fun i _=>?_
 rw[List.length_map]
theorem cntO_pos {S:Nat}:0 < cntO m can S↔∃p,pathB m can S p (2 ^ m-1):=by
 unfold cntO
 rw[List.length_pos_iff_exists_mem]
 exact⟨fun⟨p,h⟩=>⟨p,cmpO_mem.1 h⟩,fun⟨p,h⟩=>⟨p,cmpO_mem.2 h⟩⟩
def fstO (m:Nat)(can:Nat→Bool)(S:Nat):List Nat:=(cmpO m can S).headD []
theorem fstO_mem {S:Nat}(h:0 < cntO m can S):pathB m can S (fstO m can S) (2 ^ m-1):=by
 unfold cntO at h
 refine cmpO_mem.1 ?_
 unfold fstO
 cases hc:cmpO m can S with
 | nil=>rw[hc]at h;simp at h
 | cons a l=>exact List.mem_cons_self ..
theorem flat_head {α β:Type}(d:β)(g:α→List β):∀(l:List α) (i:Nat) (x:α),l[i]? = some x→g x≠[]→(∀j y,j < i→l[j]? = some y→g y=[])→(l.flatMap g).headD d=(g x).headD d
 | [],i,x,h,_,_=>by simp at h
 | a :: l,0,x,h,hg,_=>by
  cases h
  rw[List.flatMap_cons]
  cases hx:g a with
  | nil=>exact absurd hx hg
  | cons b bs=>rfl
 | a :: l,i+1,x,h,hg,hj=>by
  rw[List.flatMap_cons,hj 0 a (by omega) rfl,List.nil_append]
  exact flat_head d g l i x h hg fun j y hji hy=>hj (j+1) y (by omega) hy
theorem fstO_step {S:Nat}(hS:S≠2 ^ m-1){k i:Nat}(hk:(nextM m can S)[k]? = some i)(hc:0 < cntO m can (S ||| 2 ^ i))(hb:∀j y,j < k→(nextM m can S)[j]? = some y→cntO m can (S ||| 2 ^ y)=0):fstO m can S=i :: fstO m can (S ||| 2 ^ i):=by
 have hz:∀y,cntO m can (S ||| 2 ^ y)=0→(cmpO m can (S ||| 2 ^ y)).map (y :: ·)=[]:=fun y h=>by
  unfold cntO at h
  rw[List.length_eq_zero_iff.1 h];rfl
 have hne:(cmpO m can (S ||| 2 ^ i)).map (i :: ·)≠[]:=by
  unfold cntO at hc
  intro e
  rw[List.map_eq_nil_iff]at e
  rw[e]at hc;simp at hc
 unfold fstO
 rw[cmpO_step hS,flat_head [] (fun i=>(cmpO m can (S ||| 2 ^ i)).map (i :: ·)) _ k i hk hne fun j y hj hy=>hz y (hb j y hj hy)]
 cases hx:cmpO m can (S ||| 2 ^ i) with
 | nil=>rw[hx]at hne;simp at hne
 | cons a l=>rfl
theorem fstO_full:fstO m can (2 ^ m-1)=[]:=by unfold fstO;rw[cmpO_full];rfl
def tabO (m:Nat)(can:Nat→Bool)(T:Nat):Nat:=(begM m can m T).length
theorem tabO_pos {T:Nat}:0 < tabO m can T↔∃p,pathB m can 0 p T:=by
 unfold tabO
 rw[List.length_pos_iff_exists_mem]
 exact⟨fun⟨p,h⟩=>⟨p,(beg_mem.1 h).1⟩,fun⟨p,h⟩=>⟨p,beg_mem.2 ⟨h,path_short h⟩⟩⟩
def reachO (m:Nat)(can:Nat→Bool):List Nat:=(List.range (2 ^ m)).filter fun T=>decide (0 < tabO m can T)
theorem reachO_mem {T:Nat}:T∈reachO m can↔∃p,pathB m can 0 p T:=by
 unfold reachO
 rw[List.mem_filter,List.mem_range,decide_eq_true_eq,tabO_pos]
 exact⟨fun h=>h.2,fun⟨p,h⟩=>⟨path_lt (Nat.pos_of_ne_zero (by simp)) h,p,h⟩⟩
theorem reachO_sorted:(reachO m can).Pairwise (· < ·):=by
 unfold reachO
 exact List.pairwise_lt_range.filter _
def closedO (m:Nat)(can:Nat→Bool)(l:List Int):Prop:=l.Pairwise (· < ·)∧(∀x∈l,0≤x∧x < 2 ^ m-1)∧(0:Int)∈l∧∀x∈l,∀i∈nextM m can x.toNat,((x.toNat ||| 2 ^ i:Nat):Int)∈l
theorem closed_path {l:List Int}(h:closedO m can l):∀{p:List Nat} {S T:Nat},(S:Int)∈l→pathB m can S p T→(T:Int)∈l
 | [],S,T,hS,hp=>by cases hp;exact hS
 | i :: p,S,T,hS,⟨a,b,c,d⟩=>closed_path h (h.2.2.2 S hS i (nextM_mem.2 ⟨a,by simpa using b,by simpa using c⟩)) (by simpa using d)
theorem closed_none {l:List Int}(h:closedO m can l)(hc:0 < cntO m can 0):False:=by
 obtain⟨p,hp⟩:=cntO_pos.1 hc
 have:=h.2.1 _ (closed_path h (S:=0) h.2.2.1 hp)
 have h1:0 < 2 ^ m:=Nat.pos_of_ne_zero (by simp)
 have h2:((2 ^ m-1:Nat):Int)=2 ^ m-1:=by rw[Int.natCast_sub (by omega)];simp
 omega
theorem reach_closed (hc:cntO m can 0=0):closedO m can ((reachO m can).map fun T:Nat=>(T:Int)):=by
 have hlt:∀T∈reachO m can,T < 2 ^ m∧T≠2 ^ m-1:=fun T hT=>by
  obtain⟨p,hp⟩:=reachO_mem.1 hT
  refine⟨path_lt (Nat.pos_of_ne_zero (by simp)) hp,fun e=>?_⟩
  subst e
  have:=cntO_pos.2 ⟨p,hp⟩
  omega
 refine⟨?_,fun x hx=>?_,?_,fun x hx i hi=>?_⟩
 ·rw[List.pairwise_map]
  exact reachO_sorted.imp fun h=>by omega
 ·obtain⟨T,hT,rfl⟩:=List.mem_map.1 hx
  obtain⟨h1,h2⟩:=hlt T hT
  have h3:((2 ^ m:Nat):Int)=2 ^ m:=by simp
  omega
 ·exact List.mem_map.2 ⟨0,reachO_mem.2 ⟨[],rfl⟩,rfl⟩
 ·obtain⟨T,hT,rfl⟩:=List.mem_map.1 hx
  obtain⟨p,hp⟩:=reachO_mem.1 hT
  obtain⟨a,b,c⟩:=nextM_mem.1 hi
  exact List.mem_map.2 ⟨_,reachO_mem.2 ⟨p++[i],path_app m can hp ⟨a,by simpa using b,by simpa using c,rfl⟩⟩,by simp⟩
theorem path_sets:∀{p:List Nat} {S T:Nat},pathB m can S p T→∃l:List Nat,l.length=p.length+1∧(l.map (unM m)).Pairwise (· > ·)∧(∀x∈l,unM m x≤unM m S)∧∀x∈l,∃q,pathB m can S q x
 | [],S,T,h=>⟨[S],rfl,by simp,fun x hx=>by rw[List.mem_singleton.1 hx];exact Nat.le_refl _,fun x hx=>by rw[List.mem_singleton.1 hx];exact⟨[],rfl⟩⟩
 | i :: p,S,T,⟨a,b,c,d⟩=>by
  obtain⟨l,h1,h2,h3,h4⟩:=path_sets d
  have hs:=un_step a b
  refine⟨S :: l,by rw[List.length_cons,List.length_cons,h1],?_,fun x hx=>?_,fun x hx=>?_⟩
  ·rw[List.map_cons,List.pairwise_cons]
   refine⟨fun u hu=>?_,h2⟩
   obtain⟨x,hx,rfl⟩:=List.mem_map.1 hu
   have:=h3 x hx
   omega
  ·rcases List.mem_cons.1 hx with rfl|hx
   ·exact Nat.le_refl _
   ·have:=h3 x hx;omega
  ·rcases List.mem_cons.1 hx with rfl|hx
   ·exact⟨[],rfl⟩
   ·obtain⟨q,hq⟩:=h4 x hx
    exact⟨i :: q,a,b,c,hq⟩
theorem reach_many (hc:0 < cntO m can 0):m < (reachO m can).length∧(reachO m can).getLast? = some (2 ^ m-1):=by
 obtain⟨p,hp⟩:=cntO_pos.1 hc
 have hlen:=path_len hp
 rw[un_zero,un_full]at hlen
 obtain⟨l,h1,h2,_,h4⟩:=path_sets hp
 have hnd:l.Nodup:=by
  rw[List.pairwise_map]at h2
  exact h2.imp fun h e=>by subst e;omega
 have hsub:=nodup_sub (b:=reachO m can) hnd fun x hx=>reachO_mem.2 (h4 x hx)
 refine⟨by omega,?_⟩
 have hf:2 ^ m-1∈reachO m can:=reachO_mem.2 ⟨p,hp⟩
 cases hg:(reachO m can).getLast? with
 | none=>rw[List.getLast?_eq_none_iff]at hg;rw[hg]at hf;cases hf
 | some e=>
  have he:=List.mem_of_getLast? hg
  obtain⟨q,hq⟩:=reachO_mem.1 he
  have hlt:=path_lt (Nat.pos_of_ne_zero (by simp)) hq
  rcases last_most reachO_sorted hf hg with h|h
  ·rw[h]
  ·omega
end
def openO (n:Net)(before after:List Req)(s t:Sched):Int:=if wholeC n before after s≠0 then wholeC n before after s else if (stepsM s t).2≠0 then(stepsM s t).2
 else if (schedE n (bothM before after) t).2≠0∨endsB n after t=false then 18 else if 12 < (stepsL s t).length then 8 else 0
structure OpnOk (n:Net)(before after:List Req)(s t:Sched):Prop where
 whole:wholeC n before after s=0
 steps:stepsM s t=(stepsL s t,0)
 fs:formB s=true
 ft:formB t=true
 len:t.len=s.len
 offs:t.offs=s.offs
 valid:(schedE n (bothM before after) t).2=0
 ends:endsB n after t=true
 few:(stepsL s t).length≤12
theorem opn_ok {n:Net}{before after:List Req}{s t:Sched}(h:openO n before after s t=0):OpnOk n before after s t:=by
 unfold openO at h
 split at h
 ·rename_i h1;exact absurd h h1
 split at h
 ·rename_i h1;exact absurd h h1
 split at h
 ·cases h
 split at h
 ·cases h
 rename_i h1 h2 h3 h4
 obtain⟨a1,a2,a3,a4,a5⟩:=stepsM_ok (s:=s) (t:=t) (by omega)
 simp only[not_or,ne_eq,Decidable.not_not,Bool.not_eq_false]at h3
 exact⟨by omega,a5,a1,a2,a3,a4,h3.1,h3.2,by omega⟩
section
variable {n:Net} {before after:List Req} {s t:Sched}
abbrev stO (s t:Sched):Nat:=(stepsL s t).length
def cnO (n:Net)(before after:List Req)(s t:Sched):Nat→Bool:=canO n before after s (stepsL s t)
def findO (n:Net)(before after:List Req)(s t:Sched):List Chg×Int:=if openO n before after s t≠0 then([],openO n before after s t) else if cntO (stO s t) (cnO n before after s t) 0=0 then([],19) else((timeM (stayF before after) (pickL (stepsL s t) (fstO (stO s t) (cnO n before after s t) 0)) 0).1,0)
def countO (n:Net)(before after:List Req)(s t:Sched):Int×Int:=if openO n before after s t≠0 then(0,openO n before after s t) else(cntO (stO s t) (cnO n before after s t) 0,0)
def reachedO (n:Net)(before after:List Req)(s t:Sched):List Int×Int:=if openO n before after s t≠0 then([],openO n before after s t) else((reachO (stO s t) (cnO n before after s t)).map fun T:Nat=>(T:Int),0)
def clsB (m:Nat)(can:Nat→Bool)(l:List Int):Bool:=(List.range l.length).all (fun i=>decide (0≤l.getD i 0)&&(decide (l.getD i 0 < 2 ^ m-1)&&(i==0||decide (l.getD (i-1) 0 < l.getD i 0))))&&(decide ((0:Int)∈l)&&l.all fun x=>(nextM m can x.toNat).all fun i=>decide (((x.toNat ||| 2 ^ i:Nat):Int)∈l))
def closO (n:Net)(before after:List Req)(s t:Sched)(l:List Int):Int:=if openO n before after s t≠0 then openO n before after s t else if clsB (stO s t) (cnO n before after s t) l=true then 0 else 20
theorem inc_steps {l:List Int}(h:∀i,i+1 < l.length→l.getD i 0 < l.getD (i+1) 0):l.Pairwise (· < ·):=by
 have key:∀(d i:Nat),i+d+1 < l.length→l.getD i 0 < l.getD (i+d+1) 0:=by
  intro d
  induction d with
  | zero=>intro i hi;exact h i hi
  | succ d ih=>
   intro i hi
   have h1:=ih i (by omega)
   have h2:=h (i+d+1) (by omega)
   have e:i+(d+1)+1=i+d+1+1:=by omega
   rw[e];omega
 refine List.pairwise_iff_getElem.2 fun i j hi hj hij=>?_
 have:=key (j-i-1) i (by omega)
 rw[show i+(j-i-1)+1=j by omega]at this
 rw[List.getD_eq_getElem?_getD,List.getD_eq_getElem?_getD,List.getElem?_eq_getElem hi,List.getElem?_eq_getElem hj]at this
 exact this
theorem cls_iff {m:Nat}{can:Nat→Bool}{l:List Int}:clsB m can l=true↔closedO m can l:=by
 have hget:∀i (h:i < l.length),l.getD i 0=l[i]:=fun i h=>by rw[List.getD_eq_getElem?_getD,List.getElem?_eq_getElem h];rfl
 unfold clsB closedO
 simp only[Bool.and_eq_true,List.all_eq_true,List.mem_range,decide_eq_true_eq,Bool.or_eq_true,beq_iff_eq]
 constructor
 ·rintro⟨h1,h2,h3⟩
  refine⟨inc_steps fun i hi=>?_,fun x hx=>?_,h2,h3⟩
  ·rcases (h1 (i+1) hi).2.2 with h|h
   ·omega
   ·exact h
  ·obtain⟨i,hi,rfl⟩:=List.mem_iff_getElem.1 hx
   have:=h1 i hi
   rw[hget i hi]at this
   exact⟨this.1,this.2.1⟩
 ·rintro⟨h1,h2,h3,h4⟩
  refine⟨fun i hi=>?_,h3,h4⟩
  rw[hget i hi]
  have:=h2 l[i] (List.getElem_mem hi)
  refine⟨this.1,this.2,?_⟩
  cases i with
  | zero=>exact .inl rfl
  | succ j=>
   right
   rw[Nat.add_sub_cancel,hget j (by omega)]
   exact List.pairwise_iff_getElem.1 h1 j (j+1) (by omega) hi (by omega)
theorem OpnOk.stp (h:OpnOk n before after s t)(hr:s.cells.length≤500):StpOk s (stepsL s t):=stepsL_ok h.fs h.ft h.len h.offs (by have:=h.few;omega)
theorem OpnOk.full (h:OpnOk n before after s t)(hr:s.cells.length≤500):setU s (stepsL s t) (2 ^ (stepsL s t).length-1)=t:=setU_full h.fs h.ft h.len h.offs (by have:=h.few;omega)
theorem order_safe (h:openO n before after s t=0)(hr:s.cells.length≤500)(hc:0 < cntO (stO s t) (cnO n before after s t) 0) :
  ∃o,findO n before after s t=(o,0)∧CkOk n before after s o∧o.length=(stepsL s t).length∧afterC s o=t∧(∀c∈o,0≤c.slot∧c.slot≤1048576)∧∀x∈stepsL s t,∃y∈o,y.add=x.add∧y.cell=x.cell:=by
 have ho:=opn_ok h
 have hp:=fstO_mem hc
 have hf:=ho.full hr
 obtain⟨o,h1,h2,h3,h4,h5,h6⟩:=found_safe ho.whole (ho.stp hr) ho.few hp (by rw[hf];exact ho.ends)
 refine⟨o,?_,h2,h3,by rw[h4,hf],h5,h6⟩
 unfold findO
 rw[if_neg (by omega),if_neg (by omega)]
 have:(timeM (stayF before after) (pickL (stepsL s t) (fstO (stO s t) (cnO n before after s t) 0)) 0)=(o,0):=h1
 rw[this]
theorem order_yes (h:openO n before after s t=0)(hc:0 < cntO (stO s t) (cnO n before after s t) 0)(l:List Int):closO n before after s t l=20:=by
 unfold closO
 rw[if_neg (by omega),if_neg]
 intro hcl
 exact closed_none (cls_iff.1 hcl) hc
theorem order_no (h:openO n before after s t=0)(hc:cntO (stO s t) (cnO n before after s t) 0=0):closO n before after s t ((reachO (stO s t) (cnO n before after s t)).map fun T:Nat=>(T:Int))=0:=by
 unfold closO
 rw[if_neg (by omega),if_pos (cls_iff.2 (reach_closed hc))]
theorem offs_fine:∀{l:List Chg} {u:Sched},fineL u l→(afterC u l).offs=u.offs∧(afterC u l).len=u.len:=by
 intro l
 induction l with
 | nil=>intro u _;exact⟨rfl,rfl⟩
 | cons x l ih=>
  intro u h
  obtain⟨h1,h2⟩:=fineL_cons h
  have e:(chgM u x).1.offs=u.offs∧(chgM u x).1.len=u.len:=by
   unfold chgM at h1 ⊢
   split at h1
   ·rename_i hc
    rw[if_pos hc,(addM_ok (t:=(addM u x.cell).1) (by rw[←h1])).2.2.2.2];exact⟨rfl,rfl⟩
   ·rename_i hc
    rw[if_neg hc]
    unfold remM at h1 ⊢
    split at h1
    ·cases h1
    split at h1
    ·cases h1
    rename_i a1 a2
    rw[if_neg a1,if_neg a2];exact⟨rfl,rfl⟩
  have:=ih h2
  exact⟨this.1.trans e.1,this.2.trans e.2⟩
theorem order_short {l:List Chg}(hck:CkOk n before after s l)(hr:s.cells.length+l.length≤500):stepsM s (afterC s l)=(stepsL s (afterC s l),0)∧(stepsL s (afterC s l)).length≤l.length∧((stepsL s (afterC s l)).length=l.length→l.length≤12→openO n before after s (afterC s l)=0∧0 < cntO (stO s (afterC s l)) (cnO n before after s (afterC s l)) 0):=by
 have hs:=(wholeC_ok hck.whole).vok.form
 have hv:(schedE n (bothM before after) (afterC s l)).2=0:=by
  have:=hck.valid l.length
  rwa [List.take_length]at this
 have ht:=(schedE_ok hv).form
 obtain⟨ho,hl⟩:=offs_fine hck.fine
 have hst:stepsM s (afterC s l)=(stepsL s (afterC s l),0):=by
  unfold stepsM
  rw[if_neg (by rw[hs,ht];simp),if_neg (by rw[ho,hl];simp)]
 refine⟨hst,steps_fewest hck.fine hs ht,fun he h12=>⟨?_,?_⟩⟩
 ·unfold openO
  rw[if_neg (by rw[hck.whole];decide),if_neg (by rw[hst];exact fun h=>h rfl),if_neg (by rw[hv,hck.ends];simp),if_neg (by omega)]
 ·exact cntO_pos.2 (shortest_order hck he ho (by omega))
end
def remC (s:Sched)(L:List Chg)(S:Nat):Nat→Sched
 | 0=>s
 | k+1=>match L[k]? with
  | some x=>if (bitB S k&&!x.add)=true then(chgM (remC s L S k) x).1 else remC s L S k
  | none=>remC s L S k
def addC (s:Sched)(L:List Chg)(S:Nat):Nat→Sched
 | 0=>remC s L S L.length
 | k+1=>match L[k]? with
  | some x=>if (bitB S k&&x.add)=true then(chgM (addC s L S k) x).1 else addC s L S k
  | none=>addC s L S k
def addAt (L:List Chg)(j:Nat):Bool:=match L[j]? with
 | some x=>x.add
 | none=>false
section
variable {s:Sched} {L:List Chg}
theorem remC_ok (h:StpOk s L)(S:Nat):∀k,SetP s L (fun j=>bitB S j&&(!addAt L j&&decide (j < k))) (remC s L S k)
 | 0=>(SetP.zero h).congr fun i _=>by simp
 | k+1=>by
  have ih:=remC_ok h S k
  unfold remC
  cases hx:L[k]? with
  | none=>
   refine ih.congr fun i hi=>?_
   have:¬k < L.length:=fun hk=>by rw[List.getElem?_eq_getElem hk]at hx;cases hx
   rw[decide_eq_true (show i < k by omega),decide_eq_true (show i < k+1 by omega)]
  | some x=>
   have hat:addAt L k=x.add:=by unfold addAt;rw[hx]
   simp only
   by_cases hb:(bitB S k&&!x.add)=true
   ·rw[if_pos hb]
    refine(ih.step h hx (by simp)).2.congr fun i _=>?_
    by_cases e:i=k
    ·subst e
     simp only[Bool.and_eq_true]at hb
     simp[hat,hb.1]
     simpa using hb.2
    ·rw[decide_eq_false e,Bool.or_false]
     congr 2
     exact decide_eq_decide.2 (by omega)
   ·rw[if_neg hb]
    refine ih.congr fun i _=>?_
    by_cases e:i=k
    ·subst e
     rw[hat]
     cases hb1:bitB S i with
     | false=>rfl
     | true=>cases hb2:x.add with
      | false=>rw[hb1,hb2]at hb;simp at hb
      | true=>rfl
    ·congr 2
     exact decide_eq_decide.2 (by omega)
theorem addC_ok (h:StpOk s L)(S:Nat):∀k,SetP s L (fun j=>bitB S j&&(!addAt L j||decide (j < k))) (addC s L S k)
 | 0=>(remC_ok h S L.length).congr fun i hi=>by rw[decide_eq_true hi];simp
 | k+1=>by
  have ih:=addC_ok h S k
  unfold addC
  cases hx:L[k]? with
  | none=>
   refine ih.congr fun i hi=>?_
   have:¬k < L.length:=fun hk=>by rw[List.getElem?_eq_getElem hk]at hx;cases hx
   rw[decide_eq_true (show i < k by omega),decide_eq_true (show i < k+1 by omega)]
  | some x=>
   have hat:addAt L k=x.add:=by unfold addAt;rw[hx]
   simp only
   by_cases hb:(bitB S k&&x.add)=true
   ·rw[if_pos hb]
    simp only[Bool.and_eq_true]at hb
    refine(ih.step h hx (by rw[hat,hb.2];simp)).2.congr fun i _=>?_
    by_cases e:i=k
    ·subst e;simp[hb.1]
    ·rw[decide_eq_false e,Bool.or_false]
     congr 2
     exact decide_eq_decide.2 (by omega)
   ·rw[if_neg hb]
    refine ih.congr fun i _=>?_
    by_cases e:i=k
    ·subst e
     rw[hat]
     cases hb1:bitB S i with
     | false=>rfl
     | true=>cases hb2:x.add with
      | false=>rfl
      | true=>rw[hb1,hb2]at hb;simp at hb
    ·congr 2
     exact decide_eq_decide.2 (by omega)
theorem addC_all (h:StpOk s L)(S:Nat):addC s L S L.length=setU s L S:=((addC_ok h S L.length).congr fun i hi=>by rw[decide_eq_true hi];simp).uniq (setU_ok h S)
theorem remC_step (h:StpOk s L){S k:Nat}{x:Chg}(hx:L[k]? = some x)(hb:(bitB S k&&!x.add)=true):(remM (remC s L S k) x.cell).2=0∧(remM (remC s L S k) x.cell).1=remC s L S (k+1)∧remC s L S (k+1)=⟨(remC s L S k).len,(remC s L S k).offs,(remC s L S k).cells.filter fun y=>decide (y≠x.cell)⟩:=by
 have hu:=remC_ok h S k
 have ha:x.add=false:=by simp only[Bool.and_eq_true]at hb;simpa using hb.2
 obtain⟨h1,_⟩:=hu.step h hx (by simp)
 have hch:chgM (remC s L S k) x=remM (remC s L S k) x.cell:=by unfold chgM;rw[if_neg (by rw[ha];decide)]
 have hnx:remC s L S (k+1)=(chgM (remC s L S k) x).1:=by rw[remC,hx];simp only;rw[if_pos hb]
 rw[hch]at h1 hnx
 refine⟨h1,hnx.symm,?_⟩
 rw[hnx]
 have hform:=hu.form h
 have hhas:hasC (remC s L S k) x.cell=true:=by
  unfold remM at h1
  split at h1
  ·cases h1
  split at h1
  ·cases h1
  ·rename_i h2;simpa using h2
 unfold remM
 rw[if_neg (by rw[hform];decide),if_neg (by rw[hhas];decide),remM_filter hform hhas]
 rfl
theorem addC_step (h:StpOk s L){S k:Nat}{x:Chg}(hx:L[k]? = some x)(hb:(bitB S k&&x.add)=true):(addM (addC s L S k) x.cell).2=0∧(addM (addC s L S k) x.cell).1=addC s L S (k+1)∧addC s L S (k+1)=⟨(addC s L S k).len,(addC s L S k).offs,withL x.cell (addC s L S k).cells⟩:=by
 have hu:=addC_ok h S k
 have ha:x.add=true:=by simp only[Bool.and_eq_true]at hb;exact hb.2
 have hat:addAt L k=x.add:=by unfold addAt;rw[hx]
 obtain⟨h1,_⟩:=hu.step h hx (by rw[hat,ha];simp)
 have hch:chgM (addC s L S k) x=addM (addC s L S k) x.cell:=by unfold chgM;rw[if_pos ha]
 have hnx:addC s L S (k+1)=(chgM (addC s L S k) x).1:=by rw[addC,hx];simp only;rw[if_pos hb]
 rw[hch]at h1 hnx
 refine⟨h1,hnx.symm,?_⟩
 rw[hnx]
 obtain⟨_,_,h4,_,h6⟩:=addM_ok (t:=(addM (addC s L S k) x.cell).1) (by rw[←h1])
 rw[h6,addM_with (hu.form h) h4]
theorem remC_skip {S k:Nat}{x:Chg}(hx:L[k]? = some x)(hb:(bitB S k&&!x.add)=false):remC s L S (k+1)=remC s L S k:=by rw[remC,hx];simp only;rw[if_neg (by rw[hb];decide)]
theorem addC_skip {S k:Nat}{x:Chg}(hx:L[k]? = some x)(hb:(bitB S k&&x.add)=false):addC s L S (k+1)=addC s L S k:=by rw[addC,hx];simp only;rw[if_neg (by rw[hb];decide)]
theorem SetP.cells_le {u:Sched}{b:Nat→Bool}(hu:SetP s L b u):u.cells.length≤s.cells.length+L.length:=by have:=hu.few;omega
end
def n43:Net:=⟨4,[[9,9,9,9],[9,9,9,9],[9,9,9,9],[9,9,9,9]],1,1000,[⟨0,1,0⟩,⟨0,3,0⟩,⟨1,0,0⟩,⟨1,2,0⟩,⟨2,1,0⟩,⟨2,3,0⟩,⟨3,0,0⟩,⟨3,2,0⟩],[9,9,9,9,9,9,9,9]⟩
def f43:Flow:=⟨1,0,2,6,0,4⟩
def qb43:List Req:=[⟨f43,[[0,1,2]]⟩]
def qa43:List Req:=[⟨f43,[[0,3,2]]⟩]
def s43:Sched:=⟨6,2,[⟨0,0,0,1,1⟩,⟨2,0,1,2,1⟩]⟩
def t43:Sched:=⟨6,2,[⟨1,0,0,3,1⟩,⟨3,0,3,2,1⟩]⟩
theorem e_find43:findO n43 qb43 qa43 s43 t43=([⟨0,true,⟨1,0,0,3,1⟩⟩,⟨0,true,⟨3,0,3,2,1⟩⟩,⟨6,false,⟨0,0,0,1,1⟩⟩,⟨6,false,⟨2,0,1,2,1⟩⟩],0):=by decide +kernel
theorem e_count43:countO n43 qb43 qa43 s43 t43=(4,0):=by decide +kernel
theorem e_reach43:reachedO n43 qb43 qa43 s43 t43=([0,1,2,3,7,11,15],0):=by decide +kernel
theorem e_clos43:closO n43 qb43 qa43 s43 t43 [0,1,2,3,7,11,15] = 20:=by decide +kernel
open Go.Proofs
theorem VRs.ints {G:Gh}{fr:Frs}{w:World}:∀{ds:List Int} {vs:List Value},VRs G fr w (ds.map encI) vs→vs=ds.map (Value.int .i64)
 | [],vs,h=>h
 | d :: ds,vs,h=>by
  obtain⟨u,us,rfl,h1,h2⟩:=h
  have h1:u=.int .i64 d:=h1
  rw[h1,VRs.ints h2]
  rfl
theorem VRs.intsOf {G:Gh}{fr:Frs}{w:World}:∀ds:List Int,VRs G fr w (ds.map encI) (ds.map (Value.int .i64))
 | []=>rfl
 | _d :: ds=>⟨_,_,rfl,rfl,VRs.intsOf ds⟩
theorem ICall.sortI {P:Program}{L:World→Prop}{f:FuncId}
  (hsort:∀(blk off cap:Nat) (zs:List Int) (w:World),Sort.Holds (Value.int .i64) w blk off zs.toArray→blk < w.heap.size→zs.length < 4611686018427387904→Calls P f #[.slice (some ⟨blk,off,none⟩) zs.length cap] w fun e w'=>e=.returned (.tuple #[])∧∃n os,w'=Sort.grow (Sort.putRow (Value.int .i64) (Sort.ahead w n) blk off (zs.mergeSort fun x y=>decide (x≤y)).toArray) os)
  {S:St} {id:Nat} {ex:List AV} {ds:List Int} {ty:TypeId} (hb:S.bx[id]? = some (.cells (ds.map encI++ex) ty)) (hl:ds.length < 4611686018427387904) {n:Nat} (hn:n=ds.length) (h0:n≠0) {K:AV→St→Prop}
  (hK:K (.tup []) (S.setB id (.cells ((ds.mergeSort fun x y=>decide (x≤y)).map encI++ex) ty))):ICall P L f [.vsl id 0 n 1] S K:=by
 intro w0 G w hS vals hv
 obtain⟨u,us,rfl,hu,hus⟩:=hv
 have hus:us=[]:=hus
 subst hus
 obtain⟨b,A,c,arr,tt,hr,hheap,rfl,hc,hcap,hA⟩:=hu
 obtain⟨b',ob,hr',hheap',arr',rfl,hasz,hvs⟩:=hS.bx id _ hb rfl
 rw[hr]at hr';injection hr' with hr';subst hr'
 rw[hheap]at hheap';injection hheap' with hheap';injection hheap' with e1 e2
 subst e1;subst e2
 have hblt:=(Array.getElem?_eq_some_iff.1 hheap).1
 rw[List.take_of_length_le (by rw[Array.length_toList,hasz];exact Nat.le_refl _)]at hvs
 obtain⟨v2,v3,harr,h2,h3⟩:=VRs.split hvs
 have hv2:=VRs.ints h2
 subst hv2
 have hA':=hA (by omega)
 subst hA'
 subst hn
 have hcell:∀j,j < ds.length→arr[0+j]? = (ds.map (Value.int .i64))[j]?:=by
  intro j hj
  rw[←Array.getElem?_toList,harr,Nat.zero_add,List.getElem?_append_left (by rw[List.length_map];exact hj)]
 have hH:Sort.Holds (Value.int .i64) w b 0 ds.toArray:=by
  intro j hj
  have hj':j < ds.length:=by simpa using hj
  refine⟨?_,by simp[World.frozen?,hheap]⟩
  have:=hcell j hj'
  rw[List.getElem?_map,List.getElem?_eq_getElem hj']at this
  rw[getElem!_pos _ j hj]
  simp only[World.cell?,hheap]
  simpa using this
 have hcall:=hsort b 0 c ds w hH hblt hl
 refine hcall.mono fun e w' ⟨he,m,os,hw⟩=>?_
 obtain⟨ds',hds'⟩:∃ds',ds'=ds.mergeSort fun x y=>decide (x≤y):=⟨_,rfl⟩
 rw[←hds']at hw hK
 have hdl:ds'.length=ds.length:=by rw[hds'];exact List.length_mergeSort ds
 have hbd:Below w.heap.size w (Sort.ahead w m):=⟨rfl,rfl,rfl,Nat.le_refl _,fun _ _=>rfl⟩
 obtain⟨r1,r2⟩:=hS.of_below hbd G.ok (fun _ _ _=>Iff.rfl) hS.dn
 have r1:RelS w0 G S (Sort.ahead w m):=r1
 have r2:KeepD G S.fr w G S.fr (Sort.ahead w m):=r2
 have hrow:(Sort.putRow (Value.int .i64) (Sort.ahead w m) b 0 ds'.toArray).heap[b]? = some (.cells (Sort.putCells (Value.int .i64) 0 ds'.toArray arr) tt (0,0)):=by
  unfold Sort.putRow Sort.mapBlock
  show(Array.modify w.heap b _)[b]? = _
  rw[Array.getElem?_modify,if_pos rfl,hheap]
  rfl
 have hnew:(Sort.putCells (Value.int .i64) 0 ds'.toArray arr).toList=ds'.map (Value.int .i64)++v3:=by
  apply List.ext_getElem?
  intro i
  rw[Array.getElem?_toList]
  unfold Sort.putCells
  rw[Array.getElem?_mapIdx]
  have hi0:arr[i]? = (ds.map (Value.int .i64)++v3)[i]?:=by rw[←Array.getElem?_toList,harr]
  rcases Nat.lt_or_ge i ds.length with h|h
  ·rw[hi0,List.getElem?_append_left (by rw[List.length_map];exact h),List.getElem?_append_left (by rw[List.length_map,hdl];exact h)]
   rw[List.getElem?_map,List.getElem?_map,List.getElem?_eq_getElem h,List.getElem?_eq_getElem (show i < ds'.length by omega)]
   simp only[Option.map_some]
   rw[if_pos ⟨by omega,by rw[List.size_toArray];omega⟩,getElem!_pos _ (i-0) (by rw[List.size_toArray];omega)]
   simp
  ·rw[hi0,List.getElem?_append_right (by rw[List.length_map];exact h),List.getElem?_append_right (by rw[List.length_map,hdl];exact h),List.length_map,List.length_map,hdl]
   cases hv:v3[i-ds.length]? with
   | none=>rfl
   | some x=>simp only[Option.map_some];rw[if_neg (by rw[List.size_toArray];omega)]
 have hsz2:(Sort.putCells (Value.int .i64) 0 ds'.toArray arr).size=arr.size:=by unfold Sort.putCells;simp
 have hset:=r1.setBox ⟨_,hb,rfl⟩ hr (by exact hheap) (.cells (ds'.map encI++ex) tt) (.cells (Sort.putCells (Value.int .i64) 0 ds'.toArray arr) tt (0,0))
  (fun arr0 t0 h0=>by
   injection h0 with g1 g2 g3;subst g1;subst g2
   exact⟨_,rfl,hsz2⟩) (by simp) (by simp)
  (by
   refine OR.rowL ?_ _ hnew
   exact VRs.append (VRs.intsOf ds') (VRs.keep r2.toKeep _ h3))
  (Sort.putRow (Value.int .i64) (Sort.ahead w m) b 0 ds'.toArray) (by rw[Sort.size_putRow]) rfl rfl rfl hrow (fun q hq=>by
   unfold Sort.putRow Sort.mapBlock
   show(Array.modify w.heap b _)[q]? = w.heap[q]?
   rw[Array.getElem?_modify,if_neg (fun hh=>hq hh.symm)])
 obtain⟨s1,s2⟩:=hset
 obtain⟨W,hW⟩:∃W,W=Sort.putRow (Value.int .i64) (Sort.ahead w m) b 0 ds'.toArray:=⟨_,rfl⟩
 rw[←hW]at s1 s2 hw
 have hbg:Below W.heap.size W (Sort.grow W os):=⟨rfl,rfl,rfl,by simp[Sort.grow],fun q hq=>by
  show(W.heap++os)[q]? = W.heap[q]?
  rw[Array.getElem?_append_left hq]⟩
 obtain⟨t1,t2⟩:=s1.of_below hbg G.ok (fun _ _ _=>Iff.rfl) s1.dn
 subst hw
 exact⟨.tuple #[],.tup [],G,_,he,t1,(r2.trans s2).trans t2,⟨#[],rfl,rfl⟩,hK⟩
structure MemO {α:Type}(f:Nat→α)(ks:List (List Int))(vs:List α):Prop where
 len:ks.length=vs.length
 ok:∀(S:Nat) v,getK ks vs [(S:Int)] = some v→v=f S
theorem MemO.nil {α:Type}{f:Nat→α}:MemO f [] []:=⟨rfl,fun S v h=>by cases h⟩
theorem MemO.put {α:Type}{f:Nat→α}{ks:List (List Int)}{vs:List α}(h:MemO f ks vs)(S:Nat):MemO f (setKs ks [(S:Int)]) (putV ks vs [(S:Int)] (f S)) where
 len:=put_len h.len _ _
 ok:=fun T v hv=>by
  rw[get_put h.len]at hv
  split at hv
  ·rename_i e
   injection hv with hv
   simp only[List.cons.injEq,and_true,Int.natCast_inj]at e
   rw[←e];exact hv.symm
  ·exact h.ok T v hv
theorem MemO.put' {α:Type}{f:Nat→α}{ks:List (List Int)}{vs:List α}(h:MemO f ks vs){S:Nat}{v:α}(hv:v=f S):MemO f (setKs ks [(S:Int)]) (putV ks vs [(S:Int)] v):=by subst hv;exact h.put S
section
variable {m:Nat} {can:Nat→Bool}
def nxtK (can:Nat→Bool)(S k:Nat):List Nat:=(List.range k).filter fun i=>!bitB S i&&can (S ||| 2 ^ i)
theorem nxtK_all (S:Nat):nxtK can S m=nextM m can S:=rfl
theorem nxtK_no {S k:Nat}(h:(!bitB S k&&can (S ||| 2 ^ k))=false):nxtK can S (k+1)=nxtK can S k:=by
 unfold nxtK;rw[List.range_succ,List.filter_append];simp[h]
theorem nxtK_yes {S k:Nat}(h1:bitB S k=false)(h2:can (S ||| 2 ^ k)=true):nxtK can S (k+1)=nxtK can S k++[k]:=by
 unfold nxtK;rw[List.range_succ,List.filter_append];simp[h1,h2]
theorem nxtK_len (S k:Nat):(nxtK can S k).length≤k:=by
 have:=List.length_filter_le (fun i=>!bitB S i&&can (S ||| 2 ^ i)) (List.range k)
 rw[List.length_range]at this;exact this
theorem next_un (S:Nat):(nextM m can S).length≤unM m S:=by
 unfold nextM unM
 rw[List.countP_eq_length_filter]
 refine List.Sublist.length_le ?_
 rw[show(fun i=>!bitB S i&&can (S ||| 2 ^ i))=fun i=>(can (S ||| 2 ^ i))&&(!bitB S i) from funext fun i=>Bool.and_comm _ _]
 rw[←List.filter_filter]
 exact List.filter_sublist
def facO:Nat→Nat
 | 0=>1
 | k+1=>(k+1)*facO k
theorem fac_pos:∀k,1≤facO k
 | 0=>Nat.le_refl _
 | k+1=>by rw[facO];exact Nat.le_trans (fac_pos k) (Nat.le_mul_of_pos_left _ (by omega))
theorem fac_mono {a b:Nat}(h:a≤b):facO a≤facO b:=by
 obtain⟨d,rfl⟩:=Nat.exists_eq_add_of_le h
 induction d with
 | zero=>exact Nat.le_refl _
 | succ d ih=>exact Nat.le_trans (ih (by omega)) (Nat.le_mul_of_pos_left _ (by omega))
theorem sum_le {α:Type}{g:α→Nat}{b:Nat}:∀{l:List α},(∀x∈l,g x≤b)→(l.map g).sum≤l.length*b
 | [],_=>by simp
 | x :: l,h=>by
  have:=sum_le (l:=l) fun y hy=>h y (List.mem_cons_of_mem _ hy)
  have h1:=h x List.mem_cons_self
  simp only[List.map_cons,List.sum_cons,List.length_cons,Nat.add_mul,Nat.one_mul]
  omega
theorem comp_le:∀f S:Nat,(compM m can f S).length≤facO (unM m S)
 | 0,S=>by
  unfold compM
  split
  ·exact fac_pos _
  ·simp
 | f+1,S=>by
  rw[compM]
  split
  ·exact fac_pos _
  rw[List.length_flatMap]
  rcases Nat.eq_zero_or_pos (unM m S) with h0|h0
  ·have:=next_un (m:=m) (can:=can) S
   rw[List.length_eq_zero_iff.1 (by omega:(nextM m can S).length=0)];simp
  obtain⟨u,hu⟩:∃u,unM m S=u+1:=⟨unM m S-1,by omega⟩
  refine Nat.le_trans (sum_le (b:=facO u) fun i hi=>?_) ?_
  ·obtain⟨hi1,hi2,_⟩:=nextM_mem.1 hi
   have hs:=un_step hi1 hi2
   rw[List.length_map]
   have:=comp_le f (S ||| 2 ^ i)
   rw[show unM m (S ||| 2 ^ i)=u by omega]at this
   exact this
  ·rw[hu,facO]
   exact Nat.mul_le_mul_right _ (by have:=next_un (m:=m) (can:=can) S;omega)
theorem cnt_le (h:m≤12)(S:Nat):cntO m can S≤479001600:=by
 refine Nat.le_trans (comp_le m S) (Nat.le_trans (fac_mono (Nat.le_trans (un_le m S) h)) ?_)
 decide
def sumK (m:Nat)(can:Nat→Bool)(S k:Nat):Nat:=(((nextM m can S).take k).map fun i=>cntO m can (S ||| 2 ^ i)).sum
theorem sumK_succ {S k i:Nat}(h:(nextM m can S)[k]? = some i):sumK m can S (k+1)=sumK m can S k+cntO m can (S ||| 2 ^ i):=by
 unfold sumK;rw[take_succ h,List.map_append,List.sum_append];simp
theorem sumK_all {S:Nat}(hS:S≠2 ^ m-1){k:Nat}(hk:(nextM m can S).length≤k):sumK m can S k=cntO m can S:=by
 unfold sumK;rw[List.take_of_length_le hk,cntO_step hS]
theorem sumK_le {S:Nat}(hS:S≠2 ^ m-1)(k:Nat):sumK m can S k≤cntO m can S:=by
 rw[cntO_step hS]
 unfold sumK
 conv=>rhs;rw[←List.take_append_drop k (nextM m can S),List.map_append,List.sum_append]
 omega
end
section
variable {m:Nat} {can:Nat→Bool}
def anyK (m:Nat)(can:Nat→Bool)(S k:Nat):Bool:=(nxtK can S k).any fun i=>decide (0 < cntO m can (S ||| 2 ^ i))
theorem anyK_all {S:Nat}(hS:S≠2 ^ m-1):anyK m can S m=decide (0 < cntO m can S):=by
 rw[Bool.eq_iff_iff,decide_eq_true_eq,cntO_step hS]
 unfold anyK
 rw[nxtK_all,List.any_eq_true]
 constructor
 ·rintro⟨i,hi,h⟩
  have h:=of_decide_eq_true h
  obtain⟨a,b,e⟩:=List.append_of_mem hi
  rw[e,List.map_append,List.map_cons,List.sum_append,List.sum_cons]
  omega
 ·intro h
  apply Classical.byContradiction
  intro hn
  have hz:∀x∈(nextM m can S).map (fun i=>cntO m can (S ||| 2 ^ i)),x=0:=fun x hx=>by
   obtain⟨i,hi,rfl⟩:=List.mem_map.1 hx
   apply Classical.byContradiction
   intro h0
   exact hn ⟨i,hi,by simpa using Nat.pos_of_ne_zero h0⟩
  have:=sum_le (g:=fun x=>x) (b:=0) (l:=(nextM m can S).map (fun i=>cntO m can (S ||| 2 ^ i))) fun x hx=>by rw[hz x hx];exact Nat.le_refl _
  rw[List.map_id']at this
  omega
variable {kn kn1 kn2:List Int} {S k:Nat}
end
structure SeenO (ks:List (List Int))(vs:List Bool)(l:List Int):Prop where
 len:ks.length=vs.length
 ok:∀x:Int,getK ks vs [x] = if x∈l then some true else none
theorem SeenO.nil:SeenO [] [] []:=⟨rfl,fun _=>rfl⟩
theorem SeenO.put {ks:List (List Int)}{vs:List Bool}{l:List Int}(h:SeenO ks vs l)(x:Int):SeenO (setKs ks [x]) (putV ks vs [x] true) (l++[x]) where
 len:=put_len h.len _ _
 ok:=fun y=>by
  rw[get_put h.len,h.ok y]
  simp only[List.cons.injEq,and_true,List.mem_append,List.mem_singleton]
  by_cases e:x=y
  ·rw[if_pos e,if_pos (.inr e.symm)]
  ·rw[if_neg e]
   by_cases hy:y∈l
   ·rw[if_pos hy,if_pos (.inl hy)]
   ·rw[if_neg hy,if_neg (fun h=>h.elim hy fun h=>e h.symm)]
theorem SeenO.get {ks:List (List Int)}{vs:List Bool}{l:List Int}(h:SeenO ks vs l)(x:Int):(getK ks vs [x]).getD false=decide (x∈l):=by
 rw[h.ok x]
 by_cases hx:x∈l
 ·rw[if_pos hx,decide_eq_true hx];rfl
 ·rw[if_neg hx,decide_eq_false hx];rfl
section
variable {m:Nat} {can:Nat→Bool}
structure WkO (m:Nat)(can:Nat→Bool)(out:List Nat)(k:Nat):Prop where
 nd:out.Nodup
 mem:∀x∈out,∃p,pathB m can 0 p x
 zero:0∈out
 done:∀(j x:Nat),j < k→out[j]? = some x→∀i∈nextM m can x,(x ||| 2 ^ i)∈out
structure WkI (m:Nat)(can:Nat→Bool)(out:List Nat)(k x j:Nat):Prop where
 wk:WkO m can out k
 here:out[k]? = some x
 some:∀(j' i:Nat),j' < j→(nextM m can x)[j']? = some i→(x ||| 2 ^ i)∈out
variable {out:List Nat} {k x j i:Nat}
theorem WkO.start:WkO m can [0] 0:=⟨by simp,fun x hx=>⟨[],by rw[List.mem_singleton.1 hx];rfl⟩,by simp,fun j x hj=>by omega⟩
theorem WkO.lt (h:WkO m can out k){x:Nat}(hx:x∈out):x < 2 ^ m:=by
 obtain⟨p,hp⟩:=h.mem x hx
 exact path_lt (Nat.pos_of_ne_zero (by simp)) hp
theorem WkO.len (h:WkO m can out k):out.length≤2 ^ m:=by
 have h1:out.Perm ((List.range (2 ^ m)).filter fun x=>decide (x∈out)):=(List.perm_ext_iff_of_nodup h.nd (List.nodup_range.filter _)).2 fun x=>by
  rw[List.mem_filter,List.mem_range,decide_eq_true_eq]
  exact⟨fun hx=>⟨h.lt hx,hx⟩,fun hx=>hx.2⟩
 have h2:=List.length_filter_le (fun x=>decide (x∈out)) (List.range (2 ^ m))
 rw[List.length_range]at h2
 rw[h1.length_eq];exact h2
theorem WkO.inner (h:WkO m can out k)(hx:out[k]? = some x):WkI m can out k x 0:=⟨h,hx,fun j' i hj=>by omega⟩
theorem WkI.hit (h:WkI m can out k x j)(hi:(nextM m can x)[j]? = Option.some i)(hm:(x ||| 2 ^ i)∈out):WkI m can out k x (j+1):=⟨h.wk,h.here,fun j' i' hj hi'=>by
 rcases Nat.lt_or_ge j' j with h1|h1
 ·exact h.some j' i' h1 hi'
 ·obtain rfl:j'=j:=by omega
  rw[hi]at hi';injection hi' with hi';rw[←hi'];exact hm⟩
theorem WkI.miss (h:WkI m can out k x j)(hi:(nextM m can x)[j]? = Option.some i)(hm:(x ||| 2 ^ i) ∉ out):WkI m can (out++[x ||| 2 ^ i]) k x (j+1):=by
 have hkl:=(List.getElem?_eq_some_iff.1 h.here).1
 refine⟨⟨?_,fun y hy=>?_,List.mem_append_left _ h.wk.zero,fun j' y hj hy i' hi'=>?_⟩,?_,fun j' i' hj hi'=>?_⟩
 ·rw[List.nodup_append]
  exact⟨h.wk.nd,by simp,fun a ha b hb=>by rw[List.mem_singleton.1 hb];rintro rfl;exact hm ha⟩
 ·rcases List.mem_append.1 hy with hy|hy
  ·exact h.wk.mem y hy
  ·rw[List.mem_singleton.1 hy]
   obtain⟨p,hp⟩:=h.wk.mem x (List.mem_of_getElem? h.here)
   obtain⟨h1,h2,h3⟩:=nextM_mem.1 (List.mem_of_getElem? hi)
   exact⟨p++[i],path_app m can hp ⟨h1,h2,h3,rfl⟩⟩
 ·rw[List.getElem?_append_left (by omega)]at hy
  exact List.mem_append_left _ (h.wk.done j' y hj hy i' hi')
 ·rw[List.getElem?_append_left hkl];exact h.here
 ·rcases Nat.lt_or_ge j' j with h1|h1
  ·exact List.mem_append_left _ (h.some j' i' h1 hi')
  ·obtain rfl:j'=j:=by omega
   rw[hi]at hi';injection hi' with hi';rw[←hi'];exact List.mem_append_right _ (List.mem_singleton.2 rfl)
theorem WkI.done (h:WkI m can out k x j)(hj:(nextM m can x).length≤j):WkO m can out (k+1):=⟨h.wk.nd,h.wk.mem,h.wk.zero,fun j' y hj' hy i hi=>by
 rcases Nat.lt_or_ge j' k with h1|h1
 ·exact h.wk.done j' y h1 hy i hi
 ·obtain rfl:j'=k:=by omega
  have:=h.here
  rw[hy]at this;injection this with this
  subst this
  obtain⟨q,hq⟩:=List.getElem?_of_mem hi
  exact h.some q i (Nat.lt_of_lt_of_le (List.getElem?_eq_some_iff.1 hq).1 hj) hq⟩
theorem WkO.close (h:WkO m can out k)(hk:out.length≤k):∀{p:List Nat} {S T:Nat},S∈out→pathB m can S p T→T∈out
 | [],S,T,hS,hp=>by cases hp;exact hS
 | i :: p,S,T,hS,⟨h1,h2,h3,h4⟩=>by
  obtain⟨q,hq⟩:=List.getElem?_of_mem hS
  exact WkO.close h hk (h.done q S (Nat.lt_of_lt_of_le (List.getElem?_eq_some_iff.1 hq).1 hk) hq i (nextM_mem.2 ⟨h1,h2,h3⟩)) h4
theorem WkO.perm (h:WkO m can out k)(hk:out.length≤k):out.Perm (reachO m can):=(List.perm_ext_iff_of_nodup h.nd (reachO_sorted.imp fun h=>Nat.ne_of_lt h)).2 fun x=>by
 rw[reachO_mem]
 exact⟨h.mem x,fun⟨p,hp⟩=>h.close hk h.zero hp⟩
theorem WkO.sorted (h:WkO m can out k)(hk:out.length≤k){l:List Int}(hp:l.Perm (out.map fun x:Nat=>(x:Int)))(hs:l.Pairwise (·≤·)):l=(reachO m can).map fun x:Nat=>(x:Int):=by
 refine List.Perm.eq_of_pairwise (le:=fun a b:Int=>a≤b) (fun a b _ _ h1 h2=>by omega) hs ?_ (hp.trans ((h.perm hk).map _))
 rw[List.pairwise_map]
 exact reachO_sorted.imp fun h=>by omega
def ordB (l:List Int)(M:Int)(i:Nat):Bool:=decide (0≤l.getD i 0)&&(decide (l.getD i 0 < M)&&(i==0||decide (l.getD (i-1) 0 < l.getD i 0)))
theorem clsB_def (l:List Int):clsB m can l=((List.range l.length).all (ordB l (2 ^ m-1))&&(decide ((0:Int)∈l)&&l.all fun x=>(nextM m can x.toNat).all fun i=>decide (((x.toNat ||| 2 ^ i:Nat):Int)∈l))):=rfl
end
structure Kp2 (a b:Nat)(S S':St):Prop where
 bx:∀(id:Nat) (o:Ob),id≠a→id≠b→S.bx[id]? = some o→S'.bx[id]? = some o
 fr:∀(c:Nat) (y:Nat×Nat),S.fr[c]? = some y→S'.fr[c]? = some y∧S'.ty c=S.ty c
 ln:S.bx.length≤S'.bx.length
theorem Kp2.refl (a b:Nat)(S:St):Kp2 a b S S:=⟨fun _ _ _ _ h=>h,fun _ _ h=>⟨h,rfl⟩,Nat.le_refl _⟩
theorem Kp2.trans {a b:Nat}{S S1 S2:St}(h:Kp2 a b S S1)(h2:Kp2 a b S1 S2):Kp2 a b S S2:=⟨fun id o h3 h4 h5=>h2.bx id o h3 h4 (h.bx id o h3 h4 h5),fun c y hy=>by
 obtain⟨e1,e2⟩:=h.fr c y hy
 obtain⟨e3,e4⟩:=h2.fr c y e1
 exact⟨e3,e4.trans e2⟩,Nat.le_trans h.ln h2.ln⟩
theorem Kp2.addB {a b:Nat}{S S1:St}(h:Kp2 a b S S1)(o:Ob):Kp2 a b S (S1.addB o):=⟨fun id o' h1 h2 h3=>St.addB_old (h.bx id o' h1 h2 h3),h.fr,by rw[St.addB_len];have:=h.ln;omega⟩
theorem Kp2.setN {a b k:Nat}{S S1:St}(h:Kp2 a b S S1)(hk:S.bx.length≤k)(o:Ob):Kp2 a b S (S1.setB k o):=⟨fun id o' h1 h2 h3=>by
 have:=(List.getElem?_eq_some_iff.1 h3).1
 rw[St.setB_ne (by omega)];exact h.bx id o' h1 h2 h3,h.fr,by rw[St.setB_len];exact h.ln⟩
theorem Kp2.setA {a b:Nat}{S S1:St}(h:Kp2 a b S S1)(o:Ob):Kp2 a b S (S1.setB a o):=⟨fun id o' h1 h2 h3=>by
 rw[St.setB_ne h1.symm];exact h.bx id o' h1 h2 h3,h.fr,by rw[St.setB_len];exact h.ln⟩
theorem Kp2.setZ {a b:Nat}{S S1:St}(h:Kp2 a b S S1)(o:Ob):Kp2 a b S (S1.setB b o):=⟨fun id o' h1 h2 h3=>by
 rw[St.setB_ne h2.symm];exact h.bx id o' h1 h2 h3,h.fr,by rw[St.setB_len];exact h.ln⟩
theorem Kp2.addF {a b:Nat}{S S1:St}(h:Kp2 a b S S1)(y:Nat×Nat)(e:TypeId):Kp2 a b S (S1.addF y e):=⟨h.bx,fun c z hz=>by
 obtain⟨e1,e2⟩:=h.fr c z hz
 exact⟨St.addF_old e1,(St.addF_tyo e1).trans e2⟩,h.ln⟩
theorem Kp2.setFN {a b k:Nat}{S S1:St}(h:Kp2 a b S S1)(hk:S.fr.length≤k)(y:Nat×Nat):Kp2 a b S (S1.setF k y):=⟨h.bx,fun c z hz=>by
 obtain⟨e1,e2⟩:=h.fr c z hz
 have:=(List.getElem?_eq_some_iff.1 hz).1
 exact⟨by rw[St.setF_ne (by omega)];exact e1,e2⟩,h.ln⟩
theorem Kp2.same {a b:Nat}{S S1 S2:St}(h:Kp2 a b S S1)(h1:S2.bx=S1.bx)(h2:S2.fr=S1.fr)(h3:S2.ty=S1.ty):Kp2 a b S S2:=⟨fun id o a1 a2 a3=>by rw[h1];exact h.bx id o a1 a2 a3,fun c y hy=>by rw[h2,h3];exact h.fr c y hy,by rw[h1];exact h.ln⟩
def prC (n:Net)(s:Sched)(fl:List Flow)(st:List Req)(L:List Chg)(ip iw:Nat):List AV:=n.cs++[.int .i64 s.len,.int .i64 s.offs,encCells s.cells,encFlows fl,encReqs st,encChgs L,.mp ip,.mp iw]
structure OIv (P:List AV)(tp:TypeId)(m:Nat)(can:Nat→Bool)(S:St)(pb ip iw:Nat):Prop where
 p:S.bx[pb]? = some (.cells P tp)
 m1:∃ks vs,S.bx[ip]? = some (.map none ks (vs.map AV.bool))∧MemO can ks vs
 m2:∃ks vs,S.bx[iw]? = some (.map none ks (vs.map encI))∧MemO (fun T=>(cntO m can T:Int)) ks vs
 ne:ip≠iw
section
variable {P:List AV} {tp:TypeId} {m:Nat} {can:Nat→Bool} {S S':St} {pb ip iw:Nat}
theorem OIv.np (h:OIv P tp m can S pb ip iw):pb≠ip∧pb≠iw:=by
 obtain⟨k1,v1,e1,_⟩:=h.m1
 obtain⟨k2,v2,e2,_⟩:=h.m2
 exact⟨ne_cm h.p e1,ne_cm h.p e2⟩
theorem OIv.more (h:OIv P tp m can S pb ip iw)(hx:∀(id:Nat) (o:Ob),S.bx[id]? = some o→S'.bx[id]? = some o):OIv P tp m can S' pb ip iw:=by
 obtain⟨k1,v1,e1,g1⟩:=h.m1
 obtain⟨k2,v2,e2,g2⟩:=h.m2
 exact⟨hx _ _ h.p,⟨k1,v1,hx _ _ e1,g1⟩,⟨k2,v2,hx _ _ e2,g2⟩,h.ne⟩
theorem OIv.same (h:OIv P tp m can S pb ip iw)(hx:S'.bx=S.bx):OIv P tp m can S' pb ip iw:=h.more fun id o ho=>by rw[hx];exact ho
theorem OIv.setP (h:OIv P tp m can S pb ip iw){ks:List (List Int)}{vs:List Bool}(hm:MemO can ks vs):OIv P tp m can (S.setB ip (.map none ks (vs.map AV.bool))) pb ip iw:=by
 obtain⟨k1,v1,e1,g1⟩:=h.m1
 obtain⟨k2,v2,e2,g2⟩:=h.m2
 exact⟨by rw[St.setB_ne h.np.1.symm];exact h.p,⟨ks,vs,St.setB_get e1,hm⟩,⟨k2,v2,by rw[St.setB_ne h.ne];exact e2,g2⟩,h.ne⟩
theorem OIv.setW (h:OIv P tp m can S pb ip iw){ks:List (List Int)}{vs:List Int}(hm:MemO (fun T=>(cntO m can T:Int)) ks vs):OIv P tp m can (S.setB iw (.map none ks (vs.map encI))) pb ip iw:=by
 obtain⟨k1,v1,e1,g1⟩:=h.m1
 obtain⟨k2,v2,e2,g2⟩:=h.m2
 exact⟨by rw[St.setB_ne h.np.2.symm];exact h.p,⟨k1,v1,by rw[St.setB_ne h.ne.symm];exact e1,g1⟩,⟨ks,vs,St.setB_get e2,hm⟩,h.ne⟩
theorem assocB {ks:List (List Int)}{vs:List Bool}{x:List Int}:assoc ks (vs.map AV.bool) x=(getK ks vs x).map AV.bool:=assoc_map _ _ _ _
theorem assocI {ks:List (List Int)}{vs:List Int}{x:List Int}:assoc ks (vs.map encI) x=(getK ks vs x).map encI:=assoc_map _ _ _ _
end
section
variable {m:Nat} {can:Nat→Bool}
structure FndO (m:Nat)(can:Nat→Bool)(S:Nat)(p:List Nat):Prop where
 path:pathB m can 0 p S
 first:fstO m can 0=p++fstO m can S
 pos:0 < cntO m can S
variable {S i k:Nat} {p:List Nat}
theorem FndO.start (h:0 < cntO m can 0):FndO m can 0 []:=⟨rfl,rfl,h⟩
theorem FndO.lt (h:FndO m can S p):S < 2 ^ m:=path_lt (Nat.pos_of_ne_zero (by simp)) h.path
theorem FndO.len (h:FndO m can S p):p.length+unM m S=m:=by
 have:=path_len h.path
 rw[this]
 unfold unM
 rw[show(fun i=>!bitB 0 i)=fun _=>true by funext i;unfold bitB;simp]
 simp
theorem FndO.done (h:FndO m can (2 ^ m-1) p):p=fstO m can 0:=by rw[h.first,fstO_full,List.append_nil]
theorem lead_any (hf:S≠2 ^ m-1)(h:0 < cntO m can S):∃i∈nextM m can S,0 < cntO m can (S ||| 2 ^ i):=by
 have:=anyK_all (m:=m) (can:=can) hf
 rw[decide_eq_true h]at this
 unfold anyK at this
 rw[nxtK_all,List.any_eq_true]at this
 obtain⟨i,hi,h1⟩:=this
 exact⟨i,hi,of_decide_eq_true h1⟩
theorem FndO.step (h:FndO m can S p)(hf:S≠2 ^ m-1)(hk:(nextM m can S)[k]? = some i)(hc:0 < cntO m can (S ||| 2 ^ i))(hb:∀j y,j < k→(nextM m can S)[j]? = some y→cntO m can (S ||| 2 ^ y)=0):FndO m can (S ||| 2 ^ i) (p++[i]):=by
 obtain⟨h1,h2,h3⟩:=nextM_mem.1 (List.mem_of_getElem? hk)
 refine⟨path_app m can h.path ⟨h1,h2,h3,rfl⟩,?_,hc⟩
 rw[h.first,fstO_step hf hk hc hb];simp
end
theorem pick_snoc {L:List Chg}{p:List Nat}{i:Nat}{x:Chg}(h:L[i]? = some x):pickL L (p++[i])=pickL L p++[x]:=by
 unfold pickL
 rw[List.filterMap_append]
 simp[h]
theorem pick_len {L:List Chg}:∀{p:List Nat},(∀i∈p,i < L.length)→(pickL L p).length=p.length
 | [],_=>rfl
 | i :: p,h=>by
  have:=pick_len (p:=p) fun j hj=>h j (List.mem_cons_of_mem _ hj)
  unfold pickL at this ⊢
  rw[List.filterMap_cons,List.getElem?_eq_getElem (h i List.mem_cons_self)]
  simp[this]
theorem path_mem {m:Nat}{can:Nat→Bool}:∀{p:List Nat} {S T:Nat},pathB m can S p T→∀i∈p,i < m
 | [],_,_,_,i,hi=>by cases hi
 | j :: p,S,T,⟨h1,h2,h3,h4⟩,i,hi=>by
  rcases List.mem_cons.1 hi with rfl|hi
  ·exact h1
  ·exact path_mem h4 i hi
theorem two_le {i:Nat}(h:i≤20):2 ^ i≤1048576:=Nat.pow_le_pow_right (by omega) h
theorem shlN {i:Nat}(h:i≤20):IntKind.i64.wrap (1*2 ^ (min ((i:Int).toNat) IntKind.i64.bits))=((2 ^ i:Nat):Int):=by
 rw[shl1 (by omega) (by omega),Int.toNat_natCast];simp
theorem or64 {a b:Nat}(ha:a < 2 ^ 62)(hb:b < 2 ^ 62):IntKind.i64.wrap ((BitVec.ofInt IntKind.i64.bits (a:Int) ||| BitVec.ofInt IntKind.i64.bits (b:Int)).toNat)=((a ||| b:Nat):Int):=by
 have hb':IntKind.i64.bits=64:=rfl
 have h:=Nat.or_lt_two_pow ha hb
 rw[hb',BitVec.toNat_or,ofInt_toNat (by omega) (by omega),ofInt_toNat (by omega) (by omega),Int.toNat_natCast,Int.toNat_natCast,w64 (by omega) (by omega)]
theorem bit_eq0 {S k:Nat}:(bitI (S:Int) k==0)=!bitB S k:=by
 rw[bitI_nat]
 unfold bitB
 cases S.testBit k<;>simp
theorem sub_one (i:Nat):((2 ^ i:Nat):Int)-1=((2 ^ i-1:Nat):Int):=by
 have:=Nat.pos_of_ne_zero (show 2 ^ i≠0 by simp)
 omega
theorem whole_vals (n:Net)(before after:List Req)(s:Sched):wholeC n before after s=0∨wholeC n before after s=1∨wholeC n before after s=2∨wholeC n before after s=11:=by
 unfold wholeC
 repeat' split
 all_goals simp
theorem bin_get {q:List Req}(hs:q.Pairwise fun a b=>a.flow.id < b.flow.id)(x:Req) :
  (hasB (fun y:Req=>cmpI y.flow.id x.flow.id) q=true∧∃y,q[posB (fun y:Req=>cmpI y.flow.id x.flow.id) q]? = some y∧getQ q x.flow.id=some y)∨(hasB (fun y:Req=>cmpI y.flow.id x.flow.id) q=false∧getQ q x.flow.id=none):=by
 unfold hasB
 cases hp:q[posB (fun y:Req=>cmpI y.flow.id x.flow.id) q]? with
 | none=>
  refine .inr ⟨rfl,?_⟩
  have hge:q.length≤posB (fun y:Req=>cmpI y.flow.id x.flow.id) q:=List.getElem?_eq_none_iff.1 hp
  cases hg:getQ q x.flow.id with
  | none=>rfl
  | some y=>
   obtain⟨hy,he⟩:=getQ_some hg
   obtain⟨j,hj⟩:=List.getElem?_of_mem hy
   have hjl:=(List.getElem?_eq_some_iff.1 hj).1
   have:=posB_lt (c:=fun y:Req=>cmpI y.flow.id x.flow.id) (l:=q) (i:=j) (by omega) hj
   have:=cmpI_lt.1 this
   omega
 | some y=>
  simp only
  by_cases e:cmpI y.flow.id x.flow.id=0
  ·refine .inl ⟨by simpa using e,y,rfl,?_⟩
   have:=getQ_mem hs (List.mem_of_getElem? hp)
   rw[cmpI_eq.1 e]at this
   exact this
  ·refine .inr ⟨by simpa using e,?_⟩
   cases hg:getQ q x.flow.id with
   | none=>rfl
   | some z=>
    obtain⟨hz,he⟩:=getQ_some hg
    obtain⟨j,hj⟩:=List.getElem?_of_mem hz
    have hjl:=(List.getElem?_eq_some_iff.1 hj).1
    have hpl:=(List.getElem?_eq_some_iff.1 hp).1
    have hge:=posB_ge hp
    have hne:cmpI y.flow.id x.flow.id≠0:=e
    have hgt:x.flow.id < y.flow.id:=by
     have h1:¬cmpI y.flow.id x.flow.id < 0:=hge
     rw[cmpI_lt]at h1
     have h2:y.flow.id≠x.flow.id:=fun h=>hne (cmpI_eq.2 h)
     omega
    rcases Nat.lt_trichotomy j (posB (fun y:Req=>cmpI y.flow.id x.flow.id) q) with h|h|h
    ·have h1:=posB_lt h hj
     have h1:cmpI z.flow.id x.flow.id < 0:=h1
     rw[cmpI_lt]at h1
     omega
    ·subst h
     rw[hp]at hj
     injection hj with hj
     subst hj
     omega
    ·have h1:=List.pairwise_iff_getElem.1 hs _ j hpl hjl h
     rw[(List.getElem?_eq_some_iff.1 hp).2,(List.getElem?_eq_some_iff.1 hj).2]at h1
     omega
def stayR (after:List Req)(x:Req):List Req:=match getQ after x.flow.id with
 | some y=>[⟨x.flow,x.routes++y.routes⟩]
 | none=>[]
def stayO (before after:List Req):List Req:=before.flatMap (stayR after)
def stayK (before after:List Req)(k:Nat):List Req:=(before.take k).flatMap (stayR after)
theorem stayK_all (before after:List Req):stayK before after before.length=stayO before after:=by unfold stayK stayO;rw[List.take_length]
theorem stayK_succ {before after:List Req}{k:Nat}{x:Req}(h:before[k]? = some x):stayK before after (k+1)=stayK before after k++stayR after x:=by
 unfold stayK
 rw[take_succ h,List.flatMap_append]
 simp
theorem stayR_len (after:List Req)(x:Req):(stayR after x).length≤1:=by unfold stayR;split<;>simp
theorem stayK_len (before after:List Req):∀k,(stayK before after k).length≤k
 | 0=>by simp[stayK]
 | k+1=>by
  have ih:=stayK_len before after k
  cases hx:before[k]? with
  | some x=>
   rw[stayK_succ hx,List.length_append]
   have:=stayR_len after x
   omega
  | none=>
   have:before.length≤k:=List.getElem?_eq_none_iff.1 hx
   unfold stayK at ih ⊢
   rw[List.take_of_length_le (by omega)]at ih ⊢
   omega
def lateO (n:Net)(s:Sched)(x:Req):Bool:=(leastM n s x.flow x.routes).2 != 0||decide ((leastM n s x.flow x.routes).1 > x.flow.dead)
theorem keep_any {n:Net}{before after:List Req}{s:Sched}(hb:ReqsOk before)(_ha:ReqsOk after):keepB n before after s=!(stayO before after).any (lateO n s):=by
 rw[Bool.eq_iff_iff]
 unfold keepB
 rw[List.all_eq_true,Bool.not_eq_true',List.any_eq_false]
 have key:∀(x y:Req),getQ before x.flow.id=some x→getQ after x.flow.id=some y→(keepF n before after s x.flow=true↔¬lateO n s ⟨x.flow,x.routes++y.routes⟩=true):=fun x y hx hy=>by
  have hs:stayQ before after x.flow.id=some (x,y):=by unfold stayQ;rw[hx,hy]
  unfold keepF lateO
  rw[hs]
  simp only[Bool.and_eq_true,beq_iff_eq,decide_eq_true_eq,Bool.or_eq_true,bne_iff_ne,ne_eq,gt_iff_lt,not_or,Decidable.not_not]
  omega
 constructor
 ·intro h z hz
  obtain⟨x,hx,hzx⟩:=List.mem_flatMap.1 hz
  unfold stayR at hzx
  cases hy:getQ after x.flow.id with
  | none=>rw[hy]at hzx;cases hzx
  | some y=>
   rw[hy]at hzx
   rw[List.mem_singleton.1 hzx]
   have hgx:=getQ_mem hb.sorted hx
   refine(key x y hgx hy).1 (h x.flow ?_)
   refine bothN_mem.2 ⟨(hb.ids x hx).1,by have:=(hb.ids x hx).2;omega,?_⟩
   unfold bothF
   rw[hgx]
 ·intro h f hf
  cases hq:stayQ before after f.id with
  | none=>unfold keepF;rw[hq]
  | some p=>
   obtain⟨x,y⟩:=p
   obtain⟨hx,hy⟩:=stayQ_some hq
   obtain⟨hxm,hxi⟩:=getQ_some hx
   have hfx:f=x.flow:=by
    have:=(bothN_mem.1 hf).2.2
    unfold bothF at this
    rw[hx]at this
    injection this with this
    exact this.symm
   subst hfx
   refine(key x y hx hy).2 (h _ (List.mem_flatMap.2 ⟨x,hxm,?_⟩))
   unfold stayR
   rw[hy]
   exact List.mem_singleton.2 rfl
theorem stay_flows {before after:List Req}(hb:ReqsOk before)(hd:before.any (differB after)=false):(stayO before after).map Req.flow=stayF before after:=by
 unfold stayO stayF
 have key:∀l:List Req,(∀x∈l,x∈before)→(l.flatMap (stayR after)).map Req.flow=(l.filter fun x=>stayB before after x.flow.id).map Req.flow:=fun l=>by
  induction l with
  | nil=>intro _;rfl
  | cons x l ih=>
   intro hl
   have hx:=hl x (List.mem_cons_self ..)
   rw[List.flatMap_cons,List.map_append,ih fun y hy=>hl y (List.mem_cons_of_mem _ hy),List.filter_cons]
   have hgx:=getQ_mem hb.sorted hx
   have hdx:=List.any_eq_false.1 hd x hx
   cases hy:getQ after x.flow.id with
   | none=>
    have e1:stayB before after x.flow.id=false:=by unfold stayB stayQ;rw[hgx,hy]
    rw[if_neg (by rw[e1];decide)]
    unfold stayR;rw[hy];rfl
   | some y=>
    have e2:x.flow=y.flow:=by
     unfold differB at hdx
     rw[hy]at hdx
     simp at hdx
     exact hdx.symm
    have e1:stayB before after x.flow.id=true:=by unfold stayB stayQ;rw[hgx,hy];simpa using e2
    rw[if_pos e1]
    unfold stayR;rw[hy];rfl
 exact key before fun _ h=>h
theorem check_nil (n:Net)(before after:List Req)(s:Sched):(wholeC n before after s≠0∧checkC n before after s [] = (-1,wholeC n before after s))∨(wholeC n before after s=0∧(checkC n before after s []).1=-1∧((checkC n before after s []).2=0∨(checkC n before after s []).2=18)):=by
 by_cases h:wholeC n before after s=0
 ·refine .inr ⟨h,?_⟩
  unfold checkC
  rw[if_neg (by omega),if_neg (by simp),if_neg (by simp[firstAt])]
  split<;>simp
 ·exact .inl ⟨h,by unfold checkC;rw[if_pos h]⟩
theorem flowsA_len {before after:List Req}(k:Nat):(flowsQ before++((after.take k).filter fun x=>!hasQ before x.flow.id).map Req.flow).length≤before.length+after.length:=by
 have h1:=List.length_filter_le (fun x:Req=>!hasQ before x.flow.id) (after.take k)
 rw[List.length_take]at h1
 simp only[List.length_append,List.length_map,flowsQ]
 omega
theorem can_prog {n:Net}{before after:List Req}{s t:Sched}(h:OpnOk n before after s t)(hr:s.cells.length≤500)(S:Nat) :
  cnO n before after s t S=((schedE n (bothM before after) (addC s (stepsL s t) S (stepsL s t).length)).2==0&&!(stayO before after).any (lateO n (addC s (stepsL s t) S (stepsL s t).length))):=by
 have hst:=h.stp hr
 have hw:=wholeC_ok h.whole
 rw[addC_all hst]
 unfold cnO canO
 rw[keep_any (reqsOk hw.rb) (reqsOk hw.ra)]
theorem addC_len {s:Sched}{L:List Chg}(h:StpOk s L)(S k:Nat):(addC s L S k).cells.length≤512:=by
 have:=(addC_ok h S k).cells_le
 have:=h.room
 omega
section
variable {m:Nat} {can:Nat→Bool} {l:List Int}
def nxO (m:Nat)(can:Nat→Bool)(l:List Int)(x:Int):Bool:=(nextM m can x.toNat).all fun i=>decide (((x.toNat ||| 2 ^ i:Nat):Int)∈l)
theorem cls_true (h1:∀j,j < l.length→ordB l (2 ^ m-1) j=true)(h2:(0:Int)∈l)(h3:∀x∈l,nxO m can l x=true):clsB m can l=true:=by
 rw[clsB_def,Bool.and_eq_true,Bool.and_eq_true]
 refine⟨List.all_eq_true.2 fun j hj=>h1 j (List.mem_range.1 hj),decide_eq_true h2,List.all_eq_true.2 h3⟩
theorem cls_f1 {k:Nat}(hk:k < l.length)(h:ordB l (2 ^ m-1) k=false):clsB m can l=false:=by
 rw[clsB_def,Bool.and_eq_false_iff]
 refine .inl (Bool.eq_false_iff.2 fun e=>?_)
 rw[List.all_eq_true.1 e k (List.mem_range.2 hk)]at h
 cases h
theorem cls_f2 (h:¬(0:Int)∈l):clsB m can l=false:=by
 rw[clsB_def,decide_eq_false h];simp
theorem cls_f3 {x:Int}(hx:x∈l)(h:nxO m can l x=false):clsB m can l=false:=by
 rw[clsB_def,Bool.and_eq_false_iff,Bool.and_eq_false_iff]
 refine .inr (.inr (Bool.eq_false_iff.2 fun e=>?_))
 have:=List.all_eq_true.1 e x hx
 rw[show((nextM m can x.toNat).all fun i=>decide (((x.toNat ||| 2 ^ i:Nat):Int)∈l))=nxO m can l x from rfl,h]at this
 cases this
theorem ord_at {M:Int}{k:Nat}{x:Int}(hx:l[k]? = some x)(h0:0≤x)(h1:x < M)(h2:k=0∨∃y,l[k-1]? = some y∧y < x):ordB l M k=true:=by
 have e:l.getD k 0=x:=by rw[List.getD_eq_getElem?_getD,hx];rfl
 unfold ordB
 rw[e,decide_eq_true h0,decide_eq_true h1]
 rcases h2 with h|⟨y,hy,hlt⟩
 ·subst h;rfl
 ·have e2:l.getD (k-1) 0=y:=by rw[List.getD_eq_getElem?_getD,hy];rfl
  rw[e2,decide_eq_true hlt];simp
theorem ord_neg {M:Int}{k:Nat}{x:Int}(hx:l[k]? = some x)(h:x < 0∨M≤x∨(k≠0∧∃y,l[k-1]? = some y∧x≤y)):ordB l M k=false:=by
 have e:l.getD k 0=x:=by rw[List.getD_eq_getElem?_getD,hx];rfl
 unfold ordB
 rw[e]
 rcases h with h|h|⟨hk,y,hy,hle⟩
 ·rw[decide_eq_false (by omega)];rfl
 ·rw[decide_eq_false (show ¬x < M by omega)];simp
 ·have e2:l.getD (k-1) 0=y:=by rw[List.getD_eq_getElem?_getD,hy];rfl
  rw[e2,decide_eq_false (show ¬y < x by omega)]
  simp[hk]
theorem ord_bds {M:Int}{k:Nat}{x:Int}(hx:l[k]? = some x)(h:ordB l M k=true):0≤x∧x < M:=by
 have e:l.getD k 0=x:=by rw[List.getD_eq_getElem?_getD,hx];rfl
 unfold ordB at h
 rw[e]at h
 simp only[Bool.and_eq_true,decide_eq_true_eq]at h
 exact⟨h.1,h.2.1⟩
theorem nx_any (x:Int):(!nxO m can l x)=((nextM m can x.toNat).map fun i:Nat=>(i:Int)).any fun i=>!decide (((x.toNat ||| 2 ^ i.toNat:Nat):Int)∈l):=by
 unfold nxO
 rw[List.any_map,List.not_all_eq_any_not]
 rfl
end
section
variable {n:Net} {before after:List Req} {s t:Sched}
theorem open_vals:openO n before after s t≠19:=by
 unfold openO
 split
 ·rcases whole_vals n before after s with h|h|h|h<;>rw[h]<;>decide
 split
 ·unfold stepsM
  repeat' split
  all_goals(show(_:Int)≠19;simp)
 repeat' split
 all_goals decide
theorem open_bad (ho:openO n before after s t≠0):findO n before after s t=([],openO n before after s t)∧countO n before after s t=(0,openO n before after s t)∧reachedO n before after s t=([],openO n before after s t)∧∀l,closO n before after s t l=openO n before after s t:=by
 refine⟨?_,?_,?_,fun l=>?_⟩
 ·unfold findO;rw[if_pos ho]
 ·unfold countO;rw[if_pos ho]
 ·unfold reachedO;rw[if_pos ho]
 ·unfold closO;rw[if_pos ho]
theorem find_no (ho:openO n before after s t=0)(hc:cntO (stO s t) (cnO n before after s t) 0=0):findO n before after s t=([],19):=by
 unfold findO;rw[if_neg (by omega),if_pos hc]
theorem count_is (ho:openO n before after s t=0):countO n before after s t=(((cntO (stO s t) (cnO n before after s t) 0:Nat):Int),(0:Int)):=by
 unfold countO;rw[if_neg (by omega)]
theorem reached_is (ho:openO n before after s t=0):reachedO n before after s t=((reachO (stO s t) (cnO n before after s t)).map fun T:Nat=>(T:Int),0):=by
 unfold reachedO;rw[if_neg (by omega)]
theorem reach_len:(reachO (stO s t) (cnO n before after s t)).length≤2 ^ stO s t:=by
 unfold reachO
 refine Nat.le_trans (List.length_filter_le _ _) ?_
 rw[List.length_range];exact Nat.le_refl _
theorem reach_top {m:Nat}{can:Nat→Bool}(hc:0 < cntO m can 0){R:List Int}(hR:R=(reachO m can).map fun T:Nat=>(T:Int)):m < R.length∧R[R.length-1]? = some ((2 ^ m-1:Nat):Int):=by
 obtain⟨h1,h2⟩:=reach_many hc
 subst hR
 rw[List.length_map]
 refine⟨h1,?_⟩
 rw[List.getLast?_eq_getElem?]at h2
 rw[List.getElem?_map,h2];rfl
end
end HM
