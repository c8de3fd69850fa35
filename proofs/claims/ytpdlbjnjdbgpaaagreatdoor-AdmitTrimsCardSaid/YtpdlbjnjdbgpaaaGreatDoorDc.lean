/- Further plain words. -/
import Derived.Test.YtpdlbjnjdbgpaaaGreatDoorDb
import Derived.Test.YtpdlbjnjdbgpaaaGreatDoorDa
import Derived.Test.YtpdlbjnjdbgpaaaGreatDoorFh
import Derived.Test.YtpdlbjnjdbgpaaaGreatDoorFc
namespace HM
open Go Go.RowKit
section
variable {n:Net} {q:List Req} {s:Sched}
theorem heard_anti {m d d':Int}(hok:NetOk n)(h:heardB n m d=true)(hd:d'≤d):heardB n m d'=true:=by
 unfold heardB at h ⊢
 simp only[decide_eq_true_eq]at h ⊢
 have:=hok.thr
 have h2:n.thr*(n.noise+d')≤n.thr*(n.noise+d):=Int.mul_le_mul_of_nonneg_left (by omega) (by omega)
 omega
end
structure Claim where
 flow:Int
 routes:List (List Int)
 bounds:List Int
 worst:List Int
 slots:List (List Int)
 deriving DecidableEq
def Claim.cs (c:Claim):List AV:=[.int .i64 c.flow,encRows c.routes,encIs c.bounds,encIs c.worst,encRows c.slots]
def Claim.av (c:Claim):AV:=.agg [.int .i64 c.flow,encRows c.routes,encIs c.bounds,encIs c.worst,encRows c.slots]
def encClaims (l:List Claim):AV:=.sl false (l.map Claim.av)
def claim0:Claim:=⟨0,[],[],[],[]⟩
def srvB (n:Net)(s:Sched)(x:Req)(r:List Int):Bool:=decide ((routeM n s x.flow r).2.2.2=0)&&decide ((routeM n s x.flow r).1≤x.flow.dead)
def claimT (n:Net)(s:Sched)(x:Req)(l:List (List Int)):Claim:=⟨x.flow.id,l,l.map fun r=>(routeM n s x.flow r).1,l.map fun r=>(routeM n s x.flow r).2.1,l.map fun r=>(routeM n s x.flow r).2.2.1⟩
def claimB (n:Net)(s:Sched)(x:Req):Bool:=x.routes.all (srvB n s x)
def claimM (n:Net)(s:Sched)(x:Req):Claim:=if claimB n s x then claimT n s x x.routes else claim0
def lateAt (n:Net)(s:Sched)(q:List Req)(i:Nat):Int:=match q[i]? with
 | some x=>if claimB n s x then 0 else 15
 | none=>0
def makeM (n:Net)(q:List Req)(s:Sched):List Claim×Int×Int:=
 if (reqE n q).2≠0 then([],(reqE n q).1,(reqE n q).2) else if (schedE n (flowsQ q) s).2≠0 then([],-1,1)
 else if (firstAt (lateAt n s q) q.length).2≠0 then([],firstAt (lateAt n s q) q.length) else(q.map (claimM n s),-1,0)
theorem VOk.form {n:Net}{l:List Flow}{s:Sched}(h:VOk n l s):formB s=true:=by
 unfold formB
 rw[h.size,decide_eq_true h.many,Bool.true_and,Bool.true_and]
 refine range_all fun i hi=>?_
 obtain⟨c,hc⟩:=getLt hi
 obtain⟨h1,h2,h3,h4⟩:=h.cell i c hc
 obtain⟨p,l',e1,e2,e3,e4⟩:=findL_at (good_find h2)
 have hb:=linkR_bd (h.net.link p l' e2).1
 have hn:=h.net.nodes
 obtain⟨f,hf,hid⟩:=List.any_eq_true.1 h3
 have hff:0≤f.id∧f.id≤255:=by
  obtain⟨k,hk⟩:=List.getElem?_of_mem hf
  have hkl:=(List.getElem?_eq_some_iff.1 hk).1
  have hfl:=h.flows
  unfold flowsE at hfl
  split at hfl
  ·cases hfl
  split at hfl
  ·cases hfl
  have g:=firstAt_ok.1 hfl k hkl
  unfold flowAt at g
  rw[hk]at g
  simp only at g
  have hfx:flowE n.nodes f=0:=by
   split at g
   ·rename_i hh;exact absurd g hh
   ·omega
  have:=flowE_ok hfx
  omega
 simp only[beq_iff_eq]at hid
 unfold okAt
 rw[hc]
 simp only
 have hfm:formedB s c=true:=by
  unfold formedB
  rw[h1]
  simp only[insB,Bool.true_and,Bool.and_eq_true,decide_eq_true_eq]
  omega
 rw[hfm,Bool.true_and]
 unfold ordC at h4
 cases i with
 | zero=>rfl
 | succ j=>exact h4
structure PTys where
 p:TypeId
 q:TypeId
 d:TypeId
 a:TypeId
 hpq:p≠q
 hpd:p≠d
 hqd:q≠d
 ks:List (Nat×List AV×TypeId)
 hk:∀e∈ks,e.2.2≠p∧e.2.2≠q∧e.2.2≠d
section
variable {T:PTys} {S S':St} {pb ch:Nat} {l:List Flow} {s:Sched} {x:List Rule} {Q:PL} {g:Nat→Nat→Nat} {sv dv:AV}
end
section
variable {T:PTys} {S:St} {pb ch:Nat} {l:List Flow} {s:Sched} {x:List Rule} {Q:PL} {g:Nat→Nat→Nat} {sv dv:AV}
end
section
variable {T:PTys} {S S':St} {pb ch:Nat} {l:List Flow} {s:Sched} {x:List Rule} {Q:PL} {g:Nat→Nat→Nat} {sv dv:AV}
end
def withL (c:Cell):List Cell→List Cell
 | []=>[c]
 | x :: l=>if c.cmp x < 0 then c :: x :: l else x :: withL c l
def putB (c:Cell)(l:List Cell):Bool:=l.any fun x=>decide (c.cmp x < 0)
theorem with_none {c:Cell}:∀{l:List Cell},putB c l=false→withL c l=l++[c]
 | [],_=>rfl
 | x :: l,h=>by
  simp only[putB,List.any_cons,Bool.or_eq_false_iff,decide_eq_false_iff_not]at h
  rw[withL,if_neg h.1,with_none (l:=l) h.2];rfl
theorem with_put {c x:Cell}:∀{l:List Cell},putB c l=true→withL c (l++[x])=withL c l++[x]
 | [],h=>by simp[putB]at h
 | y :: l,h=>by
  rw[List.cons_append,withL,withL]
  by_cases hy:c.cmp y < 0
  ·rw[if_pos hy,if_pos hy];rfl
  ·rw[if_neg hy,if_neg hy]
   have h2:putB c l=true:=by simpa[putB,hy] using h
   rw[with_put h2];rfl
theorem with_now {c x:Cell}(hx:c.cmp x < 0):∀{l:List Cell},putB c l=false→withL c (l++[x])=l++[c]++[x]
 | [],_=>by simp[withL,hx]
 | y :: l,h=>by
  simp only[putB,List.any_cons,Bool.or_eq_false_iff,decide_eq_false_iff_not]at h
  rw[List.cons_append,withL,if_neg h.1,with_now hx (l:=l) h.2];rfl
theorem putB_snoc (c x:Cell)(l:List Cell):putB c (l++[x])=(putB c l||decide (c.cmp x < 0)):=by simp[putB]
def withK (c:Cell)(l:List Cell):List Cell:=if putB c l=true then withL c l else l
theorem withK_len (c:Cell)(l:List Cell):(withK c l).length≤l.length+1:=by
 have:∀l:List Cell,(withL c l).length=l.length+1:=by
  intro l
  induction l with
  | nil=>rfl
  | cons x l ih=>rw[withL];split<;>simp[ih]
 unfold withK
 split
 ·rw[this];exact Nat.le_refl _
 ·omega
theorem withK_put {c x:Cell}{l:List Cell}(h:putB c l=true):withK c (l++[x])=withK c l++[x]:=by
 unfold withK
 rw[putB_snoc,h,if_pos (by simp),if_pos rfl,with_put h]
theorem withK_now {c x:Cell}{l:List Cell}(h:putB c l=false)(hx:c.cmp x < 0):withK c (l++[x])=withK c l++[c]++[x]:=by
 unfold withK
 rw[putB_snoc,h,if_pos (by simpa using hx),if_neg (by simp),with_now hx h]
theorem withK_not {c x:Cell}{l:List Cell}(h:putB c l=false)(hx:¬c.cmp x < 0):withK c (l++[x])=withK c l++[x]:=by
 unfold withK
 rw[putB_snoc,h,if_neg (by simpa using hx),if_neg (by simp)]
theorem with_ins {c:Cell}:∀{l:List Cell},hasB (cellTo c) l=false→withL c l=insAt l (posB (cellTo c) l) c
 | [],_=>rfl
 | x :: l,h=>by
  by_cases hx:x.cmp c < 0
  ·have hp:posB (cellTo c) (x :: l)=posB (cellTo c) l+1:=by
    unfold posB
    rw[List.takeWhile_cons,if_pos (show decide (cellTo c x < 0)=true from decide_eq_true hx)];rfl
   have hh:hasB (cellTo c) l=false:=by
    unfold hasB at h ⊢
    rw[hp,List.getElem?_cons_succ]at h
    exact h
   have hn:¬c.cmp x < 0:=fun hc=>by have:=cmpL_anti.1 hc;unfold Cell.cmp at hx;omega
   rw[hp,withL,if_neg hn,with_ins hh];rfl
  ·have hp:posB (cellTo c) (x :: l)=0:=by
    unfold posB
    rw[List.takeWhile_cons,if_neg (show ¬decide (cellTo c x < 0)=true from fun h=>hx (of_decide_eq_true h))];rfl
   have h0:x.cmp c≠0:=by
    unfold hasB at h
    rw[hp]at h
    simpa[cellTo] using h
   have hn:c.cmp x < 0:=cmpL_anti.2 (show 0 < cmpL x.nums c.nums by unfold Cell.cmp at hx h0;omega)
   rw[hp,withL,if_pos hn];rfl
theorem cell_cmp0 {x c:Cell}(h:x.cmp c=0):x=c:=by
 have h1:=cmpL_eq.1 h
 obtain⟨a1,a2,a3,a4,a5⟩:=x
 obtain⟨b1,b2,b3,b4,b5⟩:=c
 simpa[Cell.nums] using h1
theorem has_mem {c:Cell}:∀{l:List Cell},l.Pairwise (fun a b=>a.cmp b < 0)→hasB (cellTo c) l=decide (c∈l)
 | [],_=>by simp[hasB]
 | x :: l,h=>by
  have hc0:c.cmp c=0:=cmpL_eq.2 rfl
  obtain⟨h1,h2⟩:=List.pairwise_cons.1 h
  by_cases hx:x.cmp c < 0
  ·have hp:posB (cellTo c) (x :: l)=posB (cellTo c) l+1:=by
    unfold posB
    rw[List.takeWhile_cons,if_pos (show decide (cellTo c x < 0)=true from decide_eq_true hx)];rfl
   have hh:hasB (cellTo c) (x :: l)=hasB (cellTo c) l:=by
    unfold hasB
    rw[hp,List.getElem?_cons_succ]
   have hne:c≠x:=by rintro rfl;omega
   rw[hh,has_mem h2]
   simp[hne]
  ·have hp:posB (cellTo c) (x :: l)=0:=by
    unfold posB
    rw[List.takeWhile_cons,if_neg (show ¬decide (cellTo c x < 0)=true from fun h=>hx (of_decide_eq_true h))];rfl
   have hh:hasB (cellTo c) (x :: l)=(x.cmp c==0):=by
    unfold hasB
    rw[hp];rfl
   rw[hh,Bool.eq_iff_iff]
   simp only[beq_iff_eq,decide_eq_true_eq,List.mem_cons]
   constructor
   ·intro h;exact .inl (cell_cmp0 h).symm
   ·rintro (rfl|hm)
    ·exact hc0
    ·exact absurd (h1 c hm) hx
def cellEqB (a b:Cell):Bool:=a.slot==b.slot&&(a.off==b.off&&(a.src==b.src&&(a.dst==b.dst&&(a.flow==b.flow&&true))))
theorem cellEqB_iff {a b:Cell}:cellEqB a b=true↔a=b:=by
 obtain⟨c1,c2,c3,c4,c5⟩:=a
 obtain⟨d1,d2,d3,d4,d5⟩:=b
 simp[cellEqB]
theorem inv_snoc {α:Type}{p:α→Bool}{l:List α}{k:Nat}{a:α}(h:∀(j:Nat) y,j < k→l[j]? = some y→p y=false)(hk:l[k]? = some a)(ha:p a=false):∀(j:Nat) y,j < k+1→l[j]? = some y→p y=false:=by
 intro j y hj hy
 rcases Nat.lt_succ_iff_lt_or_eq.1 hj with hl|rfl
 ·exact h j y hl hy
 ·rw[hk]at hy;injection hy with hy;rw[←hy];exact ha
structure Brc where
 flow:Int
 frame:Int
 src:Int
 dst:Int
 slots:List Int
 deriving DecidableEq
def Brc.key (b:Brc):List Int:=[b.flow,b.frame,b.src,b.dst]
def Brc.of (k:List Int)(s:List Int):Brc:=⟨k.getD 0 0,k.getD 1 0,k.getD 2 0,k.getD 3 0,s⟩
def Att.key (a:Att):List Int:=[a.cell.flow,a.frame,a.cell.src,a.cell.dst]
theorem of_key (a:Att)(s:List Int):(Brc.of a.key s).key=a.key:=rfl
theorem of_self (b:Brc):Brc.of b.key b.slots=b:=rfl
def brS (k:List Int)(loss:Int)(st:List Int×Option (List Int))(a:Att):List Int×Option (List Int):=
 if a.key=k∧st.2=none then(if a.out=1 then([],none) else(st.1++[a.slot],if loss < (st.1.length+1:Nat) then some (st.1++[a.slot]) else none)) else st
def brk (k:List Int)(loss:Int)(ats:List Att):List Int×Option (List Int):=ats.foldl (brS k loss) ([],none)
theorem brk_snoc (k:List Int)(loss:Int)(ats:List Att)(a:Att):brk k loss (ats++[a])=brS k loss (brk k loss ats) a:=by simp[brk]
def linkK (n:Net)(k:List Int):Int:=findL n (k.getD 2 0) (k.getD 3 0)
def lossK (n:Net)(k:List Int):Int:=lossL n (k.getD 2 0) (k.getD 3 0)
theorem brS_done {k:List Int}{loss:Int}{st:List Int×Option (List Int)}{a:Att}(h:st.2≠none):brS k loss st a=st:=by rw[brS,if_neg (fun hh=>h hh.2)]
def laterB (b x:Brc):Bool:=decide (cmpL b.key x.key < 0)
def insBr (b:Brc)(l:List Brc):List Brc:=(l.reverse.dropWhile (laterB b)).reverse++b :: (l.reverse.takeWhile (laterB b)).reverse
def brcOf (n:Net)(ats:List Att)(i:Nat)(a:Att):Option (List Int):=if ((ats.take i).any fun b=>b.key==a.key)=true∨linkK n a.key < 0 then none else(brk a.key (lossK n a.key) ats).2
def refB (n:Net)(ats:List Att):Nat→List Brc
 | 0=>[]
 | i+1=>match ats[i]? with
  | none=>refB n ats i
  | some a=>match brcOf n ats i a with
   | none=>refB n ats i
   | some s=>insBr (Brc.of a.key s) (refB n ats i)
theorem insBr_mem {b:Brc}{l:List Brc}{x:Brc}:x∈insBr b l↔x∈l∨x=b:=by
 have e2:=List.takeWhile_append_dropWhile (p:=laterB b) (l:=l.reverse)
 have e3:x∈l↔x∈l.reverse.takeWhile (laterB b)∨x∈l.reverse.dropWhile (laterB b):=by rw[←List.mem_append,e2,List.mem_reverse]
 unfold insBr
 rw[e3]
 simp only[List.mem_append,List.mem_reverse,List.mem_cons]
 constructor
 ·rintro (h|h|h)
  ·exact .inl (.inr h)
  ·exact .inr h
  ·exact .inl (.inl h)
 ·rintro ((h|h)|h)
  ·exact .inr (.inr h)
  ·exact .inl h
  ·exact .inr (.inl h)
def IsB (n:Net)(ats:List Att)(m:List Att)(x:Brc):Prop:=(∃a∈m,a.key=x.key)∧0≤linkK n x.key∧(brk x.key (lossK n x.key) ats).2=some x.slots
theorem refB_mem {n:Net}{ats:List Att}:∀{i:Nat},i≤ats.length→∀{x:Brc},x∈refB n ats i↔IsB n ats (ats.take i) x
 | 0,_,x=>by simp[refB,IsB]
 | i+1,hi,x=>by
  have ih:=fun x=>refB_mem (n:=n) (ats:=ats) (i:=i) (by omega) (x:=x)
  obtain⟨a,ha⟩:∃a,ats[i]? = some a:=⟨_,List.getElem?_eq_getElem (by omega)⟩
  have ht:=take_succ ha
  simp only[refB,ha]
  have hold:IsB n ats (ats.take i) x→IsB n ats (ats.take (i+1)) x:=fun⟨⟨y,hy,e⟩,h2,h3⟩=>⟨⟨y,by rw[ht];simp[hy],e⟩,h2,h3⟩
  unfold brcOf
  by_cases hc:((ats.take i).any fun b=>b.key==a.key)=true∨linkK n a.key < 0
  ·rw[if_pos hc]
   simp only
   rw[ih x]
   refine⟨hold,fun⟨⟨y,hy,e⟩,h2,h3⟩=>⟨?_,h2,h3⟩⟩
   rw[ht]at hy
   rcases List.mem_append.1 hy with hy|hy
   ·exact⟨y,hy,e⟩
   ·simp at hy;subst hy
    rcases hc with hc|hc
    ·obtain⟨z,hz,ez⟩:=List.any_eq_true.1 hc
     exact⟨z,hz,by rw[←e];simpa using ez⟩
    ·rw[e]at hc;omega
  ·rw[if_neg hc]
   cases hb:(brk a.key (lossK n a.key) ats).2 with
   | none=>
    simp only
    rw[ih x]
    refine⟨hold,fun⟨⟨y,hy,e⟩,h2,h3⟩=>⟨?_,h2,h3⟩⟩
    rw[ht]at hy
    rcases List.mem_append.1 hy with hy|hy
    ·exact⟨y,hy,e⟩
    ·simp at hy;subst hy
     rw[←e,hb]at h3;cases h3
   | some s=>
    simp only
    rw[insBr_mem,ih x]
    constructor
    ·rintro (h|rfl)
     ·exact hold h
     ·refine⟨⟨a,by rw[ht];simp,rfl⟩,?_,hb⟩
      rw[of_key]
      rcases Int.lt_or_le (linkK n a.key) 0 with hh|hh
      ·exact absurd (.inr hh) hc
      ·exact hh
    ·rintro⟨⟨y,hy,e⟩,h2,h3⟩
     rw[ht]at hy
     rcases List.mem_append.1 hy with hy|hy
     ·exact .inl ⟨⟨y,hy,e⟩,h2,h3⟩
     ·simp at hy;subst hy
      right
      rw[←e,hb]at h3
      injection h3 with h3
      rw[h3,e,of_self]
theorem nodup_len {l:List Nat}{n:Nat}(h:l.Nodup)(hl:∀i∈l,i < n):l.length≤n:=by
 have hp:l.Perm ((List.range n).filter fun i=>decide (i∈l)):=(List.perm_ext_iff_of_nodup h (List.nodup_range.filter _)).2 fun i=>by
  simp only[List.mem_filter,List.mem_range,decide_eq_true_eq]
  exact⟨fun hi=>⟨hl i hi,hi⟩,fun hi=>hi.2⟩
 rw[hp.length_eq]
 exact Nat.le_trans (List.length_filter_le _ _) (by simp)
mutual
theorem AV.ren_fz (π:Nat→Nat):∀(e:AV) {e':AV},fz e=some e'→e.ren π=e
 | .fn f caps,_,h=>by
  simp only[fz,Option.map_eq_some_iff]at h
  obtain⟨cs,h,_⟩:=h
  simp only[AV.ren,rens_fz π caps h]
 | .agg cs,_,h=>by
  simp only[fz,Option.map_eq_some_iff]at h
  obtain⟨cs',h,_⟩:=h
  simp only[AV.ren,rens_fz π cs h]
 | .tup cs,_,h=>by
  simp only[fz,Option.map_eq_some_iff]at h
  obtain⟨cs',h,_⟩:=h
  simp only[AV.ren,rens_fz π cs h]
 | .int _ _,_,_=>rfl
 | .bool _,_,_=>rfl
 | .str _,_,_=>rfl
 | .nils,_,_=>rfl
 | .nilp,_,_=>rfl
 | .nili,_,_=>rfl
 | .nilm,_,_=>rfl
 | .sl _ _,_,_=>rfl
 | .own _ _,_,_=>rfl
 | .cptr _ _,_,_=>rfl
 | .cmp _ _ _,_,_=>rfl
 | .undef,_,_=>rfl
 | .grown _ _,_,h=>by simp[fz]at h
 | .bsl _ _ _ _,_,h=>by simp[fz]at h
 | .vsl _ _ _ _,_,h=>by simp[fz]at h
 | .ptr _ _,_,h=>by simp[fz]at h
 | .yld _,_,h=>by simp[fz]at h
 | .mp _,_,h=>by simp[fz]at h
theorem rens_fz (π:Nat→Nat):∀(es:List AV) {es':List AV},fzs es=some es'→rens π es=es
 | [],_,_=>rfl
 | e :: es,_,h=>by
  simp only[fzs]at h
  split at h
  ·rename_i a b h1 h2
   simp only[rens,AV.ren_fz π e h1,rens_fz π es h2]
  ·cases h
end
def brcsM (n:Net)(r:RunL):List Brc:=if netE n=0 then refB n r.atts r.atts.length else []
theorem brk_stop {k:List Int}{loss:Int}{pre post:List Att}:∀s,(brk k loss pre).2=some s→(brk k loss (pre++post)).2=some s:=by
 induction post generalizing pre with
 | nil=>intro s h;simpa using h
 | cons a l ih=>
  intro s h
  have:=ih (pre:=pre++[a]) s (by rw[brk_snoc,brS_done (by rw[h];simp)];exact h)
  simpa using this
open Go Go.RowKit
def distC (n:Net)(rest:List Cell)(node:Int):Int:=sumW (fun d:Cell=>powN n d.src node+powN n d.dst node) rest
def faultyC (n:Net)(c:Cell)(rest:List Cell):Bool:=
 if goodL n c.src c.dst=false then true else if rest.any (touchB c) then true
  else if heardB n (marginAt n c.src c.dst) (distC n rest c.dst)=false then true else !heardB n (marginAt n c.dst c.src) (distC n rest c.src)
theorem erase_take {α:Type}{l:List α}{k i:Nat}{x:α}(h:l[k]? = some x):(l.take (k+1)).eraseIdx i=(l.take k).eraseIdx i++if k=i then [] else [x]:=by
 rw[take_succ h]
 have hk:k < l.length:=(List.getElem?_eq_some_iff.1 h).1
 have hl:(l.take k).length=k:=by rw[List.length_take];omega
 rcases Nat.lt_trichotomy k i with hlt|rfl|hgt
 ·rw[List.eraseIdx_of_length_le (by rw[List.length_append,hl];simp;omega),List.eraseIdx_of_length_le (by omega),if_neg (by omega)]
 ·rw[List.eraseIdx_append_of_length_le (by omega),hl,List.eraseIdx_of_length_le (l:=l.take k) (by omega),if_pos rfl];simp
 ·rw[List.eraseIdx_append_of_lt_length (by omega),if_neg (by omega)]
theorem distU_rest (n:Net)(cs:List Cell)(i:Nat)(node:Int):∀k:Nat,k≤cs.length→distU n cs i node k=distC n ((cs.take k).eraseIdx i) node
 | 0,_=>by simp[distU,distC,sumW]
 | k+1,hk=>by
  obtain⟨x,hx⟩:=getLt (l:=cs) (k:=k) (by omega)
  rw[distU_succ,distU_rest n cs i node k (by omega),erase_take hx]
  unfold distC distAt
  rw[sumW_app,hx]
  simp only
  congr 1
  split
  ·rfl
  ·simp[sumW]
theorem distM_rest (n:Net)(cs:List Cell)(i:Nat)(node:Int):distM n cs i node=distC n (cs.eraseIdx i) node:=by
 unfold distM
 rw[distU_rest n cs i node _ (Nat.le_refl _),List.take_length]
theorem touch_rest (cs:List Cell)(c:Cell)(i:Nat):∀k:Nat,k≤cs.length→(List.range k).any (touchAt cs c i)=((cs.take k).eraseIdx i).any (touchB c)
 | 0,_=>by simp
 | k+1,hk=>by
  obtain⟨x,hx⟩:=getLt (l:=cs) (k:=k) (by omega)
  rw[List.range_succ,List.any_append,touch_rest cs c i k (by omega),erase_take hx,List.any_append]
  congr 1
  simp only[List.any_cons,List.any_nil,Bool.or_false]
  unfold touchAt
  rw[hx]
  simp only
  by_cases h:k=i
  ·subst h;simp
  ·rw[if_neg h];simp[h]
theorem faultyM_rest {n:Net}{cs:List Cell}{i:Nat}{c:Cell}(h:cs[i]? = some c):faultyM n cs i=faultyC n c (cs.eraseIdx i):=by
 unfold faultyM faultyC
 rw[h]
 simp only
 have:=touch_rest cs c i _ (Nat.le_refl _)
 rw[List.take_length]at this
 rw[this,distM_rest,distM_rest]
theorem goodM_iff {n:Net}{cs:List Cell}:goodM n cs=true↔netE n=0∧∀(i:Nat) (c:Cell),cs[i]? = some c→faultyC n c (cs.eraseIdx i)=false:=by
 unfold goodM
 rw[Bool.and_eq_true,decide_eq_true_eq,Bool.not_eq_true',List.any_eq_false]
 refine and_congr_right fun _=>⟨fun h i c hc=>?_,fun h i hi=>?_⟩
 ·have:=h i (List.mem_range.2 (List.getElem?_eq_some_iff.1 hc).1)
  rw[faultyM_rest hc]at this
  simpa using this
 ·obtain⟨c,hc⟩:=getLt (List.mem_range.1 hi)
  rw[faultyM_rest hc,h i c hc];simp
theorem sum_permI {a b:List Int}(h:a.Perm b):a.sum=b.sum:=by
 induction h with
 | nil=>rfl
 | cons x _ ih=>simp only[List.sum_cons,ih]
 | swap x y l=>simp only[List.sum_cons];omega
 | trans _ _ h1 h2=>exact h1.trans h2
theorem faultyC_perm {n:Net}{c c':Cell}(hs:c.src=c'.src)(hd:c.dst=c'.dst){r r':List Cell}(h:(r.map fun d=>(d.src,d.dst)).Perm (r'.map fun d=>(d.src,d.dst))):faultyC n c r=faultyC n c' r':=by
 have e1:∀node,distC n r node=distC n r' node:=fun node=>by
  have g:∀l:List Cell,distC n l node=((l.map fun d=>(d.src,d.dst)).map fun p:Int×Int=>powN n p.1 node+powN n p.2 node).sum:=fun l=>by
   unfold distC
   induction l with
   | nil=>rfl
   | cons x l ih=>simp only[List.map_cons,List.sum_cons,←ih];rfl
  rw[g,g];exact sum_permI (h.map _)
 have e2:r.any (touchB c)=r'.any (touchB c'):=by
  have g:∀(l:List Cell) (x:Cell),l.any (touchB x)=(l.map fun d=>(d.src,d.dst)).any fun p:Int×Int=>x.src==p.1||x.src==p.2||x.dst==p.1||x.dst==p.2:=fun l x=>by
   rw[List.any_map];rfl
  rw[g,g,hs,hd]
  exact h.any_eq
 unfold faultyC
 rw[hs,hd,e2,e1,e1]
theorem goodM_rot {n:Net}{l:List Cell}{c c':Cell}(hs:c.src=c'.src)(hd:c.dst=c'.dst):goodM n (l++[c])=goodM n (c' :: l):=by
 rw[Bool.eq_iff_iff,goodM_iff,goodM_iff]
 refine and_congr_right fun _=>⟨fun h i x hx=>?_,fun h i x hx=>?_⟩
 ·cases i with
  | zero=>
   simp at hx
   subst hx
   have:=h l.length c (by simp)
   rw[List.eraseIdx_append_of_length_le (Nat.le_refl _)]at this
   simp at this
   rw[←this]
   exact(faultyC_perm hs hd (by simp)).symm
  | succ i=>
   have hx2:l[i]? = some x:=by simpa using hx
   have hi:=(List.getElem?_eq_some_iff.1 hx2).1
   have:=h i x (by rw[List.getElem?_append_left hi];exact hx2)
   rw[List.eraseIdx_append_of_lt_length hi]at this
   rw[←this]
   refine faultyC_perm rfl rfl ?_
   simp only[List.eraseIdx_cons_succ,List.map_cons,List.map_append,List.map_nil]
   rw[hs,hd]
   exact(List.perm_append_singleton _ _).symm
 ·rcases Nat.lt_or_ge i l.length with hi|hi
  ·have hx2:l[i]? = some x:=by rw[List.getElem?_append_left hi]at hx;exact hx
   have:=h (i+1) x (by simpa using hx2)
   rw[←this]
   refine faultyC_perm rfl rfl ?_
   rw[List.eraseIdx_append_of_lt_length hi]
   simp only[List.eraseIdx_cons_succ,List.map_cons,List.map_append,List.map_nil]
   rw[hs,hd]
   exact List.perm_append_singleton _ _
  ·have hi2:i=l.length:=by
    have:=(List.getElem?_eq_some_iff.1 hx).1
    simp at this;omega
   subst hi2
   have hxc:x=c:=by simpa using hx.symm
   subst hxc
   have:=h 0 c' rfl
   rw[List.eraseIdx_append_of_length_le (Nat.le_refl _)]
   simp only[Nat.sub_self,List.eraseIdx_cons_zero,List.append_nil]
   rw[←this]
   exact faultyC_perm hs hd (by simp)
open Go Go.RowKit
def touL (a b:Int)(c:Cell):Bool:=c.src==a||c.src==b||c.dst==a||c.dst==b
def freeS (s:Sched)(a b slot:Int):Bool:=!(s.cells.any fun c=>c.slot==slot&&touL a b c)
def ownS (s:Sched)(slot off:Int):List Cell:=s.cells.filter fun c=>c.slot==slot&&c.off==off
def fitsM (n:Net)(s:Sched)(c:Cell):Bool:=freeS s c.src c.dst c.slot&&goodM n (c :: ownS s c.slot c.off)
theorem fits_prog {n:Net}{s:Sched}{a b slot off fl:Int}:fitsM n s ⟨slot,off,a,b,fl⟩=(freeS s a b slot&&goodM n (((s.cells.filter fun c=>c.slot==slot).filter fun c=>!(c.off != off))++[⟨0,0,a,b,0⟩])):=by
 unfold fitsM ownS
 rw[goodM_rot (c:=⟨0,0,a,b,0⟩) (c':=⟨slot,off,a,b,fl⟩) rfl rfl,List.filter_filter]
 simp only
 congr 3
 refine List.filter_congr fun c _=>?_
 rw[bne,Bool.not_not,Bool.and_comm]
def cellR (a b:Int)(slot off:Nat):Cell:=⟨slot,off,a,b,0⟩
def roomO (n:Net)(s:Sched)(a b:Int)(slot j:Nat):List Cell:=((List.range j).filter fun o=>fitsM n s (cellR a b slot o)).map (cellR a b slot)
def roomS (n:Net)(s:Sched)(a b:Int)(k:Nat):List Cell:=(List.range k).flatMap fun slot=>roomO n s a b slot s.offs.toNat
theorem roomO_succ (n:Net)(s:Sched)(a b:Int)(slot j:Nat):roomO n s a b slot (j+1)=roomO n s a b slot j++if fitsM n s (cellR a b slot j)=true then [cellR a b slot j] else []:=by
 unfold roomO
 rw[List.range_succ,List.filter_append,List.map_append]
 congr 1
 simp only[List.filter_cons,List.filter_nil]
 split<;>rfl
theorem roomS_succ (n:Net)(s:Sched)(a b:Int)(k:Nat):roomS n s a b (k+1)=roomS n s a b k++roomO n s a b k s.offs.toNat:=by
 simp[roomS,List.range_succ]
theorem roomO_len (n:Net)(s:Sched)(a b:Int)(slot j:Nat):(roomO n s a b slot j).length≤j:=by
 unfold roomO
 rw[List.length_map]
 exact Nat.le_trans (List.length_filter_le _ _) (by rw[List.length_range];exact Nat.le_refl _)
theorem roomO_none {n:Net}{s:Sched}{a b:Int}{slot j:Nat}(h:freeS s a b slot=false):roomO n s a b slot j=[]:=by
 unfold roomO
 rw[List.filter_eq_nil_iff.2 fun o _=>?_];rfl
 unfold fitsM cellR
 simp[h]
theorem roomS_len (n:Net)(s:Sched)(a b:Int):∀k:Nat,(roomS n s a b k).length≤k*s.offs.toNat
 | 0=>by simp[roomS]
 | k+1=>by
  have:=roomS_len n s a b k
  have:=roomO_len n s a b k s.offs.toNat
  rw[roomS_succ,List.length_append,Nat.add_mul];omega
def roomM (n:Net)(s:Sched)(l:Link):List Cell×Int:=
 if netE n≠0∨formB s=false then([],1) else if goodL n l.src l.dst=false then([],7)
 else if 1024 < (roomS n s l.src l.dst s.len.toNat).length then([],8) else(roomS n s l.src l.dst s.len.toNat,0)
def dropM (s:Sched)(id:Int):Sched×Int:=if formB s=false then(⟨0,0,[]⟩,1) else(⟨s.len,s.offs,s.cells.filter fun c=>c.flow != id⟩,0)
open Go Go.RowKit
def AllRest {α:Type}(P:α→List α→Prop)(cs:List α):Prop:=∀(i:Nat) c,cs[i]? = some c→P c (cs.eraseIdx i)
theorem erase_perm {α:Type}{cs:List α}{i:Nat}{c:α}(h:cs[i]? = some c):cs.Perm (c :: cs.eraseIdx i):=by
 obtain⟨hi,rfl⟩:=List.getElem?_eq_some_iff.1 h
 rw[List.eraseIdx_eq_take_drop_succ]
 have e:cs=cs.take i++cs[i] :: cs.drop (i+1):=by rw[←List.drop_eq_getElem_cons hi,List.take_append_drop]
 exact(List.Perm.of_eq e).trans List.perm_middle
theorem AllRest.perm {α:Type}{P:α→List α→Prop}(hP:∀c r r',r.Perm r'→P c r→P c r'){cs cs':List α}(h:AllRest P cs)(hp:cs.Perm cs'):AllRest P cs':=fun j c hj=>by
 obtain⟨i,hi⟩:=List.getElem?_of_mem (hp.mem_iff.2 (List.mem_of_getElem? hj))
 refine hP c _ _ ?_ (h i c hi)
 exact List.Perm.cons_inv ((erase_perm hi).symm.trans (hp.trans (erase_perm hj)))
def heardC (n:Net)(c:Cell)(rest:List Cell):Prop:=heardB n (marginAt n c.src c.dst) (distC n rest c.dst)=true∧heardB n (marginAt n c.dst c.src) (distC n rest c.src)=true
theorem distC_perm {n:Net}{r r':List Cell}(h:r.Perm r')(node:Int):distC n r node=distC n r' node:=by
 have g:∀l:List Cell,distC n l node=(l.map fun d=>powN n d.src node+powN n d.dst node).sum:=fun l=>by
  unfold distC
  induction l with
  | nil=>rfl
  | cons x l ih=>simp only[List.map_cons,List.sum_cons,←ih];rfl
 rw[g,g]
 exact sum_permI (h.map _)
theorem heardC_perm {n:Net}{c:Cell}{r r':List Cell}(h:r.Perm r')(hc:heardC n c r):heardC n c r':=by
 unfold heardC at hc ⊢
 rw[←distC_perm h,←distC_perm h];exact hc
theorem faultyC_iff {n:Net}{c:Cell}{r:List Cell}:faultyC n c r=false↔goodL n c.src c.dst=true∧(∀d∈r,touchB c d=false)∧heardC n c r:=by
 unfold faultyC heardC
 constructor
 ·intro h
  split at h
  ·cases h
  rename_i h1
  split at h
  ·cases h
  rename_i h2
  split at h
  ·cases h
  rename_i h3
  exact⟨by simpa using h1,fun d hd=>by simpa using List.any_eq_false.1 (Bool.eq_false_iff.2 h2) d hd,by simpa using h3,by simpa using h⟩
 ·rintro⟨h1,h2,h3,h4⟩
  have h5:r.any (touchB c)=false:=List.any_eq_false.2 fun d hd=>by rw[h2 d hd];simp
  rw[h1,h5,h3,h4];simp
theorem filter_erase {α:Type}{p:α→Bool}{cs:List α}{i:Nat}{c:α}(h:cs[i]? = some c)(hp:p c=true):(cs.filter p).eraseIdx ((cs.take i).filter p).length=(cs.eraseIdx i).filter p∧(cs.filter p)[((cs.take i).filter p).length]? = some c:=by
 obtain⟨hi,rfl⟩:=List.getElem?_eq_some_iff.1 h
 have e:cs.filter p=(cs.take i).filter p++cs[i] :: (cs.drop (i+1)).filter p:=by
  have e0:cs=cs.take i++cs[i] :: cs.drop (i+1):=by rw[←List.drop_eq_getElem_cons hi,List.take_append_drop]
  conv=>lhs;rw[e0]
  rw[List.filter_append,List.filter_cons,if_pos hp]
 rw[e]
 refine⟨?_,by simp⟩
 rw[List.eraseIdx_append_of_length_le (Nat.le_refl _),Nat.sub_self,List.eraseIdx_cons_zero,List.eraseIdx_eq_take_drop_succ,List.filter_append]
theorem disturb_iff {n:Net}{cs:List Cell}{i:Nat}{c:Cell}(h:cs[i]? = some c):disturbB n cs i=false↔heardC n c ((cs.eraseIdx i).filter (shareB c)):=by
 have hs:shareB c c=true:=by unfold shareB;simp
 have:=(filter_erase (p:=shareB c) h hs).1
 unfold disturbB heardC
 rw[h]
 simp only[distM_rest,shareL,shareAt]
 rw[this]
 simp
def cellR2 (n:Net)(c:Cell)(rest:List Cell):Prop:=(∀d∈rest,d.slot=c.slot→touchB c d=false)∧heardC n c (rest.filter (shareB c))
theorem cellR2_perm {n:Net}(c:Cell)(r r':List Cell)(h:r.Perm r')(hc:cellR2 n c r):cellR2 n c r':=⟨fun d hd=>hc.1 d (h.mem_iff.2 hd),heardC_perm (h.filter _) hc.2⟩
theorem VOk.rest {n:Net}{l:List Flow}{s:Sched}(h:VOk n l s):AllRest (cellR2 n) s.cells:=fun i c hc=>by
 refine⟨fun d hd hs=>?_,(disturb_iff hc).1 (h.heard i (List.getElem?_eq_some_iff.1 hc).1)⟩
 obtain⟨j,hj⟩:=List.getElem?_of_mem hd
 rw[List.getElem?_eraseIdx]at hj
 split at hj
 ·exact h.apart hc hj (by omega) hs.symm
 ·exact h.apart hc hj (by omega) hs.symm
theorem schedE_of {n:Net}{l:List Flow}{s:Sched}(hn:netE n=0)(hf:(flowsE n.nodes l).2=0)(hz:sizedB s=true)(hp:∀f∈l,s.len % f.period=0)(hm:s.cells.length≤512)(hc:∀(i:Nat) c,s.cells[i]? = some c→placedB s c=true∧goodL n c.src c.dst=true∧idsB l c.flow=true∧ordC s.cells i c=true)(hr:AllRest (cellR2 n) s.cells):(schedE n l s).2=0:=by
 have h5:(firstAt (cellF n l s) s.cells.length).2=0:=by
  rw[firstAt_ok]
  intro i hi
  obtain⟨c,hg⟩:=getLt hi
  obtain⟨q1,q2,q3,q4⟩:=hc i c hg
  unfold cellF
  rw[hg]
  simp[q1,q2,q3,q4]
 have h6:(firstAt (twI s.cells) s.cells.length).2=0:=by
  rw[firstAt_ok]
  intro i hi
  obtain⟨c,hg⟩:=getLt hi
  unfold twI
  have:twiceM s.cells i=false:=by
   unfold twiceM
   rw[hg]
   refine List.any_eq_false.2 fun j hj=>?_
   have hj:=List.mem_range.1 hj
   obtain⟨d,hd⟩:=getLt (l:=s.cells) (k:=j) (by omega)
   unfold twAt
   rw[hd]
   have hmem:d∈s.cells.eraseIdx i:=List.mem_of_getElem? (i:=j) (by rw[List.getElem?_eraseIdx,if_pos hj];exact hd)
   have:=(hr i c hg).1 d hmem
   by_cases e:d.slot=c.slot
   ·simp[this e]
   ·simp[e]
  rw[this];rfl
 have h7:(firstAt (dsI n s.cells) s.cells.length).2=0:=by
  rw[firstAt_ok]
  intro i hi
  obtain⟨c,hg⟩:=getLt hi
  unfold dsI
  rw[(disturb_iff hg).2 (hr i c hg).2];rfl
 unfold schedE
 rw[if_neg (by omega),if_neg (by rw[hz];simp),if_neg (by
  intro h
  obtain⟨f,hf1,hf2⟩:=List.any_eq_true.1 h
  unfold mism at hf2
  rw[hp f hf1]at hf2
  simp at hf2),if_neg (by omega),if_neg (by omega),if_neg (by omega)]
 exact h7
open Go Go.RowKit
theorem touL_touch {a:Cell}{c:Cell}:touL c.src c.dst a=touchB c a:=by
 unfold touL touchB
 rw[Bool.eq_iff_iff]
 simp only[Bool.or_eq_true,beq_iff_eq]
 constructor
 ·rintro (((h|h)|h)|h)<;>simp[h]
 ·rintro (((h|h)|h)|h)<;>simp[h]
theorem freeS_iff {s:Sched}{c:Cell}:freeS s c.src c.dst c.slot=true↔∀d∈s.cells,d.slot=c.slot→touchB c d=false:=by
 unfold freeS
 rw[Bool.not_eq_true',List.any_eq_false]
 constructor
 ·intro h d hd hs
  have:=h d hd
  rw[touL_touch]at this
  cases ht:touchB c d with
  | false=>rfl
  | true=>simp[hs,ht]at this
 ·intro h d hd
  rw[touL_touch]
  by_cases hs:d.slot=c.slot
  ·simp[h d hd hs]
  ·simp[hs]
open Go Go.RowKit
theorem fits_flow {n:Net}{s:Sched}{a b slot off fl fm:Int}:fitsM n s ⟨slot,off,a,b,fl⟩=fitsM n s ⟨slot,off,a,b,fm⟩:=by rw[fits_prog,fits_prog]
theorem fits_new {n:Net}{s:Sched}{c:Cell}(h:fitsM n s c=true):∀d∈s.cells,¬(d.slot=c.slot∧touchB c d=true):=by
 unfold fitsM at h
 rw[Bool.and_eq_true,freeS_iff]at h
 rintro d hd ⟨h1,h2⟩
 rw[h.1 d hd h1]at h2
 cases h2
open Go Go.RowKit
def hasF (s:Sched)(a b id slot:Int):Bool:=s.cells.any fun c=>c.slot==slot&&(c.src==a&&(c.dst==b&&c.flow==id))
def roomF (n:Net)(s:Sched)(a b slot:Int):Option Nat:=(List.range s.offs.toNat).find? fun o=>fitsM n s ⟨slot,o,a,b,0⟩
def putM (s:Sched)(c:Cell):Sched:=⟨s.len,s.offs,insAt s.cells (posC s c) c⟩
def slotM (n:Net)(s:Sched)(a b id slot:Int):Sched×Bool:=
 if hasF s a b id slot then(s,true) else match roomF n s a b slot with
  | some o=>(putM s ⟨slot,o,a,b,id⟩,true)
  | none=>(s,false)
def fillM (n:Net)(a b id:Int):Nat→Sched→Nat→Int→Sched×Nat×Int
 | 0,s,left,t=>(s,left,t)
 | d+1,s,left,t=>if left=0 then(s,left,t) else fillM n a b id d (slotM n s a b id (t % s.len)).1 (if (slotM n s a b id (t % s.len)).2=true then left-1 else left) (t+1)
theorem fillM_stop (n:Net)(a b id:Int):∀(d:Nat) (s:Sched) (t:Int),fillM n a b id d s 0 t=(s,0,t)
 | 0,_,_=>rfl
 | _+1,_,_=>by rw[fillM,if_pos rfl]
theorem slotM_len (n:Net)(s:Sched)(a b id slot:Int):(slotM n s a b id slot).1.len=s.len∧(slotM n s a b id slot).1.offs=s.offs:=by
 unfold slotM putM
 split
 ·exact⟨rfl,rfl⟩
 ·split<;>exact⟨rfl,rfl⟩
theorem insAt_len1 {α:Type}(l:List α)(p:Nat)(x:α):(insAt l p x).length=l.length+1:=by
 unfold insAt
 simp only[List.length_append,List.length_take,List.length_cons,List.length_drop]
 omega
theorem fillM_len (n:Net)(a b id:Int):∀(d:Nat) (s:Sched) (left:Nat) (t:Int),(fillM n a b id d s left t).1.len=s.len∧(fillM n a b id d s left t).1.offs=s.offs
 | 0,_,_,_=>⟨rfl,rfl⟩
 | d+1,s,left,t=>by
  rw[fillM]
  split
  ·exact⟨rfl,rfl⟩
  ·have h1:=fillM_len n a b id d (slotM n s a b id (t % s.len)).1 (if (slotM n s a b id (t % s.len)).2=true then left-1 else left) (t+1)
   have h2:=slotM_len n s a b id (t % s.len)
   exact⟨h1.1.trans h2.1,h1.2.trans h2.2⟩
theorem slotM_cells2 (n:Net)(s:Sched)(a b id slot:Int):(slotM n s a b id slot).1.cells.length≤s.cells.length+(if (slotM n s a b id slot).2=true then 1 else 0):=by
 unfold slotM putM
 split
 ·simp
 ·split
  ·simp only[insAt_len1];simp
  ·simp
theorem fillM_cells (n:Net)(a b id:Int):∀(d:Nat) (s:Sched) (left:Nat) (t:Int),(fillM n a b id d s left t).1.cells.length+(fillM n a b id d s left t).2.1≤s.cells.length+left
 | 0,_,_,_=>Nat.le_refl _
 | d+1,s,left,t=>by
  rw[fillM]
  split
  ·exact Nat.le_refl _
  ·rename_i h0
   have h1:=fillM_cells n a b id d (slotM n s a b id (t % s.len)).1 (if (slotM n s a b id (t % s.len)).2=true then left-1 else left) (t+1)
   have h2:=slotM_cells2 n s a b id (t % s.len)
   refine Nat.le_trans h1 ?_
   by_cases h:(slotM n s a b id (t % s.len)).2=true
   ·rw[if_pos h]at h2 ⊢;omega
   ·rw[if_neg h]at h2 ⊢;omega
def relA (n:Net)(f:Flow)(r:List Int)(stop:Int):Nat→Sched→Int→Option (Sched×Int)
 | 0,s,t=>some (s,t)
 | k+1,s,t=>match relA n f r stop k s t with
  | none=>none
  | some (s1,t1)=>if (fillM n (r.getD k 0) (r.getD (k+1) 0) f.id (stop-t1).toNat s1 (needAt n r 0 k) t1).2.1≠0 then none
   else some ((fillM n (r.getD k 0) (r.getD (k+1) 0) f.id (stop-t1).toNat s1 (needAt n r 0 k) t1).1,(fillM n (r.getD k 0) (r.getD (k+1) 0) f.id (stop-t1).toNat s1 (needAt n r 0 k) t1).2.2)
theorem relA_none {n:Net}{f:Flow}{r:List Int}{stop:Int}{k:Nat}{s:Sched}{t:Int}(h:relA n f r stop k s t=none):∀{m:Nat},k≤m→relA n f r stop m s t=none
 | 0,hm=>by rw[show k=0 by omega]at h;exact h
 | m+1,hm=>by
  rcases Nat.lt_or_ge k (m+1) with hk|hk
  ·rw[relA,relA_none h (m:=m) (by omega)]
  ·rw[show m+1=k by omega];exact h
def atA (f:Flow)(k:Nat):Int:=f.phase+k*f.period
def relsA (n:Net)(f:Flow)(r:List Int):Nat→Sched→Option Sched
 | 0,s=>some s
 | k+1,s=>match relsA n f r k s with
  | none=>none
  | some s1=>(relA n f r (atA f k+f.dead) (r.length-1) s1 (atA f k)).map (·.1)
theorem relsA_none {n:Net}{f:Flow}{r:List Int}{k:Nat}{s:Sched}(h:relsA n f r k s=none):∀{m:Nat},k≤m→relsA n f r m s=none
 | 0,hm=>by rw[show k=0 by omega]at h;exact h
 | m+1,hm=>by
  rcases Nat.lt_or_ge k (m+1) with hk|hk
  ·rw[relsA,relsA_none h (m:=m) (by omega)]
  ·rw[show m+1=k by omega];exact h
def placeA (n:Net)(f:Flow)(N:Nat):List (List Int)→Sched→Option Sched
 | [],s=>some s
 | r :: l,s=>match relsA n f r N s with
  | none=>none
  | some s1=>placeA n f N l s1
theorem placeA_append (n:Net)(f:Flow)(N:Nat)(r:List Int):∀(l:List (List Int)) (s:Sched),placeA n f N (l++[r]) s=(placeA n f N l s).bind fun s1=>relsA n f r N s1
 | [],s=>by
  show(match relsA n f r N s with|none=>none|some s1=>some s1)=relsA n f r N s
  cases relsA n f r N s<;>rfl
 | x :: l,s=>by
  show(match relsA n f x N s with|none=>none|some s1=>placeA n f N (l++[r]) s1)=(match relsA n f x N s with|none=>none|some s1=>placeA n f N l s1).bind _
  cases relsA n f x N s with
  | none=>rfl
  | some s1=>exact placeA_append n f N r l s1
open Go Go.RowKit
theorem apart_nodup:∀{l:List Cell},l.Pairwise (fun a b=>touchB a b=false)→(∀c∈l,0≤c.src∧0≤c.dst∧c.src≠c.dst)→(l.flatMap fun c=>[c.src.toNat,c.dst.toNat]).Nodup
 | [],_,_=>by simp
 | c :: l,h,hn=>by
  obtain⟨h1,h2⟩:=List.pairwise_cons.1 h
  have ih:=apart_nodup h2 fun d hd=>hn d (List.mem_cons_of_mem _ hd)
  have hc:=hn c (List.mem_cons_self ..)
  have key:∀x∈(l.flatMap fun c=>[c.src.toNat,c.dst.toNat]),c.src.toNat≠x∧c.dst.toNat≠x:=fun x hx=>by
   obtain⟨d,hd,hxd⟩:=List.mem_flatMap.1 hx
   have ht:=h1 d hd
   have hdn:=hn d (List.mem_cons_of_mem _ hd)
   simp only[touchB,Bool.or_eq_false_iff,beq_eq_false_iff_ne]at ht
   simp only[List.mem_cons,List.not_mem_nil,or_false]at hxd
   rcases hxd with rfl|rfl<;>omega
  rw[List.flatMap_cons]
  refine List.nodup_append.2 ⟨?_,ih,fun a ha b hb=>?_⟩
  ·simp;omega
  ·simp only[List.mem_cons,List.not_mem_nil,or_false]at ha
   rcases ha with rfl|rfl
   ·exact(key b hb).1
   ·exact(key b hb).2
theorem pairs_len (l:List Cell):(l.flatMap fun c=>[c.src.toNat,c.dst.toNat]).length=2*l.length:=by
 induction l with
 | nil=>rfl
 | cons c l ih=>rw[List.flatMap_cons,List.length_append,ih];simp;omega
theorem apart_len {l:List Cell}{m:Nat}(h:l.Pairwise fun a b=>touchB a b=false)(hn:∀c∈l,0≤c.src∧c.src < m∧0≤c.dst∧c.dst < m∧c.src≠c.dst):2*l.length≤m:=by
 have h1:=apart_nodup h fun c hc=>⟨(hn c hc).1,(hn c hc).2.2.1,(hn c hc).2.2.2.2⟩
 rw[←pairs_len]
 refine nodup_len h1 fun x hx=>?_
 obtain⟨c,hc,hx⟩:=List.mem_flatMap.1 hx
 have:=hn c hc
 simp only[List.mem_cons,List.not_mem_nil,or_false]at hx
 rcases hx with rfl|rfl<;>omega
def ApartS (cs:List Cell):Prop:=cs.Pairwise fun a b=>a.slot=b.slot→touchB a b=false
theorem slotA_len {cs:List Cell}(h:ApartS cs)(hn:∀c∈cs,0≤c.src∧c.src < 32∧0≤c.dst∧c.dst < 32∧c.src≠c.dst)(k:Int):(cs.filter fun c=>c.slot==k).length≤16:=by
 have h1:(cs.filter fun c=>c.slot==k).Pairwise fun a b=>touchB a b=false:=by
  rw[List.pairwise_filter]
  refine h.imp fun {a b} hab ha hb=>hab ?_
  rw[beq_iff_eq]at ha hb
  rw[ha,hb]
 have:=apart_len (m:=32) h1 fun c hc=>hn c (List.mem_filter.1 hc).1
 omega
theorem apart_put {cs:List Cell}{p:Nat}{c:Cell}(h:ApartS cs)(hf:∀d∈cs,d.slot=c.slot→touchB c d=false):ApartS (insAt cs p c):=by
 unfold ApartS insAt
 have hcut:=h
 unfold ApartS at hcut
 rw[←List.take_append_drop p cs]at hcut
 obtain⟨h1,h2,h3⟩:=List.pairwise_append.1 hcut
 refine List.pairwise_append.2 ⟨h1,List.pairwise_cons.2 ⟨fun d hd hs=>hf d (List.mem_of_mem_drop hd) hs.symm,h2⟩,fun a ha b hb hs=>?_⟩
 rcases List.mem_cons.1 hb with rfl|hb
 ·rw[touchB_comm];exact hf a (List.mem_of_mem_take ha) hs
 ·exact h3 a ha b hb hs
open Go Go.RowKit
theorem add_sorted0 {s:Sched}{c:Cell}(hs:Sorted Cell.cmp s.cells)(hc:hasC s c=false):Sorted Cell.cmp (insAt s.cells (posC s c) c):=by
 have hp:posC s c≤s.cells.length:=posB_le _ _
 have hlt:∀(i:Nat) (x:Cell),i < posC s c→s.cells[i]? = some x→x.cmp c < 0:=fun i x hi hx=>posB_lt (c:=cellTo c) hi hx
 have hge:∀(j:Nat) (y:Cell),posC s c≤j→s.cells[j]? = some y→c.cmp y < 0:=by
  have h0:∀y,s.cells[posC s c]? = some y→c.cmp y < 0:=fun y hy=>by
   have h1:¬y.cmp c < 0:=posB_ge (c:=cellTo c) hy
   have h2:y.cmp c≠0:=by
    unfold hasC hasB at hc
    unfold posC at hy
    rw[hy]at hc
    simpa[cellTo] using hc
   have h3:0 < y.cmp c:=by omega
   exact cmpL_anti.2 h3
  intro j y hj hy
  rcases Nat.lt_or_eq_of_le hj with hj|rfl
  ·have hjl:=(List.getElem?_eq_some_iff.1 hy).1
   obtain⟨z,hz⟩:=getLt (l:=s.cells) (k:=posC s c) (by omega)
   exact cmpL_trans (h0 z hz) (hs _ _ z y hj hz hy)
  ·exact h0 y hy
 intro i j x y hij hx hy
 rw[insAt_get hp]at hx hy
 by_cases h1:j < posC s c
 ·rw[if_pos h1]at hy
  rw[if_pos (by omega)]at hx
  exact hs i j x y hij hx hy
 rw[if_neg h1]at hy
 by_cases h2:j=posC s c
 ·rw[if_pos h2]at hy
  injection hy with hy;subst hy
  rw[if_pos (by omega)]at hx
  exact hlt i x (by omega) hx
 rw[if_neg h2]at hy
 by_cases h3:i < posC s c
 ·rw[if_pos h3]at hx
  exact hs i (j-1) x y (by omega) hx hy
 rw[if_neg h3]at hx
 by_cases h4:i=posC s c
 ·rw[if_pos h4]at hx
  injection hx with hx;subst hx
  exact hge (j-1) y (by omega) hy
 ·rw[if_neg h4]at hx
  exact hs (i-1) (j-1) x y (by omega) hx hy
structure GridOk (s:Sched):Prop where
 sorted:s.cells.Pairwise fun a b=>a.cmp b < 0
 apart:ApartS s.cells
 nodes:∀c∈s.cells,0≤c.src∧c.src < 32∧0≤c.dst∧c.dst < 32∧c.src≠c.dst
theorem sorted_of {l:List Cell}(h:l.Pairwise fun a b=>a.cmp b < 0):Sorted Cell.cmp l:=fun i j x y hij hx hy=>by
 have h1:=List.pairwise_iff_getElem.1 h i j (List.getElem?_eq_some_iff.1 hx).1 (List.getElem?_eq_some_iff.1 hy).1 hij
 rwa [(List.getElem?_eq_some_iff.1 hx).2,(List.getElem?_eq_some_iff.1 hy).2]at h1
theorem of_sorted {l:List Cell}(h:Sorted Cell.cmp l):l.Pairwise fun a b=>a.cmp b < 0:=
 List.pairwise_iff_getElem.2 fun i j hi hj hij=>h i j _ _ hij (List.getElem?_eq_getElem hi) (List.getElem?_eq_getElem hj)
theorem hasF_not {s:Sched}{a b id slot:Int}(h:hasF s a b id slot=false)(o:Nat):(⟨slot,o,a,b,id⟩:Cell) ∉ s.cells:=fun hm=>by
 have:=List.any_eq_false.1 h _ hm
 simp at this
theorem gridOk_slot {n:Net}{s:Sched}(hg:GridOk s){a b:Int}(hab:0≤a∧a < 32∧0≤b∧b < 32∧a≠b)(id slot:Int):GridOk (slotM n s a b id slot).1:=by
 unfold slotM
 split
 ·exact hg
 ·rename_i hno
  have hno':hasF s a b id slot=false:=by simpa using hno
  split
  ·rename_i o ho
   have hfit:fitsM n s ⟨slot,o,a,b,id⟩=true:=by
    unfold roomF at ho
    have:=List.find?_some ho
    rwa [fits_flow (fm:=id)]at this
   have hcm:=hasF_not hno' o
   have hnew:=fits_new hfit
   have hhb:hasC s ⟨slot,o,a,b,id⟩=false:=by
    unfold hasC
    rw[has_mem hg.sorted];simpa using hcm
   refine⟨of_sorted (add_sorted0 (sorted_of hg.sorted) hhb),apart_put hg.apart fun d hd hs=>?_,fun c hc=>?_⟩
   ·cases ht:touchB ⟨slot,o,a,b,id⟩ d with
    | false=>rfl
    | true=>exact absurd ⟨hs,ht⟩ (hnew d hd)
   ·rcases insAt_mem.1 hc with rfl|hc
    ·exact hab
    ·exact hg.nodes c hc
  ·exact hg
theorem gridOk_fill {n:Net}{a b:Int}(hab:0≤a∧a < 32∧0≤b∧b < 32∧a≠b)(id:Int):∀(d:Nat) {s:Sched} (_:GridOk s) (left:Nat) (t:Int),GridOk (fillM n a b id d s left t).1
 | 0,_,hg,_,_=>hg
 | d+1,s,hg,left,t=>by
  rw[fillM]
  split
  ·exact hg
  ·exact gridOk_fill hab id d (gridOk_slot hg hab id _) _ _
theorem VOk.grid {n:Net}{l:List Flow}{s:Sched}(h:VOk n l s):GridOk s where
 sorted:=h.sorted
 apart:=List.pairwise_iff_getElem.2 fun i j hi hj hij hs=>h.apart (List.getElem?_eq_getElem hi) (List.getElem?_eq_getElem hj) (by omega) hs
 nodes:=fun c hc=>by
  have hg:=(h.at hc).2.2.2.2.1
  unfold goodL at hg
  simp only[Bool.and_eq_true,decide_eq_true_eq]at hg
  obtain⟨k,l,e1,e2,e3,e4⟩:=findL_at hg.1.1.1
  have hb:=linkR_bd (h.net.link k l e2).1
  have hn:=h.net.nodes
  rw[←e3,←e4]
  omega
open Go Go.RowKit
theorem slotM_same {n:Net}{s:Sched}{a b id k:Int}(h:(slotM n s a b id k).2=false):(slotM n s a b id k).1=s:=by
 unfold slotM at h ⊢
 split
 ·rfl
 ·rename_i hh
  rw[if_neg hh]at h
  split
  ·rename_i o ho;rw[ho]at h;cases h
  ·rfl
theorem roomF_none {n:Net}{s:Sched}{a b slot:Int}(h:freeS s a b slot=false):roomF n s a b slot=none:=by
 unfold roomF
 rw[List.find?_eq_none]
 intro o _
 unfold fitsM
 simp[h]
theorem roomF_step (n:Net)(s:Sched)(a b slot:Int)(j:Nat):(List.range (j+1)).find? (fun o=>fitsM n s ⟨slot,(o:Nat),a,b,0⟩)=(((List.range j).find? fun o=>fitsM n s ⟨slot,(o:Nat),a,b,0⟩).or (if fitsM n s ⟨slot,(j:Nat),a,b,0⟩ then some j else none)):=by
 rw[List.range_succ,List.find?_append]
 congr 1
 simp only[List.find?_cons,List.find?_nil]
 split<;>simp_all
structure Hop (n:Net)(r:List Int)(i:Nat)(l:Link):Prop where
 at_:∃q:Nat,findL n (r.getD i 0) (r.getD (i+1) 0)=q∧n.links[q]? = some l
 src:l.src=r.getD i 0
 dst:l.dst=r.getD (i+1) 0
 ends:0≤r.getD i 0∧r.getD i 0 < 32∧0≤r.getD (i+1) 0∧r.getD (i+1) 0 < 32∧r.getD i 0≠r.getD (i+1) 0
 loss:0≤l.loss∧l.loss≤7
 need:(needAt n r 0 i:Int)=l.loss+1
theorem hop_at {n:Net}(hok:NetOk n){r:List Int}{i:Nat}(h:goodL n (r.getD i 0) (r.getD (i+1) 0)=true):∃l,Hop n r i l:=by
 obtain⟨q,l,e1,e2,e3,e4⟩:=findL_at (n:=n) (a:=r.getD i 0) (b:=r.getD (i+1) 0) (by unfold goodL at h;simp only[Bool.and_eq_true,decide_eq_true_eq]at h;exact h.1.1.1)
 have hb:=linkR_bd (hok.link q l e2).1
 have hnd:=hok.nodes
 have hla:linkAt n r i=l:=by unfold linkAt;rw[e1,Int.toNat_natCast,e2];rfl
 exact⟨l,⟨q,e1,e2⟩,e3,e4,by rw[←e3,←e4];omega,by omega,by unfold needAt;rw[hla];omega⟩
def HopsOk (n:Net)(r:List Int):Prop:=∀i,i+1 < r.length→goodL n (r.getD i 0) (r.getD (i+1) 0)=true
theorem relA_ok {n:Net}(hok:NetOk n){f:Flow}{r:List Int}{stop:Int}(hop:HopsOk n r):∀{k:Nat} {s s1:Sched} {t t1:Int},k+1≤r.length→relA n f r stop k s t=some (s1,t1)→GridOk s→GridOk s1∧s1.len=s.len∧s1.offs=s.offs∧s1.cells.length≤s.cells.length+16*k
 | 0,s,s1,t,t1,_,h,hg=>by
  simp only[relA,Option.some.injEq,Prod.mk.injEq]at h
  obtain⟨rfl,rfl⟩:=h
  exact⟨hg,rfl,rfl,by omega⟩
 | k+1,s,s1,t,t1,hk,h,hg=>by
  rw[relA]at h
  split at h
  ·cases h
  ·rename_i s0 t0 h0
   obtain⟨g1,g2,g3,g4⟩:=relA_ok hok hop (k:=k) (by omega) h0 hg
   obtain⟨l,hl⟩:=hop_at hok (hop k (by omega))
   have f1:=gridOk_fill (n:=n) hl.ends f.id (stop-t0).toNat g1 (needAt n r 0 k) t0
   have f2:=fillM_len n (r.getD k 0) (r.getD (k+1) 0) f.id (stop-t0).toNat s0 (needAt n r 0 k) t0
   have f3:=fillM_cells n (r.getD k 0) (r.getD (k+1) 0) f.id (stop-t0).toNat s0 (needAt n r 0 k) t0
   have hn:=hl.need
   have hl2:=hl.loss
   split at h
   ·cases h
   ·injection h with h
    injection h with h1 h2
    subst h1
    exact⟨f1,f2.1.trans g2,f2.2.trans g3,by omega⟩
theorem relsA_ok {n:Net}(hok:NetOk n){f:Flow}{r:List Int}(hr:1≤r.length∧r.length≤9)(hop:HopsOk n r):∀{k:Nat} {s s1:Sched},relsA n f r k s=some s1→GridOk s→GridOk s1∧s1.len=s.len∧s1.offs=s.offs∧s1.cells.length≤s.cells.length+128*k
 | 0,s,s1,h,hg=>by
  simp only[relsA,Option.some.injEq]at h
  subst h
  exact⟨hg,rfl,rfl,by omega⟩
 | k+1,s,s1,h,hg=>by
  rw[relsA]at h
  split at h
  ·cases h
  ·rename_i s0 h0
   obtain⟨g1,g2,g3,g4⟩:=relsA_ok hok hr hop (k:=k) h0 hg
   cases hx:relA n f r (atA f k+f.dead) (r.length-1) s0 (atA f k) with
   | none=>rw[hx]at h;cases h
   | some p=>
    rw[hx]at h
    simp only[Option.map_some,Option.some.injEq]at h
    subst h
    obtain⟨f1,f2,f3,f4⟩:=relA_ok hok hop (by omega) hx g1
    exact⟨f1,f2.trans g2,f3.trans g3,by omega⟩
theorem placeA_ok {n:Net}(hok:NetOk n){f:Flow}{N:Nat}:∀{l:List (List Int)} {s s1:Sched},(∀r∈l,(1≤r.length∧r.length≤9)∧HopsOk n r)→placeA n f N l s=some s1→GridOk s→GridOk s1∧s1.len=s.len∧s1.offs=s.offs∧s1.cells.length≤s.cells.length+128*N*l.length
 | [],s,s1,_,h,hg=>by
  simp only[placeA,Option.some.injEq]at h
  subst h
  exact⟨hg,rfl,rfl,by simp⟩
 | r :: l,s,s1,hl,h,hg=>by
  rw[placeA]at h
  split at h
  ·cases h
  ·rename_i s0 h0
   obtain⟨h1,h2⟩:=hl r (List.mem_cons_self ..)
   obtain⟨g1,g2,g3,g4⟩:=relsA_ok hok h1 h2 h0 hg
   obtain⟨f1,f2,f3,f4⟩:=placeA_ok hok (fun x hx=>hl x (List.mem_cons_of_mem _ hx)) h g1
   exact⟨f1,f2.trans g2,f3.trans g3,by rw[List.length_cons,Nat.mul_add];omega⟩
def relN (s:Sched)(f:Flow):Nat:=(s.len / f.period).toNat
theorem relN_lt {s:Sched}{f:Flow}(hl:1≤s.len)(hp:1≤f.period)(h0:0≤f.phase∧f.phase < f.period)(hd:s.len % f.period=0)(k:Nat):atA f k < s.len↔k < relN s f:=by
 obtain⟨m,hm⟩:∃m:Int,s.len / f.period=m:=⟨_,rfl⟩
 have h1:s.len=m*f.period:=by rw[←hm];exact(Int.ediv_mul_cancel (Int.dvd_of_emod_eq_zero hd)).symm
 have hm0:0≤m:=by rw[←hm];exact Int.ediv_nonneg (by omega) (by omega)
 unfold relN atA
 rw[hm,h1]
 constructor
 ·intro h
  rcases Int.lt_or_le (k:Int) m with h2|h2
  ·omega
  ·have:=Int.mul_le_mul_of_nonneg_right h2 (show(0:Int)≤f.period by omega)
   omega
 ·intro h
  have h2:((k:Int)+1)*f.period≤m*f.period:=Int.mul_le_mul_of_nonneg_right (by omega) (by omega)
  rw[Int.add_mul,Int.one_mul]at h2
  omega
theorem relN_le {s:Sched}{f:Flow}(hl:s.len≤512)(hp:1≤f.period):relN s f≤512:=by
 unfold relN
 rcases Int.lt_or_le s.len 0 with h|h
 ·have:=Int.ediv_le_ediv (show(0:Int) < f.period by omega) (show s.len≤0 by omega)
  rw[Int.zero_ediv]at this
  omega
 ·have:=Int.ediv_le_self f.period h
  omega
def posQ (x:Req)(q:List Req):Nat:=posB (fun y:Req=>cmpI y.flow.id x.flow.id) q
def insQ (q:List Req)(x:Req):List Req:=insAt q (posQ x q) x
def hasQ (q:List Req)(id:Int):Bool:=q.any fun y=>y.flow.id==id
def admM (n:Net)(q:List Req)(s:Sched)(x:Req):Sched×Int:=
 if (makeM n q s).2.2≠0 then(⟨0,0,[]⟩,1) else if hasQ q x.flow.id=true then(⟨0,0,[]⟩,6)
 else if (reqE n (insQ q x)).2≠0 then(⟨0,0,[]⟩,1) else if s.len % x.flow.period≠0 then(⟨0,0,[]⟩,11)
 else match placeA n x.flow (relN s x.flow) x.routes s with
  | none=>(⟨0,0,[]⟩,18)
  | some t=>if 512 < t.cells.length then(⟨0,0,[]⟩,8) else(t,0)
theorem faulty_iff {n:Net}(hn:netE n=0)(q:List Req):((makeM n q ⟨0,0,[]⟩).2.2 != 1||decide (0≤(makeM n q ⟨0,0,[]⟩).2.1))=decide ((reqE n q).2≠0):=by
 have hok:=netE_ok hn
 have hnd:=hok.nodes
 by_cases h:(reqE n q).2=0
 ·have hs:(schedE n (flowsQ q) ⟨0,0,[]⟩).2≠0:=fun h0=>by
   have:=(schedE_ok h0).size
   revert this;decide
  have hM:makeM n q ⟨0,0,[]⟩=([],-1,1):=by unfold makeM;rw[if_neg (by omega),if_pos hs]
  rw[hM,decide_eq_false (by omega:¬(reqE n q).2≠0)];rfl
 ·have hM:makeM n q ⟨0,0,[]⟩=([],(reqE n q).1,(reqE n q).2):=by unfold makeM;rw[if_pos h]
  rw[hM,decide_eq_true h]
  simp only
  have key:(reqE n q).2≠1∨0≤(reqE n q).1:=by
   unfold reqE at h ⊢
   rw[if_neg (by omega)]at h ⊢
   split
   ·rename_i h1
    unfold flowsE at h1 ⊢
    rw[if_neg (by omega)]at h1 ⊢
    split
    ·left;simp
    ·rename_i h2
     rw[if_neg h2]at h1
     exact .inr (firstAt_lo h1)
   ·rename_i h1
    rw[if_neg h1]at h
    exact .inr (firstAt_lo h)
  rcases key with h1|h1
  ·rw[bne_iff_ne.2 h1];rfl
  ·rw[decide_eq_true h1,Bool.or_true]
theorem mono_req {q:List Req}(h:q.Pairwise fun a b=>a.flow.id < b.flow.id)(x:Req):Mono (fun y:Req=>cmpI y.flow.id x.flow.id) q:=fun i j a b hij ha hb hlt=>by
 have h1:=List.pairwise_iff_getElem.1 h i j (List.getElem?_eq_some_iff.1 ha).1 (List.getElem?_eq_some_iff.1 hb).1 hij
 rw[(List.getElem?_eq_some_iff.1 ha).2,(List.getElem?_eq_some_iff.1 hb).2]at h1
 show cmpI a.flow.id x.flow.id < 0
 have hlt:cmpI b.flow.id x.flow.id < 0:=hlt
 unfold cmpI at hlt ⊢
 split at hlt
 ·rw[if_pos (by omega)];omega
 ·split at hlt<;>omega
open Go Go.RowKit
deriving instance DecidableEq for Sched
deriving instance DecidableEq for Req
def n41:Net:=⟨3,[[0,9,9],[9,0,9],[9,9,0]],1,1000,[⟨0,1,0⟩,⟨1,0,0⟩,⟨1,2,0⟩,⟨2,1,0⟩],[9,9,9,9]⟩
def q41:List Req:=[⟨⟨5,0,1,3,0,3⟩,[[0,1]]⟩]
def s41:Sched:=⟨3,1,[⟨0,0,0,1,5⟩]⟩
def x41:Req:=⟨⟨6,1,2,3,0,3⟩,[[1,2]]⟩
def t41:Sched:=⟨3,1,[⟨0,0,0,1,5⟩,⟨1,0,1,2,6⟩]⟩
theorem e_room41:roomM n41 s41 ⟨1,2,0⟩=([⟨1,0,1,2,0⟩,⟨2,0,1,2,0⟩],0):=by decide +kernel
theorem e_mk41:(makeM n41 q41 s41).2.2=0:=by decide +kernel
theorem e_req41:(reqE n41 (insQ q41 x41)).2=0:=by decide +kernel
theorem e_place41:placeA n41 x41.flow (relN s41 x41.flow) x41.routes s41=some t41:=by decide +kernel
theorem e_admit41:admM n41 q41 s41 x41=(t41,0):=by
 unfold admM
 rw[if_neg (by rw[e_mk41];decide),if_neg (by decide),if_neg (by rw[e_req41];decide),if_neg (by decide),e_place41]
 rfl
theorem e_drop41:dropM t41 5=(⟨3,1,[⟨1,0,1,2,6⟩]⟩,0):=by decide +kernel
open Go Go.RowKit
def relL (n:Net)(f:Flow)(r:List Int)(stop:Int):Nat→Sched→Int→Sched
 | 0,s,_=>s
 | k+1,s,t=>match relA n f r stop k s t with
  | none=>relL n f r stop k s t
  | some (s1,t1)=>(fillM n (r.getD k 0) (r.getD (k+1) 0) f.id (stop-t1).toNat s1 (needAt n r 0 k) t1).1
theorem relA_len {n:Net}{f:Flow}{r:List Int}{stop:Int}:∀{k:Nat} {s s1:Sched} {t t1:Int},relA n f r stop k s t=some (s1,t1)→s1.len=s.len
 | 0,s,s1,t,t1,h=>by
  simp only[relA,Option.some.injEq,Prod.mk.injEq]at h
  rw[h.1]
 | k+1,s,s1,t,t1,h=>by
  rw[relA]at h
  split at h
  ·cases h
  ·rename_i s0 t0 h0
   split at h
   ·cases h
   ·injection h with h
    injection h with h1 h2
    rw[←h1]
    exact(fillM_len ..).1.trans (relA_len h0)
theorem relL_len {n:Net}{f:Flow}{r:List Int}{stop:Int}:∀(k:Nat) (s:Sched) (t:Int),(relL n f r stop k s t).len=s.len
 | 0,_,_=>rfl
 | k+1,s,t=>by
  rw[relL]
  split
  ·exact relL_len k s t
  ·rename_i s1 t1 h1
   exact(fillM_len ..).1.trans (relA_len h1)
theorem relL_some {n:Net}{f:Flow}{r:List Int}{stop:Int}:∀{k:Nat} {s s1:Sched} {t t1:Int},relA n f r stop k s t=some (s1,t1)→relL n f r stop k s t=s1
 | 0,s,s1,t,t1,h=>by
  simp only[relA,Option.some.injEq,Prod.mk.injEq]at h
  exact h.1
 | k+1,s,s1,t,t1,h=>by
  rw[relA]at h
  rw[relL]
  split at h
  ·cases h
  ·rename_i s0 t0 h0
   try rw[h0]
   split at h
   ·cases h
   ·injection h with h
    injection h with h1 h2
theorem relL_none {n:Net}{f:Flow}{r:List Int}{stop:Int}{k:Nat}{s:Sched}{t:Int}(h:relA n f r stop k s t=none):∀{m:Nat},k≤m→relL n f r stop m s t=relL n f r stop k s t
 | 0,hm=>by rw[show k=0 by omega]
 | m+1,hm=>by
  rcases Nat.lt_or_ge k (m+1) with hk|hk
  ·rw[relL,relA_none h (m:=m) (by omega)]
   exact relL_none h (m:=m) (by omega)
  ·rw[show m+1=k by omega]
theorem relL_stop {n:Net}{f:Flow}{r:List Int}{stop:Int}{k:Nat}{s s1 s2:Sched}{t t1:Int}{c:Nat}{t2:Int}(h:relA n f r stop k s t=some (s1,t1))(hf:fillM n (r.getD k 0) (r.getD (k+1) 0) f.id (stop-t1).toNat s1 (needAt n r 0 k) t1=(s2,c,t2))(hc:c≠0){m:Nat}(hm:k+1≤m) :
  relA n f r stop m s t=none∧relL n f r stop m s t=s2:=by
 have h1:relA n f r stop (k+1) s t=none:=by
  rw[relA,h]
  simp only[hf]
  rw[if_pos hc]
 refine⟨relA_none h1 hm,?_⟩
 rw[relL_none h1 hm,relL,h]
 simp only[hf]
def relsL (n:Net)(f:Flow)(r:List Int):Nat→Sched→Sched
 | 0,s=>s
 | k+1,s=>match relsA n f r k s with
  | none=>relsL n f r k s
  | some s1=>relL n f r (atA f k+f.dead) (r.length-1) s1 (atA f k)
theorem relsL_none {n:Net}{f:Flow}{r:List Int}{k:Nat}{s:Sched}(h:relsA n f r k s=none):∀{m:Nat},k≤m→relsL n f r m s=relsL n f r k s
 | 0,hm=>by rw[show k=0 by omega]
 | m+1,hm=>by
  rcases Nat.lt_or_ge k (m+1) with hk|hk
  ·rw[relsL,relsA_none h (m:=m) (by omega)]
   exact relsL_none h (m:=m) (by omega)
  ·rw[show m+1=k by omega]
theorem relsL_some {n:Net}{f:Flow}{r:List Int}:∀{k:Nat} {s s1:Sched},relsA n f r k s=some s1→relsL n f r k s=s1
 | 0,s,s1,h=>by
  show s=s1
  simpa[relsA] using h
 | k+1,s,s1,h=>by
  rw[relsA]at h
  rw[relsL]
  split at h
  ·cases h
  ·rename_i s0 h0
   try rw[h0]
   cases hx:relA n f r (atA f k+f.dead) (r.length-1) s0 (atA f k) with
   | none=>rw[hx]at h;cases h
   | some p=>
    rw[hx]at h
    simp only[Option.map_some,Option.some.injEq]at h
    try simp only
    rw[relL_some (t1:=p.2) hx,h]
def placeL (n:Net)(f:Flow)(N:Nat):List (List Int)→Sched→Sched
 | [],s=>s
 | r :: l,s=>match relsA n f r N s with
  | none=>relsL n f r N s
  | some s1=>placeL n f N l s1
theorem placeL_some {n:Net}{f:Flow}{N:Nat}:∀{l:List (List Int)} {s s1:Sched},placeA n f N l s=some s1→placeL n f N l s=s1
 | [],s,s1,h=>by
  show s=s1
  simpa[placeA] using h
 | r :: l,s,s1,h=>by
  rw[placeA]at h
  rw[placeL]
  split at h
  ·cases h
  ·rename_i s0 h0
   try rw[h0]
   exact placeL_some h
theorem placeL_append (n:Net)(f:Flow)(N:Nat)(r:List Int):∀(l:List (List Int)) (s s1:Sched),placeA n f N l s=some s1→placeL n f N (l++[r]) s=relsL n f r N s1
 | [],s,s1,h=>by
  have:s=s1:=by simpa[placeA] using h
  subst this
  show(match relsA n f r N s with|none=>relsL n f r N s|some s1=>s1)=relsL n f r N s
  cases h2:relsA n f r N s with
  | none=>rfl
  | some s2=>exact(relsL_some h2).symm
 | x :: l,s,s1,h=>by
  rw[placeA]at h
  split at h
  ·cases h
  ·rename_i s0 h0
   rw[List.cons_append,placeL,h0]
   exact placeL_append n f N r l s0 s1 h
theorem placeA_none {n:Net}{f:Flow}{N:Nat}:∀{l m:List (List Int)} {s:Sched},placeA n f N l s=none→placeA n f N (l++m) s=none∧placeL n f N (l++m) s=placeL n f N l s
 | [],_,_,h=>by simp[placeA]at h
 | r :: l,m,s,h=>by
  rw[placeA]at h
  rw[List.cons_append,placeA,placeL,placeL]
  split at h
  ·rename_i h0
   try rw[h0]
   exact⟨rfl,rfl⟩
  ·rename_i s0 h0
   try rw[h0]
   exact placeA_none h
theorem atA_succ (f:Flow)(k:Nat):atA f (k+1)=atA f k+f.period:=by
 unfold atA
 rw[Int.natCast_add,Int.natCast_one,Int.add_mul,Int.one_mul]
 omega
theorem atA_le {s:Sched}{f:Flow}(hl:s.len≤512)(hp:1≤f.period∧f.period≤512)(h0:0≤f.phase∧f.phase < f.period):∀k:Nat,0≤atA f k∧(k=0∨atA f (k-1) < s.len→atA f k≤1024)
 | 0=>by unfold atA;simp;omega
 | k+1=>by
  obtain⟨h1,h2⟩:=atA_le hl hp h0 k
  rw[atA_succ,Nat.add_sub_cancel]
  omega
open Go Go.RowKit
def evC (cs:List Cell)(len a:Int):Nat→List (Cell×Int)
 | 0=>[]
 | d+1=>evC cs len a d++((cs.filter fun c=>c.slot==(a+d) % len).map fun c=>(c,a+(d:Int)))
theorem evC_snd (cs:List Cell)(len a:Int):∀d,(evC cs len a d).map (·.2)=allS cs len a d
 | 0=>rfl
 | d+1=>by simp[evC,allS,evC_snd cs len a d,Function.comp_def]
theorem evC_filter (cs:List Cell)(len a:Int)(p:Cell→Bool):∀d,evC (cs.filter p) len a d=(evC cs len a d).filter fun x=>p x.1
 | 0=>rfl
 | d+1=>by
  simp only[evC,List.filter_append,evC_filter cs len a p d,List.filter_map,Function.comp_def]
  rw[List.filter_filter,List.filter_filter]
  congr 3
  funext c
  simp[Bool.and_comm]
theorem evC_mem {cs:List Cell}{len a:Int}:∀{d:Nat} {x:Cell×Int},x∈evC cs len a d→x.1∈cs
 | 0,_,h=>by simp[evC]at h
 | d+1,x,h=>by
  simp only[evC,List.mem_append,List.mem_map,List.mem_filter]at h
  rcases h with h|⟨c,⟨hc,_⟩,rfl⟩
  ·exact evC_mem h
  ·exact hc
theorem take_filter {α:Type}{p:α→Bool}:∀{l:List α} {n:Nat},(l.take n).length=n→(∀x∈l.take n,p x=true)→(l.filter p).take n=l.take n
 | _,0,_,_=>by simp
 | [],n+1,h,_=>by simp at h
 | x :: l,n+1,h,hp=>by
  have hx:=hp x (by simp)
  rw[List.filter_cons,if_pos hx,List.take_succ_cons,List.take_succ_cons,take_filter (by simpa using h) fun y hy=>hp y (by simp[hy])]
def onC (s:Sched)(f:Flow)(a b:Int)(need:Nat)(at_ stop:Int):List Cell:=((evC (cellsL s f a b) s.len at_ (stop-at_).toNat).take need).map (·.1)
def cellsUp (n:Net)(s:Sched)(f:Flow)(r:List Int)(rel:Int):Nat→List Cell
 | 0=>[]
 | k+1=>match slotsUp n s f r rel 0 k with
  | none=>cellsUp n s f r rel k
  | some (_,a)=>cellsUp n s f r rel k++onC s f (r.getD k 0) (r.getD (k+1) 0) (needAt n r 0 k) a (rel+f.period)
def relC (n:Net)(s:Sched)(f:Flow)(r:List Int)(rel:Int):List Cell:=cellsUp n s f r rel (r.length-1)
def relsC (n:Net)(s:Sched)(f:Flow)(r:List Int):Nat→List Cell
 | 0=>[]
 | k+1=>relsC n s f r k++relC n s f r (f.phase+k*f.period)
def allC (n:Net)(s:Sched)(f:Flow)(l:List (List Int)):List Cell:=l.flatMap fun r=>relsC n s f r (relsN s f)
def needL (n:Net)(s:Sched)(f:Flow)(l:List (List Int)):List Cell:=s.cells.filter fun c=>decide (c∈allC n s f l)
def badR (n:Net)(s:Sched)(f:Flow):List (List Int)→Int
 | []=>0
 | r :: l=>if (routeM n s f r).2.2.2≠0 then(routeM n s f r).2.2.2 else badR n s f l
def needM (n:Net)(s:Sched)(f:Flow)(l:List (List Int)):List Cell×Int:=
 if l.length=0 then([],14) else if badR n s f l≠0 then([],badR n s f l) else(needL n s f l,0)
theorem onC_mem {s:Sched}{f:Flow}{a b:Int}{need:Nat}{x y:Int}{c:Cell}(h:c∈onC s f a b need x y):c∈s.cells∧c.flow=f.id:=by
 unfold onC at h
 obtain⟨e,he,rfl⟩:=List.mem_map.1 h
 have:=evC_mem (List.mem_of_mem_take he)
 unfold cellsL at this
 rw[List.mem_filter]at this
 refine⟨this.1,?_⟩
 have h2:=this.2
 simp[offL]at h2
 exact h2.1.1
theorem cellsUp_mem {n:Net}{s:Sched}{f:Flow}{r:List Int}{rel:Int}{c:Cell}:∀{k:Nat},c∈cellsUp n s f r rel k→c∈s.cells∧c.flow=f.id
 | 0,h=>by simp[cellsUp]at h
 | k+1,h=>by
  unfold cellsUp at h
  split at h
  ·exact cellsUp_mem h
  ·rcases List.mem_append.1 h with h|h
   ·exact cellsUp_mem h
   ·exact onC_mem h
theorem allC_mem {n:Net}{s:Sched}{f:Flow}{l:List (List Int)}{c:Cell}(h:c∈allC n s f l):c∈s.cells∧c.flow=f.id:=by
 unfold allC at h
 rw[List.mem_flatMap]at h
 obtain⟨r,_,h⟩:=h
 have:∀k,c∈relsC n s f r k→c∈s.cells∧c.flow=f.id:=by
  intro k
  induction k with
  | zero=>intro h;simp[relsC]at h
  | succ k ih=>
   intro h
   rcases List.mem_append.1 h with h|h
   ·exact ih h
   ·exact cellsUp_mem h
 exact this _ h
theorem onC_len (s:Sched)(f:Flow)(a b:Int)(need:Nat)(x y:Int):(onC s f a b need x y).length=(slotsOn s f a b need x y).length:=by
 unfold onC slotsOn
 rw[←evC_snd]
 simp
theorem slots_part {s t:Sched}{f:Flow}{a b x y:Int}{need:Nat}{p:Cell→Bool}(hl:t.len=s.len)(ht:t.cells=s.cells.filter p)(hn:(slotsOn s f a b need x y).length=need)(hp:∀c∈onC s f a b need x y,p c=true):slotsOn t f a b need x y=slotsOn s f a b need x y:=by
 have hc:cellsL t f a b=(cellsL s f a b).filter p:=by
  unfold cellsL
  rw[ht,List.filter_filter,List.filter_filter]
  congr 1
  funext c
  simp[Bool.and_comm]
 unfold slotsOn at hn ⊢
 rw[hc,hl,←evC_snd,←evC_snd,evC_filter,←List.map_take,←List.map_take]
 rw[←evC_snd,←List.map_take,List.length_map]at hn
 rw[take_filter hn fun e he=>hp e.1 (List.mem_map.2 ⟨e,he,rfl⟩)]
theorem slotsUp_part {n:Net}{s t:Sched}{f:Flow}{r:List Int}{rel:Int}{p:Cell→Bool}(hl:t.len=s.len)(ht:t.cells=s.cells.filter p):∀{k:Nat} {o:List Int} {a:Int},slotsUp n s f r rel 0 k=some (o,a)→(∀c∈cellsUp n s f r rel k,p c=true)→slotsUp n t f r rel 0 k=some (o,a)
 | 0,_,_,h,_=>h
 | k+1,o,a,h,hp=>by
  have h':=h
  unfold slotsUp at h
  split at h
  ·cases h
  ·rename_i o1 a1 h1
   simp only at h
   split at h
   ·cases h
   ·rename_i hlen
    have hle:=slotsOn_le s f (r.getD k 0) (r.getD (k+1) 0) (needAt n r 0 k) a1 (rel+f.period)
    unfold cellsUp at hp
    rw[h1]at hp
    simp only at hp
    have ih:=slotsUp_part (n:=n) (s:=s) (t:=t) hl ht h1 fun c hc=>hp c (List.mem_append_left _ hc)
    have e:=slots_part (s:=s) (t:=t) hl ht (by omega) fun c hc=>hp c (List.mem_append_right _ hc)
    unfold slotsUp
    rw[ih]
    simp only
    rw[e,if_neg hlen]
    exact h
theorem boundUp_part {n:Net}{s t:Sched}{f:Flow}{r:List Int}{p:Cell→Bool}(hl:t.len=s.len)(ht:t.cells=s.cells.filter p):∀{k:Nat} {x:Bnd},boundUp n s f r 0 k=some x→(∀c∈relsC n s f r k,p c=true)→boundUp n t f r 0 k=some x
 | 0,_,h,_=>h
 | k+1,x,h,hp=>by
  cases hb:boundUp n s f r 0 k with
  | none=>simp only[boundUp,hb]at h;cases h
  | some y=>
   cases hr:relR n s f r 0 (f.phase+k*f.period) with
   | none=>rw[boundUp_stop hr]at h;cases h
   | some bl=>
    have ih:=boundUp_part hl ht hb fun c hc=>hp c (List.mem_append_left _ hc)
    have hrt:relR n t f r 0 (f.phase+k*f.period)=some bl:=by
     unfold relR slotsW at hr ⊢
     cases hu:slotsUp n s f r (f.phase+k*f.period) 0 (r.length-1) with
     | none=>rw[hu]at hr;cases hr
     | some oa=>
      obtain⟨o,a⟩:=oa
      rw[hu]at hr
      rw[slotsUp_part hl ht hu fun c hc=>hp c (List.mem_append_right _ hc)]
      exact hr
    obtain⟨b,l⟩:=bl
    rw[boundUp_some hb hr]at h
    rw[boundUp_some ih hrt]
    exact h
theorem sorted_filter {α:Type}{c:α→α→Int}{l:List α}(p:α→Bool)(h:Sorted c l):Sorted c (l.filter p):=by
 have h1:l.Pairwise (fun x y=>c x y < 0):=by
  rw[List.pairwise_iff_getElem]
  intro i j hi hj hij
  exact h i j _ _ hij (List.getElem?_eq_getElem hi) (List.getElem?_eq_getElem hj)
 have h2:=h1.filter p
 rw[List.pairwise_iff_getElem]at h2
 intro i j x y hij hx hy
 obtain⟨hi,rfl⟩:=List.getElem?_eq_some_iff.1 hx
 obtain⟨hj,rfl⟩:=List.getElem?_eq_some_iff.1 hy
 exact h2 i j hi hj hij
theorem formB_filter {s:Sched}(h:formB s=true)(p:Cell→Bool):formB ⟨s.len,s.offs,s.cells.filter p⟩=true:=by
 obtain⟨f1,f2,f3⟩:=form_all h
 refine formB_mk f1 (Nat.le_trans (List.length_filter_le _ _) f2) (fun c hc=>?_) (sorted_filter p (formB_sorted h))
 have e:=formedB_len (s:=s) (t:=⟨s.len,s.offs,s.cells.filter p⟩) rfl rfl c
 rw[e]
 exact f3 c (List.mem_filter.1 hc).1
theorem badR_all {n:Net}{s:Sched}{f:Flow}:∀{l:List (List Int)},badR n s f l=0→∀r∈l,(routeM n s f r).2.2.2=0
 | [],_,r,h=>by cases h
 | a :: l,h,r,hr=>by
  unfold badR at h
  split at h
  ·contradiction
  ·rename_i h1
   rcases List.mem_cons.1 hr with rfl|hr
   ·simpa using h1
   ·exact badR_all h r hr
theorem routeM_ok {n:Net}{s:Sched}{f:Flow}{r:List Int}(h:(routeM n s f r).2.2.2=0):wayE n s f r=0∧∃x,boundR n s f r 0=some x∧routeM n s f r=(x.b,x.w,x.l,0):=by
 unfold routeM at h ⊢
 split at h
 ·contradiction
 rename_i hw
 rw[if_neg hw]
 cases hb:boundR n s f r 0 with
 | none=>rw[hb]at h;cases h
 | some x=>exact⟨by simpa using hw,x,rfl,rfl⟩
theorem needs_law {n:Net}{s:Sched}{f:Flow}{l:List (List Int)}{c:List Cell}(h:needM n s f l=(c,0)) :
  (∀r∈l,(routeM n s f r).2.2.2=0∧routeM n ⟨s.len,s.offs,c⟩ f r=routeM n s f r)∧c≠[]∧∀x∈c,x.flow=f.id∧x∈s.cells:=by
 unfold needM at h
 split at h
 ·simp at h
 split at h
 ·rename_i h1
  simp only[Prod.mk.injEq]at h
  exact absurd h.2 h1
 rename_i h0 h1
 simp only[Prod.mk.injEq,and_true]at h
 have hall:=badR_all (by simpa using h1:badR n s f l=0)
 subst h
 refine⟨fun r hr=>⟨hall r hr,?_⟩,?_,fun x hx=>?_⟩
 ·obtain⟨hw,x,hb,hR⟩:=routeM_ok (hall r hr)
  have hok:=wayE_ok hw
  have hway:wayE n ⟨s.len,s.offs,needL n s f l⟩ f r=0:=by
   have hf:=formB_filter hok.form fun c=>decide (c∈allC n s f l)
   unfold wayE at hw ⊢
   unfold needL
   rw[hf]
   rw[hok.form]at hw
   exact hw
  have hbt:boundR n ⟨s.len,s.offs,needL n s f l⟩ f r 0=some x:=by
   unfold boundR at hb ⊢
   rw[show relsN ⟨s.len,s.offs,needL n s f l⟩ f=relsN s f from rfl]
   refine boundUp_part (s:=s) (t:=⟨s.len,s.offs,needL n s f l⟩) (p:=fun c=>decide (c∈allC n s f l)) rfl rfl hb fun c hc=>?_
   refine decide_eq_true ?_
   unfold allC
   rw[List.mem_flatMap]
   exact⟨r,hr,hc⟩
  rw[hR]
  unfold routeM
  rw[if_neg (by simp[hway]),hbt]
 ·obtain⟨r,hr⟩:∃r,r∈l:=by
   cases l with
   | nil=>simp at h0
   | cons a l=>exact⟨a,by simp⟩
  obtain⟨hw,x,hb,hR⟩:=routeM_ok (hall r hr)
  have hok:=wayE_ok hw
  have hfl:=hok.flow
  have hlen:=hok.len
  obtain⟨hz,_,_⟩:=form_all hok.form
  have hsb:=sized_bd hz
  have hper:=hok.per
  have h1:0 < relsN s f:=(relsN_lt (by omega)).2 (by
   have:f.period≤s.len:=by
    rcases Int.lt_or_le s.len f.period with hh|hh
    ·rw[Int.emod_eq_of_lt (by omega) hh]at hper;omega
    ·exact hh
   simp;omega)
  have hc:∃c,c∈relC n s f r (f.phase+(0:Nat)*f.period):=by
   have hu1:∃o a,slotsUp n s f r (f.phase+(0:Nat)*f.period) 0 1=some (o,a):=by
    have hb1:∀k x,boundUp n s f r 0 (k+1)=some x→relR n s f r 0 (f.phase+(0:Nat)*f.period)≠none:=by
     intro k
     induction k with
     | zero=>
      intro x hx hh
      rw[boundUp_stop hh]at hx;cases hx
     | succ k ih=>
      intro x hx
      cases hb':boundUp n s f r 0 (k+1) with
      | none=>simp only[boundUp]at hx hb';rw[hb']at hx;cases hx
      | some y=>exact ih y hb'
    obtain⟨k,hk⟩:∃k,relsN s f=k+1:=⟨relsN s f-1,by omega⟩
    have hb2:=hb
    unfold boundR at hb2
    rw[hk]at hb2
    have hr1:=hb1 k x hb2
    unfold relR slotsW at hr1
    cases hu:slotsUp n s f r (f.phase+(0:Nat)*f.period) 0 1 with
    | some oa=>exact⟨oa.1,oa.2,rfl⟩
    | none=>
     rw[slotsUp_none hu (by omega:1≤r.length-1)]at hr1
     exact absurd rfl hr1
   obtain⟨o,a,hu⟩:=hu1
   have hn1:=hok.need1 (Int.le_refl 0) (k:=0) (by omega)
   unfold slotsUp at hu
   simp only[slotsUp]at hu
   split at hu
   ·cases hu
   rename_i hlen1
   have hl:=onC_len s f (r.getD 0 0) (r.getD (0+1) 0) (needAt n r 0 0) (f.phase+(0:Nat)*f.period) (f.phase+(0:Nat)*f.period+f.period)
   have hpos:0 < (onC s f (r.getD 0 0) (r.getD (0+1) 0) (needAt n r 0 0) (f.phase+(0:Nat)*f.period) (f.phase+(0:Nat)*f.period+f.period)).length:=by rw[hl];omega
   obtain⟨c,hc⟩:=List.exists_mem_of_length_pos hpos
   have hmono:∀k,1≤k→c∈cellsUp n s f r (f.phase+(0:Nat)*f.period) k:=by
    intro k
    induction k with
    | zero=>intro hh;omega
    | succ k ih=>
     intro _
     by_cases hk:k=0
     ·subst hk
      unfold cellsUp
      simp only[slotsUp]
      exact List.mem_append_right _ hc
     ·unfold cellsUp
      split
      ·exact ih (by omega)
      ·exact List.mem_append_left _ (ih (by omega))
   exact⟨c,hmono _ (by omega)⟩
  obtain⟨c,hc⟩:=hc
  have hmem:c∈allC n s f l:=by
   unfold allC
   rw[List.mem_flatMap]
   refine⟨r,hr,?_⟩
   have:∀k,0 < k→c∈relsC n s f r k:=by
    intro k
    induction k with
    | zero=>intro hh;omega
    | succ k ih=>
     intro _
     by_cases hk:k=0
     ·subst hk
      exact List.mem_append_right _ hc
     ·exact List.mem_append_left _ (ih (by omega))
   exact this _ h1
  intro hnil
  have hcs:=(allC_mem hmem).1
  have:c∈needL n s f l:=by
   unfold needL
   rw[List.mem_filter]
   exact⟨hcs,decide_eq_true hmem⟩
  rw[hnil]at this
  cases this
 ·unfold needL at hx
  rw[List.mem_filter]at hx
  have:=allC_mem (of_decide_eq_true hx.2)
  exact⟨this.2,hx.1⟩
open Go Go.RowKit
def rowS (k:List Int)(row:List Int)(a:Att):List Int:=if a.key=k then(if a.out=1 then [] else row++[a.slot]) else row
def rowF (k:List Int)(ats:List Att):List Int:=ats.foldl (rowS k) []
theorem brk_row {k:List Int}{loss:Int}:∀{ats:List Att},(brk k loss ats).2=none→(brk k loss ats).1=rowF k ats:=by
 intro ats
 suffices ∀(l:List Att) (st:List Int×Option (List Int)) (row:List Int),(st.2=none→st.1=row)→(l.foldl (brS k loss) st).2=none→(l.foldl (brS k loss) st).1=l.foldl (rowS k) row from this ats ([],none) [] (fun _=>rfl)
 intro l
 induction l with
 | nil=>intro st row h h2;exact h h2
 | cons a l ih=>
  intro st row h h2
  rw[List.foldl_cons]at h2 ⊢
  rw[List.foldl_cons]
  refine ih _ _ (fun h3=>?_) h2
  unfold brS at h3 ⊢
  unfold rowS
  split at h3
  ·rename_i hc
   rw[if_pos hc,if_pos hc.1]
   split at h3
   ·rename_i ho;rw[if_pos ho,if_pos ho]
   ·rename_i ho;rw[if_neg ho,if_neg ho,h hc.2]
  ·rename_i hc
   rw[if_neg hc]
   by_cases e:a.key=k
   ·exact absurd ⟨e,h3⟩ hc
   ·rw[if_neg e];exact h h3
end HM
