/- Runs and changes in plain words. -/
import Derived.Test.YtggiajmlnieidaaGreatDoorDa
import Derived.Test.YtggiajmlnieidaaGreatDoorFh
import Derived.Test.YtggiajmlnieidaaGreatDoorFc
namespace HM
open Go Go.RowKit
theorem Zk (l:List zf)(sc:Nat→zc)(x:List zD):∀n:Nat,∀b∈(yf l sc x n).atts,b.slot < n
 | 0=>by simp[yf]
 | n+1=>by
  obtain⟨la,a1,a2,_⟩:=jI l (sc n) x (yf l sc x n) (n:Nat)
  intro b hb
  have hb:b∈(Yo l (sc n) x (yf l sc x n) (n:Nat)).atts:=hb
  rw[a1]at hb
  rcases List.mem_append.1 hb with hb|hb
  ·have:=Zk l sc x n b hb;omega
  ·rw[a2 b hb];omega
theorem Yr (l:List zf)(sc:Nat→zc)(x:List zD):∀n:Nat,∀b∈(yf l sc x n).atts,0≤b.slot
 | 0=>by simp[yf]
 | n+1=>by
  obtain⟨la,a1,a2,_⟩:=jI l (sc n) x (yf l sc x n) (n:Nat)
  intro b hb
  have hb:b∈(Yo l (sc n) x (yf l sc x n) (n:Nat)).atts:=hb
  rw[a1]at hb
  rcases List.mem_append.1 hb with hb|hb
  ·exact Yr l sc x n b hb
  ·rw[a2 b hb];omega
theorem ziE {ds:List xd}(h:ds.Pairwise fun d e=>¬(d.flow=e.flow∧d.frame=e.frame)){d:xd}(hd:d∈ds):ds.find? (fun e=>e.flow==d.flow&&e.frame==d.frame)=some d:=by
 cases hf:ds.find? (fun e=>e.flow==d.flow&&e.frame==d.frame) with
 | none=>
  have:=List.find?_eq_none.1 hf d hd
  simp at this
 | some e=>
  have h1:=List.find?_some hf
  have h2:=List.mem_of_find?_eq_some hf
  simp only[Bool.and_eq_true,beq_iff_eq]at h1
  obtain⟨i,hi⟩:=List.getElem?_of_mem hd
  obtain⟨j,hj⟩:=List.getElem?_of_mem h2
  obtain⟨hi1,hi2⟩:=List.getElem?_eq_some_iff.1 hi
  obtain⟨hj1,hj2⟩:=List.getElem?_eq_some_iff.1 hj
  rcases Nat.lt_trichotomy i j with hij|rfl|hij
  ·have:=List.pairwise_iff_getElem.1 h i j hi1 hj1 hij
   rw[hi2,hj2]at this
   exact absurd ⟨h1.1.symm,h1.2.symm⟩ this
  ·rw[hi]at hj;injection hj with hj;rw[hj]
  ·have:=List.pairwise_iff_getElem.1 h j i hj1 hi1 hij
   rw[hi2,hj2]at this
   exact absurd h1 this
theorem We {l:List zf}{s:zc}{x:List zD}{slots:Int}(h:wq l s x slots=0):(yd 32 l).2=0∧yc s=true∧(y0 x).2=0∧0≤slots∧slots≤4096:=by
 unfold wq at h
 split at h
 ·cases h
 rename_i hn
 split at h
 ·cases h
 rename_i hn2
 refine⟨?_,?_,?_,by omega,by omega⟩
 ·exact Classical.byContradiction fun hh=>hn (.inl hh)
 ·cases hf:yc s with
  | true=>rfl
  | false=>exact absurd (.inr (.inl hf)) hn
 ·exact Classical.byContradiction fun hh=>hn (.inr (.inr hh))
structure zJ where
 slot:Int
 add:Bool
 cell:zg
def zJ.av (c:zJ):AV:=.agg [.int .i64 c.slot,.bool c.add,.int .i64 c.cell.slot,.int .i64 c.cell.off,.int .i64 c.cell.src,.int .i64 c.cell.dst,.int .i64 c.cell.flow]
def zT (l:List zJ):AV:=.sl false (l.map zJ.av)
def vd {α:Type}(l:List α)(p:Nat):List α:=l.take p++l.drop (p+1)
theorem WC {α:Type}{l:List α}{p:Nat}(h:p < l.length):(vd l p).length=l.length-1:=by
 unfold vd
 rw[List.length_append,List.length_take,List.length_drop];omega
theorem KD {α:Type}(l:List α)(p:Nat):(vd l p).Sublist l:=by
 unfold vd
 have h:=List.Sublist.append (List.Sublist.refl (l.take p)) (List.drop_sublist_drop_left l (Nat.le_succ p))
 rwa [List.take_append_drop]at h
theorem zc4 {α:Type}{cmp:α→α→Int}{l m:List α}(h:m.Sublist l)(hs:YX cmp l):YX cmp m:=by
 have h1:l.Pairwise fun a b=>cmp a b < 0:=List.pairwise_iff_getElem.2 fun i j hi hj hij=>hs i j _ _ hij (List.getElem?_eq_getElem hi) (List.getElem?_eq_getElem hj)
 have h2:=List.pairwise_iff_getElem.1 (h1.sublist h)
 intro i j x y hij hx hy
 obtain⟨hi,rfl⟩:=List.getElem?_eq_some_iff.1 hx
 obtain⟨hj,rfl⟩:=List.getElem?_eq_some_iff.1 hy
 exact h2 i j hi hj hij
def YK (s:zc)(c:zg):zc×Int:=
 if yc s=false then(⟨0,0,[]⟩,1)
 else if Qy s c=false then(⟨0,0,[]⟩,7)
 else(⟨s.len,s.offs,vd s.cells (vl s c)⟩,0)
theorem zel {s:zc}{c:zg}(h:Qy s c=true):s.cells[vl s c]? = some c:=by
 unfold Qy jx at h
 unfold vl
 split at h
 ·rename_i x hx
  have h0:x.cmp c=0:=by simpa[vO] using h
  have h1:=vt.1 h0
  have h2:x=c:=by
   obtain⟨a1,a2,a3,a4,a5⟩:=x
   obtain⟨b1,b2,b3,b4,b5⟩:=c
   simpa[zg.nums] using h1
  rw[hx,h2]
 ·cases h
theorem ze5 {s:zc}{c:zg}(h:(YK s c).2=0):yc (YK s c).1=true:=by
 unfold YK at h ⊢
 split at h
 ·cases h
 split at h
 ·cases h
 rename_i h1 h2
 rw[if_neg h1,if_neg h2]
 have hf:yc s=true:=by simpa using h1
 obtain⟨f1,f2,f3⟩:=xC hf
 have hsub:=KD s.cells (vl s c)
 refine zb8 f1 (Nat.le_trans hsub.length_le f2) (fun x hx=>?_) (zc4 hsub (kr hf))
 exact(W5 (s:=s) (t:=⟨s.len,s.offs,vd s.cells (vl s c)⟩) rfl rfl x).trans (f3 x (hsub.mem hx))
def yi (s:zc)(c:zJ):zc×Int:=if c.add=true then kK s c.cell else YK s c.cell
theorem zfG {s:zc}{c:zJ}(h:(yi s c).2=0):yc (yi s c).1=true:=by
 unfold yi at h ⊢
 split
 ·rename_i ha
  rw[if_pos ha]at h
  obtain⟨t,ht⟩:∃t,t=(kK s c.cell).1:=⟨_,rfl⟩
  rw[←ht]
  exact(zf8 (show kK s c.cell=(t,0) by rw[ht,←h])).2.2
 ·rename_i ha
  rw[if_neg ha]at h
  exact ze5 h
def wV (p:Option Int)(c:zJ):Int:=if c.slot < 0 then 2 else match p with
 | some q=>if c.slot < q then 5 else 0
 | none=>0
def xj:Option Int→zc→List zJ→List zc×Int
 | _,_,[]=>([],0)
 | p,s,c :: cs=>if wV p c≠0 then([],wV p c) else if (yi s c).2≠0 then([],(yi s c).2) else((yi s c).1 :: (xj (some c.slot) (yi s c).1 cs).1,(xj (some c.slot) (yi s c).1 cs).2)
def zcO:Option Int→zc→zc→List zJ→Int→zc×Int
 | _,_,out,[],_=>(out,0)
 | p,s,out,c :: cs,t=>if wV p c≠0 then(out,wV p c) else if (yi s c).2≠0 then(out,(yi s c).2) else zcO (some c.slot) (yi s c).1 (if c.slot≤t then(yi s c).1 else out) cs t
def Yi (cs:List zJ)(t:Int):Nat:=cs.countP fun c=>decide (c.slot≤t)
theorem WF {q:Int}:∀{s:zc} {cs:List zJ},(xj (some q) s cs).2=0→∀c∈cs,q≤c.slot
 | s,[],_=>by simp
 | s,c :: cs,h=>by
  unfold xj at h
  split at h
  ·rename_i h1;exact absurd h h1
  split at h
  ·rename_i h1;exact absurd h h1
  rename_i h1 h2
  have hq:q≤c.slot:=by
   simp only[Decidable.not_not]at h1
   unfold wV at h1
   simp only at h1
   split at h1
   ·cases h1
   split at h1
   ·cases h1
   omega
  intro d hd
  rcases List.mem_cons.1 hd with rfl|hd
  ·exact hq
  ·have:=WF h d hd
   omega
theorem zaQ:∀{p:Option Int} {s:zc} {cs:List zJ},(xj p s cs).2=0→(xj p s cs).1.length=cs.length
 | _,_,[],_=>rfl
 | p,s,c :: cs,h=>by
  unfold xj at h ⊢
  split at h
  ·rename_i h1;exact absurd h h1
  split at h
  ·rename_i h1;exact absurd h h1
  rename_i h1 h2
  rw[if_neg h1,if_neg h2,List.length_cons,List.length_cons,zaQ h]
theorem zcL:∀{p:Option Int} {s:zc} {cs:List zJ},∀t∈(xj p s cs).1,yc t=true
 | _,_,[],t,h=>by simp[xj]at h
 | p,s,c :: cs,t,h=>by
  unfold xj at h
  split at h
  ·simp at h
  split at h
  ·simp at h
  rename_i h1 h2
  simp only[List.mem_cons]at h
  rcases h with rfl|h
  ·exact zfG (by simpa using h2)
  ·exact zcL t h
def jd (s:zc)(cs:List zJ)(t:Int):zc:=((s :: (xj none s cs).1)[Yi cs t]?).getD s
theorem KQ:∀{p:Option Int} {s out:zc} {cs:List zJ} (t:Int),(xj p s cs).2=0→(zcO p s out cs t).1=((out :: (xj p s cs).1)[Yi cs t]?).getD out
 | _,_,_,[],_,_=>rfl
 | p,s,out,c :: cs,t,h=>by
  unfold xj at h
  split at h
  ·rename_i h1;exact absurd h h1
  split at h
  ·rename_i h1;exact absurd h h1
  rename_i h1 h2
  unfold zcO xj
  rw[if_neg h1,if_neg h2,if_neg h1,if_neg h2]
  simp only
  rw[KQ t h]
  unfold Yi
  rw[List.countP_cons]
  by_cases hc:c.slot≤t
  ·rw[if_pos hc,if_pos (by simpa using hc),List.getElem?_cons_succ]
   have hl:=zaQ h
   have hle:=List.countP_le_length (p:=fun c:zJ=>decide (c.slot≤t)) (l:=cs)
   cases hk:(( (yi s c).1 :: (xj (some c.slot) (yi s c).1 cs).1)[List.countP (fun c:zJ=>decide (c.slot≤t)) cs]?) with
   | some z=>rfl
   | none=>rw[List.getElem?_eq_none_iff]at hk;simp only[List.length_cons]at hk;omega
  ·rw[if_neg hc,if_neg (by simpa using hc)]
   have h0:List.countP (fun c:zJ=>decide (c.slot≤t)) cs=0:=by
    rw[List.countP_eq_zero]
    intro d hd
    have:=WF h d hd
    simp;omega
   rw[h0];rfl
theorem zjd {s:zc}{cs:List zJ}(t:Int)(h:(xj none s cs).2=0):(zcO none s s cs t).1=jd s cs t:=KQ t h
theorem zbI {s:zc}(hs:yc s=true)(cs:List zJ)(t:Int):yc (jd s cs t)=true:=by
 unfold jd
 cases h:(s :: (xj none s cs).1)[Yi cs t]? with
 | none=>exact hs
 | some z=>
  rcases List.mem_cons.1 (List.mem_of_getElem? h) with rfl|h
  ·exact hs
  ·exact zcL _ h
theorem zj1 {s:zc}{cs:List zJ}(t:Int)(h:(xj none s cs).2=0):(s :: (xj none s cs).1)[Yi cs t]? = some (jd s cs t):=by
 have hl:=zaQ h
 have hle:=List.countP_le_length (p:=fun c:zJ=>decide (c.slot≤t)) (l:=cs)
 unfold jd
 cases hk:(s :: (xj none s cs).1)[Yi cs t]? with
 | some z=>rfl
 | none=>rw[List.getElem?_eq_none_iff]at hk;simp only[List.length_cons,Yi]at hk;omega
def yy (l:List zf)(s:zc)(cs:List zJ)(x:List zD)(slots:Int):wK×Int:=
 if wq l s x slots≠0 then(⟨[],[]⟩,wq l s x slots)
 else if 1024 < cs.length then(⟨[],[]⟩,8)
 else if (xj none s cs).2≠0 then(⟨[],[]⟩,(xj none s cs).2)
 else(⟨(yf l (fun n=>jd s cs n) x slots.toNat).atts,(yf l (fun n=>jd s cs n) x slots.toNat).dels⟩,0)
def zc2 (f:zf)(frame:Int):(Int×Int)×Int:=if (jt f frame).2≠0 then((0,0),(jt f frame).2) else(((jt f frame).1,(jt f frame).1+f.period-1),0)
theorem zfy (f:zf)(id:Int):xm [f] id=if f.id=id then 0 else -1:=by
 by_cases h:f.id=id
 ·rw[if_pos h]
  exact yI (k:=0) (by simp) (fun j y hj=>by omega) rfl (by simpa using h)
 ·rw[if_neg h]
  refine yY (fun j y hj hy=>?_)
  cases j with
  | zero=>simp at hy;subst hy;simpa using h
  | succ j=>simp at hy
def qm (cs:List zJ)(k:Nat):Option Int:=match k with
 | 0=>none
 | j+1=>(cs[j]?).map (·.slot)
structure YY (s:zc)(cs:List zJ)(k:Nat)(bs:List zc):Prop where
 le:k≤cs.length
 len:bs.length=k
 eq:xj none s cs=(bs++(xj (qm cs k) (bs.getLastD s) (cs.drop k)).1,(xj (qm cs k) (bs.getLastD s) (cs.drop k)).2)
theorem YY.zero (s:zc)(cs:List zJ):YY s cs 0 []:=⟨Nat.zero_le _,rfl,rfl⟩
theorem YY.last {s:zc}{cs:List zJ}{k:Nat}{bs:List zc}(h:YY s cs k bs):(s :: bs)[k]? = some (bs.getLastD s):=by
 have hl:=h.len
 subst hl
 cases bs with
 | nil=>rfl
 | cons b bs=>simp[List.getLastD_eq_getLast?,List.getLast?_eq_getElem?]
theorem YY.err1 {s:zc}{cs:List zJ}{k:Nat}{bs:List zc}(h:YY s cs k bs){c:zJ}(hc:cs[k]? = some c)(he:wV (qm cs k) c≠0):(xj none s cs).2=wV (qm cs k) c:=by
 rw[h.eq,qw hc]
 simp only[xj]
 rw[if_pos he]
theorem YY.err2 {s:zc}{cs:List zJ}{k:Nat}{bs:List zc}(h:YY s cs k bs){c:zJ}(hc:cs[k]? = some c)(he:wV (qm cs k) c=0)(h2:(yi (bs.getLastD s) c).2≠0):(xj none s cs).2=(yi (bs.getLastD s) c).2:=by
 rw[h.eq,qw hc]
 simp only[xj]
 rw[if_neg (by simp[he]),if_pos h2]
theorem YY.step {s:zc}{cs:List zJ}{k:Nat}{bs:List zc}(h:YY s cs k bs){c:zJ}(hc:cs[k]? = some c)(he:wV (qm cs k) c=0)(h2:(yi (bs.getLastD s) c).2=0):YY s cs (k+1) (bs++[(yi (bs.getLastD s) c).1]):=by
 refine⟨(List.getElem?_eq_some_iff.1 hc).1,by rw[List.length_append,h.len];rfl,?_⟩
 have hl:(bs++[(yi (bs.getLastD s) c).1]).getLastD s=(yi (bs.getLastD s) c).1:=by simp
 have e1:xj (qm cs k) (bs.getLastD s) (c :: cs.drop (k+1))=((yi (bs.getLastD s) c).1 :: (xj (some c.slot) (yi (bs.getLastD s) c).1 (cs.drop (k+1))).1,(xj (some c.slot) (yi (bs.getLastD s) c).1 (cs.drop (k+1))).2):=by
  rw[xj,if_neg (by simp[he]),if_neg (fun hh=>hh h2)]
 have hp:qm cs (k+1)=some c.slot:=by simp[qm,hc]
 rw[h.eq,qw hc,e1,hl,hp]
 simp
theorem YY.fin {s:zc}{cs:List zJ}{bs:List zc}(h:YY s cs cs.length bs):xj none s cs=(bs,0):=by
 rw[h.eq,List.drop_length]
 simp[xj]
theorem zcm {p:Option Int}{c:zJ}(h:c.slot < 0):wV p c=2:=by unfold wV;rw[if_pos h]
theorem zdB {cs:List zJ}{c:zJ}(h:¬c.slot < 0):wV (qm cs 0) c=0:=by unfold wV qm;rw[if_neg h]
theorem zfI {cs:List zJ}{c d:zJ}{j:Nat}(h:¬c.slot < 0)(hd:cs[j]? = some d):wV (qm cs (j+1)) c=if c.slot < d.slot then 5 else 0:=by
 have hp:qm cs (j+1)=some d.slot:=by simp[qm,hd]
 rw[hp];unfold wV;rw[if_neg h]
theorem KU (cs:List zJ)(n:Int):(cs.filter fun x=>!decide (n < x.slot)).length=Yi cs n:=by
 unfold Yi
 rw[List.countP_eq_length_filter]
 congr 1
 refine List.filter_congr fun x _=>?_
 rw[Bool.eq_iff_iff];simp
theorem zho {l:List zf}{s:zc}{cs:List zJ}{x:List zD}{slots:Int}(h:wq l s x slots=0)(h2:¬1024 < cs.length)(h3:(xj none s cs).2=0):yy l s cs x slots=(⟨(wx l (fun n=>jd s cs n) x slots.toNat).atts,(wx l (fun n=>jd s cs n) x slots.toNat).dels⟩,0):=by
 obtain⟨r1,r2,r3,r4,r5⟩:=We h
 have hs:=zad (YQ r1) (fun n=>jd s cs n) x slots.toNat (by omega)
 unfold yy
 rw[if_neg (by simp[h]),if_neg h2,if_neg (by simp[h3]),hs.at_,hs.dl]
theorem zdD {l:List zf}{s:zc}{cs:List zJ}{x:List zD}{slots:Int}(h:(yy l s cs x slots).2≠0):(yy l s cs x slots).1=⟨[],[]⟩:=by
 unfold yy at h ⊢
 split
 ·rfl
 rename_i h1
 rw[if_neg h1]at h
 split
 ·rfl
 rename_i h2
 rw[if_neg h2]at h
 split
 ·rfl
 rename_i h3
 rw[if_neg h3]at h
 exact absurd rfl h
theorem KH {l:List zf}{s:zc}{cs:List zJ}{x:List zD}{slots:Int}(h:(yy l s cs x slots).2=0):wq l s x slots=0∧(xj none s cs).2=0∧(yy l s cs x slots).1=⟨(yf l (fun n=>jd s cs n) x slots.toNat).atts,(yf l (fun n=>jd s cs n) x slots.toNat).dels⟩:=by
 unfold yy at h ⊢
 split
 ·rename_i h1;rw[if_pos h1]at h;exact absurd h h1
 rename_i h1
 rw[if_neg h1]at h
 split
 ·rename_i h2;rw[if_pos h2]at h;cases h
 rename_i h2
 rw[if_neg h2]at h
 split
 ·rename_i h3;rw[if_pos h3]at h;exact absurd h h3
 rename_i h3
 exact⟨by simpa using h1,by simpa using h3,rfl⟩
def zgp:Ty:=.st [tI,.bool,JY]
theorem zjU {l:List AV}(h:zgp.sh l):∃c:zJ,l=c.av.cells:=by
 obtain⟨_,_,rfl,_,h1,_,_,rfl,_,h2,_,_,rfl,_,h3,h6⟩:=h
 obtain⟨a,rfl,_⟩:=xg h1
 obtain⟨b,rfl⟩:=h2
 obtain⟨c,rfl⟩:=zd8 h3
 obtain rfl:=h6
 exact⟨⟨a,b,c⟩,rfl⟩
theorem zig {l:List AV}(h:(Ty.sl zgp).sh l):∃cs:List zJ,l=[zT cs]∧cs.length≤140737488355328:=by
 obtain⟨els,rfl,h1,h2⟩:=h
 obtain⟨cs,h3,h4⟩:=Xw (f:=zJ.av) (fun l hl=>by
  obtain⟨c,rfl⟩:=zjU hl
  exact⟨c,rfl⟩) els h1
 exact⟨cs,by rw[h3];rfl,by omega⟩
theorem len6 {α:Type}:∀{l:List α},l.length=6→∃a1 a2 a3 a4 a5 a6,l=[a1,a2,a3,a4,a5,a6]
 | [a1,a2,a3,a4,a5,a6],_=>⟨a1,a2,a3,a4,a5,a6,rfl⟩
 | [],h=>by simp at h
 | [_],h=>by simp at h
 | [_,_],h=>by simp at h
 | [_,_,_],h=>by simp at h
 | [_,_,_,_],h=>by simp at h
 | [_,_,_,_,_],h=>by simp at h
 | _ :: _ :: _ :: _ :: _ :: _ :: _ :: _,h=>by simp at h
theorem sh6 {d1 d2 d3 d4 d5 d6:Ty}:∀{es:List AV},jr [d1,d2,d3,d4,d5,d6] es→∃l1 l2 l3 l4 l5 l6,es=[d1.mk l1,d2.mk l2,d3.mk l3,d4.mk l4,d5.mk l5,d6.mk l6]∧d1.sh l1∧d2.sh l2∧d3.sh l3∧d4.sh l4∧d5.sh l5∧d6.sh l6
 | [e1,e2,e3,e4,e5,e6],h=>by
  obtain⟨⟨l1,h1,rfl⟩,⟨l2,h2,rfl⟩,⟨l3,h3,rfl⟩,⟨l4,h4,rfl⟩,⟨l5,h5,rfl⟩,⟨l6,h6,rfl⟩,_⟩:=h
  exact⟨l1,l2,l3,l4,l5,l6,rfl,h1,h2,h3,h4,h5,h6⟩
 | [],h=>by simp[jr]at h
 | [_],h=>by simp[jr]at h
 | [_,_],h=>by simp[jr]at h
 | [_,_,_],h=>by simp[jr]at h
 | [_,_,_,_],h=>by simp[jr]at h
 | [_,_,_,_,_],h=>by simp[jr]at h
 | _ :: _ :: _ :: _ :: _ :: _ :: _ :: _,h=>by simp[jr]at h
structure ye where
 flow:zf
 routes:List (List Int)
def ye.cs (x:ye):List AV:=[.int .i64 x.flow.id,.int .i64 x.flow.src,.int .i64 x.flow.dst,.int .i64 x.flow.period,.int .i64 x.flow.phase,.int .i64 x.flow.dead,zZ x.routes]
def ye.av (x:ye):AV:=.agg [.int .i64 x.flow.id,.int .i64 x.flow.src,.int .i64 x.flow.dst,.int .i64 x.flow.period,.int .i64 x.flow.phase,.int .i64 x.flow.dead,zZ x.routes]
def zH (l:List ye):AV:=.sl false (l.map ye.av)
def zL (q:List ye):List zf:=q.map ye.flow
def xN (n:zF)(x:ye)(k:Nat):Int:=match x.routes[k]? with
 | some r=>kf n x.flow.src x.flow.dst r
 | none=>0
def ZQ:List (List Int)→Bool
 | [a,b]=>decide (a=b)
 | _=>false
def vT (n:zF)(x:ye):Int:=
 if x.routes.length=0 then 14 else if 2 < x.routes.length then 8
 else if (zS (xN n x) x.routes.length).2≠0 then(zS (xN n x) x.routes.length).2
 else if ZQ x.routes=true then 6 else 0
def WU (n:zF)(q:List ye)(k:Nat):Int:=match q[k]? with
 | some x=>vT n x
 | none=>0
def wZ (n:zF)(q:List ye):Int×Int:=
 if yS n≠0 then(-1,1) else if (yd n.nodes (zL q)).2≠0 then yd n.nodes (zL q) else zS (WU n q) q.length
theorem QO {f:Nat→Int}{n:Nat}(h:(zS f n).2≠0):0≤(zS f n).1:=by
 unfold zS at h ⊢
 split
 ·simp
 ·rename_i hh;rw[hh]at h;exact absurd rfl h
structure zeJ (n:zF)(x:ye):Prop where
 flow:yo n.nodes x.flow=0
 len:1≤x.routes.length∧x.routes.length≤2
 route:∀r∈x.routes,vC n x.flow.src x.flow.dst r=0
 two:ZQ x.routes=false
theorem xu {n:zF}{q:List ye}(h:(wZ n q).2=0):xT n∧q.length≤16∧(∀x∈q,zeJ n x)∧(yd n.nodes (zL q)).2=0:=by
 unfold wZ at h
 split at h
 ·cases h
 rename_i h0
 split at h
 ·rename_i h1;exact absurd h h1
 rename_i h1
 have h1:(yd n.nodes (zL q)).2=0:=by omega
 have hok:=vo (by omega:yS n=0)
 have hfl:=h1
 unfold yd at hfl
 rw[if_neg (by have:=hok.nodes;omega)]at hfl
 split at hfl
 ·cases hfl
 rename_i h16
 refine⟨hok,by simp[zL]at h16;omega,fun x hx=>?_,h1⟩
 obtain⟨k,hk⟩:=List.getElem?_of_mem hx
 have hkl:=(List.getElem?_eq_some_iff.1 hk).1
 have h2:=yw.1 h k hkl
 have h3:=yw.1 hfl k (by simpa[zL] using hkl)
 have hkf:(zL q)[k]? = some x.flow:=by simp[zL,hk]
 unfold wv at h3
 rw[hkf]at h3
 simp only at h3
 have hfx:yo n.nodes x.flow=0:=by
  split at h3
  ·rename_i hh;exact absurd h3 hh
  ·omega
 unfold WU at h2
 rw[hk]at h2
 simp only[vT]at h2
 split at h2
 ·cases h2
 split at h2
 ·cases h2
 split at h2
 ·rename_i hh;exact absurd h2 hh
 rename_i hr
 split at h2
 ·cases h2
 rename_i ht
 refine⟨hfx,by omega,fun r hr2=>?_,by simpa using ht⟩
 obtain⟨j,hj⟩:=List.getElem?_of_mem hr2
 have h4:=yw.1 (by omega:(zS (xN n x) x.routes.length).2=0) j (List.getElem?_eq_some_iff.1 hj).1
 unfold xN at h4
 rw[hj]at h4
 simp only[kf]at h4
 split at h4
 ·rename_i hh;exact absurd h4 hh
 ·exact h4
theorem Kp {n:zF}{a b:Int}(h:vb n a b=true):0≤xf n a b:=by
 rcases Int.lt_or_le (xf n a b) 0 with hh|hh
 ·unfold vb at h
  simp at h
  omega
 ·exact hh
def qq {α:Type}(f:α→Int):List α→Int
 | []=>0
 | x :: l=>f x+qq f l
theorem VJ {α:Type}(f:α→Int)(a b:List α):qq f (a++b)=qq f a+qq f b:=by
 induction a with
 | nil=>simp[qq]
 | cons x a ih=>simp only[List.cons_append,qq,ih];omega
theorem zeV {α:Type}(f:α→Int){l:List α}{k:Nat}{x:α}(h:l[k]? = some x):qq f (l.take (k+1))=qq f (l.take k)+f x:=by rw[zK h,VJ];simp[qq]
theorem Vs {α:Type}{f:α→Int}{m:Int}(hm:0≤m):∀{l:List α},(∀x∈l,0≤f x∧f x≤m)→0≤qq f l∧qq f l≤l.length*m
 | [],_=>by simp[qq]
 | x :: l,h=>by
  have h1:=h x (by simp)
  have h2:=Vs hm fun y hy=>h y (List.mem_cons_of_mem x hy)
  simp only[qq,List.length_cons]
  have h3:((l.length+1:Nat):Int)*m=l.length*m+m:=by rw[Int.natCast_add,Int.add_mul];simp
  omega
section
variable {α:Type} [DecidableEq α]
end
def zeT:Ty:=.st [zgo,zjq]
theorem zjS {l:List AV}(h:zeT.sh l):∃x:ye,l=x.cs∧x.routes.length≤140737488355328∧∀r∈x.routes,r.length≤140737488355328:=by
 obtain⟨_,_,rfl,_,h1,_,_,rfl,_,h2,h6⟩:=h
 obtain⟨f,rfl⟩:=zif h1
 obtain⟨rs,rfl,r1,r2⟩:=zd6 h2
 obtain rfl:=h6
 exact⟨⟨f,rs⟩,rfl,r1,r2⟩
theorem zd7 {l:List AV}(h:(Ty.sl zeT).sh l):∃q:List ye,l=[zH q]∧q.length≤140737488355328∧∀x∈q,x.routes.length≤281474976710656∧∀r∈x.routes,r.length≤281474976710656:=by
 obtain⟨els,rfl,h1,h2⟩:=h
 obtain⟨cs,h3,h4,h5⟩:=Xv (f:=ye.av) (Q:=fun x:ye=>x.routes.length≤281474976710656∧∀r∈x.routes,r.length≤281474976710656) (fun l hl=>by
  obtain⟨c,rfl,c1,c2⟩:=zjS hl
  exact⟨c,rfl,by omega,fun r hr=>by have:=c2 r hr;omega⟩) els h1
 exact⟨cs,by rw[h3];rfl,by omega,h5⟩
def mpv (p:PS)(id:Nat):AV:=if p.frame < 0 then .nilm else .mp id
def yO (p:PS):Nat→Ob
 | 0=>p.since.ob none
 | 1=>p.tries.ob (some 2)
 | _=>p.acked.ob (some 2)
def VL (g:Nat→Nat)(p:PS):AV:=.agg [.int .i64 p.frame,mpv p (g 0),mpv p (g 1),mpv p (g 2),.bool p.done]
def zA (g:Nat→Nat→Nat)(q:List PS):List AV:=q.mapIdx fun i p=>VL (g i) p
theorem v6 {g:Nat→Nat→Nat}{q:List PS}{i:Nat}{p:PS}(h:q[i]? = some p):(zA g q)[i]? = some (VL (g i) p):=by simp[zA,h]
theorem Zd (g:Nat→Nat→Nat)(q:List PS):(zA g q).length=q.length:=by simp[zA]
theorem WS (g:Nat→Nat→Nat)(q:List PS)(i:Nat)(p:PS):(zA g q).set i (VL (g i) p)=zA g (q.set i p):=by
 apply List.ext_getElem?
 intro j
 simp only[zA,List.getElem?_set,List.getElem?_mapIdx,List.length_mapIdx]
 by_cases e:i=j
 ·subst e;simp only[if_true]
  split<;>simp_all
 ·simp[e]
theorem x7 (g:Nat→Nat→Nat)(q:List PS):jC 5 (zA g q):=by
 intro e he
 obtain⟨i,hi⟩:=List.getElem?_of_mem he
 simp only[zA,List.getElem?_mapIdx,Option.map_eq_some_iff]at hi
 obtain⟨p,_,rfl⟩:=hi
 rfl
def X6 (l:List zf)(s:zc)(x:List zD)(sv av dv:AV):List AV:=[zN l,.int .i64 s.len,.int .i64 s.offs,zy s.cells,xn x,sv,av,dv]
structure jD where
 p:TypeId
 q:TypeId
 d:TypeId
 a:TypeId
 hpq:p≠q
 hpd:p≠d
 hqd:q≠d
 ks:List (Nat×List AV×TypeId)
 hk:∀e∈ks,e.2.2≠p∧e.2.2≠q∧e.2.2≠d
def StV (T:jD)(S:St)(sv:AV)(g:Nat→Nat→Nat)(sts:List PS):Prop:=(sts=[]∧sv=.grown .nils 0)∨∃qb ex,sv=.vsl qb 0 sts.length 5∧S.bx[qb]? = some (.cells (zd (zA g sts)++ex) T.q)
def zkW (T:jD)(S:St)(dv:AV)(ds:List xd):Prop:=(ds=[]∧dv=.grown .nils 0)∨∃db ex,dv=.vsl db 0 ds.length 3∧S.bx[db]? = some (.cells (zd (ds.map xd.av)++ex) T.d)
structure xx (T:jD)(S:St)(pb ch:Nat)(l:List zf)(s:zc)(x:List zD)(Q:PL)(g:Nat→Nat→Nat)(sv dv:AV):Prop where
 p:S.bx[pb]? = some (.cells (X6 l s x sv (.own (Q.atts.map y9.av) ch) dv) T.p)
 q:StV T S sv g Q.sts
 m:∀(i:Nat) (p:PS),Q.sts[i]? = some p→0≤p.frame→∀j,j < 3→S.bx[g i j]? = some (yO p j)
 inj:∀(i:Nat) (p:PS) (i':Nat) (p':PS),Q.sts[i]? = some p→Q.sts[i']? = some p'→0≤p.frame→0≤p'.frame→∀j j',j < 3→j' < 3→g i j=g i' j'→i=i'∧j=j'
 a:S.fr[ch]? = some (Q.atts.length,8)
 ty:S.ty ch=T.a
 k:∀e∈T.ks,S.bx[e.1]? = some (.cells e.2.1 e.2.2)
 d:zkW T S dv Q.dels
def Jp (T:jD)(S:St)(pb ch:Nat)(l:List zf)(s:zc)(x:List zD)(Q:PL):Prop:=∃g sv dv,xx T S pb ch l s x Q g sv dv
theorem zjv {S:St}{a b:Nat}{cs:List AV}{t:TypeId}{sh:Option Nat}{ks:List (List Int)}{vs:List AV}(h:S.bx[a]? = some (.cells cs t))(h':S.bx[b]? = some (.map sh ks vs)):a≠b:=by
 rintro rfl
 rw[h]at h'
 injection h' with h'
 cases h'
theorem yP {S:St}{a b:Nat}{cs cs':List AV}{t t':TypeId}(h:S.bx[a]? = some (.cells cs t))(h':S.bx[b]? = some (.cells cs' t'))(ht:t≠t'):a≠b:=by
 rintro rfl
 rw[h]at h'
 injection h' with h'
 injection h' with _ h'
 exact ht h'
theorem Qd (p:PS)(j:Nat):∃sh ks vs,yO p j=.map sh ks vs:=by
 unfold yO
 split<;>exact⟨_,_,_,rfl⟩
theorem jN {S:St}{a b:Nat}{cs:List AV}{t:TypeId}{p:PS}{j:Nat}(h:S.bx[a]? = some (.cells cs t))(h':S.bx[b]? = some (yO p j)):a≠b:=by
 obtain⟨sh,ks,vs,e⟩:=Qd p j
 rw[e]at h'
 exact zjv h h'
section
variable {T:jD} {S S':St} {pb ch:Nat} {l:List zf} {s:zc} {x:List zD} {Q:PL} {g:Nat→Nat→Nat} {sv dv:AV}
theorem xx.more (h:xx T S pb ch l s x Q g sv dv)(hx:∀(id:Nat) (o:Ob),S.bx[id]? = some o→S'.bx[id]? = some o)(hf:S'.fr[ch]? = S.fr[ch]?)(ht:S'.ty ch=S.ty ch):xx T S' pb ch l s x Q g sv dv:=by
 refine⟨hx _ _ h.p,?_,fun i p hp h0 j hj=>hx _ _ (h.m i p hp h0 j hj),h.inj,hf.trans h.a,ht.trans h.ty,fun e he=>hx _ _ (h.k e he),?_⟩
 ·rcases h.q with hq|⟨qb,ex,h1,h2⟩
  ·exact .inl hq
  ·exact .inr ⟨qb,ex,h1,hx _ _ h2⟩
 ·rcases h.d with hq|⟨qb,ex,h1,h2⟩
  ·exact .inl hq
  ·exact .inr ⟨qb,ex,h1,hx _ _ h2⟩
theorem xx.setM (h:xx T S pb ch l s x Q g sv dv){i:Nat}{p p':PS}(hp:Q.sts[i]? = some p)(h0:0≤p.frame)(hfr:p'.frame=p.frame)(hdn:p'.done=p.done){j:Nat}(hj:j < 3)(ho:∀k,k < 3→k≠j→yO p' k=yO p k) :
  xx T (S.setB (g i j) (yO p' j)) pb ch l s x ⟨Q.sts.set i p',Q.atts,Q.dels⟩ g sv dv:=by
 have hm:=h.m i p hp h0 j hj
 have hil:=(List.getElem?_eq_some_iff.1 hp).1
 have est:zA g (Q.sts.set i p')=zA g Q.sts:=by
  apply List.ext_getElem?
  intro k
  simp only[zA,List.getElem?_mapIdx,List.getElem?_set]
  by_cases e:i=k
  ·subst e
   have e2:Q.sts[i]? = some Q.sts[i]:=List.getElem?_eq_getElem hil
   rw[e2]at hp;injection hp with hp
   simp only[hil,if_true,Option.map_some,e2,hp]
   simp[VL,mpv,hfr,hdn]
  ·simp[e]
 have hlive:∀(k:Nat) (q:PS),(Q.sts.set i p')[k]? = some q→0≤q.frame→∃q0,Q.sts[k]? = some q0∧0≤q0.frame∧(i≠k→q=q0)∧(i=k→q=p'∧q0=p):=by
  intro k q hq hq0
  by_cases e:i=k
  ·subst e
   rw[List.getElem?_set_self hil]at hq
   injection hq with hq
   exact⟨p,hp,h0,fun hh=>absurd rfl hh,fun _=>⟨hq.symm,rfl⟩⟩
  ·rw[List.getElem?_set_ne e]at hq
   exact⟨q,hq,hq0,fun _=>rfl,fun hh=>absurd hh e⟩
 refine⟨by rw[St.zi (jN h.p hm).symm];exact h.p,?_,fun k q hq hq0 j' hj'=>?_,fun k q k' q' hq hq' hq0 hq0' j1 j2 hj1 hj2 he=>?_,h.a,h.ty,fun e he=>by rw[St.zi (jN (h.k e he) hm).symm];exact h.k e he,?_⟩
 ·rcases h.q with ⟨hq,_⟩|⟨qb,ex,h1,h2⟩
  ·rw[hq]at hil;simp at hil
  ·exact .inr ⟨qb,ex,by simpa using h1,by rw[St.zi (jN h2 hm).symm,est];exact h2⟩
 ·obtain⟨q0,g1,g2,g3,g4⟩:=hlive k q hq hq0
  by_cases e:i=k
  ·obtain⟨rfl,rfl⟩:=g4 e
   subst e
   by_cases ej:j=j'
   ·subst ej;exact St.zw hm
   ·rw[St.zi (fun hh=>ej (h.inj _ _ _ _ hp hp h0 h0 j j' hj hj' hh).2),ho j' hj' (fun hh=>ej hh.symm)]
    exact h.m i _ hp h0 j' hj'
  ·obtain rfl:=g3 e
   rw[St.zi (fun hh=>e (h.inj _ _ _ _ hp g1 h0 g2 j j' hj hj' hh).1)]
   exact h.m k _ g1 g2 j' hj'
 ·obtain⟨q0,g1,g2,_⟩:=hlive k q hq hq0
  obtain⟨q0',g1',g2',_⟩:=hlive k' q' hq' hq0'
  exact h.inj _ _ _ _ g1 g1' g2 g2' j1 j2 hj1 hj2 he
 ·rcases h.d with hq|⟨db,ex,h1,h2⟩
  ·exact .inl hq
  ·exact .inr ⟨db,ex,h1,by rw[St.zi (jN h2 hm).symm];exact h2⟩
theorem xx.setQ (h:xx T S pb ch l s x Q g sv dv){qb:Nat}{ex:List AV}(hsv:sv=.vsl qb 0 Q.sts.length 5)(hq:S.bx[qb]? = some (.cells (zd (zA g Q.sts)++ex) T.q)){i:Nat}{p p':PS}(hp:Q.sts[i]? = some p)(hfr:p'.frame=p.frame)(ho:∀k,k < 3→yO p' k=yO p k) :
  xx T (S.setB qb (.cells (zd (zA g (Q.sts.set i p'))++ex) T.q)) pb ch l s x ⟨Q.sts.set i p',Q.atts,Q.dels⟩ g sv dv:=by
 have hil:=(List.getElem?_eq_some_iff.1 hp).1
 have hlive:∀(k:Nat) (q:PS),(Q.sts.set i p')[k]? = some q→0≤q.frame→∃q0,Q.sts[k]? = some q0∧0≤q0.frame∧∀j,j < 3→yO q j=yO q0 j:=by
  intro k q hq hq0
  by_cases e:i=k
  ·subst e
   rw[List.getElem?_set_self hil]at hq
   injection hq with hq
   subst hq
   exact⟨p,hp,by omega,ho⟩
  ·rw[List.getElem?_set_ne e]at hq
   exact⟨q,hq,hq0,fun _ _=>rfl⟩
 refine⟨by rw[St.zi (yP h.p hq T.hpq).symm];exact h.p,.inr ⟨qb,ex,by simpa using hsv,St.zw hq⟩,fun k q hq' hq0 j' hj'=>?_,fun k q k' q' hq hq' hq0 hq0' j1 j2 hj1 hj2 he=>?_,h.a,h.ty,fun e he=>by rw[St.zi (yP hq (h.k e he) (T.hk e he).2.1.symm)];exact h.k e he,?_⟩
 ·obtain⟨q0,g1,g2,g3⟩:=hlive k q hq' hq0
  have:=h.m k _ g1 g2 j' hj'
  rw[St.zi (jN hq this),g3 j' hj']
  exact this
 ·obtain⟨q0,g1,g2,_⟩:=hlive k q hq hq0
  obtain⟨q0',g1',g2',_⟩:=hlive k' q' hq' hq0'
  exact h.inj _ _ _ _ g1 g1' g2 g2' j1 j2 hj1 hj2 he
 ·rcases h.d with hd|⟨db,ex2,h1,h2⟩
  ·exact .inl hd
  ·exact .inr ⟨db,ex2,h1,by rw[St.zi (yP hq h2 T.hqd)];exact h2⟩
theorem xx.setP (h:xx T S pb ch l s x Q g sv dv)(s':zc)(ats:List y9)(hf:S'.fr[ch]? = some (ats.length,8))(ht:S'.ty ch=S.ty ch)(hb:S'.bx=S.bx):xx T (S'.setB pb (.cells (X6 l s' x sv (.own (ats.map y9.av) ch) dv) T.p)) pb ch l s' x ⟨Q.sts,ats,Q.dels⟩ g sv dv:=by
 have hp':S'.bx[pb]? = some (.cells (X6 l s x sv (.own (Q.atts.map y9.av) ch) dv) T.p):=by rw[hb];exact h.p
 refine⟨St.zw hp',?_,fun k q hq hq0 j hj=>?_,h.inj,hf,ht.trans h.ty,fun e he=>by rw[St.zi (yP h.p (h.k e he) (T.hk e he).1.symm),hb];exact h.k e he,?_⟩
 ·rcases h.q with hq|⟨qb,ex,h1,h2⟩
  ·exact .inl hq
  ·exact .inr ⟨qb,ex,h1,by rw[St.zi (yP h.p h2 T.hpq),hb];exact h2⟩
 ·have:=h.m k q hq hq0 j hj
  rw[St.zi (jN h.p this),hb]
  exact this
 ·rcases h.d with hq|⟨qb,ex,h1,h2⟩
  ·exact .inl hq
  ·exact .inr ⟨qb,ex,h1,by rw[St.zi (yP h.p h2 T.hpd),hb];exact h2⟩
theorem xx.setD (h:xx T S pb ch l s x Q g sv dv)(ds:List xd)(dv':AV)(hx:∀(id:Nat) (o:Ob),S.bx[id]? = some o→(∀ex,dv≠.vsl id 0 Q.dels.length ex)→S'.bx[id]? = some o)(hf:S'.fr[ch]? = S.fr[ch]?)(ht:S'.ty ch=S.ty ch)(hd:zkW T (S'.setB pb (.cells (X6 l s x sv (.own (Q.atts.map y9.av) ch) dv') T.p)) dv' ds) :
  xx T (S'.setB pb (.cells (X6 l s x sv (.own (Q.atts.map y9.av) ch) dv') T.p)) pb ch l s x ⟨Q.sts,Q.atts,ds⟩ g sv dv':=by
 have hne:∀id,(∀cs,S.bx[id]?≠some (.cells cs T.d))→∀ex,dv≠.vsl id 0 Q.dels.length ex:=by
  intro id wp ex he
  rcases h.d with ⟨_,h2⟩|⟨db,ex2,h1,h2⟩
  ·rw[h2]at he;cases he
  ·rw[h1]at he
   injection he with he
   subst he
   exact wp _ h2
 have hp':=hx pb _ h.p (hne pb fun cs hc=>by
  rw[h.p]at hc;injection hc with hc;injection hc with _ hc;exact T.hpd hc)
 refine⟨St.zw hp',?_,fun k q hq hq0 j hj=>?_,h.inj,by rw[St.za2,hf];exact h.a,ht.trans h.ty,fun e he=>by
  rw[St.zi (yP h.p (h.k e he) (T.hk e he).1.symm)]
  refine hx _ _ (h.k e he) (hne _ fun cs hc=>?_)
  rw[h.k e he]at hc;injection hc with hc;injection hc with _ hc;exact(T.hk e he).2.2 hc,hd⟩
 ·rcases h.q with hq|⟨qb,ex,h1,h2⟩
  ·exact .inl hq
  ·refine .inr ⟨qb,ex,h1,?_⟩
   rw[St.zi (yP h.p h2 T.hpq)]
   exact hx _ _ h2 (hne qb fun cs hc=>by
    rw[h2]at hc;injection hc with hc;injection hc with _ hc;exact T.hqd hc)
 ·have:=h.m k q hq hq0 j hj
  rw[St.zi (jN h.p this)]
  refine hx _ _ this (hne _ fun cs hc=>?_)
  obtain⟨sh,ks,vs,e⟩:=Qd q j
  rw[this,e]at hc
  injection hc with hc
  cases hc
end
theorem St.Yb {S:St}{ch:Nat}{y y':Nat×Nat}{e:TypeId}(h:S.fr[ch]? = some y'):(S.addF y e).fr[ch]? = some y':=by
 unfold St.addF
 rw[List.getElem?_append_left (List.getElem?_eq_some_iff.1 h).1];exact h
theorem St.X5 {S:St}{ch:Nat}{y y':Nat×Nat}{e:TypeId}(h:S.fr[ch]? = some y'):(S.addF y e).ty ch=S.ty ch:=by
 have:=(List.getElem?_eq_some_iff.1 h).1
 simp only[St.addF,qG]
 rw[if_neg (by omega)]
theorem J4 (S:St)(id:Nat)(o o':Ob):(S.setB id o).setB id o'=S.setB id o':=by simp[St.setB]
theorem St.zjh {S:St}{ch:Nat}{y y':Nat×Nat}(h:S.fr[ch]? = some y'):(S.setF ch y).fr[ch]? = some y:=by
 unfold St.setF
 have:=(List.getElem?_eq_some_iff.1 h).1
 simp[this]
theorem VA (ds:List xd):jC 3 (ds.map xd.av):=by
 intro e he
 obtain⟨d,_,rfl⟩:=List.mem_map.1 he
 rfl
section
variable {T:jD} {S:St} {pb ch:Nat} {l:List zf} {s:zc} {x:List zD} {Q:PL} {g:Nat→Nat→Nat} {sv dv:AV}
theorem xx.delNew (h:xx T S pb ch l s x Q g sv dv)(hq:Q.dels=[])(d:xd)(z:AV)(hz:z=d.av)(y1:Nat×Nat)(e:TypeId)(k:Nat)(n m:Nat)(hn:n=S.bx.length)(hm:m=1) :
  xx T (((S.addF y1 e).addB (.cells (zd [z]++List.replicate k .undef) T.d)).setB pb (.cells (X6 l s x sv (.own (Q.atts.map y9.av) ch) (.vsl n 0 m 3)) T.p)) pb ch l s x ⟨Q.sts,Q.atts,Q.dels++[d]⟩ g sv (.vsl n 0 m 3):=by
 subst hz;subst hn;subst hm
 have hf:=h.a
 have hne:S.bx.length≠pb:=by have:=(List.getElem?_eq_some_iff.1 h.p).1;omega
 refine h.setD _ _ (fun id o ho _=>?_) ?_ ?_ (.inr ⟨S.bx.length,List.replicate k .undef,by rw[hq];rfl,?_⟩)
 ·exact St.zm (S:=S.addF y1 e) ho
 ·rw[St.zeP];exact(St.Yb hf).trans hf.symm
 ·exact St.X5 (y:=y1) hf
 ·rw[St.zi hne.symm,hq]
  exact St.zP (S.addF y1 e) _
theorem xx.delRoom (h:xx T S pb ch l s x Q g sv dv){db:Nat}{ex:List AV}(hdv:dv=.vsl db 0 Q.dels.length 3)(hdb:S.bx[db]? = some (.cells (zd (Q.dels.map xd.av)++ex) T.d))(d:xd)(z:AV)(hz:z=d.av)(y1:Nat×Nat)(e:TypeId)
  (hr:(Q.dels.length+1)*3≤(zd (Q.dels.map xd.av)++ex).length) :
  xx T (((S.addF y1 e).setB db (.cells (zR (zd (Q.dels.map xd.av)++ex) (Q.dels.length*3) (zd [z])) T.d)).setB pb (.cells (X6 l s x sv (.own (Q.atts.map y9.av) ch) (.vsl db 0 (Q.dels.length+1) 3)) T.p)) pb ch l s x ⟨Q.sts,Q.atts,Q.dels++[d]⟩ g sv (.vsl db 0 (Q.dels.length+1) 3):=by
 subst hz
 have hf:=h.a
 have hne:db≠pb:=(yP h.p hdb T.hpd).symm
 have hfl:=(VA Q.dels).flen
 rw[List.length_map]at hfl
 rw[List.length_append]at hr
 refine h.setD _ _ (fun id o ho hh=>?_) ?_ ?_ (.inr ⟨db,ex.drop 3,by simp,?_⟩)
 ·have wp:db≠id:=by rintro rfl;exact hh 3 hdv
  rw[St.zi wp];exact ho
 ·rw[St.za2];exact(St.Yb hf).trans hf.symm
 ·exact St.X5 (y:=y1) hf
 ·rw[St.zi hne.symm,St.zw (S:=S.addF y1 e) hdb]
  have e1:zR (zd (Q.dels.map xd.av)++ex) (Q.dels.length*3) (zd [d.av])=zd ((Q.dels++[d]).map xd.av)++ex.drop 3:=by
   have hz:(zd [d.av]).length=3:=rfl
   rw[y4 _ _ _ (by rw[List.length_append,hz];omega),hz,←hfl,List.take_left,List.map_append,qE]
   rw[List.drop_append]
   have:List.drop ((zd (Q.dels.map xd.av)).length+3) (zd (Q.dels.map xd.av))=[]:=List.drop_eq_nil_of_le (by omega)
   rw[this,List.nil_append,show(zd (Q.dels.map xd.av)).length+3-(zd (Q.dels.map xd.av)).length=3 from by omega]
   rfl
  rw[e1]
theorem xx.delGrow (h:xx T S pb ch l s x Q g sv dv){db:Nat}{ex:List AV}(_hdv:dv=.vsl db 0 Q.dels.length 3)(_hdb:S.bx[db]? = some (.cells (zd (Q.dels.map xd.av)++ex) T.d))(d:xd)(z:AV)(hz:z=d.av)(y1:Nat×Nat)(e:TypeId)(k n:Nat)(hn:n=S.bx.length) :
  xx T (((S.addF y1 e).addB (.cells ((zd (Q.dels.map xd.av)++ex).take (Q.dels.length*3)++zd [z]++List.replicate k .undef) T.d)).setB pb (.cells (X6 l s x sv (.own (Q.atts.map y9.av) ch) (.vsl n 0 (Q.dels.length+1) 3)) T.p)) pb ch l s x ⟨Q.sts,Q.atts,Q.dels++[d]⟩ g sv (.vsl n 0 (Q.dels.length+1) 3):=by
 subst hz;subst hn
 have hf:=h.a
 have hne:S.bx.length≠pb:=by have:=(List.getElem?_eq_some_iff.1 h.p).1;omega
 have hfl:=(VA Q.dels).flen
 rw[List.length_map]at hfl
 refine h.setD _ _ (fun id o ho _=>?_) ?_ ?_ (.inr ⟨S.bx.length,List.replicate k .undef,by simp,?_⟩)
 ·exact St.zm (S:=S.addF y1 e) ho
 ·rw[St.zeP];exact(St.Yb hf).trans hf.symm
 ·exact St.X5 (y:=y1) hf
 ·rw[St.zi hne.symm,←hfl,List.take_left,List.map_append,qE]
  exact St.zP (S.addF y1 e) _
end
def vf (T:jD)(S S':St):Prop:=∀(id:Nat) (cs:List AV) (t:TypeId),t≠T.p→t≠T.d→S.bx[id]? = some (.cells cs t)→S'.bx[id]? = some (.cells cs t)
theorem vf.refl (T:jD)(S:St):vf T S S:=fun _ _ _ _ _ h=>h
theorem vf.setP {T:jD}{S S':St}{id:Nat}{cs:List AV}{o:Ob}(h:vf T S S')(hb:S.bx[id]? = some (.cells cs T.p)):vf T S (S'.setB id o):=fun id' cs' t h1 h2 hc=>by
 rw[St.zi (yP hb hc fun he=>h1 he.symm)];exact h id' cs' t h1 h2 hc
theorem vf.setD {T:jD}{S S':St}{id:Nat}{cs:List AV}{o:Ob}(h:vf T S S')(hb:S.bx[id]? = some (.cells cs T.d)):vf T S (S'.setB id o):=fun id' cs' t h1 h2 hc=>by
 rw[St.zi (yP hb hc fun he=>h2 he.symm)];exact h id' cs' t h1 h2 hc
theorem vf.addB {T:jD}{S S':St}{o:Ob}(h:vf T S S'):vf T S (S'.addB o):=fun id' cs' t h1 h2 hc=>St.zm (h id' cs' t h1 h2 hc)
def w5 (l:List zf)(slot:Int)(sts:List PS):Nat→List PS
 | 0=>sts
 | k+1=>match l[k]?,(w5 l slot sts k)[k]? with
  | some f,some p=>(w5 l slot sts k).set k (VZ f slot p)
  | _,_=>w5 l slot sts k
theorem Xn (l:List zf)(slot:Int)(sts:List PS):∀k,(w5 l slot sts k).length=sts.length
 | 0=>rfl
 | k+1=>by
  unfold w5
  split
  ·rw[List.length_set,Xn l slot sts k]
  ·exact Xn l slot sts k
theorem zbx (l:List zf)(slot:Int)(sts:List PS)(hl:sts.length=l.length):∀(k i:Nat),(w5 l slot sts k)[i]? = if i < k then(l.zipWith (fun f p=>VZ f slot p) sts)[i]? else sts[i]?
 | 0,i=>by simp[w5]
 | k+1,i=>by
  have ih:=zbx l slot sts hl k
  unfold w5
  rcases Nat.lt_or_ge k l.length with hk|hk
  ·have hk2:k < sts.length:=by omega
   have e1:l[k]? = some l[k]:=List.getElem?_eq_getElem hk
   have e2:(w5 l slot sts k)[k]? = some sts[k]:=by rw[ih,if_neg (by omega)];exact List.getElem?_eq_getElem hk2
   rw[e1,e2]
   simp only
   by_cases e:k=i
   ·subst e
    rw[List.getElem?_set_self (by rw[Xn];exact hk2),if_pos (by omega)]
    simp[List.getElem?_zipWith,e1,List.getElem?_eq_getElem hk2]
   ·rw[List.getElem?_set_ne e,ih]
    by_cases h1:i < k
    ·rw[if_pos h1,if_pos (by omega)]
    ·rw[if_neg h1,if_neg (by omega)]
  ·have e1:l[k]? = none:=List.getElem?_eq_none hk
   rw[e1]
   show(w5 l slot sts k)[i]? = _
   rw[ih]
   by_cases h1:i < k
   ·rw[if_pos h1,if_pos (by omega)]
   ·rw[if_neg h1]
    by_cases h2:i < k+1
    ·rw[if_pos h2]
     have:l[i]? = none:=List.getElem?_eq_none (by omega)
     have h3:sts[i]? = none:=List.getElem?_eq_none (by omega)
     simp[List.getElem?_zipWith,this,h3]
    ·rw[if_neg h2]
theorem zgB (l:List zf)(slot:Int)(sts:List PS)(hl:sts.length=l.length):w5 l slot sts l.length=xp l slot sts:=by
 apply List.ext_getElem?
 intro i
 rw[zbx l slot sts hl]
 unfold xp
 by_cases h:i < l.length
 ·rw[if_pos h]
 ·rw[if_neg h]
  have h1:sts[i]? = none:=List.getElem?_eq_none (by omega)
  have h2:l[i]? = none:=List.getElem?_eq_none (by omega)
  simp[List.getElem?_zipWith,h1,h2]
theorem ze7 {l:List zf}{slot:Int}{sts:List PS}{k:Nat}{f:zf}{p:PS}(hf:l[k]? = some f)(hp:(w5 l slot sts k)[k]? = some p):w5 l slot sts (k+1)=(w5 l slot sts k).set k (VZ f slot p):=by
 rw[w5,hf,hp]
def Wt (g:Nat→Nat→Nat)(i a b c:Nat):Nat→Nat→Nat:=fun i' j=>if i'=i then(match j with|0=>a|1=>b|_=>c) else g i' j
section
variable {T:jD} {S S':St} {pb ch:Nat} {l:List zf} {s:zc} {x:List zD} {Q:PL} {g:Nat→Nat→Nat} {sv dv:AV}
theorem xx.fresh (h:xx T S pb ch l s x Q g sv dv)(hx:∀(id:Nat) (o:Ob),S.bx[id]? = some o→S'.bx[id]? = some o)(hf:S'.fr=S.fr)(ht:S'.ty=S.ty){qb:Nat}{ex:List AV}(hsv:sv=.vsl qb 0 Q.sts.length 5)(hq:S.bx[qb]? = some (.cells (zd (zA g Q.sts)++ex) T.q))
  {i:Nat} {p p':PS} (hp:Q.sts[i]? = some p) (h0:¬p'.frame < 0) {a b c:Nat} (ha:S'.bx[a]? = some (yO p' 0)) (hb:S'.bx[b]? = some (yO p' 1)) (hc:S'.bx[c]? = some (yO p' 2)) (ga:S.bx.length≤a) (gb:S.bx.length≤b) (gc:S.bx.length≤c) (hab:a≠b) (hac:a≠c) (hbc:b≠c) :
  xx T (S'.setB qb (.cells (zd (zA (Wt g i a b c) (Q.sts.set i p'))++ex) T.q)) pb ch l s x ⟨Q.sts.set i p',Q.atts,Q.dels⟩ (Wt g i a b c) sv dv:=by
 have hil:=(List.getElem?_eq_some_iff.1 hp).1
 have hself:∀k (q:PS),(Q.sts.set i p')[k]? = some q→i=k→q=p':=by
  intro k q hq e
  subst e
  rw[List.getElem?_set_self hil]at hq
  injection hq with hq;exact hq.symm
 have hoth:∀k (q:PS),(Q.sts.set i p')[k]? = some q→i≠k→Q.sts[k]? = some q:=by
  intro k q hq e
  rwa [List.getElem?_set_ne e]at hq
 have hlt:∀k q,Q.sts[k]? = some q→0≤q.frame→∀j,j < 3→g k j < S.bx.length:=fun k q hq hq0 j hj=>(List.getElem?_eq_some_iff.1 (h.m k q hq hq0 j hj)).1
 have hg:∀k j,i≠k→Wt g i a b c k j=g k j:=fun k j e=>by unfold Wt;rw[if_neg (fun hh=>e hh.symm)]
 have hgi:∀j,Wt g i a b c i j=(match j with|0=>a|1=>b|_=>c):=fun j=>by unfold Wt;rw[if_pos rfl]
 have hge:∀j,S.bx.length≤Wt g i a b c i j:=fun j=>by
  rw[hgi]
  split<;>assumption
 have hq':=hx _ _ hq
 refine⟨by rw[St.zi (yP h.p hq T.hpq).symm];exact hx _ _ h.p,.inr ⟨qb,ex,by simpa using hsv,St.zw hq'⟩,fun k q hq1 hq0 j hj=>?_,fun k q k' q' hq1 hq1' hq0 hq0' j1 j2 hj1 hj2 he=>?_,by rw[St.za2,hf];exact h.a,by show S'.ty ch=_;rw[ht];exact h.ty,fun e he=>by rw[St.zi (yP hq (h.k e he) (T.hk e he).2.1.symm)];exact hx _ _ (h.k e he),?_⟩
 ·have hm:S'.bx[Wt g i a b c k j]? = some (yO q j):=by
   by_cases e:i=k
   ·subst e
    obtain rfl:=hself i q hq1 rfl
    rw[hgi]
    rcases j with _|_|_|j
    ·exact ha
    ·exact hb
    ·exact hc
    ·omega
   ·rw[hg k j e]
    exact hx _ _ (h.m k q (hoth k q hq1 e) hq0 j hj)
  rw[St.zi (jN hq' hm)]
  exact hm
 ·by_cases e:i=k
  ·by_cases e':i=k'
   ·subst e;subst e'
    refine⟨rfl,?_⟩
    rw[hgi,hgi]at he
    rcases j1 with _|_|_|j1<;>rcases j2 with _|_|_|j2<;>first|rfl|omega|exact absurd he hab|exact absurd he hac|exact absurd he hbc|exact absurd he.symm hab|exact absurd he.symm hac|exact absurd he.symm hbc
   ·subst e
    have h1:=hge j1
    have h2:=hlt k' q' (hoth k' q' hq1' e') hq0' j2 hj2
    rw[hg k' j2 e']at he
    omega
  ·by_cases e':i=k'
   ·subst e'
    have h1:=hge j2
    have h2:=hlt k q (hoth k q hq1 e) hq0 j1 hj1
    rw[hg k j1 e]at he
    omega
   ·rw[hg k j1 e,hg k' j2 e']at he
    exact h.inj _ _ _ _ (hoth k q hq1 e) (hoth k' q' hq1' e') hq0 hq0' j1 j2 hj1 hj2 he
 ·rcases h.d with hd|⟨db,ex2,h1,h2⟩
  ·exact .inl hd
  ·exact .inr ⟨db,ex2,h1,by rw[St.zi (yP hq h2 T.hqd)];exact hx _ _ h2⟩
end
theorem K1 (g:Nat→Nat→Nat)(q:List PS)(i a b c:Nat)(p:PS)(h0:¬p.frame < 0):(zA g q).set i (.agg [.int .i64 p.frame,.mp a,.mp b,.mp c,.bool p.done])=zA (Wt g i a b c) (q.set i p):=by
 apply List.ext_getElem?
 intro j
 simp only[zA,List.getElem?_set,List.getElem?_mapIdx,List.length_mapIdx]
 by_cases e:i=j
 ·subst e
  simp only[if_true]
  split
  ·simp[VL,mpv,h0,Wt]
  ·simp
 ·simp only[e,if_false]
  cases hq:q[j]? with
  | none=>rfl
  | some y=>
   simp only[Option.map_some,Option.some.injEq]
   have:Wt g i a b c j=g j:=by funext k;unfold Wt;rw[if_neg (fun hh=>e hh.symm)]
   rw[this]
def ZL (T:jD)(S S':St):Prop:=∀(id:Nat) (cs:List AV) (t:TypeId),t≠T.q→S.bx[id]? = some (.cells cs t)→S'.bx[id]? = some (.cells cs t)
theorem ZL.refl (T:jD)(S:St):ZL T S S:=fun _ _ _ _ h=>h
theorem ZL.addB {T:jD}{S S':St}{o:Ob}(h:ZL T S S'):ZL T S (S'.addB o):=fun id' cs' t h1 hc=>St.zm (h id' cs' t h1 hc)
theorem ZL.zkt {T:jD}{S S':St}{id:Nat}{o:Ob}(h:ZL T S S')(hi:S.bx.length≤id):ZL T S (S'.setB id o):=fun id' cs' t h1 hc=>by
 have:=(List.getElem?_eq_some_iff.1 hc).1
 rw[St.zi (by omega)];exact h id' cs' t h1 hc
theorem ZL.setQ {T:jD}{S S':St}{id:Nat}{cs:List AV}{o:Ob}(h:ZL T S S')(hb:S.bx[id]? = some (.cells cs T.q)):ZL T S (S'.setB id o):=fun id' cs' t h1 hc=>by
 rw[St.zi (yP hb hc fun he=>h1 he.symm)];exact h id' cs' t h1 hc
theorem St.zk2 (S:St)(o o':Ob):S.bx.length≤((S.addB o).addB o').bx.length:=by rw[St.wm,St.wm];omega
theorem mo0 {S:St}{sh:Option Nat}{ks:List (List Int)}{vs:List AV}:(S.addB (.map sh ks vs)).bx[S.bx.length]? = some (.map sh ks vs):=St.zP _ _
theorem mo1 {S:St}{sh:Option Nat}{ks:List (List Int)}{vs:List AV}{o:Ob}:((S.addB (.map sh ks vs)).addB o).bx[S.bx.length]? = some (.map sh ks vs):=St.zm (St.zP _ _)
theorem mo2 {S:St}{sh:Option Nat}{ks:List (List Int)}{vs:List AV}{o o':Ob}:(((S.addB (.map sh ks vs)).addB o).addB o').bx[S.bx.length]? = some (.map sh ks vs):=St.zm (St.zm (St.zP _ _))
theorem xx.leaf {T:jD}{S:St}{pb ch:Nat}{l:List zf}{s:zc}{x:List zD}{Q:PL}{g:Nat→Nat→Nat}{sv dv:AV}(h:xx T S pb ch l s x Q g sv dv){qb:Nat}{ex:List AV}(hsv:sv=.vsl qb 0 Q.sts.length 5)(hq:S.bx[qb]? = some (.cells (zd (zA g Q.sts)++ex) T.q))
  {i:Nat} {p p':PS} (hp:Q.sts[i]? = some p) (h0:¬p'.frame < 0) {X:St} (tl:List Ob) (hX:X=⟨S.bx++tl,S.fr,S.n0,S.m0,S.ty⟩) (ia ib ic:Nat) (ha:tl[ia]? = some (yO p' 0)) (hb:tl[ib]? = some (yO p' 1)) (hc:tl[ic]? = some (yO p' 2)) (hab:ia≠ib) (hac:ia≠ic) (hbc:ib≠ic)
  {a b c off:Nat} (ea:a=S.bx.length+ia) (eb:b=S.bx.length+ib) (ec:c=S.bx.length+ic) (eo:off=i*5) :
  Jp T (X.setB qb (.cells (zR (zd (zA g Q.sts)++ex) off [.int .i64 p'.frame,.mp a,.mp b,.mp c,.bool p'.done]) T.q)) pb ch l s x ⟨Q.sts.set i p',Q.atts,Q.dels⟩:=by
 subst hX;subst eo
 have hget:∀k o,tl[k]? = some o→(S.bx++tl)[S.bx.length+k]? = some o:=fun k o hk=>by
  rw[List.getElem?_append_right (by omega)]
  rw[show S.bx.length+k-S.bx.length=k from by omega];exact hk
 have hF:=h.fresh (S':=⟨S.bx++tl,S.fr,S.n0,S.m0,S.ty⟩) (fun id o ho=>(List.getElem?_append_left (List.getElem?_eq_some_iff.1 ho).1).trans ho) rfl rfl hsv hq hp h0 (a:=a) (b:=b) (c:=c) (by subst ea;exact hget _ _ ha) (by subst eb;exact hget _ _ hb) (by subst ec;exact hget _ _ hc) (by omega) (by omega) (by omega) (by omega) (by omega) (by omega)
 have hil:=(List.getElem?_eq_some_iff.1 hp).1
 have e1:zR (zd (zA g Q.sts)++ex) (i*5) [.int .i64 p'.frame,.mp a,.mp b,.mp c,.bool p'.done] = zd (zA (Wt g i a b c) (Q.sts.set i p'))++ex:=by
  have:=jC.sto (.agg [.int .i64 p'.frame,.mp a,.mp b,.mp c,.bool p'.done]) rfl ex (x7 g Q.sts) (k:=i) (by rw[Zd];exact hil)
  rw[K1 g Q.sts i a b c p' h0]at this
  exact this
 rw[e1]
 exact⟨_,_,_,hF⟩
theorem zjb (l:List zf)(x:List zD)(t:Int)(q:PL)(c:zg):(yg l x t q c).atts.length≤q.atts.length+1∧(yg l x t q c).dels.length≤q.dels.length+1∧(yg l x t q c).sts.length=q.sts.length:=by
 unfold yg
 split
 ·omega
 split
 ·split
  ·omega
  ·refine⟨by simp,?_,by simp⟩
   simp only[List.length_append]
   split<;>simp
 ·omega
theorem XF (l:List zf)(x:List zD)(t:Int):∀(cs:List zg) (q:PL),(cs.foldl (yg l x t) q).atts.length≤q.atts.length+cs.length∧(cs.foldl (yg l x t) q).dels.length≤q.dels.length+cs.length∧(cs.foldl (yg l x t) q).sts.length=q.sts.length
 | [],q=>by simp
 | c :: cs,q=>by
  have h1:=zjb l x t q c
  have h2:=XF l x t cs (yg l x t q c)
  simp only[List.foldl_cons,List.length_cons]
  omega
theorem zfw (l:List zf)(x:List zD)(t:Int){cs:List zg}{k:Nat}{c:zg}(h:cs[k]? = some c)(q:PL):(cs.take (k+1)).foldl (yg l x t) q=yg l x t ((cs.take k).foldl (yg l x t) q) c:=by
 rw[zK h,List.foldl_append]
 rfl
theorem zdM (s:zc)(t:Int):(Jh s t).length≤s.cells.length:=by
 unfold Jh
 split
 ·simp
 ·exact List.length_filter_le _ _
theorem zgs (l:List zf)(s:zc)(x:List zD)(q:PL)(t:Int)(hq:q.sts.length=l.length):(Yn l s x q t).atts.length≤q.atts.length+s.cells.length∧(Yn l s x q t).dels.length≤q.dels.length+s.cells.length∧(Yn l s x q t).sts.length=l.length:=by
 have h1:=XF l x t (Jh s t) ⟨xp l t q.sts,q.atts,q.dels⟩
 have h2:=zdM s t
 have h3:(xp l t q.sts).length=l.length:=by simp[xp,hq]
 unfold Yn
 simp only at h1 ⊢
 refine⟨by omega,?_,by rw[h1.2.2,h3]⟩
 rw[List.length_append,List.length_mergeSort,←List.length_append,List.take_append_drop]
 omega
theorem zbA {l:List zf}(sc:Nat→zc)(x:List zD){m:Nat}(hm:∀i,(sc i).cells.length≤m):∀n,(wx l sc x n).atts.length≤n*m∧(wx l sc x n).dels.length≤n*m∧(wx l sc x n).sts.length=l.length
 | 0=>by simp[wx]
 | n+1=>by
  obtain⟨h1,h2,h3⟩:=zbA sc x hm n
  have h4:=zgs l (sc n) x (wx l sc x n) n h3
  have h5:=hm n
  rw[wx,Nat.add_mul]
  omega
theorem xx.zdU {T:jD}{S S':St}{pb ch:Nat}{l:List zf}{s:zc}{x:List zD}{Q:PL}(h:Jp T S pb ch l s x Q)(hx:S'.bx=S.bx)(hf:S'.fr=S.fr)(ht:S'.ty=S.ty):Jp T S' pb ch l s x Q:=by
 obtain⟨g,sv,dv,h⟩:=h
 exact⟨g,sv,dv,h.more (fun _ _ ho=>by rw[hx];exact ho) (by rw[hf]) (by rw[ht])⟩
theorem xx.sortD {T:jD}{S:St}{pb ch:Nat}{l:List zf}{s:zc}{x:List zD}{Q:PL}{g:Nat→Nat→Nat}{sv dv:AV}(h:xx T S pb ch l s x Q g sv dv){db:Nat}{ex:List AV}(hdv:dv=.vsl db 0 Q.dels.length 3)(hdb:S.bx[db]? = some (.cells (zd (Q.dels.map xd.av)++ex) T.d)){ds:List xd}(hl:ds.length=Q.dels.length) :
  Jp T (S.setB db (.cells (zd (ds.map xd.av)++ex) T.d)) pb ch l s x ⟨Q.sts,Q.atts,ds⟩:=by
 refine⟨g,sv,dv,?_,?_,fun k q hq hq0 j hj=>?_,h.inj,h.a,h.ty,fun e he=>by rw[St.zi (yP hdb (h.k e he) (T.hk e he).2.2.symm)];exact h.k e he,.inr ⟨db,ex,by rw[hl];exact hdv,St.zw hdb⟩⟩
 ·rw[St.zi (yP h.p hdb T.hpd).symm];exact h.p
 ·rcases h.q with hq|⟨qb,ex2,h1,h2⟩
  ·exact .inl hq
  ·exact .inr ⟨qb,ex2,h1,by rw[St.zi (yP h2 hdb T.hqd).symm];exact h2⟩
 ·have:=h.m k q hq hq0 j hj
  rw[St.zi (jN hdb this)];exact this
theorem zgV {α:Type}{p:α→Bool}{l:List α}{k:Nat}{a:α}(h:∀(j:Nat) y,j < k→l[j]? = some y→p y=false)(hk:l[k]? = some a)(ha:p a=false):∀(j:Nat) y,j < k+1→l[j]? = some y→p y=false:=by
 intro j y hj hy
 rcases Nat.lt_succ_iff_lt_or_eq.1 hj with hl|rfl
 ·exact h j y hl hy
 ·rw[hk]at hy;injection hy with hy;rw[←hy];exact ha
theorem zaR (l:List zf)(x:List zD)(t:Int)(r:wK)(c:zg):(yQ l x t r c).atts.length≤r.atts.length+1∧(yQ l x t r c).dels.length≤r.dels.length+1:=by
 unfold yQ
 split
 ·omega
 split
 ·split
  ·omega
  ·refine⟨by simp,?_⟩
   simp only
   split
   ·rw[(Z1 _ _).length_eq];simp
   ·omega
 ·omega
theorem Ku (l:List zf)(x:List zD)(t:Int):∀(cs:List zg) (r:wK),(cs.foldl (yQ l x t) r).atts.length≤r.atts.length+cs.length∧(cs.foldl (yQ l x t) r).dels.length≤r.dels.length+cs.length
 | [],r=>by simp
 | c :: cs,r=>by
  have h1:=zaR l x t r c
  have h2:=Ku l x t cs (yQ l x t r c)
  rw[List.foldl_cons,List.length_cons]
  omega
theorem Kb (l:List zf)(sc:Nat→zc)(x:List zD){m:Nat}(hm:∀i,(sc i).cells.length≤m):∀n,(yf l sc x n).atts.length≤n*m∧(yf l sc x n).dels.length≤n*m
 | 0=>by simp[yf]
 | n+1=>by
  obtain⟨h1,h2⟩:=Kb l sc x hm n
  have h3:=Ku l x n (Jh (sc n) (n:Nat)) (yf l sc x n)
  have h4:=zdM (sc n) (n:Nat)
  have h5:=hm n
  have e:(n+1)*m=n*m+m:=Nat.succ_mul n m
  show(Yo l (sc n) x (yf l sc x n) (n:Nat)).atts.length≤_∧(Yo l (sc n) x (yf l sc x n) (n:Nat)).dels.length≤_
  unfold Yo
  omega
def jy {α:Type}(ks:List (List Int))(vs:List α)(x:List Int):Option α:=(zV ks x).bind fun i=>vs[i]?
def wT {α:Type}(ks:List (List Int))(vs:List α)(x:List Int)(v:α):List α:=match zV ks x with
 | some i=>vs.set i v
 | none=>vs++[v]
theorem WG {α:Type}(f:α→AV)(ks:List (List Int))(vs:List α)(x:List Int):assoc ks (vs.map f) x=(jy ks vs x).map f:=by
 unfold assoc jy
 cases zV ks x with
 | none=>rfl
 | some i=>simp
theorem J3 {α:Type}(f:α→AV)(ks:List (List Int))(vs:List α)(x:List Int)(v:α):setVs ks (vs.map f) x (f v)=(wT ks vs x v).map f:=by
 unfold setVs wT
 cases zV ks x with
 | none=>simp
 | some i=>simp[List.map_set]
theorem V4 {ks:List (List Int)}{x:List Int}{i:Nat}(h:zV ks x=some i):i < ks.length:=(List.getElem?_eq_some_iff.1 (yV h)).1
theorem zfb {ks:List (List Int)}{x y:List Int}:zV (ks++[x]) y=match zV ks y with
  | some i=>some i
  | none=>if x=y then some ks.length else none:=by
 induction ks with
 | nil=>simp[zV]
 | cons k ks ih=>
  simp only[List.cons_append,zV,ih]
  split
  ·rfl
  ·cases zV ks y with
   | some i=>rfl
   | none=>
    simp only[Option.map_none]
    split
    ·simp
    ·rfl
theorem Vu {α:Type}{ks:List (List Int)}{vs:List α}(h:ks.length=vs.length)(x:List Int)(v:α):(yu ks x).length=(wT ks vs x v).length:=by
 unfold yu wT
 cases zV ks x<;>simp[h]
theorem zaw {α:Type}{ks:List (List Int)}{vs:List α}(h:ks.length=vs.length)(x y:List Int)(v:α):jy (yu ks x) (wT ks vs x v) y=if x=y then some v else jy ks vs y:=by
 unfold jy yu wT
 cases hx:zV ks x with
 | some i=>
  have hi:=V4 hx
  simp only
  by_cases e:x=y
  ·subst e
   rw[if_pos rfl,hx]
   simp[h▸hi]
  ·rw[if_neg e]
   cases hy:zV ks y with
   | none=>rfl
   | some j=>
    have:i≠j:=fun hij=>by
     subst hij
     have h1:=yV hx
     rw[yV hy]at h1
     injection h1 with h1
     exact e h1.symm
    simp only[Option.bind_some]
    rw[List.getElem?_set_ne this]
 | none=>
  simp only[zfb]
  by_cases e:x=y
  ·subst e
   rw[if_pos rfl,hx,if_pos rfl]
   simp[h]
  ·rw[if_neg e]
   cases hy:zV ks y with
   | none=>simp[e]
   | some j=>simp[e,List.getElem?_append_left (h▸V4 hy)]
theorem zbl {ks:List (List Int)}(h:ks.Nodup)(x:List Int):(yu ks x).Nodup:=by
 unfold yu
 cases hx:zV ks x with
 | some i=>exact h
 | none=>
  have:=qM.1 hx
  rw[List.nodup_append]
  exact⟨h,by simp,fun a ha b hb=>by simp at hb;subst hb;exact fun e=>this (e▸ha)⟩
theorem zbM {ks:List (List Int)}{x y:List Int}:y∈yu ks x↔y∈ks∨y=x:=by
 unfold yu
 cases h:zV ks x with
 | none=>simp
 | some i=>
  refine⟨.inl,fun h1=>h1.elim id fun e=>?_⟩
  rw[e]
  exact List.mem_of_getElem? (yV h)
theorem ziC {α:Type}{ks:List (List Int)}{vs:List α}(hn:ks.Nodup){i:Nat}{k:List Int}(hk:ks[i]? = some k):jy ks vs k=vs[i]?:=by
 unfold jy
 cases h:zV ks k with
 | none=>exact absurd (List.mem_of_getElem? hk) (qM.1 h)
 | some j=>
  have h1:=yV h
  obtain⟨hi,hi'⟩:=List.getElem?_eq_some_iff.1 hk
  obtain⟨hj,hj'⟩:=List.getElem?_eq_some_iff.1 h1
  have hp:=List.pairwise_iff_getElem.1 hn
  rcases Nat.lt_trichotomy j i with h2|rfl|h2
  ·exact absurd (hj'.trans hi'.symm) (hp j i hj hi h2)
  ·rfl
  ·exact absurd (hi'.trans hj'.symm) (hp i j hi hj h2)
structure xL where
 flow:Int
 frame:Int
 src:Int
 dst:Int
 slots:List Int
 deriving DecidableEq
def xL.av (b:xL):AV:=.agg [.int .i64 b.flow,.int .i64 b.frame,.int .i64 b.src,.int .i64 b.dst,zp b.slots]
def xL.key (b:xL):List Int:=[b.flow,b.frame,b.src,b.dst]
def xL.of (k:List Int)(s:List Int):xL:=⟨k.getD 0 0,k.getD 1 0,k.getD 2 0,k.getD 3 0,s⟩
def zaF (l:List xL):AV:=.sl false (l.map xL.av)
def y9.key (a:y9):List Int:=[a.cell.flow,a.frame,a.cell.src,a.cell.dst]
theorem ZH:yH xL.av 5:=⟨fun _=>rfl,fun _=>rfl,fun _=>rfl,fun _=>rfl,by decide⟩
theorem zgH (a:y9)(s:List Int):(xL.of a.key s).key=a.key:=rfl
theorem zef (b:xL):xL.of b.key b.slots=b:=rfl
theorem XW {ks:List (List Int)}{vs:List AV}{x y:List Int}{o:Option AV}(h:assoc ks vs y=o)(hx:x=y):assoc ks vs x=o:=hx▸h
theorem wn {ty:Nat→TypeId}{i:Nat}{e:TypeId}(h:∀c,ty c=e)(c:Nat):qG ty i e c=e:=by
 unfold qG
 split
 ·rfl
 ·exact h c
theorem y8.nil (l:yC):y8 l []:=by unfold y8;trivial
theorem y8.app:∀(l m:yC),y8 (l++m) l
 | [],_=>by unfold y8;trivial
 | _ :: l,m=>⟨rfl,y8.app l m⟩
theorem y8.zku {l m:yC}{i:Nat}(x:Nat×Nat)(h:i < l.length):y8 ((l++m).set i x) (l.set i x):=by
 rw[List.set_append_left _ _ h]
 exact y8.app _ _
theorem je.qY {ty ty':Nat→TypeId}(h:∀c,ty' c=ty c):∀n,je ty ty' n
 | 0=>trivial
 | n+1=>⟨h n,je.qY h n⟩
def brS (k:List Int)(loss:Int)(st:List Int×Option (List Int))(a:y9):List Int×Option (List Int):=
 if a.key=k∧st.2=none then(if a.out=1 then([],none) else(st.1++[a.slot],if loss < (st.1.length+1:Nat) then some (st.1++[a.slot]) else none)) else st
def Y1 (k:List Int)(loss:Int)(ats:List y9):List Int×Option (List Int):=ats.foldl (brS k loss) ([],none)
theorem ZG (k:List Int)(loss:Int)(ats:List y9)(a:y9):Y1 k loss (ats++[a])=brS k loss (Y1 k loss ats) a:=by simp[Y1]
def va (n:zF)(k:List Int):Int:=xf n (k.getD 2 0) (k.getD 3 0)
def wi (n:zF)(k:List Int):Int:=Qi n (k.getD 2 0) (k.getD 3 0)
structure BS where
 ks:List (List Int)
 vs:List (Option (List Int×Nat))
 fk:List (List Int)
 fv:List (List Int×Nat)
 fr:yC
def zdu:Option (List Int×Nat)→AV
 | none=>.nils
 | some p=>.own (p.1.map zM) p.2
def QV (p:List Int×Nat):AV:=.own (p.1.map zM) p.2
def BS.row (b:BS)(k:List Int):Option (List Int×Nat):=(jy b.ks b.vs k).getD none
def ZI (fr:yC)(v:Option (List Int×Nat))(x:Int):List Int×Nat:=match v with
 | none=>([x],(fr++[(1,1)]).length)
 | some p=>(p.1++[x],p.2)
def Wy (fr:yC)(v:Option (List Int×Nat)):yC:=match v with
 | none=>(fr++[(1,1)])++[(1,1)]
 | some p=>fr.set p.2 (p.1.length+1,1)
def jG (n:zF)(b:BS)(a:y9):BS:=
 if va n a.key < 0∨(jy b.fk b.fv a.key).isSome=true then b
 else if a.out=1 then {b with ks:=yu b.ks a.key,vs:=wT b.ks b.vs a.key none}
 else
  let p:=ZI b.fr (b.row a.key) a.slot
  if wi n a.key < (p.1.length:Nat) then ⟨yu b.ks a.key,wT b.ks b.vs a.key (some p),yu b.fk a.key,wT b.fk b.fv a.key p,Wy b.fr (b.row a.key)⟩
  else ⟨yu b.ks a.key,wT b.ks b.vs a.key (some p),b.fk,b.fv,Wy b.fr (b.row a.key)⟩
def Wd (n:zF)(ats:List y9):BS:=ats.foldl (jG n) ⟨[],[],[],[],[]⟩
theorem J5 (n:zF)(ats:List y9)(a:y9):Wd n (ats++[a])=jG n (Wd n ats) a:=by simp[Wd]
structure BOk (n:zF)(ats:List y9)(b:BS):Prop where
 l1:b.ks.length=b.vs.length
 l2:b.fk.length=b.fv.length
 nd:b.fk.Nodup
 from_:∀k∈b.fk,∃a∈ats,a.key=k∧0≤va n k
 fo:∀k,0≤va n k→(jy b.fk b.fv k).map (·.1)=(Y1 k (wi n k) ats).2
 ne:∀p∈b.fv,p.1≠[]∧p.2 < b.fr.length
 rw_:∀k,0≤va n k→(Y1 k (wi n k) ats).2=none→match b.row k with
  | none=>(Y1 k (wi n k) ats).1=[]
  | some p=>(Y1 k (wi n k) ats).1=p.1∧b.fr[p.2]? = some (p.1.length,1)
 lt:∀k p,b.row k=some p→p.1≠[]∧p.2 < b.fr.length
 un:∀k k' p p',b.row k=some p→b.row k'=some p'→p.2=p'.2→k=k'
 al:∀v∈b.vs,∀p,v=some p→p.2 < b.fr.length
 fl:b.fk.length≤ats.length
 rl:∀k p,b.row k=some p→p.1.length≤ats.length
theorem Qc {α:Type}{ks:List (List Int)}{vs:List α}{x:List Int}{v u:α}(h:u∈wT ks vs x v):u∈vs∨u=v:=by
 unfold wT at h
 split at h
 ·exact List.mem_or_eq_of_mem_set h
 ·simpa using h
theorem K4 (ks:List (List Int))(x:List Int):(yu ks x).length≤ks.length+1:=by
 unfold yu
 split<;>simp
theorem BOk.start (n:zF):BOk n [] ⟨[],[],[],[],[]⟩ where
 l1:=rfl
 l2:=rfl
 nd:=.nil
 from_:=by simp
 fo:=fun k _=>rfl
 ne:=by simp
 rw_:=fun k _ _=>rfl
 lt:=fun k p h=>by cases h
 un:=fun k k' p p' h=>by cases h
 al:=by simp
 fl:=by simp
 rl:=fun k p h=>by cases h
theorem ji {b:BS}(h:b.ks.length=b.vs.length)(x y:List Int)(v:Option (List Int×Nat))(fk:List (List Int))(fv:List (List Int×Nat))(fr:yC):BS.row ⟨yu b.ks x,wT b.ks b.vs x v,fk,fv,fr⟩ y=if x=y then v else b.row y:=by
 unfold BS.row
 simp only[zaw h]
 split<;>rfl
theorem Zo {b:BS}{n:zF}{ats:List y9}(h:BOk n ats b)(k:Nat):wr k b.fr.length (b.vs.map zdu):=Zm.2 fun e he=>by
 obtain⟨v,hv,rfl⟩:=List.mem_map.1 he
 cases v with
 | none=>trivial
 | some p=>exact h.al _ hv p rfl
theorem Zn {b:BS}{n:zF}{ats:List y9}(h:BOk n ats b)(k:Nat):wr k b.fr.length (b.fv.map QV):=Zm.2 fun e he=>by
 obtain⟨p,hp,rfl⟩:=List.mem_map.1 he
 exact(h.ne p hp).2
theorem zax (fr:yC)(v:Option (List Int×Nat)):fr.length≤(Wy fr v).length:=by
 cases v<;>simp[Wy]
theorem zkl {k:List Int}{loss:Int}{st:List Int×Option (List Int)}{a:y9}(h:a.key≠k):brS k loss st a=st:=by rw[brS,if_neg (fun hh=>h hh.1)]
theorem zcI {k:List Int}{loss:Int}{st:List Int×Option (List Int)}{a:y9}(h:st.2≠none):brS k loss st a=st:=by rw[brS,if_neg (fun hh=>h hh.2)]
theorem ziD {fr:yC}{v:Option (List Int×Nat)}{c:Nat}{x:Nat×Nat}(h:fr[c]? = some x)(hn:∀p,v=some p→p.2≠c):(Wy fr v)[c]? = some x:=by
 cases v with
 | none=>rw[Wy,List.append_assoc,List.getElem?_append_left (List.getElem?_eq_some_iff.1 h).1];exact h
 | some p=>rw[Wy,List.getElem?_set_ne (hn p rfl)];exact h
theorem Jk {fr:yC}{v:Option (List Int×Nat)}(x:Int)(hv:∀p,v=some p→p.2 < fr.length):(ZI fr v x).1≠[]∧(ZI fr v x).2 < (Wy fr v).length∧(Wy fr v)[(ZI fr v x).2]? = some ((ZI fr v x).1.length,1):=by
 cases v with
 | none=>exact⟨by simp[ZI],by simp[ZI,Wy],by simp[ZI,Wy]⟩
 | some p=>
  have:=hv p rfl
  exact⟨by simp[ZI],by simpa[ZI,Wy] using this,by simp[ZI,Wy,this]⟩
theorem zff {b:BS}{n:zF}{ats:List y9}(h:BOk n ats b)(k:Nat)(key:List Int)(x:Int):wr k (Wy b.fr (b.row key)).length ((wT b.ks b.vs key (some (ZI b.fr (b.row key) x))).map zdu):=Zm.2 fun e he=>by
 obtain⟨v,hv,rfl⟩:=List.mem_map.1 he
 have hl:=zax b.fr (b.row key)
 rcases Qc hv with hv|rfl
 ·cases v with
  | none=>trivial
  | some p=>exact Nat.lt_of_lt_of_le (h.al _ hv p rfl) hl
 ·exact(Jk (fr:=b.fr) x fun q hq=>(h.lt _ q hq).2).2.1
theorem zfe {b:BS}{n:zF}{ats:List y9}(h:BOk n ats b)(k:Nat)(key:List Int):wr k (Wy b.fr (b.row key)).length (b.fv.map QV):=Zm.2 fun e he=>by
 obtain⟨p,hp,rfl⟩:=List.mem_map.1 he
 exact Nat.lt_of_lt_of_le (h.ne p hp).2 (zax _ _)
theorem BOk.step {n:zF}{ats:List y9}{b:BS}(h:BOk n ats b)(a:y9):BOk n (ats++[a]) (jG n b a):=by
 have same:∀k,a.key≠k→Y1 k (wi n k) (ats++[a])=Y1 k (wi n k) ats:=fun k hk=>by rw[ZG,zkl hk]
 have keep:(∀k,0≤va n k→Y1 k (wi n k) (ats++[a])=Y1 k (wi n k) ats)→BOk n (ats++[a]) b:=fun hh=>
  ⟨h.l1,h.l2,h.nd,fun k hk=>let ⟨x,hx,e⟩:=h.from_ k hk;⟨x,by simp[hx],e⟩,fun k hk=>by rw[hh k hk];exact h.fo k hk,h.ne,fun k hk=>by rw[hh k hk];exact h.rw_ k hk,h.lt,h.un,h.al,by have:=h.fl;simp;omega,fun k p hp=>by have:=h.rl k p hp;simp;omega⟩
 unfold jG
 by_cases h1:va n a.key < 0∨(jy b.fk b.fv a.key).isSome=true
 ·rw[if_pos h1]
  refine keep fun k hk=>?_
  by_cases e:a.key=k
  ·subst e
   rcases h1 with h1|h1
   ·omega
   ·rw[ZG,zcI]
    rw[←h.fo _ hk]
    cases hg:jy b.fk b.fv a.key with
    | none=>rw[hg]at h1;cases h1
    | some p=>simp
  ·exact same k e
 rw[if_neg h1]
 have hlk:0≤va n a.key:=by
  rcases Int.lt_or_le (va n a.key) 0 with hh|hh
  ·exact absurd (.inl hh) h1
  ·exact hh
 have hnf:jy b.fk b.fv a.key=none:=by
  cases hg:jy b.fk b.fv a.key with
  | none=>rfl
  | some p=>exact absurd (.inr (by rw[hg];rfl)) h1
 have hb2:(Y1 a.key (wi n a.key) ats).2=none:=by rw[←h.fo _ hlk,hnf];rfl
 have hrow:=h.rw_ _ hlk hb2
 have hfrom:∀k∈yu b.fk a.key,∃x∈ats++[a],x.key=k∧0≤va n k:=fun k hk=>by
  rcases zbM.1 hk with hk|rfl
  ·obtain⟨x,hx,e⟩:=h.from_ k hk
   exact⟨x,by simp[hx],e⟩
  ·exact⟨a,by simp,rfl,hlk⟩
 by_cases ho:a.out=1
 ·rw[if_pos ho]
  have hnew:Y1 a.key (wi n a.key) (ats++[a])=([],none):=by rw[ZG,brS,if_pos ⟨rfl,hb2⟩,if_pos ho]
  refine⟨Vu h.l1 _ _,h.l2,h.nd,fun k hk=>let ⟨x,hx,e⟩:=h.from_ k hk;⟨x,by simp[hx],e⟩,fun k hk=>?_,h.ne,fun k hk hk2=>?_,fun k p hp=>?_,fun k k' p p' hp hp' he=>?_,fun v hv p hvp=>?_,by have:=h.fl;simp;omega,fun k p hp=>?_⟩
  ·by_cases e:a.key=k
   ·subst e;rw[hnew];simp only;rw[hnf];rfl
   ·rw[same k e];exact h.fo k hk
  ·rw[ji h.l1]
   by_cases e:a.key=k
   ·subst e;rw[if_pos rfl,hnew]
   ·rw[if_neg e,same k e];rw[same k e]at hk2;exact h.rw_ k hk hk2
  ·rw[ji h.l1]at hp
   split at hp
   ·cases hp
   ·exact h.lt k p hp
  ·rw[ji h.l1]at hp hp'
   split at hp
   ·cases hp
   split at hp'
   ·cases hp'
   exact h.un k k' p p' hp hp' he
  ·rcases Qc hv with hv|hv
   ·exact h.al v hv p hvp
   ·rw[hv]at hvp;cases hvp
  ·rw[ji h.l1]at hp
   split at hp
   ·cases hp
   ·have:=h.rl k p hp;simp;omega
 rw[if_neg ho]
 simp only
 obtain⟨p,hp⟩:∃p,p=ZI b.fr (b.row a.key) a.slot:=⟨_,rfl⟩
 rw[←hp]
 have hv:∀q,b.row a.key=some q→q.2 < b.fr.length:=fun q hq=>(h.lt _ q hq).2
 obtain⟨c1,c2,c3⟩:=Jk (fr:=b.fr) a.slot hv
 rw[←hp]at c1 c2 c3
 have hfl:=zax b.fr (b.row a.key)
 have hpr:(Y1 a.key (wi n a.key) ats).1++[a.slot] = p.1:=by
  rw[hp]
  cases hr:b.row a.key with
  | none=>rw[hr]at hrow;simp only at hrow;rw[hrow];rfl
  | some q=>rw[hr]at hrow;simp only at hrow;rw[hrow.1];rfl
 have hlen:((Y1 a.key (wi n a.key) ats).1.length+1)=p.1.length:=by rw[←hpr];simp
 have hnew:Y1 a.key (wi n a.key) (ats++[a])=(p.1,if wi n a.key < (p.1.length:Nat) then some p.1 else none):=by rw[ZG,brS,if_pos ⟨rfl,hb2⟩,if_neg ho,hpr,hlen]
 have hold:∀k q,a.key≠k→b.row k=some q→∀x,b.fr[q.2]? = some x→(Wy b.fr (b.row a.key))[q.2]? = some x:=fun k q hk hq x hx=>ziD hx fun r hr he=>hk (h.un _ _ _ _ hr hq he)
 have rows:∀(fk:List (List Int)) (fv:List (List Int×Nat)),(∀k,0≤va n k→(Y1 k (wi n k) (ats++[a])).2=none→match BS.row ⟨yu b.ks a.key,wT b.ks b.vs a.key (some p),fk,fv,Wy b.fr (b.row a.key)⟩ k with
   | none=>(Y1 k (wi n k) (ats++[a])).1=[]
   | some q=>(Y1 k (wi n k) (ats++[a])).1=q.1∧(Wy b.fr (b.row a.key))[q.2]? = some (q.1.length,1)) ∧
   (∀k q,BS.row ⟨yu b.ks a.key,wT b.ks b.vs a.key (some p),fk,fv,Wy b.fr (b.row a.key)⟩ k=some q→q.1≠[]∧q.2 < (Wy b.fr (b.row a.key)).length) ∧
   (∀k k' q q',BS.row ⟨yu b.ks a.key,wT b.ks b.vs a.key (some p),fk,fv,Wy b.fr (b.row a.key)⟩ k=some q→BS.row ⟨yu b.ks a.key,wT b.ks b.vs a.key (some p),fk,fv,Wy b.fr (b.row a.key)⟩ k'=some q'→q.2=q'.2→k=k') ∧
   (∀v∈wT b.ks b.vs a.key (some p),∀q,v=some q→q.2 < (Wy b.fr (b.row a.key)).length) ∧
   (∀k q,BS.row ⟨yu b.ks a.key,wT b.ks b.vs a.key (some p),fk,fv,Wy b.fr (b.row a.key)⟩ k=some q→q.1.length≤(ats++[a]).length):=by
  intro fk fv
  have hpn:∀k q,a.key≠k→b.row k=some q→p.2≠q.2:=fun k q hk hq he=>by
   cases hr:b.row a.key with
   | none=>
    have:p.2=b.fr.length+1:=by rw[hp,hr];simp[ZI]
    have:=(h.lt k q hq).2
    omega
   | some r=>
    have:p.2=r.2:=by rw[hp,hr];rfl
    exact hk (h.un _ _ _ _ hr hq (by omega))
  refine⟨fun k hk hk2=>?_,fun k q hq=>?_,fun k k' q q' hq hq' he=>?_,fun v hv q hvq=>?_,fun k q hq=>?_⟩
  ·rw[ji h.l1]
   by_cases e:a.key=k
   ·subst e;rw[if_pos rfl,hnew];exact⟨rfl,c3⟩
   ·rw[if_neg e,same k e]
    rw[same k e]at hk2
    have:=h.rw_ k hk hk2
    cases hr:b.row k with
    | none=>rw[hr]at this;exact this
    | some q=>rw[hr]at this;exact⟨this.1,hold k q e hr _ this.2⟩
  ·rw[ji h.l1]at hq
   split at hq
   ·injection hq with hq;subst hq;exact⟨c1,c2⟩
   ·have:=h.lt k q hq;exact⟨this.1,by omega⟩
  ·rw[ji h.l1]at hq hq'
   split at hq
   ·rename_i e
    split at hq'
    ·rename_i e';exact e.symm.trans e'
    ·rename_i e'
     injection hq with hq
     exact absurd (by rw[hq];exact he) (hpn k' q' e' hq')
   ·rename_i e
    split at hq'
    ·injection hq' with hq'
     exact absurd (by rw[hq'];exact he.symm) (hpn k q e hq)
    ·exact h.un k k' q q' hq hq' he
  ·rcases Qc hv with hv|hv
   ·have:=h.al v hv q hvq;omega
   ·rw[hv]at hvq;injection hvq with hvq;subst hvq;exact c2
  ·rw[ji h.l1]at hq
   split at hq
   ·injection hq with hq
    rw[←hq,hp]
    cases hr:b.row a.key with
    | none=>simp[ZI]
    | some r=>have:=h.rl _ r hr;simp[ZI];omega
   ·have:=h.rl k q hq;simp;omega
 by_cases hl:wi n a.key < (p.1.length:Nat)
 ·rw[if_pos hl]
  rw[if_pos hl]at hnew
  obtain⟨r1,r2,r3,r4,r5⟩:=rows (yu b.fk a.key) (wT b.fk b.fv a.key p)
  refine⟨Vu h.l1 _ _,Vu h.l2 _ _,zbl h.nd _,hfrom,fun k hk=>?_,fun q hq=>?_,r1,r2,r3,r4,by have h1:=h.fl;have h2:=K4 b.fk a.key;simp;omega,r5⟩
  ·simp only[zaw h.l2]
   by_cases e:a.key=k
   ·subst e;rw[if_pos rfl,hnew];rfl
   ·rw[if_neg e,same k e];exact h.fo k hk
  ·simp only[wT]at hq
   split at hq
   ·rcases List.mem_or_eq_of_mem_set hq with hq|rfl
    ·have:=h.ne q hq;exact⟨this.1,Nat.lt_of_lt_of_le this.2 hfl⟩
    ·exact⟨c1,c2⟩
   ·rcases List.mem_append.1 hq with hq|hq
    ·have:=h.ne q hq;exact⟨this.1,Nat.lt_of_lt_of_le this.2 hfl⟩
    ·simp at hq;subst hq;exact⟨c1,c2⟩
 ·rw[if_neg hl]
  rw[if_neg hl]at hnew
  obtain⟨r1,r2,r3,r4,r5⟩:=rows b.fk b.fv
  refine⟨Vu h.l1 _ _,h.l2,h.nd,fun k hk=>hfrom k (zbM.2 (.inl hk)),fun k hk=>?_,fun q hq=>?_,r1,r2,r3,r4,by have:=h.fl;simp;omega,r5⟩
  ·by_cases e:a.key=k
   ·subst e;rw[hnew];simp only;rw[hnf];rfl
   ·rw[same k e];exact h.fo k hk
  ·have:=h.ne q hq;exact⟨this.1,Nat.lt_of_lt_of_le this.2 hfl⟩
theorem zd9 (n:zF):∀ats:List y9,BOk n ats (Wd n ats):=by
 intro ats
 suffices ∀l pre,BOk n pre (Wd n pre)→BOk n (pre++l) (Wd n (pre++l)) by simpa using this ats [] (BOk.start n)
 intro l
 induction l with
 | nil=>intro pre h;simpa using h
 | cons a l ih=>
  intro pre h
  have:=ih (pre++[a]) (by rw[J5];exact h.step a)
  simpa using this
def wD (b x:xL):Bool:=decide (xt b.key x.key < 0)
def Qu (b:xL)(l:List xL):List xL:=(l.reverse.dropWhile (wD b)).reverse++b :: (l.reverse.takeWhile (wD b)).reverse
def zeF (n:zF)(ats:List y9)(i:Nat)(a:y9):Option (List Int):=if ((ats.take i).any fun b=>b.key==a.key)=true∨va n a.key < 0 then none else(Y1 a.key (wi n a.key) ats).2
def Xo (n:zF)(ats:List y9):Nat→List xL
 | 0=>[]
 | i+1=>match ats[i]? with
  | none=>Xo n ats i
  | some a=>match zeF n ats i a with
   | none=>Xo n ats i
   | some s=>Qu (xL.of a.key s) (Xo n ats i)
theorem zfk {b:xL}{l:List xL}{x:xL}:x∈Qu b l↔x∈l∨x=b:=by
 have e2:=List.takeWhile_append_dropWhile (p:=wD b) (l:=l.reverse)
 have e3:x∈l↔x∈l.reverse.takeWhile (wD b)∨x∈l.reverse.dropWhile (wD b):=by rw[←List.mem_append,e2,List.mem_reverse]
 unfold Qu
 rw[e3]
 simp only[List.mem_append,List.mem_reverse,List.mem_cons]
 constructor
 ·rintro (h|h|h)
  ·exact .inl (.inr h)
  ·exact .inr h
  ·exact .inl (.inl h)
 ·rintro ((h|h)|h)
  ·exact .inr (.inr h)
  ·exact .inl h
  ·exact .inr (.inl h)
def Kh (a b:xL):Prop:=xt a.key b.key < 0
theorem zei (a:xL):¬Kh a a:=by
 unfold Kh
 rw[vt.2 rfl];decide
theorem zio (a b:xL)(h:Kh a b):¬Kh b a:=fun h'=>zei a (y7 h h')
theorem zbQ {a b:xL}(h:¬Kh b a)(hn:a.key≠b.key):Kh a b:=by
 unfold Kh at *
 rcases Int.lt_trichotomy (xt a.key b.key) 0 with h1|h1|h1
 ·exact h1
 ·exact absurd (vt.1 h1) hn
 ·exact absurd (Z5.2 h1) h
theorem zap {b:xL}{l:List xL}(h:l.Pairwise Kh)(hn:∀x∈l,x.key≠b.key):(Qu b l).Pairwise Kh:=by
 have e2:=List.takeWhile_append_dropWhile (p:=wD b) (l:=l.reverse)
 have hr:l.reverse.Pairwise fun a c=>Kh c a:=List.pairwise_reverse.2 h
 have hmem:∀x,x∈l.reverse.takeWhile (wD b)++l.reverse.dropWhile (wD b)→x∈l:=fun x hx=>by rw[e2]at hx;simpa using hx
 have h1:∀x∈l.reverse.takeWhile (wD b),Kh b x:=fun x hx=>by
  have:=List.all_eq_true.1 (List.all_takeWhile (p:=wD b) (l:=l.reverse)) x hx
  simpa[wD,Kh] using this
 have h2:∀x∈l.reverse.dropWhile (wD b),Kh x b:=by
  rw[←e2]at hr
  have hr2:=(List.pairwise_append.1 hr).2.1
  cases hd:l.reverse.dropWhile (wD b) with
  | nil=>intro x hx;cases hx
  | cons y ys=>
   rw[hd]at hr2
   have hy:wD b y=false:=by
    have:=List.head_dropWhile_not (wD b) (l:=l.reverse) (by rw[hd];simp)
    simpa[hd] using this
   have hy2:Kh y b:=zbQ (by simpa[wD,Kh] using hy) (hn y (hmem y (by rw[hd];simp)))
   intro x hx
   rcases List.mem_cons.1 hx with rfl|hx
   ·exact hy2
   ·exact y7 ((List.pairwise_cons.1 hr2).1 x hx) hy2
 rw[←e2]at hr
 obtain⟨r1,r2,r3⟩:=List.pairwise_append.1 hr
 unfold Qu
 refine List.pairwise_append.2 ⟨List.pairwise_reverse.2 r2,List.pairwise_cons.2 ⟨fun x hx=>h1 x (by simpa using hx),List.pairwise_reverse.2 r1⟩,fun x hx y hy=>?_⟩
 have hx':=h2 x (by simpa using hx)
 rcases List.mem_cons.1 hy with rfl|hy
 ·exact hx'
 ·exact y7 hx' (h1 y (by simpa using hy))
def IsB (n:zF)(ats:List y9)(m:List y9)(x:xL):Prop:=(∃a∈m,a.key=x.key)∧0≤va n x.key∧(Y1 x.key (wi n x.key) ats).2=some x.slots
theorem zeg {k:List Int}(a:y9)(h:a.key=k)(s:List Int):(xL.of k s).key=k:=by subst h;rfl
theorem Zi {n:zF}{ats:List y9}:∀{i:Nat},i≤ats.length→∀{x:xL},x∈Xo n ats i↔IsB n ats (ats.take i) x
 | 0,_,x=>by simp[Xo,IsB]
 | i+1,hi,x=>by
  have ih:=fun x=>Zi (n:=n) (ats:=ats) (i:=i) (by omega) (x:=x)
  obtain⟨a,ha⟩:∃a,ats[i]? = some a:=⟨_,List.getElem?_eq_getElem (by omega)⟩
  have ht:=zK ha
  simp only[Xo,ha]
  have hold:IsB n ats (ats.take i) x→IsB n ats (ats.take (i+1)) x:=fun⟨⟨y,hy,e⟩,h2,h3⟩=>⟨⟨y,by rw[ht];simp[hy],e⟩,h2,h3⟩
  unfold zeF
  by_cases hc:((ats.take i).any fun b=>b.key==a.key)=true∨va n a.key < 0
  ·rw[if_pos hc]
   simp only
   rw[ih x]
   refine⟨hold,fun⟨⟨y,hy,e⟩,h2,h3⟩=>⟨?_,h2,h3⟩⟩
   rw[ht]at hy
   rcases List.mem_append.1 hy with hy|hy
   ·exact⟨y,hy,e⟩
   ·simp at hy;subst hy
    rcases hc with hc|hc
    ·obtain⟨z,hz,ez⟩:=List.any_eq_true.1 hc
     exact⟨z,hz,by rw[←e];simpa using ez⟩
    ·rw[e]at hc;omega
  ·rw[if_neg hc]
   cases hb:(Y1 a.key (wi n a.key) ats).2 with
   | none=>
    simp only
    rw[ih x]
    refine⟨hold,fun⟨⟨y,hy,e⟩,h2,h3⟩=>⟨?_,h2,h3⟩⟩
    rw[ht]at hy
    rcases List.mem_append.1 hy with hy|hy
    ·exact⟨y,hy,e⟩
    ·simp at hy;subst hy
     rw[←e,hb]at h3;cases h3
   | some s=>
    simp only
    rw[zfk,ih x]
    constructor
    ·rintro (h|rfl)
     ·exact hold h
     ·refine⟨⟨a,by rw[ht];simp,rfl⟩,?_,hb⟩
      rw[zgH]
      rcases Int.lt_or_le (va n a.key) 0 with hh|hh
      ·exact absurd (.inr hh) hc
      ·exact hh
    ·rintro⟨⟨y,hy,e⟩,h2,h3⟩
     rw[ht]at hy
     rcases List.mem_append.1 hy with hy|hy
     ·exact .inl ⟨⟨y,hy,e⟩,h2,h3⟩
     ·simp at hy;subst hy
      right
      rw[←e,hb]at h3
      injection h3 with h3
      rw[h3,e,zef]
theorem WX {n:zF}{ats:List y9}:∀{i:Nat},i≤ats.length→(Xo n ats i).Pairwise Kh
 | 0,_=>.nil
 | i+1,hi=>by
  have ih:=WX (n:=n) (ats:=ats) (i:=i) (by omega)
  obtain⟨a,ha⟩:∃a,ats[i]? = some a:=⟨_,List.getElem?_eq_getElem (by omega)⟩
  simp only[Xo,ha]
  cases hb:zeF n ats i a with
  | none=>exact ih
  | some s=>
   refine zap ih fun x hx e=>?_
   obtain⟨⟨y,hy,e1⟩,_,_⟩:=(Zi (by omega)).1 hx
   unfold zeF at hb
   rw[if_pos (.inl (List.any_eq_true.2 ⟨y,hy,by rw[e1,e,zgH];simp⟩))]at hb
   cases hb
def BS.out (b:BS):List xL:=(b.fk.zip b.fv).map fun p=>xL.of p.1 p.2.1
theorem zja {n:zF}{ats:List y9}{ds:List xL}(hp:ds.Perm (Wd n ats).out)(hs:ds.Pairwise fun a b=>¬Kh b a):ds=Xo n ats ats.length:=by
 have h:=zd9 n ats
 generalize Wd n ats=b at hp h
 have hget:∀(i:Nat) k p,b.fk[i]? = some k→b.fv[i]? = some p→IsB n ats ats (xL.of k p.1):=fun i k p hk hpv=>by
  obtain⟨a,ha,e,hl⟩:=h.from_ k (List.mem_of_getElem? hk)
  have hkey:=zeg a e p.1
  unfold IsB
  rw[hkey]
  refine⟨⟨a,ha,e⟩,hl,?_⟩
  rw[←h.fo k hl,ziC h.nd hk,hpv];rfl
 have hmem:∀x,x∈b.out↔IsB n ats ats x:=fun x=>by
  unfold BS.out
  rw[List.mem_map]
  constructor
  ·rintro⟨⟨k,p⟩,hkp,rfl⟩
   obtain⟨i,hi⟩:=List.getElem?_of_mem hkp
   rw[List.getElem?_zip_eq_some]at hi
   exact hget i k p hi.1 hi.2
  ·rintro⟨⟨a,ha,e⟩,hl,hb⟩
   have hf:=h.fo x.key hl
   rw[hb]at hf
   cases hg:jy b.fk b.fv x.key with
   | none=>rw[hg]at hf;cases hf
   | some p=>
    rw[hg]at hf
    unfold jy at hg
    cases hi:zV b.fk x.key with
    | none=>rw[hi]at hg;cases hg
    | some i=>
     rw[hi]at hg
     refine⟨(x.key,p),List.mem_of_getElem? (List.getElem?_zip_eq_some.2 ⟨yV hi,hg⟩),?_⟩
     simp at hf
     simp only
     rw[hf,zef]
 have hdist:b.out.Pairwise fun x y=>x.key≠y.key:=by
  rw[List.pairwise_iff_getElem]
  intro i j hi hj hij
  have hi':=hi;have hj':=hj
  simp only[BS.out,List.length_map,List.length_zip]at hi' hj'
  have e:∀(i:Nat) (hi:i < b.out.length) (h1:i < b.fk.length),(b.out[i]).key=b.fk[i]:=fun i hi h1=>by
   obtain⟨a,_,e,_⟩:=h.from_ _ (List.getElem_mem h1)
   simp only[BS.out,List.getElem_map,List.getElem_zip]
   exact zeg a e _
  rw[e i hi (by omega),e j hj (by omega)]
  exact List.pairwise_iff_getElem.1 h.nd i j _ _ hij
 have hd2:ds.Pairwise fun x y=>x.key≠y.key:=List.Pairwise.perm hdist hp.symm (fun h=>h.symm)
 have hs2:ds.Pairwise Kh:=(List.Pairwise.and hs hd2).imp fun h=>zbQ h.1 h.2
 refine YE zei zio hs2 (WX (Nat.le_refl _)) fun x=>?_
 rw[hp.mem_iff,hmem,Zi (Nat.le_refl _),List.take_length]
def Xq (b:BS)(seen:List Nat):List xL:=seen.map fun i=>xL.of (b.fk.getD i []) (b.fv.getD i ([],0)).1
theorem zfd (b:BS)(seen:List Nat){i:Nat}{k:List Int}{p:List Int×Nat}(hk:b.fk[i]? = some k)(hp:b.fv[i]? = some p):Xq b (seen++[i])=Xq b seen++[xL.of k p.1]:=by
 simp[Xq,List.getD_eq_getElem?_getD,hk,hp]
theorem Kf {l:List Nat}{n:Nat}(h:l.Nodup)(hl:∀i∈l,i < n):l.length≤n:=by
 have hp:l.Perm ((List.range n).filter fun i=>decide (i∈l)):=(List.perm_ext_iff_of_nodup h (List.nodup_range.filter _)).2 fun i=>by
  simp only[List.mem_filter,List.mem_range,decide_eq_true_eq]
  exact⟨fun hi=>⟨hl i hi,hi⟩,fun hi=>hi.2⟩
 rw[hp.length_eq]
 exact Nat.le_trans (List.length_filter_le _ _) (by simp)
theorem zgE {b:BS}(hl:b.fk.length=b.fv.length){seen:List Nat}(h:seen.Nodup)(h1:∀i∈seen,i < b.fk.length)(h2:∀i,i < b.fk.length→i∈seen):(Xq b seen).Perm b.out:=by
 have hp:seen.Perm (List.range b.fk.length):=(List.perm_ext_iff_of_nodup h List.nodup_range).2 fun i=>by
  rw[List.mem_range]
  exact⟨h1 i,h2 i⟩
 have e:b.out=Xq b (List.range b.fk.length):=by
  apply List.ext_getElem?
  intro i
  unfold BS.out Xq
  rcases Nat.lt_or_ge i b.fk.length with hi|hi
  ·have hi2:i < b.fv.length:=by omega
   have hz:(b.fk.zip b.fv)[i]? = some (b.fk[i],b.fv[i]):=List.getElem?_zip_eq_some.2 ⟨List.getElem?_eq_getElem hi,List.getElem?_eq_getElem hi2⟩
   rw[List.getElem?_map,List.getElem?_map,List.getElem?_range hi,hz]
   simp[List.getD_eq_getElem?_getD,hi,hi2]
  ·rw[List.getElem?_eq_none (by simp;omega),List.getElem?_eq_none (by simp;omega)]
 rw[e]
 exact hp.map _
def zfB (p:List Int×Nat):AV:=.sl false (p.1.map zM)
theorem zb5:∀l:List (List Int×Nat),xo (l.map QV)=some (l.map zfB)
 | []=>rfl
 | p :: l=>by simp[xo,fz,zb5 l,QV,zfB]
mutual
theorem AV.zkv (π:Nat→Nat):∀(e:AV) {e':AV},fz e=some e'→e.ren π=e
 | .fn f caps,_,h=>by
  simp only[fz,Option.map_eq_some_iff]at h
  obtain⟨cs,h,_⟩:=h
  simp only[AV.ren,Xm π caps h]
 | .agg cs,_,h=>by
  simp only[fz,Option.map_eq_some_iff]at h
  obtain⟨cs',h,_⟩:=h
  simp only[AV.ren,Xm π cs h]
 | .tup cs,_,h=>by
  simp only[fz,Option.map_eq_some_iff]at h
  obtain⟨cs',h,_⟩:=h
  simp only[AV.ren,Xm π cs h]
 | .int _ _,_,_=>rfl
 | .bool _,_,_=>rfl
 | .str _,_,_=>rfl
 | .nils,_,_=>rfl
 | .nilp,_,_=>rfl
 | .nili,_,_=>rfl
 | .nilm,_,_=>rfl
 | .sl _ _,_,_=>rfl
 | .own _ _,_,_=>rfl
 | .cptr _ _,_,_=>rfl
 | .cmp _ _ _,_,_=>rfl
 | .undef,_,_=>rfl
 | .grown _ _,_,h=>by simp[fz]at h
 | .bsl _ _ _ _,_,h=>by simp[fz]at h
 | .vsl _ _ _ _,_,h=>by simp[fz]at h
 | .ptr _ _,_,h=>by simp[fz]at h
 | .yld _,_,h=>by simp[fz]at h
 | .mp _,_,h=>by simp[fz]at h
theorem Xm (π:Nat→Nat):∀(es:List AV) {es':List AV},xo es=some es'→kT π es=es
 | [],_,_=>rfl
 | e :: es,_,h=>by
  simp only[xo]at h
  split at h
  ·rename_i a b h1 h2
   simp only[kT,AV.zkv π e h1,Xm π es h2]
  ·cases h
end
theorem zbv (π:Nat→Nat):∀a b:List AV,kT π (a++b)=kT π a++kT π b
 | [],_=>rfl
 | x :: a,b=>by simp[kT,zbv π a b]
theorem VX (π:Nat→Nat):∀n,kT π (List.replicate n .undef)=List.replicate n .undef
 | 0=>rfl
 | n+1=>by simp[List.replicate_succ,kT,AV.ren,VX π n]
theorem yH.ren {α:Type}{enc:α→AV}{sz:Nat}(h:yH enc sz)(π:Nat→Nat)(l:List α)(n:Nat):kT π (zd (l.map enc)++List.replicate n .undef)=zd (l.map enc)++List.replicate n .undef:=by
 rw[zbv,Xm π _ (h.fzf l),VX]
theorem zbF (b:BS)(seen:List Nat):(Xq b seen).length=seen.length:=by simp[Xq]
theorem zfl (d:xL)(l:List xL):(Qu d l).length=l.length+1:=by
 have e2:=congrArg List.length (List.takeWhile_append_dropWhile (p:=wD d) (l:=l.reverse))
 rw[List.length_append,List.length_reverse]at e2
 unfold Qu
 simp only[List.length_append,List.length_cons,List.length_reverse]
 omega
theorem zby (n:zF)(ats:List y9):∀i,(Xo n ats i).length≤i
 | 0=>by simp[Xo]
 | i+1=>by
  have:=zby n ats i
  unfold Xo
  split
  ·omega
  ·split
   ·omega
   ·rw[zfl];omega
def j0 (n:zF)(r:wK):List xL:=if yS n=0 then Xo n r.atts r.atts.length else []
theorem zcH {k:List Int}{loss:Int}{pre post:List y9}:∀s,(Y1 k loss pre).2=some s→(Y1 k loss (pre++post)).2=some s:=by
 induction post generalizing pre with
 | nil=>intro s h;simpa using h
 | cons a l ih=>
  intro s h
  have:=ih (pre:=pre++[a]) s (by rw[ZG,zcI (by rw[h];simp)];exact h)
  simpa using this
end HM
