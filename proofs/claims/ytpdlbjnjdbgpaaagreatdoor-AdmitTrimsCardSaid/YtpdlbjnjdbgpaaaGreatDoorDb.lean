/- Runs and changes in plain words. -/
import Derived.Test.YtpdlbjnjdbgpaaaGreatDoorDa
namespace HM
open Go Go.RowKit
theorem playR_slots (l:List Flow)(sc:Nat→Sched)(x:List Rule):∀n:Nat,∀b∈(playR l sc x n).atts,b.slot < n
 | 0=>by simp[playR]
 | n+1=>by
  obtain⟨la,a1,a2,_⟩:=slotR_gen l (sc n) x (playR l sc x n) (n:Nat)
  intro b hb
  have hb:b∈(slotR l (sc n) x (playR l sc x n) (n:Nat)).atts:=hb
  rw[a1]at hb
  rcases List.mem_append.1 hb with hb|hb
  ·have:=playR_slots l sc x n b hb;omega
  ·rw[a2 b hb];omega
theorem findF_one (f:Flow)(id:Int):findF [f] id=if f.id=id then 0 else -1:=by
 by_cases h:f.id=id
 ·rw[if_pos h]
  exact idxF_some (k:=0) (by simp) (fun j y hj=>by omega) rfl (by simpa using h)
 ·rw[if_neg h]
  refine idxF_none (fun j y hj hy=>?_)
  cases j with
  | zero=>simp at hy;subst hy;simpa using h
  | succ j=>simp at hy
structure Req where
 flow:Flow
 routes:List (List Int)
def Req.cs (x:Req):List AV:=[.int .i64 x.flow.id,.int .i64 x.flow.src,.int .i64 x.flow.dst,.int .i64 x.flow.period,.int .i64 x.flow.phase,.int .i64 x.flow.dead,encRows x.routes]
def Req.av (x:Req):AV:=.agg [.int .i64 x.flow.id,.int .i64 x.flow.src,.int .i64 x.flow.dst,.int .i64 x.flow.period,.int .i64 x.flow.phase,.int .i64 x.flow.dead,encRows x.routes]
def encReqs (l:List Req):AV:=.sl false (l.map Req.av)
def flowsQ (q:List Req):List Flow:=q.map Req.flow
def routesAt (n:Net)(x:Req)(k:Nat):Int:=match x.routes[k]? with
 | some r=>routeE n x.flow.src x.flow.dst r
 | none=>0
def twoSame:List (List Int)→Bool
 | [a,b]=>decide (a=b)
 | _=>false
def routesE (n:Net)(x:Req):Int:=
 if x.routes.length=0 then 14 else if 2 < x.routes.length then 8
 else if (firstAt (routesAt n x) x.routes.length).2≠0 then(firstAt (routesAt n x) x.routes.length).2
 else if twoSame x.routes=true then 6 else 0
def reqAt (n:Net)(q:List Req)(k:Nat):Int:=match q[k]? with
 | some x=>routesE n x
 | none=>0
def reqE (n:Net)(q:List Req):Int×Int:=
 if netE n≠0 then(-1,1) else if (flowsE n.nodes (flowsQ q)).2≠0 then flowsE n.nodes (flowsQ q) else firstAt (reqAt n q) q.length
theorem firstAt_lo {f:Nat→Int}{n:Nat}(h:(firstAt f n).2≠0):0≤(firstAt f n).1:=by
 unfold firstAt at h ⊢
 split
 ·simp
 ·rename_i hh;rw[hh]at h;exact absurd rfl h
structure ReqOk (n:Net)(x:Req):Prop where
 flow:flowE n.nodes x.flow=0
 len:1≤x.routes.length∧x.routes.length≤2
 route:∀r∈x.routes,routeF n x.flow.src x.flow.dst r=0
 two:twoSame x.routes=false
theorem reqE_ok {n:Net}{q:List Req}(h:(reqE n q).2=0):NetOk n∧q.length≤16∧(∀x∈q,ReqOk n x)∧(flowsE n.nodes (flowsQ q)).2=0:=by
 unfold reqE at h
 split at h
 ·cases h
 rename_i h0
 split at h
 ·rename_i h1;exact absurd h h1
 rename_i h1
 have h1:(flowsE n.nodes (flowsQ q)).2=0:=by omega
 have hok:=netE_ok (by omega:netE n=0)
 have hfl:=h1
 unfold flowsE at hfl
 rw[if_neg (by have:=hok.nodes;omega)]at hfl
 split at hfl
 ·cases hfl
 rename_i h16
 refine⟨hok,by simp[flowsQ]at h16;omega,fun x hx=>?_,h1⟩
 obtain⟨k,hk⟩:=List.getElem?_of_mem hx
 have hkl:=(List.getElem?_eq_some_iff.1 hk).1
 have h2:=firstAt_ok.1 h k hkl
 have h3:=firstAt_ok.1 hfl k (by simpa[flowsQ] using hkl)
 have hkf:(flowsQ q)[k]? = some x.flow:=by simp[flowsQ,hk]
 unfold flowAt at h3
 rw[hkf]at h3
 simp only at h3
 have hfx:flowE n.nodes x.flow=0:=by
  split at h3
  ·rename_i hh;exact absurd h3 hh
  ·omega
 unfold reqAt at h2
 rw[hk]at h2
 simp only[routesE]at h2
 split at h2
 ·cases h2
 split at h2
 ·cases h2
 split at h2
 ·rename_i hh;exact absurd h2 hh
 rename_i hr
 split at h2
 ·cases h2
 rename_i ht
 refine⟨hfx,by omega,fun r hr2=>?_,by simpa using ht⟩
 obtain⟨j,hj⟩:=List.getElem?_of_mem hr2
 have h4:=firstAt_ok.1 (by omega:(firstAt (routesAt n x) x.routes.length).2=0) j (List.getElem?_eq_some_iff.1 hj).1
 unfold routesAt at h4
 rw[hj]at h4
 simp only[routeE]at h4
 split at h4
 ·rename_i hh;exact absurd h4 hh
 ·exact h4
theorem good_find {n:Net}{a b:Int}(h:goodL n a b=true):0≤findL n a b:=by
 rcases Int.lt_or_le (findL n a b) 0 with hh|hh
 ·unfold goodL at h
  simp at h
  omega
 ·exact hh
def pushN {α:Type}[DecidableEq α](acc:List α)(x:α):List α:=if acc.getLast? = some x then acc else acc++[x]
def compact {α:Type}[DecidableEq α](l:List α):List α:=l.foldl pushN []
theorem compact_snoc {α:Type}[DecidableEq α](l:List α)(x:α):compact (l++[x])=pushN (compact l) x:=by simp[compact]
theorem compact_mem {α:Type}[DecidableEq α]{l:List α}{x:α}:x∈compact l↔x∈l:=by
 suffices ∀(l acc:List α),x∈l.foldl pushN acc↔x∈acc∨x∈l by simpa[compact] using this l []
 intro l
 induction l with
 | nil=>intro acc;simp
 | cons y l ih=>
  intro acc
  rw[List.foldl_cons,ih]
  unfold pushN
  split
  ·rename_i h
   have hy:=List.mem_of_getLast? h
   constructor
   ·rintro (h1|h1)
    ·exact .inl h1
    ·exact .inr (by simp[h1])
   ·rintro (h1|h1)
    ·exact .inl h1
    ·rcases List.mem_cons.1 h1 with rfl|h1
     ·exact .inl hy
     ·exact .inr h1
  ·simp only[List.mem_append,List.mem_cons,List.not_mem_nil,or_false]
   constructor
   ·rintro ((h1|h1)|h1)
    ·exact .inl h1
    ·exact .inr (.inl h1)
    ·exact .inr (.inr h1)
   ·rintro (h1|h1|h1)
    ·exact .inl (.inl h1)
    ·exact .inl (.inr h1)
    ·exact .inr h1
theorem compact_strict {α:Type}[DecidableEq α]{lt:α→α→Prop}(tr:∀{a b c},lt a b→lt b c→lt a c){l:List α}(hs:l.Pairwise fun a b=>¬lt b a)(conn:∀a b,a∈l→b∈l→¬lt b a→a≠b→lt a b):(compact l).Pairwise lt:=by
 suffices ∀(k:Nat),k≤l.length→(compact (l.take k)).Pairwise lt by simpa using this l.length (Nat.le_refl _)
 intro k
 induction k with
 | zero=>intro _;simp[compact]
 | succ k ih=>
  intro hk
  obtain⟨x,hx⟩:∃x,l[k]? = some x:=⟨_,List.getElem?_eq_getElem (by omega)⟩
  have h1:=ih (by omega)
  rw[take_succ hx,compact_snoc]
  unfold pushN
  split
  ·exact h1
  ·rename_i hne
   have hxl:=List.mem_of_getElem? hx
   have hle:∀y∈compact (l.take k),¬lt x y:=fun y hy=>by
    have hy:=compact_mem.1 hy
    obtain⟨j,hj⟩:=List.getElem?_of_mem hy
    have hjk:=(List.getElem?_eq_some_iff.1 hj).1
    rw[List.length_take]at hjk
    rw[List.getElem?_take_of_lt (by omega)]at hj
    obtain⟨p1,p2⟩:=List.getElem?_eq_some_iff.1 hj
    obtain⟨p3,p4⟩:=List.getElem?_eq_some_iff.1 hx
    have:=List.pairwise_iff_getElem.1 hs j k p1 p3 (by omega)
    rwa [p2,p4]at this
   refine List.pairwise_append.2 ⟨h1,by simp,fun y hy z hz=>?_⟩
   simp at hz;subst hz
   cases hlast:(compact (l.take k)).getLast? with
   | none=>rw[List.getLast?_eq_none_iff]at hlast;rw[hlast]at hy;cases hy
   | some w=>
    have hwm:=List.mem_of_getLast? hlast
    have hwl:w∈l:=List.mem_of_mem_take (compact_mem.1 hwm)
    have hwz:lt w z:=conn w z hwl hxl (hle w hwm) (fun e=>hne (by rw[hlast,e]))
    obtain⟨pre,hpre⟩:=List.getLast?_eq_some_iff.1 hlast
    rw[hpre]at hy h1
    rcases List.mem_append.1 hy with hy|hy
    ·exact tr ((List.pairwise_append.1 h1).2.2 y hy w (by simp)) hwz
    ·simp at hy;subst hy;exact hwz
def sumW {α:Type}(f:α→Int):List α→Int
 | []=>0
 | x :: l=>f x+sumW f l
theorem sumW_app {α:Type}(f:α→Int)(a b:List α):sumW f (a++b)=sumW f a+sumW f b:=by
 induction a with
 | nil=>simp[sumW]
 | cons x a ih=>simp only[List.cons_append,sumW,ih];omega
theorem sumW_take {α:Type}(f:α→Int){l:List α}{k:Nat}{x:α}(h:l[k]? = some x):sumW f (l.take (k+1))=sumW f (l.take k)+f x:=by rw[take_succ h,sumW_app];simp[sumW]
theorem sumW_bd {α:Type}{f:α→Int}{m:Int}(hm:0≤m):∀{l:List α},(∀x∈l,0≤f x∧f x≤m)→0≤sumW f l∧sumW f l≤l.length*m
 | [],_=>by simp[sumW]
 | x :: l,h=>by
  have h1:=h x (by simp)
  have h2:=sumW_bd hm fun y hy=>h y (List.mem_cons_of_mem x hy)
  simp only[sumW,List.length_cons]
  have h3:((l.length+1:Nat):Int)*m=l.length*m+m:=by rw[Int.natCast_add,Int.add_mul];simp
  omega
theorem EncOk.ldr2 {α:Type}{enc:α→AV}{sz:Nat}(h:EncOk enc sz){l:List α}{k j:Nat}{x:α}(ex:List AV)(hk:l[k+j]? = some x)(n m n':Nat)(hn:n=sz)(hm:m=sz)(hn':n'=sz):((flatE (l.map enc)++ex).drop (0+(k:Int).toNat*n+(j:Int).toNat*m)).take n'=(enc x).cells:=by
 subst hn;subst hm;subst hn'
 rw[Nat.zero_add,Int.toNat_natCast,Int.toNat_natCast,←Nat.add_mul]
 exact h.ld ex hk
theorem EncOk.fit2 {α:Type}{enc:α→AV}{sz:Nat}(h:EncOk enc sz){l:List α}(ex:List AV){k j:Nat}(hk:k+j < l.length):0+(k:Int).toNat*sz+(j:Int).toNat*sz+sz≤(flatE (l.map enc)++ex).length:=by
 rw[Nat.zero_add,Int.toNat_natCast,Int.toNat_natCast,←Nat.add_mul]
 exact h.fit ex hk
theorem EncOk.fit1 {α:Type}{enc:α→AV}{sz:Nat}(h:EncOk enc sz){l:List α}(ex:List AV){k:Nat}(hk:k < l.length):0+(k:Int).toNat*sz+sz≤(flatE (l.map enc)++ex).length:=by
 rw[Nat.zero_add,Int.toNat_natCast]
 exact h.fit ex hk
section
variable {α:Type} [DecidableEq α]
theorem pushN_last (acc:List α)(x:α):(pushN acc x).getLast? = some x:=by
 unfold pushN
 split
 ·rename_i h;exact h
 ·simp
theorem compact_last {l:List α}{k:Nat}{x:α}(h:l[k]? = some x):(compact (l.take (k+1))).getLast? = some x:=by
 rw[take_succ h,compact_snoc];exact pushN_last _ _
theorem compact_eqv {l:List α}{k:Nat}{x y:α}(hx:l[k]? = some x)(hy:l[k+1]? = some y)(e:y=x):compact (l.take (k+2))=compact (l.take (k+1)):=by
 rw[take_succ hy,compact_snoc];unfold pushN;rw[if_pos (by rw[compact_last hx,e])]
theorem compact_new {l:List α}{k:Nat}{x y:α}(hx:l[k]? = some x)(hy:l[k+1]? = some y)(e:y≠x):compact (l.take (k+2))=compact (l.take (k+1))++[y]:=by
 rw[take_succ hy,compact_snoc];unfold pushN;rw[if_neg (by rw[compact_last hx];simpa using fun h=>e h.symm)]
theorem compact_one {l:List α}{x:α}(hx:l[0]? = some x):compact (l.take 1)=l.take 1:=by
 rw[take_succ hx];rfl
theorem compact_short {l:List α}(h:l.length < 2):compact l=l:=by
 match l,h with
 | [],_=>rfl
 | [x],_=>rfl
structure Cpt (l a:List α)(i j:Nat):Prop where
 len:a.length=l.length
 ij:i+1≤j
 jl:j≤l.length
 pre:a.take i=compact (l.take j)
 post:a.drop (j-1)=l.drop (j-1)
theorem Cpt.start {l:List α}{k:Nat}{x y:α}(hx:l[k]? = some x)(hy:l[k+1]? = some y)(e:y=x)(hc:compact (l.take (k+1))=l.take (k+1)):Cpt l l (k+1) (k+2):=
 ⟨rfl,by omega,by have:=(List.getElem?_eq_some_iff.1 hy).1;omega,by rw[compact_eqv hx hy e,hc],rfl⟩
theorem Cpt.get {l a:List α}{i j m:Nat}(h:Cpt l a i j)(hm:j-1≤m):a[m]? = l[m]?:=by
 have:=congrArg (fun t:List α=>t[m-(j-1)]?) h.post
 simp only[List.getElem?_drop]at this
 rwa [show j-1+(m-(j-1))=m by omega]at this
theorem Cpt.drop {l a:List α}{i j:Nat}(h:Cpt l a i j){x y:α}(hx:l[j-1]? = some x)(hy:l[j]? = some y)(e:y=x):Cpt l a i (j+1):=by
 obtain⟨k,rfl⟩:∃k,j=k+1:=⟨j-1,by have:=h.ij;omega⟩
 refine⟨h.len,by have:=h.ij;omega,by have:=(List.getElem?_eq_some_iff.1 hy).1;omega,by rw[show k+1+1=k+2 from rfl,compact_eqv (k:=k) hx hy e];exact h.pre,?_⟩
 have:=congrArg (List.drop 1) h.post
 simpa[List.drop_drop] using this
theorem Cpt.keep {l a:List α}{i j:Nat}(h:Cpt l a i j){x y:α}(hx:l[j-1]? = some x)(hy:l[j]? = some y)(e:y≠x):Cpt l (a.set i y) (i+1) (j+1):=by
 obtain⟨k,rfl⟩:∃k,j=k+1:=⟨j-1,by have:=h.ij;omega⟩
 have h1:=h.ij
 have h2:=(List.getElem?_eq_some_iff.1 hy).1
 have h3:=h.len
 refine⟨by simp[h.len],by omega,by omega,?_,?_⟩
 ·rw[show k+1+1=k+2 from rfl,compact_new (k:=k) hx hy e,←h.pre,List.take_add_one,List.getElem?_set_self (by omega),List.take_set_of_le (by omega)];rfl
 ·have:=congrArg (List.drop 1) h.post
  rw[List.drop_drop,List.drop_drop]at this
  show(a.set i y).drop (k+1)=_
  rw[List.drop_set_of_lt (by omega)]
  simpa using this
theorem Cpt.fin {l a:List α}{i:Nat}(h:Cpt l a i l.length):a.take i=compact l:=by rw[h.pre,List.take_length]
end
def tReq:Ty:=.st [tFlow,tRows]
theorem sh_req {l:List AV}(h:tReq.sh l):∃x:Req,l=x.cs∧x.routes.length≤140737488355328∧∀r∈x.routes,r.length≤140737488355328:=by
 obtain⟨_,_,rfl,_,h1,_,_,rfl,_,h2,h6⟩:=h
 obtain⟨f,rfl⟩:=sh_flow h1
 obtain⟨rs,rfl,r1,r2⟩:=sh_rows h2
 obtain rfl:=h6
 exact⟨⟨f,rs⟩,rfl,r1,r2⟩
theorem sh_reqs {l:List AV}(h:(Ty.sl tReq).sh l):∃q:List Req,l=[encReqs q]∧q.length≤140737488355328∧∀x∈q,x.routes.length≤281474976710656∧∀r∈x.routes,r.length≤281474976710656:=by
 obtain⟨els,rfl,h1,h2⟩:=h
 obtain⟨cs,h3,h4,h5⟩:=list_ofP (f:=Req.av) (Q:=fun x:Req=>x.routes.length≤281474976710656∧∀r∈x.routes,r.length≤281474976710656) (fun l hl=>by
  obtain⟨c,rfl,c1,c2⟩:=sh_req hl
  exact⟨c,rfl,by omega,fun r hr=>by have:=c2 r hr;omega⟩) els h1
 exact⟨cs,by rw[h3];rfl,by omega,h5⟩
theorem sh3 {d1 d2 d3:Ty}:∀{es:List AV},shArgs [d1,d2,d3] es→∃l1 l2 l3,es=[d1.mk l1,d2.mk l2,d3.mk l3]∧d1.sh l1∧d2.sh l2∧d3.sh l3
 | [e1,e2,e3],h=>by
  obtain⟨⟨l1,h1,rfl⟩,⟨l2,h2,rfl⟩,⟨l3,h3,rfl⟩,_⟩:=h
  exact⟨l1,l2,l3,rfl,h1,h2,h3⟩
 | [],h=>by simp[shArgs]at h
 | [_],h=>by simp[shArgs]at h
 | [_,_],h=>by simp[shArgs]at h
 | _ :: _ :: _ :: _ :: _,h=>by simp[shArgs]at h
def marginAt (n:Net)(a b:Int):Int:=n.margin.getD (findL n a b).toNat 0
def powN (n:Net)(a b:Int):Int:=if insB a n.nodes then powAt n a b else 0
def distAt (n:Net)(cs:List Cell)(i:Nat)(node:Int)(k:Nat):Int:=match cs[k]? with
 | some c=>if k=i then 0 else powN n c.src node+powN n c.dst node
 | none=>0
def distU (n:Net)(cs:List Cell)(i:Nat)(node:Int)(k:Nat):Int:=sumW (distAt n cs i node) (List.range k)
def distM (n:Net)(cs:List Cell)(i:Nat)(node:Int):Int:=distU n cs i node cs.length
def touchB (a b:Cell):Bool:=a.src==b.src||a.src==b.dst||a.dst==b.src||a.dst==b.dst
def touchAt (cs:List Cell)(c:Cell)(i k:Nat):Bool:=match cs[k]? with
 | some d=>k != i&&touchB c d
 | none=>false
def faultyM (n:Net)(cs:List Cell)(i:Nat):Bool:=match cs[i]? with
 | none=>false
 | some c=>if goodL n c.src c.dst=false then true else if (List.range cs.length).any (touchAt cs c i) then true
  else if heardB n (marginAt n c.src c.dst) (distM n cs i c.dst)=false then true else !heardB n (marginAt n c.dst c.src) (distM n cs i c.src)
def goodM (n:Net)(cs:List Cell):Bool:=decide (netE n=0)&&!(List.range cs.length).any (faultyM n cs)
theorem distU_succ (n:Net)(cs:List Cell)(i:Nat)(node:Int)(k:Nat):distU n cs i node (k+1)=distU n cs i node k+distAt n cs i node k:=by
 unfold distU
 rw[List.range_succ,sumW_app]
 simp[sumW]
theorem powN_bd {n:Net}(h:NetOk n)(a b:Int):0≤powN n a b∧powN n a b≤68719476736:=by
 unfold powN
 have:=powAt_bd h.pow a b
 split<;>omega
theorem distAt_bd {n:Net}(h:NetOk n)(cs:List Cell)(i:Nat)(node:Int)(k:Nat):0≤distAt n cs i node k∧distAt n cs i node k≤137438953472:=by
 unfold distAt
 split
 ·rename_i c _
  have h1:=powN_bd h c.src node
  have h2:=powN_bd h c.dst node
  split<;>omega
 ·omega
theorem distU_bd {n:Net}(h:NetOk n)(cs:List Cell)(i:Nat)(node:Int)(k:Nat):0≤distU n cs i node k∧distU n cs i node k≤k*137438953472:=by
 have:=sumW_bd (f:=distAt n cs i node) (m:=137438953472) (by omega) (l:=List.range k) fun j _=>distAt_bd h cs i node j
 rw[List.length_range]at this
 exact this
theorem pow_at {n:Net}(h:NetOk n){a b:Int}(ha:insB a n.nodes=true)(hb:insB b n.nodes=true):∃(i j:Nat) (r:List Int) (x:Int),a=i∧b=j∧n.power[i]? = some r∧r[j]? = some x∧powAt n a b=x:=by
 simp only[insB,Bool.and_eq_true,decide_eq_true_eq]at ha hb
 obtain⟨i,rfl⟩:∃i:Nat,a=i:=⟨a.toNat,by omega⟩
 obtain⟨j,rfl⟩:∃j:Nat,b=j:=⟨b.toNat,by omega⟩
 have h1:=h.rows
 obtain⟨r,hr⟩:∃r,n.power[i]? = some r:=⟨_,List.getElem?_eq_getElem (by omega)⟩
 have h2:=h.row r (List.mem_of_getElem? hr)
 obtain⟨x,hx⟩:∃x,r[j]? = some x:=⟨_,List.getElem?_eq_getElem (by omega)⟩
 refine⟨i,j,r,x,rfl,rfl,hr,hx,?_⟩
 unfold powAt
 rw[Int.toNat_natCast,Int.toNat_natCast,List.getD_eq_getElem?_getD,List.getD_eq_getElem?_getD,hr,Option.getD_some,hx];rfl
theorem good_at {n:Net}(h:NetOk n){a b:Int}(hg:goodL n a b=true):∃(p:Nat) (m:Int),findL n a b=p∧n.margin[p]? = some m∧marginAt n a b=m∧0≤m∧m≤68719476736∧insB a n.nodes=true∧insB b n.nodes=true∧goodL n b a=true:=by
 have h0:=good_find hg
 obtain⟨p,l,e1,e2,e3,e4⟩:=findL_at h0
 have hp:=(List.getElem?_eq_some_iff.1 e2).1
 obtain⟨m,hm⟩:∃m,n.margin[p]? = some m:=⟨_,List.getElem?_eq_getElem (by rw[h.mar];exact hp)⟩
 have hk:=h.link p l e2
 have hb:=linkR_bd hk.1
 have hpw:=powAt_bd h.pow l.src l.dst
 rw[List.getD_eq_getElem?_getD,hm,Option.getD_some]at hk
 refine⟨p,m,e1,hm,?_,by omega,by omega,by rw[←e3];simp[insB];omega,by rw[←e4];simp[insB];omega,?_⟩
 ·unfold marginAt;rw[e1,Int.toNat_natCast,List.getD_eq_getElem?_getD,hm];rfl
 ·unfold goodL at hg ⊢
  simp only[Bool.and_eq_true]at hg ⊢
  exact⟨⟨⟨hg.1.1.2,hg.1.1.1⟩,hg.2⟩,hg.1.2⟩
theorem EncOk.pushL {α:Type}{enc:α→AV}{sz:Nat}(h:EncOk enc sz)(l m:List α)(d:Nat)(hr:(l.length+m.length)*sz≤(flatE (l.map enc)++List.replicate (d*sz) AV.undef).length):splice (flatE (l.map enc)++List.replicate (d*sz) .undef) (l.length*sz) (flatE (m.map enc))=flatE ((l++m).map enc)++List.replicate ((d-m.length)*sz) .undef:=by
 have hfl:=h.flen l
 have hx:=h.flen m
 rw[List.length_append,hfl,List.length_replicate,Nat.add_mul]at hr
 rw[splice_eq _ _ _ (by rw[List.length_append,hfl,List.length_replicate,hx];omega),←hfl,List.take_left,List.drop_append,hfl,hx,List.drop_eq_nil_of_le (by rw[hfl];omega),List.nil_append,List.map_append,List.drop_replicate]
 congr 1
 ·simp[flatE]
 ·congr 1
  rw[Nat.sub_mul];omega
theorem flatE_pushL {α:Type}(enc:α→AV)(l m:List α):flatE (l.map enc)++flatE (m.map enc)=flatE ((l++m).map enc):=by simp[flatE]
section
variable (tg:Nat→Nat→Bool)
end
theorem filter_succ {α:Type}(p:α→Bool){l:List α}{k:Nat}{x:α}(h:l[k]? = some x):(l.take (k+1)).filter p=if p x then(l.take k).filter p++[x] else(l.take k).filter p:=by
 rw[take_succ h,List.filter_append]
 split
 ·rename_i hp;rw[List.filter_cons_of_pos hp];rfl
 ·rename_i hp;rw[List.filter_cons_of_neg hp,List.filter_nil,List.append_nil]
theorem flowsE_per {nodes:Int}{l:List Flow}(h:(flowsE nodes l).2=0):∀f∈l,1≤f.period∧f.period≤512:=by
 intro f hf
 obtain⟨k,hk⟩:=List.getElem?_of_mem hf
 have hkl:=(List.getElem?_eq_some_iff.1 hk).1
 unfold flowsE at h
 split at h
 ·cases h
 split at h
 ·cases h
 have h3:=firstAt_ok.1 h k hkl
 unfold flowAt at h3
 rw[hk]at h3
 simp only at h3
 have hfx:flowE nodes f=0:=by
  split at h3
  ·rename_i hh;exact absurd h3 hh
  ·omega
 have:=flowE_ok hfx
 omega
def idsB (l:List Flow)(id:Int):Bool:=l.any fun f=>f.id==id
def ordC (cs:List Cell)(i:Nat)(c:Cell):Bool:=match i with
 | 0=>true
 | j+1=>match cs[j]? with
  | some p=>decide (p.cmp c < 0)
  | none=>true
def cellF (n:Net)(l:List Flow)(s:Sched)(i:Nat):Int:=match s.cells[i]? with
 | none=>0
 | some c=>if placedB s c=false then 2 else if goodL n c.src c.dst=false∨idsB l c.flow=false then 7 else if ordC s.cells i c=false then 5 else 0
def twAt (cs:List Cell)(c:Cell)(k:Nat):Bool:=match cs[k]? with
 | some d=>d.slot==c.slot&&touchB c d
 | none=>false
def twiceM (cs:List Cell)(i:Nat):Bool:=match cs[i]? with
 | none=>false
 | some c=>(List.range i).any (twAt cs c)
def shareB (c d:Cell):Bool:=d.slot==c.slot&&d.off==c.off
def shareL (cs:List Cell)(c:Cell):List Cell:=cs.filter (shareB c)
def shareAt (cs:List Cell)(c:Cell)(i:Nat):Nat:=((cs.take i).filter (shareB c)).length
def disturbB (n:Net)(cs:List Cell)(i:Nat):Bool:=match cs[i]? with
 | none=>false
 | some c=>!heardB n (marginAt n c.src c.dst) (distM n (shareL cs c) (shareAt cs c i) c.dst)||!heardB n (marginAt n c.dst c.src) (distM n (shareL cs c) (shareAt cs c i) c.src)
def twI (cs:List Cell)(i:Nat):Int:=if twiceM cs i then 6 else 0
def dsI (n:Net)(cs:List Cell)(i:Nat):Int:=if disturbB n cs i then 16 else 0
def mism (s:Sched)(f:Flow):Bool:=s.len % f.period != 0
def schedE (n:Net)(l:List Flow)(s:Sched):Int×Int:=
 if netE n≠0∨(flowsE n.nodes l).2≠0 then(-1,1) else if sizedB s=false then(-1,2) else if l.any (mism s) then(-1,11) else if 512 < s.cells.length then(-1,8)
 else if (firstAt (cellF n l s) s.cells.length).2≠0 then firstAt (cellF n l s) s.cells.length
 else if (firstAt (twI s.cells) s.cells.length).2≠0 then firstAt (twI s.cells) s.cells.length
 else firstAt (dsI n s.cells) s.cells.length
structure VOk (n:Net)(l:List Flow)(s:Sched):Prop where
 net:NetOk n
 n0:netE n=0
 flows:(flowsE n.nodes l).2=0
 size:sizedB s=true
 per:∀f∈l,s.len % f.period=0
 many:s.cells.length≤512
 cell:∀(i:Nat) c,s.cells[i]? = some c→placedB s c=true∧goodL n c.src c.dst=true∧idsB l c.flow=true∧ordC s.cells i c=true
 once:∀(i j:Nat) c d,j < i→s.cells[i]? = some c→s.cells[j]? = some d→d.slot=c.slot→touchB c d=false
 heard:∀(i:Nat),i < s.cells.length→disturbB n s.cells i=false
theorem schedE_ok {n:Net}{l:List Flow}{s:Sched}(h:(schedE n l s).2=0):VOk n l s:=by
 unfold schedE at h
 split at h
 ·cases h
 rename_i h1
 split at h
 ·cases h
 rename_i h2
 split at h
 ·cases h
 rename_i h3
 split at h
 ·cases h
 rename_i h4
 split at h
 ·rename_i hh;exact absurd h hh
 rename_i h5
 split at h
 ·rename_i hh;exact absurd h hh
 rename_i h6
 have h5:(firstAt (cellF n l s) s.cells.length).2=0:=by omega
 have h6:(firstAt (twI s.cells) s.cells.length).2=0:=by omega
 rw[firstAt_ok]at h5 h6 h
 refine⟨netE_ok (by omega),by omega,by omega,by simpa using h2,fun f hf=>?_,by omega,fun i c hc=>?_,fun i j c d hji hc hd hs=>?_,fun i hi=>?_⟩
 ·have:=List.any_eq_false.1 (by simpa using h3) f hf
  simpa[mism] using this
 ·have:=h5 i (List.getElem?_eq_some_iff.1 hc).1
  unfold cellF at this
  rw[hc]at this
  simp only at this
  split at this
  ·cases this
  rename_i g1
  split at this
  ·cases this
  rename_i g2
  split at this
  ·cases this
  rename_i g3
  simp only[not_or,Bool.not_eq_false]at g1 g2 g3
  exact⟨g1,g2.1,g2.2,g3⟩
 ·have:=h6 i (List.getElem?_eq_some_iff.1 hc).1
  unfold twI twiceM at this
  rw[hc]at this
  simp only at this
  split at this
  ·cases this
  rename_i g
  have g2:=List.any_eq_false.1 (Bool.eq_false_iff.2 g) j (by simpa using hji)
  unfold twAt at g2
  rw[hd]at g2
  cases ht:touchB c d with
  | false=>rfl
  | true=>simp[hs,ht]at g2
 ·have:=h i hi
  unfold dsI at this
  split at this
  ·cases this
  ·rename_i g;simpa using g
theorem touchB_comm (a b:Cell):touchB a b=touchB b a:=by
 unfold touchB
 rw[Bool.eq_iff_iff]
 simp only[Bool.or_eq_true,beq_iff_eq]
 constructor
 ·rintro (((h|h)|h)|h)<;>simp[h]
 ·rintro (((h|h)|h)|h)<;>simp[h]
theorem VOk.apart {n:Net}{l:List Flow}{s:Sched}(h:VOk n l s){i j:Nat}{c d:Cell}(hc:s.cells[i]? = some c)(hd:s.cells[j]? = some d)(hij:i≠j)(hs:c.slot=d.slot):touchB c d=false:=by
 rcases Nat.lt_or_gt_of_ne hij with h1|h1
 ·rw[touchB_comm];exact h.once j i d c h1 hd hc hs
 ·exact h.once i j c d h1 hc hd hs.symm
theorem VOk.sorted {n:Net}{l:List Flow}{s:Sched}(h:VOk n l s):s.cells.Pairwise fun a b=>a.cmp b < 0:=by
 refine List.pairwise_iff_getElem.2 fun i j hi hj hij=>?_
 obtain⟨e,rfl⟩:∃e,j=i+e+1:=⟨j-i-1,by omega⟩
 induction e with
 | zero=>
  have:=(h.cell (i+0+1) _ (List.getElem?_eq_getElem hj)).2.2.2
  unfold ordC at this
  simp only[Nat.add_zero]at this
  rw[List.getElem?_eq_getElem hi]at this
  simpa using this
 | succ e ih=>
  have h1:=ih (by omega) (by omega)
  have:=(h.cell (i+(e+1)+1) _ (List.getElem?_eq_getElem hj)).2.2.2
  unfold ordC at this
  simp only at this
  rw[List.getElem?_eq_getElem (by omega:i+(e+1) < s.cells.length)]at this
  exact cmpL_trans h1 (of_decide_eq_true this)
theorem VOk.at {n:Net}{l:List Flow}{s:Sched}(h:VOk n l s){c:Cell}(hc:c∈s.cells):0≤c.slot∧c.slot < s.len∧0≤c.off∧c.off < s.offs∧goodL n c.src c.dst=true∧idsB l c.flow=true:=by
 obtain⟨i,hi⟩:=List.getElem?_of_mem hc
 obtain⟨h1,h2,h3,_⟩:=h.cell i c hi
 simp only[placedB,insB,Bool.and_eq_true,decide_eq_true_eq]at h1
 exact⟨h1.1.1,h1.1.2,h1.2.1,h1.2.2,h2,h3⟩
theorem flows_sorted {nodes:Int}{l:List Flow}(h:(flowsE nodes l).2=0):l.Pairwise fun a b=>a.id < b.id:=by
 unfold flowsE at h
 split at h
 ·cases h
 split at h
 ·cases h
 rw[firstAt_ok]at h
 refine List.pairwise_iff_getElem.2 fun i j hi hj hij=>?_
 have step:∀k,(hk:k+1 < l.length)→(l[k]'(by omega)).id < (l[k+1]).id:=fun k hk=>by
  have:=h (k+1) hk
  unfold flowAt at this
  rw[List.getElem?_eq_getElem hk]at this
  simp only at this
  split at this
  ·rename_i hh;exact absurd this hh
  split at this
  ·cases this
  rename_i g
  unfold flowO at g
  simp only at g
  rw[List.getElem?_eq_getElem (by omega:k < l.length)]at g
  simpa using g
 obtain⟨e,rfl⟩:∃e,j=i+e+1:=⟨j-i-1,by omega⟩
 clear hij
 induction e with
 | zero=>exact step i hj
 | succ e ih=>exact Int.lt_trans (ih (by omega) step) (step (i+(e+1)) hj)
end HM
