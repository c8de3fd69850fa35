/- Runs and changes in plain words. -/
import Derived.Test.YtckcedndijobaaaGreatDoorDa
import Derived.Test.YtckcedndijobaaaGreatDoorFh
import Derived.Test.YtckcedndijobaaaGreatDoorFc
namespace HM
open Go Go.RowKit
theorem playR_slots (l:List Flow)(sc:Nat→Sched)(x:List Rule):∀n:Nat,∀b∈(playR l sc x n).atts,b.slot < n
 | 0=>by simp[playR]
 | n+1=>by
  obtain⟨la,a1,a2,_⟩:=slotR_gen l (sc n) x (playR l sc x n) (n:Nat)
  intro b hb
  have hb:b∈(slotR l (sc n) x (playR l sc x n) (n:Nat)).atts:=hb
  rw[a1]at hb
  rcases List.mem_append.1 hb with hb|hb
  ·have:=playR_slots l sc x n b hb;omega
  ·rw[a2 b hb];omega
theorem ready_all {l:List Flow}{s:Sched}{x:List Rule}{slots:Int}(h:readyM l s x slots=0):(flowsE 32 l).2=0∧formB s=true∧(scriptM x).2=0∧0≤slots∧slots≤4096:=by
 unfold readyM at h
 split at h
 ·cases h
 rename_i hn
 split at h
 ·cases h
 rename_i hn2
 refine⟨?_,?_,?_,by omega,by omega⟩
 ·exact Classical.byContradiction fun hh=>hn (.inl hh)
 ·cases hf:formB s with
  | true=>rfl
  | false=>exact absurd (.inr (.inl hf)) hn
 ·exact Classical.byContradiction fun hh=>hn (.inr (.inr hh))
structure Chg where
 slot:Int
 add:Bool
 cell:Cell
def Chg.av (c:Chg):AV:=.agg [.int .i64 c.slot,.bool c.add,.int .i64 c.cell.slot,.int .i64 c.cell.off,.int .i64 c.cell.src,.int .i64 c.cell.dst,.int .i64 c.cell.flow]
def encChgs (l:List Chg):AV:=.sl false (l.map Chg.av)
def delAt {α:Type}(l:List α)(p:Nat):List α:=l.take p++l.drop (p+1)
theorem delAt_len {α:Type}{l:List α}{p:Nat}(h:p < l.length):(delAt l p).length=l.length-1:=by
 unfold delAt
 rw[List.length_append,List.length_take,List.length_drop];omega
theorem delAt_sub {α:Type}(l:List α)(p:Nat):(delAt l p).Sublist l:=by
 unfold delAt
 have h:=List.Sublist.append (List.Sublist.refl (l.take p)) (List.drop_sublist_drop_left l (Nat.le_succ p))
 rwa [List.take_append_drop]at h
def remM (s:Sched)(c:Cell):Sched×Int:=
 if formB s=false then(⟨0,0,[]⟩,1)
 else if hasC s c=false then(⟨0,0,[]⟩,7)
 else(⟨s.len,s.offs,delAt s.cells (posC s c)⟩,0)
theorem hasC_at {s:Sched}{c:Cell}(h:hasC s c=true):s.cells[posC s c]? = some c:=by
 unfold hasC hasB at h
 unfold posC
 split at h
 ·rename_i x hx
  have h0:x.cmp c=0:=by simpa[cellTo] using h
  have h1:=cmpL_eq.1 h0
  have h2:x=c:=by
   obtain⟨a1,a2,a3,a4,a5⟩:=x
   obtain⟨b1,b2,b3,b4,b5⟩:=c
   simpa[Cell.nums] using h1
  rw[hx,h2]
 ·cases h
def chgM (s:Sched)(c:Chg):Sched×Int:=if c.add=true then addM s c.cell else remM s c.cell
def chgE (p:Option Int)(c:Chg):Int:=if c.slot < 0 then 2 else match p with
 | some q=>if c.slot < q then 5 else 0
 | none=>0
def behM:Option Int→Sched→List Chg→List Sched×Int
 | _,_,[]=>([],0)
 | p,s,c :: cs=>if chgE p c≠0 then([],chgE p c) else if (chgM s c).2≠0 then([],(chgM s c).2) else((chgM s c).1 :: (behM (some c.slot) (chgM s c).1 cs).1,(behM (some c.slot) (chgM s c).1 cs).2)
def uptoC (cs:List Chg)(t:Int):Nat:=cs.countP fun c=>decide (c.slot≤t)
def nowM (s:Sched)(cs:List Chg)(t:Int):Sched:=((s :: (behM none s cs).1)[uptoC cs t]?).getD s
def changeM (l:List Flow)(s:Sched)(cs:List Chg)(x:List Rule)(slots:Int):RunL×Int:=
 if readyM l s x slots≠0 then(⟨[],[]⟩,readyM l s x slots)
 else if 1024 < cs.length then(⟨[],[]⟩,8)
 else if (behM none s cs).2≠0 then(⟨[],[]⟩,(behM none s cs).2)
 else(⟨(playR l (fun n=>nowM s cs n) x slots.toNat).atts,(playR l (fun n=>nowM s cs n) x slots.toNat).dels⟩,0)
theorem findF_one (f:Flow)(id:Int):findF [f] id=if f.id=id then 0 else -1:=by
 by_cases h:f.id=id
 ·rw[if_pos h]
  exact idxF_some (k:=0) (by simp) (fun j y hj=>by omega) rfl (by simpa using h)
 ·rw[if_neg h]
  refine idxF_none (fun j y hj hy=>?_)
  cases j with
  | zero=>simp at hy;subst hy;simpa using h
  | succ j=>simp at hy
def prevS (cs:List Chg)(k:Nat):Option Int:=match k with
 | 0=>none
 | j+1=>(cs[j]?).map (·.slot)
structure BehI (s:Sched)(cs:List Chg)(k:Nat)(bs:List Sched):Prop where
 le:k≤cs.length
 len:bs.length=k
 eq:behM none s cs=(bs++(behM (prevS cs k) (bs.getLastD s) (cs.drop k)).1,(behM (prevS cs k) (bs.getLastD s) (cs.drop k)).2)
theorem BehI.zero (s:Sched)(cs:List Chg):BehI s cs 0 []:=⟨Nat.zero_le _,rfl,rfl⟩
theorem BehI.last {s:Sched}{cs:List Chg}{k:Nat}{bs:List Sched}(h:BehI s cs k bs):(s :: bs)[k]? = some (bs.getLastD s):=by
 have hl:=h.len
 subst hl
 cases bs with
 | nil=>rfl
 | cons b bs=>simp[List.getLastD_eq_getLast?,List.getLast?_eq_getElem?]
theorem BehI.err1 {s:Sched}{cs:List Chg}{k:Nat}{bs:List Sched}(h:BehI s cs k bs){c:Chg}(hc:cs[k]? = some c)(he:chgE (prevS cs k) c≠0):(behM none s cs).2=chgE (prevS cs k) c:=by
 rw[h.eq,dropGet hc]
 simp only[behM]
 rw[if_pos he]
theorem BehI.err2 {s:Sched}{cs:List Chg}{k:Nat}{bs:List Sched}(h:BehI s cs k bs){c:Chg}(hc:cs[k]? = some c)(he:chgE (prevS cs k) c=0)(h2:(chgM (bs.getLastD s) c).2≠0):(behM none s cs).2=(chgM (bs.getLastD s) c).2:=by
 rw[h.eq,dropGet hc]
 simp only[behM]
 rw[if_neg (by simp[he]),if_pos h2]
theorem BehI.step {s:Sched}{cs:List Chg}{k:Nat}{bs:List Sched}(h:BehI s cs k bs){c:Chg}(hc:cs[k]? = some c)(he:chgE (prevS cs k) c=0)(h2:(chgM (bs.getLastD s) c).2=0):BehI s cs (k+1) (bs++[(chgM (bs.getLastD s) c).1]):=by
 refine⟨(List.getElem?_eq_some_iff.1 hc).1,by rw[List.length_append,h.len];rfl,?_⟩
 have hl:(bs++[(chgM (bs.getLastD s) c).1]).getLastD s=(chgM (bs.getLastD s) c).1:=by simp
 have e1:behM (prevS cs k) (bs.getLastD s) (c :: cs.drop (k+1))=((chgM (bs.getLastD s) c).1 :: (behM (some c.slot) (chgM (bs.getLastD s) c).1 (cs.drop (k+1))).1,(behM (some c.slot) (chgM (bs.getLastD s) c).1 (cs.drop (k+1))).2):=by
  rw[behM,if_neg (by simp[he]),if_neg (fun hh=>hh h2)]
 have hp:prevS cs (k+1)=some c.slot:=by simp[prevS,hc]
 rw[h.eq,dropGet hc,e1,hl,hp]
 simp
theorem BehI.fin {s:Sched}{cs:List Chg}{bs:List Sched}(h:BehI s cs cs.length bs):behM none s cs=(bs,0):=by
 rw[h.eq,List.drop_length]
 simp[behM]
theorem chgE_neg {p:Option Int}{c:Chg}(h:c.slot < 0):chgE p c=2:=by unfold chgE;rw[if_pos h]
theorem chgE_first {cs:List Chg}{c:Chg}(h:¬c.slot < 0):chgE (prevS cs 0) c=0:=by unfold chgE prevS;rw[if_neg h]
theorem chgE_next {cs:List Chg}{c d:Chg}{j:Nat}(h:¬c.slot < 0)(hd:cs[j]? = some d):chgE (prevS cs (j+1)) c=if c.slot < d.slot then 5 else 0:=by
 have hp:prevS cs (j+1)=some d.slot:=by simp[prevS,hd]
 rw[hp];unfold chgE;rw[if_neg h]
def tChg:Ty:=.st [tI,.bool,tCell]
theorem len6 {α:Type}:∀{l:List α},l.length=6→∃a1 a2 a3 a4 a5 a6,l=[a1,a2,a3,a4,a5,a6]
 | [a1,a2,a3,a4,a5,a6],_=>⟨a1,a2,a3,a4,a5,a6,rfl⟩
 | [],h=>by simp at h
 | [_],h=>by simp at h
 | [_,_],h=>by simp at h
 | [_,_,_],h=>by simp at h
 | [_,_,_,_],h=>by simp at h
 | [_,_,_,_,_],h=>by simp at h
 | _ :: _ :: _ :: _ :: _ :: _ :: _ :: _,h=>by simp at h
theorem sh6 {d1 d2 d3 d4 d5 d6:Ty}:∀{es:List AV},shArgs [d1,d2,d3,d4,d5,d6] es→∃l1 l2 l3 l4 l5 l6,es=[d1.mk l1,d2.mk l2,d3.mk l3,d4.mk l4,d5.mk l5,d6.mk l6]∧d1.sh l1∧d2.sh l2∧d3.sh l3∧d4.sh l4∧d5.sh l5∧d6.sh l6
 | [e1,e2,e3,e4,e5,e6],h=>by
  obtain⟨⟨l1,h1,rfl⟩,⟨l2,h2,rfl⟩,⟨l3,h3,rfl⟩,⟨l4,h4,rfl⟩,⟨l5,h5,rfl⟩,⟨l6,h6,rfl⟩,_⟩:=h
  exact⟨l1,l2,l3,l4,l5,l6,rfl,h1,h2,h3,h4,h5,h6⟩
 | [],h=>by simp[shArgs]at h
 | [_],h=>by simp[shArgs]at h
 | [_,_],h=>by simp[shArgs]at h
 | [_,_,_],h=>by simp[shArgs]at h
 | [_,_,_,_],h=>by simp[shArgs]at h
 | [_,_,_,_,_],h=>by simp[shArgs]at h
 | _ :: _ :: _ :: _ :: _ :: _ :: _ :: _,h=>by simp[shArgs]at h
theorem sh2 {d1 d2:Ty}:∀{es:List AV},shArgs [d1,d2] es→∃l1 l2,es=[d1.mk l1,d2.mk l2]∧d1.sh l1∧d2.sh l2
 | [e1,e2],h=>by
  obtain⟨⟨l1,h1,rfl⟩,⟨l2,h2,rfl⟩,_⟩:=h
  exact⟨l1,l2,rfl,h1,h2⟩
 | [],h=>by simp[shArgs]at h
 | [_],h=>by simp[shArgs]at h
 | _ :: _ :: _ :: _,h=>by simp[shArgs]at h
structure Req where
 flow:Flow
 routes:List (List Int)
def Req.cs (x:Req):List AV:=[.int .i64 x.flow.id,.int .i64 x.flow.src,.int .i64 x.flow.dst,.int .i64 x.flow.period,.int .i64 x.flow.phase,.int .i64 x.flow.dead,encRows x.routes]
def Req.av (x:Req):AV:=.agg [.int .i64 x.flow.id,.int .i64 x.flow.src,.int .i64 x.flow.dst,.int .i64 x.flow.period,.int .i64 x.flow.phase,.int .i64 x.flow.dead,encRows x.routes]
def encReqs (l:List Req):AV:=.sl false (l.map Req.av)
def flowsQ (q:List Req):List Flow:=q.map Req.flow
def routesAt (n:Net)(x:Req)(k:Nat):Int:=match x.routes[k]? with
 | some r=>routeE n x.flow.src x.flow.dst r
 | none=>0
def twoSame:List (List Int)→Bool
 | [a,b]=>decide (a=b)
 | _=>false
def routesE (n:Net)(x:Req):Int:=
 if x.routes.length=0 then 14 else if 2 < x.routes.length then 8
 else if (firstAt (routesAt n x) x.routes.length).2≠0 then(firstAt (routesAt n x) x.routes.length).2
 else if twoSame x.routes=true then 6 else 0
def reqAt (n:Net)(q:List Req)(k:Nat):Int:=match q[k]? with
 | some x=>routesE n x
 | none=>0
def reqE (n:Net)(q:List Req):Int×Int:=
 if netE n≠0 then(-1,1) else if (flowsE n.nodes (flowsQ q)).2≠0 then flowsE n.nodes (flowsQ q) else firstAt (reqAt n q) q.length
theorem firstAt_lo {f:Nat→Int}{n:Nat}(h:(firstAt f n).2≠0):0≤(firstAt f n).1:=by
 unfold firstAt at h ⊢
 split
 ·simp
 ·rename_i hh;rw[hh]at h;exact absurd rfl h
structure ReqOk (n:Net)(x:Req):Prop where
 flow:flowE n.nodes x.flow=0
 len:1≤x.routes.length∧x.routes.length≤2
 route:∀r∈x.routes,routeF n x.flow.src x.flow.dst r=0
 two:twoSame x.routes=false
theorem reqE_ok {n:Net}{q:List Req}(h:(reqE n q).2=0):NetOk n∧q.length≤16∧(∀x∈q,ReqOk n x)∧(flowsE n.nodes (flowsQ q)).2=0:=by
 unfold reqE at h
 split at h
 ·cases h
 rename_i h0
 split at h
 ·rename_i h1;exact absurd h h1
 rename_i h1
 have h1:(flowsE n.nodes (flowsQ q)).2=0:=by omega
 have hok:=netE_ok (by omega:netE n=0)
 have hfl:=h1
 unfold flowsE at hfl
 rw[if_neg (by have:=hok.nodes;omega)]at hfl
 split at hfl
 ·cases hfl
 rename_i h16
 refine⟨hok,by simp[flowsQ]at h16;omega,fun x hx=>?_,h1⟩
 obtain⟨k,hk⟩:=List.getElem?_of_mem hx
 have hkl:=(List.getElem?_eq_some_iff.1 hk).1
 have h2:=firstAt_ok.1 h k hkl
 have h3:=firstAt_ok.1 hfl k (by simpa[flowsQ] using hkl)
 have hkf:(flowsQ q)[k]? = some x.flow:=by simp[flowsQ,hk]
 unfold flowAt at h3
 rw[hkf]at h3
 simp only at h3
 have hfx:flowE n.nodes x.flow=0:=by
  split at h3
  ·rename_i hh;exact absurd h3 hh
  ·omega
 unfold reqAt at h2
 rw[hk]at h2
 simp only[routesE]at h2
 split at h2
 ·cases h2
 split at h2
 ·cases h2
 split at h2
 ·rename_i hh;exact absurd h2 hh
 rename_i hr
 split at h2
 ·cases h2
 rename_i ht
 refine⟨hfx,by omega,fun r hr2=>?_,by simpa using ht⟩
 obtain⟨j,hj⟩:=List.getElem?_of_mem hr2
 have h4:=firstAt_ok.1 (by omega:(firstAt (routesAt n x) x.routes.length).2=0) j (List.getElem?_eq_some_iff.1 hj).1
 unfold routesAt at h4
 rw[hj]at h4
 simp only[routeE]at h4
 split at h4
 ·rename_i hh;exact absurd h4 hh
 ·exact h4
theorem good_find {n:Net}{a b:Int}(h:goodL n a b=true):0≤findL n a b:=by
 rcases Int.lt_or_le (findL n a b) 0 with hh|hh
 ·unfold goodL at h
  simp at h
  omega
 ·exact hh
def sumW {α:Type}(f:α→Int):List α→Int
 | []=>0
 | x :: l=>f x+sumW f l
theorem sumW_app {α:Type}(f:α→Int)(a b:List α):sumW f (a++b)=sumW f a+sumW f b:=by
 induction a with
 | nil=>simp[sumW]
 | cons x a ih=>simp only[List.cons_append,sumW,ih];omega
theorem sumW_take {α:Type}(f:α→Int){l:List α}{k:Nat}{x:α}(h:l[k]? = some x):sumW f (l.take (k+1))=sumW f (l.take k)+f x:=by rw[take_succ h,sumW_app];simp[sumW]
theorem sumW_bd {α:Type}{f:α→Int}{m:Int}(hm:0≤m):∀{l:List α},(∀x∈l,0≤f x∧f x≤m)→0≤sumW f l∧sumW f l≤l.length*m
 | [],_=>by simp[sumW]
 | x :: l,h=>by
  have h1:=h x (by simp)
  have h2:=sumW_bd hm fun y hy=>h y (List.mem_cons_of_mem x hy)
  simp only[sumW,List.length_cons]
  have h3:((l.length+1:Nat):Int)*m=l.length*m+m:=by rw[Int.natCast_add,Int.add_mul];simp
  omega
theorem EncOk.fit1 {α:Type}{enc:α→AV}{sz:Nat}(h:EncOk enc sz){l:List α}(ex:List AV){k:Nat}(hk:k < l.length):0+(k:Int).toNat*sz+sz≤(flatE (l.map enc)++ex).length:=by
 rw[Nat.zero_add,Int.toNat_natCast]
 exact h.fit ex hk
section
variable {α:Type} [DecidableEq α]
end
def tReq:Ty:=.st [tFlow,tRows]
theorem sh_req {l:List AV}(h:tReq.sh l):∃x:Req,l=x.cs∧x.routes.length≤140737488355328∧∀r∈x.routes,r.length≤140737488355328:=by
 obtain⟨_,_,rfl,_,h1,_,_,rfl,_,h2,h6⟩:=h
 obtain⟨f,rfl⟩:=sh_flow h1
 obtain⟨rs,rfl,r1,r2⟩:=sh_rows h2
 obtain rfl:=h6
 exact⟨⟨f,rs⟩,rfl,r1,r2⟩
theorem sh_reqs {l:List AV}(h:(Ty.sl tReq).sh l):∃q:List Req,l=[encReqs q]∧q.length≤140737488355328∧∀x∈q,x.routes.length≤281474976710656∧∀r∈x.routes,r.length≤281474976710656:=by
 obtain⟨els,rfl,h1,h2⟩:=h
 obtain⟨cs,h3,h4,h5⟩:=list_ofP (f:=Req.av) (Q:=fun x:Req=>x.routes.length≤281474976710656∧∀r∈x.routes,r.length≤281474976710656) (fun l hl=>by
  obtain⟨c,rfl,c1,c2⟩:=sh_req hl
  exact⟨c,rfl,by omega,fun r hr=>by have:=c2 r hr;omega⟩) els h1
 exact⟨cs,by rw[h3];rfl,by omega,h5⟩
def tU16:Ty:=.int .u16
theorem sh_u16 {l:List AV}(h:tU16.sh l):∃n,l=[.int .u16 n]∧0≤n∧n≤65535:=by
 obtain⟨n,rfl,hw⟩:=h
 refine⟨n,rfl,?_⟩
 simp only[Lit.wf,Bool.and_eq_true,decide_eq_true_eq]at hw
 exact hw
structure PTys where
 p:TypeId
 q:TypeId
 d:TypeId
 a:TypeId
 hpq:p≠q
 hpd:p≠d
 hqd:q≠d
 ks:List (Nat×List AV×TypeId)
 hk:∀e∈ks,e.2.2≠p∧e.2.2≠q∧e.2.2≠d
theorem ne_cm {S:St}{a b:Nat}{cs:List AV}{t:TypeId}{sh:Option Nat}{ks:List (List Int)}{vs:List AV}(h:S.bx[a]? = some (.cells cs t))(h':S.bx[b]? = some (.map sh ks vs)):a≠b:=by
 rintro rfl
 rw[h]at h'
 injection h' with h'
 cases h'
section
variable {T:PTys} {S S':St} {pb ch:Nat} {l:List Flow} {s:Sched} {x:List Rule} {Q:PL} {g:Nat→Nat→Nat} {sv dv:AV}
end
section
variable {T:PTys} {S:St} {pb ch:Nat} {l:List Flow} {s:Sched} {x:List Rule} {Q:PL} {g:Nat→Nat→Nat} {sv dv:AV}
end
section
variable {T:PTys} {S S':St} {pb ch:Nat} {l:List Flow} {s:Sched} {x:List Rule} {Q:PL} {g:Nat→Nat→Nat} {sv dv:AV}
end
def withL (c:Cell):List Cell→List Cell
 | []=>[c]
 | x :: l=>if c.cmp x < 0 then c :: x :: l else x :: withL c l
theorem with_ins {c:Cell}:∀{l:List Cell},hasB (cellTo c) l=false→withL c l=insAt l (posB (cellTo c) l) c
 | [],_=>rfl
 | x :: l,h=>by
  by_cases hx:x.cmp c < 0
  ·have hp:posB (cellTo c) (x :: l)=posB (cellTo c) l+1:=by
    unfold posB
    rw[List.takeWhile_cons,if_pos (show decide (cellTo c x < 0)=true from decide_eq_true hx)];rfl
   have hh:hasB (cellTo c) l=false:=by
    unfold hasB at h ⊢
    rw[hp,List.getElem?_cons_succ]at h
    exact h
   have hn:¬c.cmp x < 0:=fun hc=>by have:=cmpL_anti.1 hc;unfold Cell.cmp at hx;omega
   rw[hp,withL,if_neg hn,with_ins hh];rfl
  ·have hp:posB (cellTo c) (x :: l)=0:=by
    unfold posB
    rw[List.takeWhile_cons,if_neg (show ¬decide (cellTo c x < 0)=true from fun h=>hx (of_decide_eq_true h))];rfl
   have h0:x.cmp c≠0:=by
    unfold hasB at h
    rw[hp]at h
    simpa[cellTo] using h
   have hn:c.cmp x < 0:=cmpL_anti.2 (show 0 < cmpL x.nums c.nums by unfold Cell.cmp at hx h0;omega)
   rw[hp,withL,if_pos hn];rfl
theorem cell_cmp0 {x c:Cell}(h:x.cmp c=0):x=c:=by
 have h1:=cmpL_eq.1 h
 obtain⟨a1,a2,a3,a4,a5⟩:=x
 obtain⟨b1,b2,b3,b4,b5⟩:=c
 simpa[Cell.nums] using h1
theorem has_mem {c:Cell}:∀{l:List Cell},l.Pairwise (fun a b=>a.cmp b < 0)→hasB (cellTo c) l=decide (c∈l)
 | [],_=>by simp[hasB]
 | x :: l,h=>by
  have hc0:c.cmp c=0:=cmpL_eq.2 rfl
  obtain⟨h1,h2⟩:=List.pairwise_cons.1 h
  by_cases hx:x.cmp c < 0
  ·have hp:posB (cellTo c) (x :: l)=posB (cellTo c) l+1:=by
    unfold posB
    rw[List.takeWhile_cons,if_pos (show decide (cellTo c x < 0)=true from decide_eq_true hx)];rfl
   have hh:hasB (cellTo c) (x :: l)=hasB (cellTo c) l:=by
    unfold hasB
    rw[hp,List.getElem?_cons_succ]
   have hne:c≠x:=by rintro rfl;omega
   rw[hh,has_mem h2]
   simp[hne]
  ·have hp:posB (cellTo c) (x :: l)=0:=by
    unfold posB
    rw[List.takeWhile_cons,if_neg (show ¬decide (cellTo c x < 0)=true from fun h=>hx (of_decide_eq_true h))];rfl
   have hh:hasB (cellTo c) (x :: l)=(x.cmp c==0):=by
    unfold hasB
    rw[hp];rfl
   rw[hh,Bool.eq_iff_iff]
   simp only[beq_iff_eq,decide_eq_true_eq,List.mem_cons]
   constructor
   ·intro h;exact .inl (cell_cmp0 h).symm
   ·rintro (rfl|hm)
    ·exact hc0
    ·exact absurd (h1 c hm) hx
theorem del_filter {c:Cell}:∀{l:List Cell},l.Pairwise (fun a b=>a.cmp b < 0)→hasB (cellTo c) l=true→delAt l (posB (cellTo c) l)=l.filter fun x=>decide (x≠c)
 | [],_,h=>by simp[hasB]at h
 | x :: l,hs,h=>by
  have hc0:c.cmp c=0:=cmpL_eq.2 rfl
  obtain⟨h1,h2⟩:=List.pairwise_cons.1 hs
  by_cases hx:x.cmp c < 0
  ·have hp:posB (cellTo c) (x :: l)=posB (cellTo c) l+1:=by
    unfold posB
    rw[List.takeWhile_cons,if_pos (show decide (cellTo c x < 0)=true from decide_eq_true hx)];rfl
   have hh:hasB (cellTo c) l=true:=by
    unfold hasB at h ⊢
    rw[hp,List.getElem?_cons_succ]at h
    exact h
   have hne:x≠c:=by rintro rfl;omega
   rw[hp,List.filter_cons,if_pos (by simpa using hne),←del_filter h2 hh]
   simp[delAt]
  ·have hp:posB (cellTo c) (x :: l)=0:=by
    unfold posB
    rw[List.takeWhile_cons,if_neg (show ¬decide (cellTo c x < 0)=true from fun h=>hx (of_decide_eq_true h))];rfl
   have hxc:x=c:=by
    unfold hasB at h
    rw[hp]at h
    exact cell_cmp0 (by simpa[cellTo] using h)
   subst hxc
   rw[hp,List.filter_cons,if_neg (by simp)]
   have:(l.filter fun y=>decide (y≠x))=l:=List.filter_eq_self.2 fun y hy=>by
    have:=h1 y hy
    have:y≠x:=by rintro rfl;omega
    simpa using this
   rw[this];simp[delAt]
theorem sorted_pw {s:Sched}(h:formB s=true):s.cells.Pairwise fun a b=>a.cmp b < 0:=
 List.pairwise_iff_getElem.2 fun i j hi hj hij=>formB_sorted h i j _ _ hij (List.getElem?_eq_getElem hi) (List.getElem?_eq_getElem hj)
def cellEqB (a b:Cell):Bool:=a.slot==b.slot&&(a.off==b.off&&(a.src==b.src&&(a.dst==b.dst&&(a.flow==b.flow&&true))))
theorem cellEqB_iff {a b:Cell}:cellEqB a b=true↔a=b:=by
 obtain⟨c1,c2,c3,c4,c5⟩:=a
 obtain⟨d1,d2,d3,d4,d5⟩:=b
 simp[cellEqB]
theorem addM_with {s:Sched}{c:Cell}(_h:formB s=true)(h2:hasC s c=false):insAt s.cells (posC s c) c=withL c s.cells:=(with_ins h2).symm
theorem remM_filter {s:Sched}{c:Cell}(h:formB s=true)(h2:hasC s c=true):delAt s.cells (posC s c)=s.cells.filter fun x=>decide (x≠c):=del_filter (sorted_pw h) h2
theorem hasC_mem {s:Sched}{c:Cell}(h:formB s=true):hasC s c=decide (c∈s.cells):=has_mem (sorted_pw h)
def getK {α:Type}(ks:List (List Int))(vs:List α)(x:List Int):Option α:=(posOf ks x).bind fun i=>vs[i]?
def putV {α:Type}(ks:List (List Int))(vs:List α)(x:List Int)(v:α):List α:=match posOf ks x with
 | some i=>vs.set i v
 | none=>vs++[v]
theorem assoc_map {α:Type}(f:α→AV)(ks:List (List Int))(vs:List α)(x:List Int):assoc ks (vs.map f) x=(getK ks vs x).map f:=by
 unfold assoc getK
 cases posOf ks x with
 | none=>rfl
 | some i=>simp
theorem setVs_map {α:Type}(f:α→AV)(ks:List (List Int))(vs:List α)(x:List Int)(v:α):setVs ks (vs.map f) x (f v)=(putV ks vs x v).map f:=by
 unfold setVs putV
 cases posOf ks x with
 | none=>simp
 | some i=>simp[List.map_set]
theorem posOf_lt {ks:List (List Int)}{x:List Int}{i:Nat}(h:posOf ks x=some i):i < ks.length:=(List.getElem?_eq_some_iff.1 (posOf_some h)).1
theorem posOf_app {ks:List (List Int)}{x y:List Int}:posOf (ks++[x]) y=match posOf ks y with
  | some i=>some i
  | none=>if x=y then some ks.length else none:=by
 induction ks with
 | nil=>simp[posOf]
 | cons k ks ih=>
  simp only[List.cons_append,posOf,ih]
  split
  ·rfl
  ·cases posOf ks y with
   | some i=>rfl
   | none=>
    simp only[Option.map_none]
    split
    ·simp
    ·rfl
theorem put_len {α:Type}{ks:List (List Int)}{vs:List α}(h:ks.length=vs.length)(x:List Int)(v:α):(setKs ks x).length=(putV ks vs x v).length:=by
 unfold setKs putV
 cases posOf ks x<;>simp[h]
theorem get_put {α:Type}{ks:List (List Int)}{vs:List α}(h:ks.length=vs.length)(x y:List Int)(v:α):getK (setKs ks x) (putV ks vs x v) y=if x=y then some v else getK ks vs y:=by
 unfold getK setKs putV
 cases hx:posOf ks x with
 | some i=>
  have hi:=posOf_lt hx
  simp only
  by_cases e:x=y
  ·subst e
   rw[if_pos rfl,hx]
   simp[h▸hi]
  ·rw[if_neg e]
   cases hy:posOf ks y with
   | none=>rfl
   | some j=>
    have:i≠j:=fun hij=>by
     subst hij
     have h1:=posOf_some hx
     rw[posOf_some hy]at h1
     injection h1 with h1
     exact e h1.symm
    simp only[Option.bind_some]
    rw[List.getElem?_set_ne this]
 | none=>
  simp only[posOf_app]
  by_cases e:x=y
  ·subst e
   rw[if_pos rfl,hx,if_pos rfl]
   simp[h]
  ·rw[if_neg e]
   cases hy:posOf ks y with
   | none=>simp[e]
   | some j=>simp[e,List.getElem?_append_left (h▸posOf_lt hy)]
structure Brc where
 flow:Int
 frame:Int
 src:Int
 dst:Int
 slots:List Int
 deriving DecidableEq
def Brc.key (b:Brc):List Int:=[b.flow,b.frame,b.src,b.dst]
def Brc.of (k:List Int)(s:List Int):Brc:=⟨k.getD 0 0,k.getD 1 0,k.getD 2 0,k.getD 3 0,s⟩
def Att.key (a:Att):List Int:=[a.cell.flow,a.frame,a.cell.src,a.cell.dst]
theorem of_key (a:Att)(s:List Int):(Brc.of a.key s).key=a.key:=rfl
theorem of_self (b:Brc):Brc.of b.key b.slots=b:=rfl
theorem assoc_at {ks:List (List Int)}{vs:List AV}{x y:List Int}{o:Option AV}(h:assoc ks vs y=o)(hx:x=y):assoc ks vs x=o:=hx▸h
theorem FitF.nil (l:Frs):FitF l []:=by unfold FitF;trivial
def brS (k:List Int)(loss:Int)(st:List Int×Option (List Int))(a:Att):List Int×Option (List Int):=
 if a.key=k∧st.2=none then(if a.out=1 then([],none) else(st.1++[a.slot],if loss < (st.1.length+1:Nat) then some (st.1++[a.slot]) else none)) else st
def brk (k:List Int)(loss:Int)(ats:List Att):List Int×Option (List Int):=ats.foldl (brS k loss) ([],none)
theorem brk_snoc (k:List Int)(loss:Int)(ats:List Att)(a:Att):brk k loss (ats++[a])=brS k loss (brk k loss ats) a:=by simp[brk]
def linkK (n:Net)(k:List Int):Int:=findL n (k.getD 2 0) (k.getD 3 0)
def lossK (n:Net)(k:List Int):Int:=lossL n (k.getD 2 0) (k.getD 3 0)
theorem brS_done {k:List Int}{loss:Int}{st:List Int×Option (List Int)}{a:Att}(h:st.2≠none):brS k loss st a=st:=by rw[brS,if_neg (fun hh=>h hh.2)]
def laterB (b x:Brc):Bool:=decide (cmpL b.key x.key < 0)
def insBr (b:Brc)(l:List Brc):List Brc:=(l.reverse.dropWhile (laterB b)).reverse++b :: (l.reverse.takeWhile (laterB b)).reverse
def brcOf (n:Net)(ats:List Att)(i:Nat)(a:Att):Option (List Int):=if ((ats.take i).any fun b=>b.key==a.key)=true∨linkK n a.key < 0 then none else(brk a.key (lossK n a.key) ats).2
def refB (n:Net)(ats:List Att):Nat→List Brc
 | 0=>[]
 | i+1=>match ats[i]? with
  | none=>refB n ats i
  | some a=>match brcOf n ats i a with
   | none=>refB n ats i
   | some s=>insBr (Brc.of a.key s) (refB n ats i)
theorem insBr_mem {b:Brc}{l:List Brc}{x:Brc}:x∈insBr b l↔x∈l∨x=b:=by
 have e2:=List.takeWhile_append_dropWhile (p:=laterB b) (l:=l.reverse)
 have e3:x∈l↔x∈l.reverse.takeWhile (laterB b)∨x∈l.reverse.dropWhile (laterB b):=by rw[←List.mem_append,e2,List.mem_reverse]
 unfold insBr
 rw[e3]
 simp only[List.mem_append,List.mem_reverse,List.mem_cons]
 constructor
 ·rintro (h|h|h)
  ·exact .inl (.inr h)
  ·exact .inr h
  ·exact .inl (.inl h)
 ·rintro ((h|h)|h)
  ·exact .inr (.inr h)
  ·exact .inl h
  ·exact .inr (.inl h)
def IsB (n:Net)(ats:List Att)(m:List Att)(x:Brc):Prop:=(∃a∈m,a.key=x.key)∧0≤linkK n x.key∧(brk x.key (lossK n x.key) ats).2=some x.slots
theorem refB_mem {n:Net}{ats:List Att}:∀{i:Nat},i≤ats.length→∀{x:Brc},x∈refB n ats i↔IsB n ats (ats.take i) x
 | 0,_,x=>by simp[refB,IsB]
 | i+1,hi,x=>by
  have ih:=fun x=>refB_mem (n:=n) (ats:=ats) (i:=i) (by omega) (x:=x)
  obtain⟨a,ha⟩:∃a,ats[i]? = some a:=⟨_,List.getElem?_eq_getElem (by omega)⟩
  have ht:=take_succ ha
  simp only[refB,ha]
  have hold:IsB n ats (ats.take i) x→IsB n ats (ats.take (i+1)) x:=fun⟨⟨y,hy,e⟩,h2,h3⟩=>⟨⟨y,by rw[ht];simp[hy],e⟩,h2,h3⟩
  unfold brcOf
  by_cases hc:((ats.take i).any fun b=>b.key==a.key)=true∨linkK n a.key < 0
  ·rw[if_pos hc]
   simp only
   rw[ih x]
   refine⟨hold,fun⟨⟨y,hy,e⟩,h2,h3⟩=>⟨?_,h2,h3⟩⟩
   rw[ht]at hy
   rcases List.mem_append.1 hy with hy|hy
   ·exact⟨y,hy,e⟩
   ·simp at hy;subst hy
    rcases hc with hc|hc
    ·obtain⟨z,hz,ez⟩:=List.any_eq_true.1 hc
     exact⟨z,hz,by rw[←e];simpa using ez⟩
    ·rw[e]at hc;omega
  ·rw[if_neg hc]
   cases hb:(brk a.key (lossK n a.key) ats).2 with
   | none=>
    simp only
    rw[ih x]
    refine⟨hold,fun⟨⟨y,hy,e⟩,h2,h3⟩=>⟨?_,h2,h3⟩⟩
    rw[ht]at hy
    rcases List.mem_append.1 hy with hy|hy
    ·exact⟨y,hy,e⟩
    ·simp at hy;subst hy
     rw[←e,hb]at h3;cases h3
   | some s=>
    simp only
    rw[insBr_mem,ih x]
    constructor
    ·rintro (h|rfl)
     ·exact hold h
     ·refine⟨⟨a,by rw[ht];simp,rfl⟩,?_,hb⟩
      rw[of_key]
      rcases Int.lt_or_le (linkK n a.key) 0 with hh|hh
      ·exact absurd (.inr hh) hc
      ·exact hh
    ·rintro⟨⟨y,hy,e⟩,h2,h3⟩
     rw[ht]at hy
     rcases List.mem_append.1 hy with hy|hy
     ·exact .inl ⟨⟨y,hy,e⟩,h2,h3⟩
     ·simp at hy;subst hy
      right
      rw[←e,hb]at h3
      injection h3 with h3
      rw[h3,e,of_self]
mutual
theorem AV.ren_fz (π:Nat→Nat):∀(e:AV) {e':AV},fz e=some e'→e.ren π=e
 | .fn f caps,_,h=>by
  simp only[fz,Option.map_eq_some_iff]at h
  obtain⟨cs,h,_⟩:=h
  simp only[AV.ren,rens_fz π caps h]
 | .agg cs,_,h=>by
  simp only[fz,Option.map_eq_some_iff]at h
  obtain⟨cs',h,_⟩:=h
  simp only[AV.ren,rens_fz π cs h]
 | .tup cs,_,h=>by
  simp only[fz,Option.map_eq_some_iff]at h
  obtain⟨cs',h,_⟩:=h
  simp only[AV.ren,rens_fz π cs h]
 | .int _ _,_,_=>rfl
 | .bool _,_,_=>rfl
 | .str _,_,_=>rfl
 | .nils,_,_=>rfl
 | .nilp,_,_=>rfl
 | .nili,_,_=>rfl
 | .nilm,_,_=>rfl
 | .sl _ _,_,_=>rfl
 | .own _ _,_,_=>rfl
 | .cptr _ _,_,_=>rfl
 | .cmp _ _ _,_,_=>rfl
 | .undef,_,_=>rfl
 | .grown _ _,_,h=>by simp[fz]at h
 | .bsl _ _ _ _,_,h=>by simp[fz]at h
 | .vsl _ _ _ _,_,h=>by simp[fz]at h
 | .ptr _ _,_,h=>by simp[fz]at h
 | .yld _,_,h=>by simp[fz]at h
 | .mp _,_,h=>by simp[fz]at h
theorem rens_fz (π:Nat→Nat):∀(es:List AV) {es':List AV},fzs es=some es'→rens π es=es
 | [],_,_=>rfl
 | e :: es,_,h=>by
  simp only[fzs]at h
  split at h
  ·rename_i a b h1 h2
   simp only[rens,AV.ren_fz π e h1,rens_fz π es h2]
  ·cases h
end
def brcsM (n:Net)(r:RunL):List Brc:=if netE n=0 then refB n r.atts r.atts.length else []
theorem brk_stop {k:List Int}{loss:Int}{pre post:List Att}:∀s,(brk k loss pre).2=some s→(brk k loss (pre++post)).2=some s:=by
 induction post generalizing pre with
 | nil=>intro s h;simpa using h
 | cons a l ih=>
  intro s h
  have:=ih (pre:=pre++[a]) s (by rw[brk_snoc,brS_done (by rw[h];simp)];exact h)
  simpa using this
end HM
