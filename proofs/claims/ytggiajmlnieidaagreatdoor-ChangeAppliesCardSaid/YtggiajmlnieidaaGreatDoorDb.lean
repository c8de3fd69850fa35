/- Runs and changes in plain words. -/
import Derived.Test.YtggiajmlnieidaaGreatDoorDa
import Derived.Test.YtggiajmlnieidaaGreatDoorFh
namespace HM
open Go Go.RowKit
theorem playR_slots (l:List Flow)(sc:Nat→Sched)(x:List Rule):∀n:Nat,∀b∈(playR l sc x n).atts,b.slot < n
 | 0=>by simp[playR]
 | n+1=>by
  obtain⟨la,a1,a2,_⟩:=slotR_gen l (sc n) x (playR l sc x n) (n:Nat)
  intro b hb
  have hb:b∈(slotR l (sc n) x (playR l sc x n) (n:Nat)).atts:=hb
  rw[a1]at hb
  rcases List.mem_append.1 hb with hb|hb
  ·have:=playR_slots l sc x n b hb;omega
  ·rw[a2 b hb];omega
theorem ready_all {l:List Flow}{s:Sched}{x:List Rule}{slots:Int}(h:readyM l s x slots=0):(flowsE 32 l).2=0∧formB s=true∧(scriptM x).2=0∧0≤slots∧slots≤4096:=by
 unfold readyM at h
 split at h
 ·cases h
 rename_i hn
 split at h
 ·cases h
 rename_i hn2
 refine⟨?_,?_,?_,by omega,by omega⟩
 ·exact Classical.byContradiction fun hh=>hn (.inl hh)
 ·cases hf:formB s with
  | true=>rfl
  | false=>exact absurd (.inr (.inl hf)) hn
 ·exact Classical.byContradiction fun hh=>hn (.inr (.inr hh))
structure Chg where
 slot:Int
 add:Bool
 cell:Cell
def Chg.av (c:Chg):AV:=.agg [.int .i64 c.slot,.bool c.add,.int .i64 c.cell.slot,.int .i64 c.cell.off,.int .i64 c.cell.src,.int .i64 c.cell.dst,.int .i64 c.cell.flow]
def encChgs (l:List Chg):AV:=.sl false (l.map Chg.av)
def delAt {α:Type}(l:List α)(p:Nat):List α:=l.take p++l.drop (p+1)
theorem delAt_len {α:Type}{l:List α}{p:Nat}(h:p < l.length):(delAt l p).length=l.length-1:=by
 unfold delAt
 rw[List.length_append,List.length_take,List.length_drop];omega
theorem delAt_sub {α:Type}(l:List α)(p:Nat):(delAt l p).Sublist l:=by
 unfold delAt
 have h:=List.Sublist.append (List.Sublist.refl (l.take p)) (List.drop_sublist_drop_left l (Nat.le_succ p))
 rwa [List.take_append_drop]at h
theorem sub_sorted {α:Type}{cmp:α→α→Int}{l m:List α}(h:m.Sublist l)(hs:Sorted cmp l):Sorted cmp m:=by
 have h1:l.Pairwise fun a b=>cmp a b < 0:=List.pairwise_iff_getElem.2 fun i j hi hj hij=>hs i j _ _ hij (List.getElem?_eq_getElem hi) (List.getElem?_eq_getElem hj)
 have h2:=List.pairwise_iff_getElem.1 (h1.sublist h)
 intro i j x y hij hx hy
 obtain⟨hi,rfl⟩:=List.getElem?_eq_some_iff.1 hx
 obtain⟨hj,rfl⟩:=List.getElem?_eq_some_iff.1 hy
 exact h2 i j hi hj hij
def remM (s:Sched)(c:Cell):Sched×Int:=
 if formB s=false then(⟨0,0,[]⟩,1)
 else if hasC s c=false then(⟨0,0,[]⟩,7)
 else(⟨s.len,s.offs,delAt s.cells (posC s c)⟩,0)
theorem hasC_at {s:Sched}{c:Cell}(h:hasC s c=true):s.cells[posC s c]? = some c:=by
 unfold hasC hasB at h
 unfold posC
 split at h
 ·rename_i x hx
  have h0:x.cmp c=0:=by simpa[cellTo] using h
  have h1:=cmpL_eq.1 h0
  have h2:x=c:=by
   obtain⟨a1,a2,a3,a4,a5⟩:=x
   obtain⟨b1,b2,b3,b4,b5⟩:=c
   simpa[Cell.nums] using h1
  rw[hx,h2]
 ·cases h
theorem remM_form {s:Sched}{c:Cell}(h:(remM s c).2=0):formB (remM s c).1=true:=by
 unfold remM at h ⊢
 split at h
 ·cases h
 split at h
 ·cases h
 rename_i h1 h2
 rw[if_neg h1,if_neg h2]
 have hf:formB s=true:=by simpa using h1
 obtain⟨f1,f2,f3⟩:=form_all hf
 have hsub:=delAt_sub s.cells (posC s c)
 refine formB_mk f1 (Nat.le_trans hsub.length_le f2) (fun x hx=>?_) (sub_sorted hsub (formB_sorted hf))
 exact(formedB_len (s:=s) (t:=⟨s.len,s.offs,delAt s.cells (posC s c)⟩) rfl rfl x).trans (f3 x (hsub.mem hx))
def chgM (s:Sched)(c:Chg):Sched×Int:=if c.add=true then addM s c.cell else remM s c.cell
theorem chgM_form {s:Sched}{c:Chg}(h:(chgM s c).2=0):formB (chgM s c).1=true:=by
 unfold chgM at h ⊢
 split
 ·rename_i ha
  rw[if_pos ha]at h
  obtain⟨t,ht⟩:∃t,t=(addM s c.cell).1:=⟨_,rfl⟩
  rw[←ht]
  exact(addM_more (show addM s c.cell=(t,0) by rw[ht,←h])).2.2
 ·rename_i ha
  rw[if_neg ha]at h
  exact remM_form h
def chgE (p:Option Int)(c:Chg):Int:=if c.slot < 0 then 2 else match p with
 | some q=>if c.slot < q then 5 else 0
 | none=>0
def behM:Option Int→Sched→List Chg→List Sched×Int
 | _,_,[]=>([],0)
 | p,s,c :: cs=>if chgE p c≠0 then([],chgE p c) else if (chgM s c).2≠0 then([],(chgM s c).2) else((chgM s c).1 :: (behM (some c.slot) (chgM s c).1 cs).1,(behM (some c.slot) (chgM s c).1 cs).2)
def appM:Option Int→Sched→Sched→List Chg→Int→Sched×Int
 | _,_,out,[],_=>(out,0)
 | p,s,out,c :: cs,t=>if chgE p c≠0 then(out,chgE p c) else if (chgM s c).2≠0 then(out,(chgM s c).2) else appM (some c.slot) (chgM s c).1 (if c.slot≤t then(chgM s c).1 else out) cs t
theorem app_err:∀(p:Option Int) (s out:Sched) (cs:List Chg) (t:Int),(appM p s out cs t).2=(behM p s cs).2
 | _,_,_,[],_=>rfl
 | p,s,out,c :: cs,t=>by
  unfold appM behM
  split
  ·rfl
  split
  ·rfl
  exact app_err _ _ _ cs t
def uptoC (cs:List Chg)(t:Int):Nat:=cs.countP fun c=>decide (c.slot≤t)
theorem beh_after {q:Int}:∀{s:Sched} {cs:List Chg},(behM (some q) s cs).2=0→∀c∈cs,q≤c.slot
 | s,[],_=>by simp
 | s,c :: cs,h=>by
  unfold behM at h
  split at h
  ·rename_i h1;exact absurd h h1
  split at h
  ·rename_i h1;exact absurd h h1
  rename_i h1 h2
  have hq:q≤c.slot:=by
   simp only[Decidable.not_not]at h1
   unfold chgE at h1
   simp only at h1
   split at h1
   ·cases h1
   split at h1
   ·cases h1
   omega
  intro d hd
  rcases List.mem_cons.1 hd with rfl|hd
  ·exact hq
  ·have:=beh_after h d hd
   omega
def nowM (s:Sched)(cs:List Chg)(t:Int):Sched:=((s :: (behM none s cs).1)[uptoC cs t]?).getD s
def changeM (l:List Flow)(s:Sched)(cs:List Chg)(x:List Rule)(slots:Int):RunL×Int:=
 if readyM l s x slots≠0 then(⟨[],[]⟩,readyM l s x slots)
 else if 1024 < cs.length then(⟨[],[]⟩,8)
 else if (behM none s cs).2≠0 then(⟨[],[]⟩,(behM none s cs).2)
 else(⟨(playR l (fun n=>nowM s cs n) x slots.toNat).atts,(playR l (fun n=>nowM s cs n) x slots.toNat).dels⟩,0)
theorem findF_one (f:Flow)(id:Int):findF [f] id=if f.id=id then 0 else -1:=by
 by_cases h:f.id=id
 ·rw[if_pos h]
  exact idxF_some (k:=0) (by simp) (fun j y hj=>by omega) rfl (by simpa using h)
 ·rw[if_neg h]
  refine idxF_none (fun j y hj hy=>?_)
  cases j with
  | zero=>simp at hy;subst hy;simpa using h
  | succ j=>simp at hy
def prevS (cs:List Chg)(k:Nat):Option Int:=match k with
 | 0=>none
 | j+1=>(cs[j]?).map (·.slot)
structure BehI (s:Sched)(cs:List Chg)(k:Nat)(bs:List Sched):Prop where
 le:k≤cs.length
 len:bs.length=k
 eq:behM none s cs=(bs++(behM (prevS cs k) (bs.getLastD s) (cs.drop k)).1,(behM (prevS cs k) (bs.getLastD s) (cs.drop k)).2)
theorem BehI.zero (s:Sched)(cs:List Chg):BehI s cs 0 []:=⟨Nat.zero_le _,rfl,rfl⟩
theorem BehI.last {s:Sched}{cs:List Chg}{k:Nat}{bs:List Sched}(h:BehI s cs k bs):(s :: bs)[k]? = some (bs.getLastD s):=by
 have hl:=h.len
 subst hl
 cases bs with
 | nil=>rfl
 | cons b bs=>simp[List.getLastD_eq_getLast?,List.getLast?_eq_getElem?]
theorem BehI.err1 {s:Sched}{cs:List Chg}{k:Nat}{bs:List Sched}(h:BehI s cs k bs){c:Chg}(hc:cs[k]? = some c)(he:chgE (prevS cs k) c≠0):(behM none s cs).2=chgE (prevS cs k) c:=by
 rw[h.eq,dropGet hc]
 simp only[behM]
 rw[if_pos he]
theorem BehI.err2 {s:Sched}{cs:List Chg}{k:Nat}{bs:List Sched}(h:BehI s cs k bs){c:Chg}(hc:cs[k]? = some c)(he:chgE (prevS cs k) c=0)(h2:(chgM (bs.getLastD s) c).2≠0):(behM none s cs).2=(chgM (bs.getLastD s) c).2:=by
 rw[h.eq,dropGet hc]
 simp only[behM]
 rw[if_neg (by simp[he]),if_pos h2]
theorem BehI.step {s:Sched}{cs:List Chg}{k:Nat}{bs:List Sched}(h:BehI s cs k bs){c:Chg}(hc:cs[k]? = some c)(he:chgE (prevS cs k) c=0)(h2:(chgM (bs.getLastD s) c).2=0):BehI s cs (k+1) (bs++[(chgM (bs.getLastD s) c).1]):=by
 refine⟨(List.getElem?_eq_some_iff.1 hc).1,by rw[List.length_append,h.len];rfl,?_⟩
 have hl:(bs++[(chgM (bs.getLastD s) c).1]).getLastD s=(chgM (bs.getLastD s) c).1:=by simp
 have e1:behM (prevS cs k) (bs.getLastD s) (c :: cs.drop (k+1))=((chgM (bs.getLastD s) c).1 :: (behM (some c.slot) (chgM (bs.getLastD s) c).1 (cs.drop (k+1))).1,(behM (some c.slot) (chgM (bs.getLastD s) c).1 (cs.drop (k+1))).2):=by
  rw[behM,if_neg (by simp[he]),if_neg (fun hh=>hh h2)]
 have hp:prevS cs (k+1)=some c.slot:=by simp[prevS,hc]
 rw[h.eq,dropGet hc,e1,hl,hp]
 simp
theorem BehI.fin {s:Sched}{cs:List Chg}{bs:List Sched}(h:BehI s cs cs.length bs):behM none s cs=(bs,0):=by
 rw[h.eq,List.drop_length]
 simp[behM]
theorem chgE_neg {p:Option Int}{c:Chg}(h:c.slot < 0):chgE p c=2:=by unfold chgE;rw[if_pos h]
theorem chgE_first {cs:List Chg}{c:Chg}(h:¬c.slot < 0):chgE (prevS cs 0) c=0:=by unfold chgE prevS;rw[if_neg h]
theorem chgE_next {cs:List Chg}{c d:Chg}{j:Nat}(h:¬c.slot < 0)(hd:cs[j]? = some d):chgE (prevS cs (j+1)) c=if c.slot < d.slot then 5 else 0:=by
 have hp:prevS cs (j+1)=some d.slot:=by simp[prevS,hd]
 rw[hp];unfold chgE;rw[if_neg h]
def tChg:Ty:=.st [tI,.bool,tCell]
theorem sh_chg {l:List AV}(h:tChg.sh l):∃c:Chg,l=c.av.cells:=by
 obtain⟨_,_,rfl,_,h1,_,_,rfl,_,h2,_,_,rfl,_,h3,h6⟩:=h
 obtain⟨a,rfl,_⟩:=sh_int h1
 obtain⟨b,rfl⟩:=h2
 obtain⟨c,rfl⟩:=sh_cell h3
 obtain rfl:=h6
 exact⟨⟨a,b,c⟩,rfl⟩
theorem sh_chgs {l:List AV}(h:(Ty.sl tChg).sh l):∃cs:List Chg,l=[encChgs cs]∧cs.length≤140737488355328:=by
 obtain⟨els,rfl,h1,h2⟩:=h
 obtain⟨cs,h3,h4⟩:=list_of (f:=Chg.av) (fun l hl=>by
  obtain⟨c,rfl⟩:=sh_chg hl
  exact⟨c,rfl⟩) els h1
 exact⟨cs,by rw[h3];rfl,by omega⟩
def tU8:Ty:=.int .u8
theorem sh_u8 {l:List AV}(h:tU8.sh l):∃n,l=[.int .u8 n]∧0≤n∧n≤255:=by
 obtain⟨n,rfl,hw⟩:=h
 refine⟨n,rfl,?_⟩
 simp only[Lit.wf,Bool.and_eq_true,decide_eq_true_eq]at hw
 exact hw
theorem len6 {α:Type}:∀{l:List α},l.length=6→∃a1 a2 a3 a4 a5 a6,l=[a1,a2,a3,a4,a5,a6]
 | [a1,a2,a3,a4,a5,a6],_=>⟨a1,a2,a3,a4,a5,a6,rfl⟩
 | [],h=>by simp at h
 | [_],h=>by simp at h
 | [_,_],h=>by simp at h
 | [_,_,_],h=>by simp at h
 | [_,_,_,_],h=>by simp at h
 | [_,_,_,_,_],h=>by simp at h
 | _ :: _ :: _ :: _ :: _ :: _ :: _ :: _,h=>by simp at h
theorem sh6 {d1 d2 d3 d4 d5 d6:Ty}:∀{es:List AV},shArgs [d1,d2,d3,d4,d5,d6] es→∃l1 l2 l3 l4 l5 l6,es=[d1.mk l1,d2.mk l2,d3.mk l3,d4.mk l4,d5.mk l5,d6.mk l6]∧d1.sh l1∧d2.sh l2∧d3.sh l3∧d4.sh l4∧d5.sh l5∧d6.sh l6
 | [e1,e2,e3,e4,e5,e6],h=>by
  obtain⟨⟨l1,h1,rfl⟩,⟨l2,h2,rfl⟩,⟨l3,h3,rfl⟩,⟨l4,h4,rfl⟩,⟨l5,h5,rfl⟩,⟨l6,h6,rfl⟩,_⟩:=h
  exact⟨l1,l2,l3,l4,l5,l6,rfl,h1,h2,h3,h4,h5,h6⟩
 | [],h=>by simp[shArgs]at h
 | [_],h=>by simp[shArgs]at h
 | [_,_],h=>by simp[shArgs]at h
 | [_,_,_],h=>by simp[shArgs]at h
 | [_,_,_,_],h=>by simp[shArgs]at h
 | [_,_,_,_,_],h=>by simp[shArgs]at h
 | _ :: _ :: _ :: _ :: _ :: _ :: _ :: _,h=>by simp[shArgs]at h
structure Req where
 flow:Flow
 routes:List (List Int)
def Req.cs (x:Req):List AV:=[.int .i64 x.flow.id,.int .i64 x.flow.src,.int .i64 x.flow.dst,.int .i64 x.flow.period,.int .i64 x.flow.phase,.int .i64 x.flow.dead,encRows x.routes]
def Req.av (x:Req):AV:=.agg [.int .i64 x.flow.id,.int .i64 x.flow.src,.int .i64 x.flow.dst,.int .i64 x.flow.period,.int .i64 x.flow.phase,.int .i64 x.flow.dead,encRows x.routes]
def encReqs (l:List Req):AV:=.sl false (l.map Req.av)
def flowsQ (q:List Req):List Flow:=q.map Req.flow
def routesAt (n:Net)(x:Req)(k:Nat):Int:=match x.routes[k]? with
 | some r=>routeE n x.flow.src x.flow.dst r
 | none=>0
def twoSame:List (List Int)→Bool
 | [a,b]=>decide (a=b)
 | _=>false
def routesE (n:Net)(x:Req):Int:=
 if x.routes.length=0 then 14 else if 2 < x.routes.length then 8
 else if (firstAt (routesAt n x) x.routes.length).2≠0 then(firstAt (routesAt n x) x.routes.length).2
 else if twoSame x.routes=true then 6 else 0
def reqAt (n:Net)(q:List Req)(k:Nat):Int:=match q[k]? with
 | some x=>routesE n x
 | none=>0
def reqE (n:Net)(q:List Req):Int×Int:=
 if netE n≠0 then(-1,1) else if (flowsE n.nodes (flowsQ q)).2≠0 then flowsE n.nodes (flowsQ q) else firstAt (reqAt n q) q.length
theorem firstAt_lo {f:Nat→Int}{n:Nat}(h:(firstAt f n).2≠0):0≤(firstAt f n).1:=by
 unfold firstAt at h ⊢
 split
 ·simp
 ·rename_i hh;rw[hh]at h;exact absurd rfl h
structure ReqOk (n:Net)(x:Req):Prop where
 flow:flowE n.nodes x.flow=0
 len:1≤x.routes.length∧x.routes.length≤2
 route:∀r∈x.routes,routeF n x.flow.src x.flow.dst r=0
 two:twoSame x.routes=false
theorem reqE_ok {n:Net}{q:List Req}(h:(reqE n q).2=0):NetOk n∧q.length≤16∧(∀x∈q,ReqOk n x)∧(flowsE n.nodes (flowsQ q)).2=0:=by
 unfold reqE at h
 split at h
 ·cases h
 rename_i h0
 split at h
 ·rename_i h1;exact absurd h h1
 rename_i h1
 have h1:(flowsE n.nodes (flowsQ q)).2=0:=by omega
 have hok:=netE_ok (by omega:netE n=0)
 have hfl:=h1
 unfold flowsE at hfl
 rw[if_neg (by have:=hok.nodes;omega)]at hfl
 split at hfl
 ·cases hfl
 rename_i h16
 refine⟨hok,by simp[flowsQ]at h16;omega,fun x hx=>?_,h1⟩
 obtain⟨k,hk⟩:=List.getElem?_of_mem hx
 have hkl:=(List.getElem?_eq_some_iff.1 hk).1
 have h2:=firstAt_ok.1 h k hkl
 have h3:=firstAt_ok.1 hfl k (by simpa[flowsQ] using hkl)
 have hkf:(flowsQ q)[k]? = some x.flow:=by simp[flowsQ,hk]
 unfold flowAt at h3
 rw[hkf]at h3
 simp only at h3
 have hfx:flowE n.nodes x.flow=0:=by
  split at h3
  ·rename_i hh;exact absurd h3 hh
  ·omega
 unfold reqAt at h2
 rw[hk]at h2
 simp only[routesE]at h2
 split at h2
 ·cases h2
 split at h2
 ·cases h2
 split at h2
 ·rename_i hh;exact absurd h2 hh
 rename_i hr
 split at h2
 ·cases h2
 rename_i ht
 refine⟨hfx,by omega,fun r hr2=>?_,by simpa using ht⟩
 obtain⟨j,hj⟩:=List.getElem?_of_mem hr2
 have h4:=firstAt_ok.1 (by omega:(firstAt (routesAt n x) x.routes.length).2=0) j (List.getElem?_eq_some_iff.1 hj).1
 unfold routesAt at h4
 rw[hj]at h4
 simp only[routeE]at h4
 split at h4
 ·rename_i hh;exact absurd h4 hh
 ·exact h4
theorem good_find {n:Net}{a b:Int}(h:goodL n a b=true):0≤findL n a b:=by
 rcases Int.lt_or_le (findL n a b) 0 with hh|hh
 ·unfold goodL at h
  simp at h
  omega
 ·exact hh
def sumW {α:Type}(f:α→Int):List α→Int
 | []=>0
 | x :: l=>f x+sumW f l
theorem sumW_app {α:Type}(f:α→Int)(a b:List α):sumW f (a++b)=sumW f a+sumW f b:=by
 induction a with
 | nil=>simp[sumW]
 | cons x a ih=>simp only[List.cons_append,sumW,ih];omega
theorem sumW_take {α:Type}(f:α→Int){l:List α}{k:Nat}{x:α}(h:l[k]? = some x):sumW f (l.take (k+1))=sumW f (l.take k)+f x:=by rw[take_succ h,sumW_app];simp[sumW]
theorem sumW_bd {α:Type}{f:α→Int}{m:Int}(hm:0≤m):∀{l:List α},(∀x∈l,0≤f x∧f x≤m)→0≤sumW f l∧sumW f l≤l.length*m
 | [],_=>by simp[sumW]
 | x :: l,h=>by
  have h1:=h x (by simp)
  have h2:=sumW_bd hm fun y hy=>h y (List.mem_cons_of_mem x hy)
  simp only[sumW,List.length_cons]
  have h3:((l.length+1:Nat):Int)*m=l.length*m+m:=by rw[Int.natCast_add,Int.add_mul];simp
  omega
theorem EncOk.fit1 {α:Type}{enc:α→AV}{sz:Nat}(h:EncOk enc sz){l:List α}(ex:List AV){k:Nat}(hk:k < l.length):0+(k:Int).toNat*sz+sz≤(flatE (l.map enc)++ex).length:=by
 rw[Nat.zero_add,Int.toNat_natCast]
 exact h.fit ex hk
section
variable {α:Type} [DecidableEq α]
end
def tReq:Ty:=.st [tFlow,tRows]
theorem sh_req {l:List AV}(h:tReq.sh l):∃x:Req,l=x.cs∧x.routes.length≤140737488355328∧∀r∈x.routes,r.length≤140737488355328:=by
 obtain⟨_,_,rfl,_,h1,_,_,rfl,_,h2,h6⟩:=h
 obtain⟨f,rfl⟩:=sh_flow h1
 obtain⟨rs,rfl,r1,r2⟩:=sh_rows h2
 obtain rfl:=h6
 exact⟨⟨f,rs⟩,rfl,r1,r2⟩
theorem sh_reqs {l:List AV}(h:(Ty.sl tReq).sh l):∃q:List Req,l=[encReqs q]∧q.length≤140737488355328∧∀x∈q,x.routes.length≤281474976710656∧∀r∈x.routes,r.length≤281474976710656:=by
 obtain⟨els,rfl,h1,h2⟩:=h
 obtain⟨cs,h3,h4,h5⟩:=list_ofP (f:=Req.av) (Q:=fun x:Req=>x.routes.length≤281474976710656∧∀r∈x.routes,r.length≤281474976710656) (fun l hl=>by
  obtain⟨c,rfl,c1,c2⟩:=sh_req hl
  exact⟨c,rfl,by omega,fun r hr=>by have:=c2 r hr;omega⟩) els h1
 exact⟨cs,by rw[h3];rfl,by omega,h5⟩
def tU16:Ty:=.int .u16
theorem sh_u16 {l:List AV}(h:tU16.sh l):∃n,l=[.int .u16 n]∧0≤n∧n≤65535:=by
 obtain⟨n,rfl,hw⟩:=h
 refine⟨n,rfl,?_⟩
 simp only[Lit.wf,Bool.and_eq_true,decide_eq_true_eq]at hw
 exact hw
theorem sh3 {d1 d2 d3:Ty}:∀{es:List AV},shArgs [d1,d2,d3] es→∃l1 l2 l3,es=[d1.mk l1,d2.mk l2,d3.mk l3]∧d1.sh l1∧d2.sh l2∧d3.sh l3
 | [e1,e2,e3],h=>by
  obtain⟨⟨l1,h1,rfl⟩,⟨l2,h2,rfl⟩,⟨l3,h3,rfl⟩,_⟩:=h
  exact⟨l1,l2,l3,rfl,h1,h2,h3⟩
 | [],h=>by simp[shArgs]at h
 | [_],h=>by simp[shArgs]at h
 | [_,_],h=>by simp[shArgs]at h
 | _ :: _ :: _ :: _ :: _,h=>by simp[shArgs]at h
def marginAt (n:Net)(a b:Int):Int:=n.margin.getD (findL n a b).toNat 0
def powN (n:Net)(a b:Int):Int:=if insB a n.nodes then powAt n a b else 0
def distAt (n:Net)(cs:List Cell)(i:Nat)(node:Int)(k:Nat):Int:=match cs[k]? with
 | some c=>if k=i then 0 else powN n c.src node+powN n c.dst node
 | none=>0
def distU (n:Net)(cs:List Cell)(i:Nat)(node:Int)(k:Nat):Int:=sumW (distAt n cs i node) (List.range k)
def distM (n:Net)(cs:List Cell)(i:Nat)(node:Int):Int:=distU n cs i node cs.length
def touchB (a b:Cell):Bool:=a.src==b.src||a.src==b.dst||a.dst==b.src||a.dst==b.dst
def touchAt (cs:List Cell)(c:Cell)(i k:Nat):Bool:=match cs[k]? with
 | some d=>k != i&&touchB c d
 | none=>false
def faultyM (n:Net)(cs:List Cell)(i:Nat):Bool:=match cs[i]? with
 | none=>false
 | some c=>if goodL n c.src c.dst=false then true else if (List.range cs.length).any (touchAt cs c i) then true
  else if heardB n (marginAt n c.src c.dst) (distM n cs i c.dst)=false then true else !heardB n (marginAt n c.dst c.src) (distM n cs i c.src)
theorem distU_succ (n:Net)(cs:List Cell)(i:Nat)(node:Int)(k:Nat):distU n cs i node (k+1)=distU n cs i node k+distAt n cs i node k:=by
 unfold distU
 rw[List.range_succ,sumW_app]
 simp[sumW]
theorem powN_bd {n:Net}(h:NetOk n)(a b:Int):0≤powN n a b∧powN n a b≤68719476736:=by
 unfold powN
 have:=powAt_bd h.pow a b
 split<;>omega
theorem distAt_bd {n:Net}(h:NetOk n)(cs:List Cell)(i:Nat)(node:Int)(k:Nat):0≤distAt n cs i node k∧distAt n cs i node k≤137438953472:=by
 unfold distAt
 split
 ·rename_i c _
  have h1:=powN_bd h c.src node
  have h2:=powN_bd h c.dst node
  split<;>omega
 ·omega
theorem distU_bd {n:Net}(h:NetOk n)(cs:List Cell)(i:Nat)(node:Int)(k:Nat):0≤distU n cs i node k∧distU n cs i node k≤k*137438953472:=by
 have:=sumW_bd (f:=distAt n cs i node) (m:=137438953472) (by omega) (l:=List.range k) fun j _=>distAt_bd h cs i node j
 rw[List.length_range]at this
 exact this
theorem pow_at {n:Net}(h:NetOk n){a b:Int}(ha:insB a n.nodes=true)(hb:insB b n.nodes=true):∃(i j:Nat) (r:List Int) (x:Int),a=i∧b=j∧n.power[i]? = some r∧r[j]? = some x∧powAt n a b=x:=by
 simp only[insB,Bool.and_eq_true,decide_eq_true_eq]at ha hb
 obtain⟨i,rfl⟩:∃i:Nat,a=i:=⟨a.toNat,by omega⟩
 obtain⟨j,rfl⟩:∃j:Nat,b=j:=⟨b.toNat,by omega⟩
 have h1:=h.rows
 obtain⟨r,hr⟩:∃r,n.power[i]? = some r:=⟨_,List.getElem?_eq_getElem (by omega)⟩
 have h2:=h.row r (List.mem_of_getElem? hr)
 obtain⟨x,hx⟩:∃x,r[j]? = some x:=⟨_,List.getElem?_eq_getElem (by omega)⟩
 refine⟨i,j,r,x,rfl,rfl,hr,hx,?_⟩
 unfold powAt
 rw[Int.toNat_natCast,Int.toNat_natCast,List.getD_eq_getElem?_getD,List.getD_eq_getElem?_getD,hr,Option.getD_some,hx];rfl
theorem good_at {n:Net}(h:NetOk n){a b:Int}(hg:goodL n a b=true):∃(p:Nat) (m:Int),findL n a b=p∧n.margin[p]? = some m∧marginAt n a b=m∧0≤m∧m≤68719476736∧insB a n.nodes=true∧insB b n.nodes=true∧goodL n b a=true:=by
 have h0:=good_find hg
 obtain⟨p,l,e1,e2,e3,e4⟩:=findL_at h0
 have hp:=(List.getElem?_eq_some_iff.1 e2).1
 obtain⟨m,hm⟩:∃m,n.margin[p]? = some m:=⟨_,List.getElem?_eq_getElem (by rw[h.mar];exact hp)⟩
 have hk:=h.link p l e2
 have hb:=linkR_bd hk.1
 have hpw:=powAt_bd h.pow l.src l.dst
 rw[List.getD_eq_getElem?_getD,hm,Option.getD_some]at hk
 refine⟨p,m,e1,hm,?_,by omega,by omega,by rw[←e3];simp[insB];omega,by rw[←e4];simp[insB];omega,?_⟩
 ·unfold marginAt;rw[e1,Int.toNat_natCast,List.getD_eq_getElem?_getD,hm];rfl
 ·unfold goodL at hg ⊢
  simp only[Bool.and_eq_true]at hg ⊢
  exact⟨⟨⟨hg.1.1.2,hg.1.1.1⟩,hg.2⟩,hg.1.2⟩
def distC (n:Net)(rest:List Cell)(node:Int):Int:=sumW (fun d:Cell=>powN n d.src node+powN n d.dst node) rest
def faultyC (n:Net)(c:Cell)(rest:List Cell):Bool:=
 if goodL n c.src c.dst=false then true else if rest.any (touchB c) then true
  else if heardB n (marginAt n c.src c.dst) (distC n rest c.dst)=false then true else !heardB n (marginAt n c.dst c.src) (distC n rest c.src)
theorem erase_take {α:Type}{l:List α}{k i:Nat}{x:α}(h:l[k]? = some x):(l.take (k+1)).eraseIdx i=(l.take k).eraseIdx i++if k=i then [] else [x]:=by
 rw[take_succ h]
 have hk:k < l.length:=(List.getElem?_eq_some_iff.1 h).1
 have hl:(l.take k).length=k:=by rw[List.length_take];omega
 rcases Nat.lt_trichotomy k i with hlt|rfl|hgt
 ·rw[List.eraseIdx_of_length_le (by rw[List.length_append,hl];simp;omega),List.eraseIdx_of_length_le (by omega),if_neg (by omega)]
 ·rw[List.eraseIdx_append_of_length_le (by omega),hl,List.eraseIdx_of_length_le (l:=l.take k) (by omega),if_pos rfl];simp
 ·rw[List.eraseIdx_append_of_lt_length (by omega),if_neg (by omega)]
theorem distU_rest (n:Net)(cs:List Cell)(i:Nat)(node:Int):∀k:Nat,k≤cs.length→distU n cs i node k=distC n ((cs.take k).eraseIdx i) node
 | 0,_=>by simp[distU,distC,sumW]
 | k+1,hk=>by
  obtain⟨x,hx⟩:=getLt (l:=cs) (k:=k) (by omega)
  rw[distU_succ,distU_rest n cs i node k (by omega),erase_take hx]
  unfold distC distAt
  rw[sumW_app,hx]
  simp only
  congr 1
  split
  ·rfl
  ·simp[sumW]
theorem distM_rest (n:Net)(cs:List Cell)(i:Nat)(node:Int):distM n cs i node=distC n (cs.eraseIdx i) node:=by
 unfold distM
 rw[distU_rest n cs i node _ (Nat.le_refl _),List.take_length]
theorem touch_rest (cs:List Cell)(c:Cell)(i:Nat):∀k:Nat,k≤cs.length→(List.range k).any (touchAt cs c i)=((cs.take k).eraseIdx i).any (touchB c)
 | 0,_=>by simp
 | k+1,hk=>by
  obtain⟨x,hx⟩:=getLt (l:=cs) (k:=k) (by omega)
  rw[List.range_succ,List.any_append,touch_rest cs c i k (by omega),erase_take hx,List.any_append]
  congr 1
  simp only[List.any_cons,List.any_nil,Bool.or_false]
  unfold touchAt
  rw[hx]
  simp only
  by_cases h:k=i
  ·subst h;simp
  ·rw[if_neg h];simp[h]
theorem faultyM_rest {n:Net}{cs:List Cell}{i:Nat}{c:Cell}(h:cs[i]? = some c):faultyM n cs i=faultyC n c (cs.eraseIdx i):=by
 unfold faultyM faultyC
 rw[h]
 simp only
 have:=touch_rest cs c i _ (Nat.le_refl _)
 rw[List.take_length]at this
 rw[this,distM_rest,distM_rest]
theorem sum_permI {a b:List Int}(h:a.Perm b):a.sum=b.sum:=by
 induction h with
 | nil=>rfl
 | cons x _ ih=>simp only[List.sum_cons,ih]
 | swap x y l=>simp only[List.sum_cons];omega
 | trans _ _ h1 h2=>exact h1.trans h2
structure PTys where
 p:TypeId
 q:TypeId
 d:TypeId
 a:TypeId
 hpq:p≠q
 hpd:p≠d
 hqd:q≠d
 ks:List (Nat×List AV×TypeId)
 hk:∀e∈ks,e.2.2≠p∧e.2.2≠q∧e.2.2≠d
section
variable {T:PTys} {S S':St} {pb ch:Nat} {l:List Flow} {s:Sched} {x:List Rule} {Q:PL} {g:Nat→Nat→Nat} {sv dv:AV}
end
section
variable {T:PTys} {S:St} {pb ch:Nat} {l:List Flow} {s:Sched} {x:List Rule} {Q:PL} {g:Nat→Nat→Nat} {sv dv:AV}
end
section
variable {T:PTys} {S S':St} {pb ch:Nat} {l:List Flow} {s:Sched} {x:List Rule} {Q:PL} {g:Nat→Nat→Nat} {sv dv:AV}
end
def withL (c:Cell):List Cell→List Cell
 | []=>[c]
 | x :: l=>if c.cmp x < 0 then c :: x :: l else x :: withL c l
def putB (c:Cell)(l:List Cell):Bool:=l.any fun x=>decide (c.cmp x < 0)
theorem with_none {c:Cell}:∀{l:List Cell},putB c l=false→withL c l=l++[c]
 | [],_=>rfl
 | x :: l,h=>by
  simp only[putB,List.any_cons,Bool.or_eq_false_iff,decide_eq_false_iff_not]at h
  rw[withL,if_neg h.1,with_none (l:=l) h.2];rfl
theorem with_put {c x:Cell}:∀{l:List Cell},putB c l=true→withL c (l++[x])=withL c l++[x]
 | [],h=>by simp[putB]at h
 | y :: l,h=>by
  rw[List.cons_append,withL,withL]
  by_cases hy:c.cmp y < 0
  ·rw[if_pos hy,if_pos hy];rfl
  ·rw[if_neg hy,if_neg hy]
   have h2:putB c l=true:=by simpa[putB,hy] using h
   rw[with_put h2];rfl
theorem with_now {c x:Cell}(hx:c.cmp x < 0):∀{l:List Cell},putB c l=false→withL c (l++[x])=l++[c]++[x]
 | [],_=>by simp[withL,hx]
 | y :: l,h=>by
  simp only[putB,List.any_cons,Bool.or_eq_false_iff,decide_eq_false_iff_not]at h
  rw[List.cons_append,withL,if_neg h.1,with_now hx (l:=l) h.2];rfl
theorem putB_snoc (c x:Cell)(l:List Cell):putB c (l++[x])=(putB c l||decide (c.cmp x < 0)):=by simp[putB]
def withK (c:Cell)(l:List Cell):List Cell:=if putB c l=true then withL c l else l
theorem withK_len (c:Cell)(l:List Cell):(withK c l).length≤l.length+1:=by
 have:∀l:List Cell,(withL c l).length=l.length+1:=by
  intro l
  induction l with
  | nil=>rfl
  | cons x l ih=>rw[withL];split<;>simp[ih]
 unfold withK
 split
 ·rw[this];exact Nat.le_refl _
 ·omega
theorem withK_put {c x:Cell}{l:List Cell}(h:putB c l=true):withK c (l++[x])=withK c l++[x]:=by
 unfold withK
 rw[putB_snoc,h,if_pos (by simp),if_pos rfl,with_put h]
theorem withK_now {c x:Cell}{l:List Cell}(h:putB c l=false)(hx:c.cmp x < 0):withK c (l++[x])=withK c l++[c]++[x]:=by
 unfold withK
 rw[putB_snoc,h,if_pos (by simpa using hx),if_neg (by simp),with_now hx h]
theorem withK_not {c x:Cell}{l:List Cell}(h:putB c l=false)(hx:¬c.cmp x < 0):withK c (l++[x])=withK c l++[x]:=by
 unfold withK
 rw[putB_snoc,h,if_neg (by simpa using hx),if_neg (by simp)]
theorem with_ins {c:Cell}:∀{l:List Cell},hasB (cellTo c) l=false→withL c l=insAt l (posB (cellTo c) l) c
 | [],_=>rfl
 | x :: l,h=>by
  by_cases hx:x.cmp c < 0
  ·have hp:posB (cellTo c) (x :: l)=posB (cellTo c) l+1:=by
    unfold posB
    rw[List.takeWhile_cons,if_pos (show decide (cellTo c x < 0)=true from decide_eq_true hx)];rfl
   have hh:hasB (cellTo c) l=false:=by
    unfold hasB at h ⊢
    rw[hp,List.getElem?_cons_succ]at h
    exact h
   have hn:¬c.cmp x < 0:=fun hc=>by have:=cmpL_anti.1 hc;unfold Cell.cmp at hx;omega
   rw[hp,withL,if_neg hn,with_ins hh];rfl
  ·have hp:posB (cellTo c) (x :: l)=0:=by
    unfold posB
    rw[List.takeWhile_cons,if_neg (show ¬decide (cellTo c x < 0)=true from fun h=>hx (of_decide_eq_true h))];rfl
   have h0:x.cmp c≠0:=by
    unfold hasB at h
    rw[hp]at h
    simpa[cellTo] using h
   have hn:c.cmp x < 0:=cmpL_anti.2 (show 0 < cmpL x.nums c.nums by unfold Cell.cmp at hx h0;omega)
   rw[hp,withL,if_pos hn];rfl
theorem cell_cmp0 {x c:Cell}(h:x.cmp c=0):x=c:=by
 have h1:=cmpL_eq.1 h
 obtain⟨a1,a2,a3,a4,a5⟩:=x
 obtain⟨b1,b2,b3,b4,b5⟩:=c
 simpa[Cell.nums] using h1
theorem has_mem {c:Cell}:∀{l:List Cell},l.Pairwise (fun a b=>a.cmp b < 0)→hasB (cellTo c) l=decide (c∈l)
 | [],_=>by simp[hasB]
 | x :: l,h=>by
  have hc0:c.cmp c=0:=cmpL_eq.2 rfl
  obtain⟨h1,h2⟩:=List.pairwise_cons.1 h
  by_cases hx:x.cmp c < 0
  ·have hp:posB (cellTo c) (x :: l)=posB (cellTo c) l+1:=by
    unfold posB
    rw[List.takeWhile_cons,if_pos (show decide (cellTo c x < 0)=true from decide_eq_true hx)];rfl
   have hh:hasB (cellTo c) (x :: l)=hasB (cellTo c) l:=by
    unfold hasB
    rw[hp,List.getElem?_cons_succ]
   have hne:c≠x:=by rintro rfl;omega
   rw[hh,has_mem h2]
   simp[hne]
  ·have hp:posB (cellTo c) (x :: l)=0:=by
    unfold posB
    rw[List.takeWhile_cons,if_neg (show ¬decide (cellTo c x < 0)=true from fun h=>hx (of_decide_eq_true h))];rfl
   have hh:hasB (cellTo c) (x :: l)=(x.cmp c==0):=by
    unfold hasB
    rw[hp];rfl
   rw[hh,Bool.eq_iff_iff]
   simp only[beq_iff_eq,decide_eq_true_eq,List.mem_cons]
   constructor
   ·intro h;exact .inl (cell_cmp0 h).symm
   ·rintro (rfl|hm)
    ·exact hc0
    ·exact absurd (h1 c hm) hx
theorem del_filter {c:Cell}:∀{l:List Cell},l.Pairwise (fun a b=>a.cmp b < 0)→hasB (cellTo c) l=true→delAt l (posB (cellTo c) l)=l.filter fun x=>decide (x≠c)
 | [],_,h=>by simp[hasB]at h
 | x :: l,hs,h=>by
  have hc0:c.cmp c=0:=cmpL_eq.2 rfl
  obtain⟨h1,h2⟩:=List.pairwise_cons.1 hs
  by_cases hx:x.cmp c < 0
  ·have hp:posB (cellTo c) (x :: l)=posB (cellTo c) l+1:=by
    unfold posB
    rw[List.takeWhile_cons,if_pos (show decide (cellTo c x < 0)=true from decide_eq_true hx)];rfl
   have hh:hasB (cellTo c) l=true:=by
    unfold hasB at h ⊢
    rw[hp,List.getElem?_cons_succ]at h
    exact h
   have hne:x≠c:=by rintro rfl;omega
   rw[hp,List.filter_cons,if_pos (by simpa using hne),←del_filter h2 hh]
   simp[delAt]
  ·have hp:posB (cellTo c) (x :: l)=0:=by
    unfold posB
    rw[List.takeWhile_cons,if_neg (show ¬decide (cellTo c x < 0)=true from fun h=>hx (of_decide_eq_true h))];rfl
   have hxc:x=c:=by
    unfold hasB at h
    rw[hp]at h
    exact cell_cmp0 (by simpa[cellTo] using h)
   subst hxc
   rw[hp,List.filter_cons,if_neg (by simp)]
   have:(l.filter fun y=>decide (y≠x))=l:=List.filter_eq_self.2 fun y hy=>by
    have:=h1 y hy
    have:y≠x:=by rintro rfl;omega
    simpa using this
   rw[this];simp[delAt]
theorem sorted_pw {s:Sched}(h:formB s=true):s.cells.Pairwise fun a b=>a.cmp b < 0:=
 List.pairwise_iff_getElem.2 fun i j hi hj hij=>formB_sorted h i j _ _ hij (List.getElem?_eq_getElem hi) (List.getElem?_eq_getElem hj)
def cellEqB (a b:Cell):Bool:=a.slot==b.slot&&(a.off==b.off&&(a.src==b.src&&(a.dst==b.dst&&(a.flow==b.flow&&true))))
theorem cellEqB_iff {a b:Cell}:cellEqB a b=true↔a=b:=by
 obtain⟨c1,c2,c3,c4,c5⟩:=a
 obtain⟨d1,d2,d3,d4,d5⟩:=b
 simp[cellEqB]
theorem addM_with {s:Sched}{c:Cell}(_h:formB s=true)(h2:hasC s c=false):insAt s.cells (posC s c) c=withL c s.cells:=(with_ins h2).symm
theorem remM_filter {s:Sched}{c:Cell}(h:formB s=true)(h2:hasC s c=true):delAt s.cells (posC s c)=s.cells.filter fun x=>decide (x≠c):=del_filter (sorted_pw h) h2
theorem hasC_mem {s:Sched}{c:Cell}(h:formB s=true):hasC s c=decide (c∈s.cells):=has_mem (sorted_pw h)
theorem filter_hit {c:Cell}{l:List Cell}{k:Nat}{x:Cell}(h:l[k]? = some x)(hx:x≠c):(l.take (k+1)).filter (fun x=>decide (x≠c))=(l.take k).filter (fun x=>decide (x≠c))++[x]:=by
 rw[take_succ h,List.filter_append,List.filter_cons,if_pos (by simpa using hx)];rfl
theorem filter_miss {c:Cell}{l:List Cell}{k:Nat}{x:Cell}(h:l[k]? = some x)(hx:x=c):(l.take (k+1)).filter (fun x=>decide (x≠c))=(l.take k).filter (fun x=>decide (x≠c)):=by
 rw[take_succ h,List.filter_append,List.filter_cons,if_neg (by simpa using hx)];simp
def applyM (s:Sched)(cs:List Chg)(t:Int):Sched×Int:=if 1024 < cs.length then(s,8) else appM none s s cs t
structure AppI (s:Sched)(cs:List Chg)(t:Int)(k:Nat)(u o:Sched):Prop where
 le:k≤cs.length
 eq:appM none s s cs t=appM (prevS cs k) u o (cs.drop k) t
theorem AppI.zero (s:Sched)(cs:List Chg)(t:Int):AppI s cs t 0 s s:=⟨Nat.zero_le _,rfl⟩
theorem AppI.err1 {s u o:Sched}{cs:List Chg}{t:Int}{k:Nat}(h:AppI s cs t k u o){c:Chg}(hc:cs[k]? = some c){e:Int}(he:chgE (prevS cs k) c=e)(h0:e≠0):appM none s s cs t=(o,e):=by
 rw[h.eq,dropGet hc,appM,if_pos (by rw[he];exact h0),he]
theorem AppI.err2 {s u o:Sched}{cs:List Chg}{t:Int}{k:Nat}(h:AppI s cs t k u o){c:Chg}(hc:cs[k]? = some c)(he:chgE (prevS cs k) c=0)(h2:(chgM u c).2≠0):appM none s s cs t=(o,(chgM u c).2):=by
 rw[h.eq,dropGet hc,appM,if_neg (by simp[he]),if_pos h2]
theorem AppI.step {s u o:Sched}{cs:List Chg}{t:Int}{k:Nat}(h:AppI s cs t k u o){c:Chg}(hc:cs[k]? = some c)(he:chgE (prevS cs k) c=0)(h2:(chgM u c).2=0):AppI s cs t (k+1) (chgM u c).1 (if c.slot≤t then(chgM u c).1 else o):=by
 refine⟨(List.getElem?_eq_some_iff.1 hc).1,?_⟩
 have hp:prevS cs (k+1)=some c.slot:=by simp[prevS,hc]
 rw[h.eq,dropGet hc,appM,if_neg (by simp[he]),if_neg (fun hh=>hh h2),hp]
theorem AppI.fin {s u o:Sched}{cs:List Chg}{t:Int}(h:AppI s cs t cs.length u o):appM none s s cs t=(o,0):=by
 rw[h.eq,List.drop_length];rfl
theorem inv_snoc {α:Type}{p:α→Bool}{l:List α}{k:Nat}{a:α}(h:∀(j:Nat) y,j < k→l[j]? = some y→p y=false)(hk:l[k]? = some a)(ha:p a=false):∀(j:Nat) y,j < k+1→l[j]? = some y→p y=false:=by
 intro j y hj hy
 rcases Nat.lt_succ_iff_lt_or_eq.1 hj with hl|rfl
 ·exact h j y hl hy
 ·rw[hk]at hy;injection hy with hy;rw[←hy];exact ha
end HM
