/- Schedules, masks and places in plain words. -/
import Derived.Test.YtckcedndijobaaaGreatDoorFg
import Derived.Test.YtckcedndijobaaaGreatDoorFh
namespace HM
open Go Go.RowKit
theorem Els.map {α:Type}{sz:Nat}{f:α→AV}(h:∀x,(f x).ncells=sz∧(f x).cells.all AV.isCell=true){l:List α}:Els sz (l.map f):=by
 intro e he
 obtain⟨x,_,rfl⟩:=List.mem_map.1 he
 exact h x
structure Cell where
 slot:Int
 off:Int
 src:Int
 dst:Int
 flow:Int
 deriving DecidableEq
structure Sched where
 len:Int
 offs:Int
 cells:List Cell
def encI (n:Int):AV:=.int .i64 n
def encIs (l:List Int):AV:=.sl false (l.map encI)
def Cell.av (c:Cell):AV:=.agg [.int .i64 c.slot,.int .i64 c.off,.int .i64 c.src,.int .i64 c.dst,.int .i64 c.flow]
def encCells (l:List Cell):AV:=.sl false (l.map Cell.av)
def Sched.av (s:Sched):AV:=.agg [.int .i64 s.len,.int .i64 s.offs,encCells s.cells]
def insB (x n:Int):Bool:=decide (0≤x)&&decide (x < n)
def sizedB (s:Sched):Bool:=decide (1≤s.len)&&decide (s.len≤512)&&decide (1≤s.offs)&&decide (s.offs≤16)
def placedB (s:Sched)(c:Cell):Bool:=insB c.slot s.len&&insB c.off s.offs
def formedB (s:Sched)(c:Cell):Bool:=placedB s c&&insB c.src 32&&insB c.dst 32&&insB c.flow 256
def inB (n lo hi:Int):Bool:=decide (lo≤n)&&decide (n≤hi)
def Cell.nums (c:Cell):List Int:=[c.slot,c.off,c.src,c.dst,c.flow]
def cmpI (x y:Int):Int:=if x < y then -1 else if y < x then 1 else 0
def cmpL:List Int→List Int→Int
 | [],[]=>0
 | [],_ :: _=>-1
 | _ :: _,[]=>1
 | x :: xs,y :: ys=>if cmpI x y=0 then cmpL xs ys else cmpI x y
def lessL:List Int→List Int→Bool
 | x :: xs,y :: ys=>if x=y then lessL xs ys else decide (x < y)
 | _,_=>false
def Cell.cmp (a b:Cell):Int:=cmpL a.nums b.nums
theorem getMap {α:Type}{f:α→AV}{l:List α}{k:Nat}{x:α}(h:l[k]? = some x):(l.map f)[(k:Int).toNat]? = some (f x):=by simp[h]
theorem dropGet {α:Type}{l:List α}{k:Nat}{x:α}(h:l[k]? = some x):l.drop k=x :: l.drop (k+1):=by
 obtain⟨hlt,rfl⟩:=List.getElem?_eq_some_iff.1 h
 exact List.drop_eq_getElem_cons hlt
theorem getLt {α:Type}{l:List α}{k:Nat}(h:k < l.length):∃x,l[k]? = some x:=⟨_,List.getElem?_eq_getElem h⟩
theorem lenLt {α:Type}{f:α→AV}{l:List α}{k:Nat}(h:decide ((k:Int) < ((l.map f).length:Int))=true):k < l.length:=by simpa using h
theorem lenGe {α:Type}{f:α→AV}{l:List α}{k:Nat}(h:decide ((k:Int) < ((l.map f).length:Int))=false):l.length≤k:=by simpa using h
theorem inbMap {α:Type}{f:α→AV}{l:List α}{k:Nat}(h:k < l.length):InB (k:Int) (l.map f).length:=⟨by omega,by simp;omega⟩
theorem eq_of_at {α:Type}{a b:List α}(hl:a.length=b.length)(h:∀(j:Nat) x y,j < a.length→a[j]? = some x→b[j]? = some y→x=y):a=b:=by
 apply List.ext_getElem?
 intro j
 by_cases hj:j < a.length
 ·have e1:a[j]? = some a[j]:=List.getElem?_eq_getElem hj
  have e2:b[j]? = some (b[j]'(by omega)):=List.getElem?_eq_getElem (by omega)
  rw[e1,e2,h j _ _ hj e1 e2]
 ·rw[List.getElem?_eq_none (by omega),List.getElem?_eq_none (by omega)]
theorem succI {k n:Nat}(h:k < n)(hn:n≤281474976710656):IntKind.i64.wrap ((k:Int)+1)=((k+1:Nat):Int):=by rw[w64]<;>omega
def okAt (s:Sched)(i:Nat):Bool:=match s.cells[i]? with
 | some c=>formedB s c&&(match i with
  | 0=>true
  | j+1=>match s.cells[j]? with
   | some p=>decide (p.cmp c < 0)
   | none=>true)
 | none=>true
def formB (s:Sched):Bool:=sizedB s&&decide (s.cells.length≤512)&&(List.range s.cells.length).all (okAt s)
theorem range_all {n:Nat}{f:Nat→Bool}(h:∀j,j < n→f j=true):(List.range n).all f=true:=by
 simp[List.all_eq_true];exact h
theorem range_not {n k:Nat}{f:Nat→Bool}(hk:k < n)(h:f k=false):(List.range n).all f=false:=by
 rw[List.all_eq_false]
 exact⟨k,by simpa using hk,by simp[h]⟩
theorem form_all {s:Sched}(h:formB s=true):sizedB s=true∧s.cells.length≤512∧∀c∈s.cells,formedB s c=true:=by
 simp only[formB,Bool.and_eq_true,decide_eq_true_eq,List.all_eq_true]at h
 refine⟨h.1.1,h.1.2,fun c hc=>?_⟩
 obtain⟨j,hj⟩:=List.getElem?_of_mem hc
 have h2:=h.2 j (by simp;exact(List.getElem?_eq_some_iff.1 hj).1)
 unfold okAt at h2
 rw[hj]at h2
 simp at h2
 exact h2.1
theorem sized_bd {s:Sched}(h:sizedB s=true):1≤s.len∧s.len≤512∧1≤s.offs∧s.offs≤16:=by simp[sizedB]at h;omega
mutual
theorem fz_okk:∀(e:AV) {e':AV} {k m:Nat},fz e=some e'→e'.okk k m
 | .int _ _,_,_,_,h=>by simp[fz]at h;subst h;trivial
 | .bool _,_,_,_,h=>by simp[fz]at h;subst h;trivial
 | .str _,_,_,_,h=>by simp[fz]at h;subst h;trivial
 | .nils,_,_,_,h=>by simp[fz]at h;subst h;trivial
 | .nilp,_,_,_,h=>by simp[fz]at h;subst h;trivial
 | .nili,_,_,_,h=>by simp[fz]at h;subst h;trivial
 | .nilm,_,_,_,h=>by simp[fz]at h;subst h;trivial
 | .sl _ _,_,_,_,h=>by simp[fz]at h;subst h;trivial
 | .own _ _,_,_,_,h=>by simp[fz]at h;subst h;trivial
 | .cptr _ _,_,_,_,h=>by simp[fz]at h;subst h;trivial
 | .cmp _ _ _,_,_,_,h=>by simp[fz]at h;subst h;trivial
 | .fn f caps,e',k,m,h=>by
  simp only[fz,Option.map_eq_some_iff]at h
  obtain⟨x,h1,rfl⟩:=h
  exact fzs_okk' caps h1
 | .agg cs,e',k,m,h=>by
  simp only[fz,Option.map_eq_some_iff]at h
  obtain⟨x,h1,rfl⟩:=h
  exact fzs_okk' cs h1
 | .tup cs,e',k,m,h=>by
  simp only[fz,Option.map_eq_some_iff]at h
  obtain⟨x,h1,rfl⟩:=h
  exact fzs_okk' cs h1
 | .undef,_,_,_,h=>by simp[fz]at h
 | .bsl _ _ _ _,_,_,_,h=>by simp[fz]at h
 | .vsl _ _ _ _,_,_,_,h=>by simp[fz]at h
 | .ptr _ _,_,_,_,h=>by simp[fz]at h
 | .yld _,_,_,_,h=>by simp[fz]at h
 | .mp _,_,_,_,h=>by simp[fz]at h
theorem fzs_okk':∀(es:List AV) {es':List AV} {k m:Nat},fzs es=some es'→okks k m es'
 | [],_,_,_,h=>by simp[fzs]at h;subst h;trivial
 | e :: es,es',k,m,h=>by
  simp only[fzs]at h
  split at h
  ·rename_i a b h1 h2
   simp at h;subst h
   exact⟨fz_okk e h1,fzs_okk' es h2⟩
  ·cases h
end
theorem fzs_okk {es:List AV}{k m:Nat}(h:fzs es=some es):okks k m es:=fzs_okk' es h
def idxF {α:Type}(p:α→Bool)(l:List α):Int:=if l.any p then(l.findIdx p:Int) else -1
theorem idxF_some {α:Type}{p:α→Bool}{l:List α}{k:Nat}{x:α}(hlt:k < l.length)(hinv:∀j y,j < k→l[j]? = some y→p y=false)(hx:l[k]? = some x)(hp:p x=true):idxF p l=(k:Int):=by
 have hany:l.any p=true:=List.any_eq_true.2 ⟨x,List.mem_of_getElem? hx,hp⟩
 have hidx:l.findIdx p=k:=by
  rw[List.findIdx_eq hlt]
  obtain⟨_,rfl⟩:=List.getElem?_eq_some_iff.1 hx
  exact⟨hp,fun j hj=>hinv j _ hj (List.getElem?_eq_getElem (by omega))⟩
 simp[idxF,hany,hidx]
theorem idxF_none {α:Type}{p:α→Bool}{l:List α}(hinv:∀j y,j < l.length→l[j]? = some y→p y=false):idxF p l=-1:=by
 have hany:l.any p=false:=by
  rw[List.any_eq_false]
  intro x hx
  obtain⟨j,hj⟩:=List.getElem?_of_mem hx
  simp[hinv j x (List.getElem?_eq_some_iff.1 hj).1 hj]
 simp[idxF,hany]
theorem idxF_any {α:Type}(p:α→Bool)(l:List α):decide (0≤idxF p l)=l.any p:=by
 unfold idxF
 cases h:l.any p<;>simp
def elsB (sz:Nat):List AV→Bool
 | []=>true
 | e :: es=>Nat.beq e.ncells sz&&e.cells.all AV.isCell&&elsB sz es
theorem Els.of_b {sz:Nat}:∀{es:List AV},elsB sz es=true→Els sz es
 | [],_=>Els.nil _
 | e :: es,h=>by
  simp only[elsB,Bool.and_eq_true]at h
  exact Els.cons (Nat.eq_of_beq_eq_true h.1.1) h.1.2 (Els.of_b h.2)
theorem sI {a b:Prop}(hb:b)(ha:a:=by first|rfl|exact⟨rfl,rfl⟩|exact Or.inl ⟨_,rfl⟩|exact Or.inr rfl|exact le_b rfl|exact Els.of_b rfl|exact Els.map (fun _=>⟨rfl,rfl⟩)|kernel_rfl):a∧b:=⟨ha,hb⟩
theorem sJ {a b:Prop}(hb:b)(ha:a:=by first|rfl|exact⟨rfl,rfl⟩|exact Or.inl ⟨_,rfl⟩|exact Or.inr rfl|exact le_b rfl|exact Els.of_b rfl|exact Els.map (fun _=>⟨rfl,rfl⟩)):a∧b:=⟨ha,hb⟩
theorem sT {a b:Prop}(hb:b)(ha:a:=by first|rfl|exact⟨rfl,rfl⟩|exact Or.inl ⟨_,rfl⟩|exact Or.inr rfl|exact le_b rfl|exact Els.of_b rfl|exact Els.map (fun _=>⟨rfl,rfl⟩)|exact trivial|kernel_rfl):a∧b:=⟨ha,hb⟩
theorem cD {G Q R:Prop}(h:Q)(k:R)(x:Q→R→G:=by intro h k;first|exact CallK.data rfl h rfl k|exact CallP.data rfl h rfl k):G:=x h k
theorem cB {G Q R:Prop}(h:Q)(k:R)(x:Q→R→G:=by intro h k;first|exact CallK.box rfl h rfl rfl k|exact CallP.box rfl h rfl rfl k):G:=x h k
theorem aI {p q:Prop}(hp:p)(hq:q):p∧q:=⟨hp,hq⟩
theorem fN {a:Nat→AV}{S S1:St}{l:List (Nat×AV)}(h:FitB S.bx S1.bx∧FitF S.fr S1.fr∧FitT S.ty S1.ty S1.fr.length∧obsOk S1.bx.length S1.fr.length S1.bx∧FitA S1.bx.length S1.fr.length a l)(h1:S1.n0=S.n0:=by rfl)(h2:S1.m0=S.m0:=by rfl)(h3:Nat.ble S1.n0 S1.bx.length=true:=by rfl)(h4:Nat.ble S1.m0 S1.fr.length=true:=by rfl):Fits a S l S1:=Fits.mk' h1 h2 h3 h4 h.1 h.2.1 h.2.2.1 h.2.2.2.1 h.2.2.2.2
theorem fQ {p:Prop}(h:p:=by first|exact trivial|exact Sees.of_eq rfl|exact lt_b rfl|rfl):p:=h
theorem Wk {p q:Prop}(hq:q)(h:q→p:=by intro h;(repeat((conv=>whnf);refine sI ?_));(try(conv=>whnf));exact h):p:=h hq
open Go Go.RowKit
theorem pow_le62 {n:Nat}(h:n≤62):(2:Int) ^ n≤4611686018427387904:=by
 have:(2:Nat) ^ n≤2 ^ 62:=Nat.pow_le_pow_right (by omega) h
 have h2:((2 ^ n:Nat):Int)≤((2 ^ 62:Nat):Int):=Int.ofNat_le.2 this
 simpa using h2
theorem pow_pos' (n:Nat):(1:Int)≤2 ^ n:=by
 have:0 < (2:Nat) ^ n:=Nat.pos_of_ne_zero (by simp)
 have h2:((1:Nat):Int)≤((2 ^ n:Nat):Int):=Int.ofNat_le.2 this
 simpa using h2
theorem shl1 {n:Int}(h0:0≤n)(h1:n≤62):IntKind.i64.wrap (1*2 ^ (min n.toNat IntKind.i64.bits))=2 ^ n.toNat:=by
 have hb:IntKind.i64.bits=64:=rfl
 have hm:min n.toNat 64=n.toNat:=by omega
 have h2:=pow_le62 (n:=n.toNat) (by omega)
 have h3:=pow_pos' n.toNat
 rw[hb,hm,Int.one_mul,w64 (by omega) (by omega)]
theorem ofInt_toNat {x:Int}(h0:0≤x)(h1:x < 18446744073709551616):(BitVec.ofInt 64 x).toNat=x.toNat:=by
 rw[BitVec.toNat_ofInt]
 have:x % ((2 ^ 64:Nat):Int)=x:=Int.emod_eq_of_lt h0 (by simpa using h1)
 rw[this]
theorem and1 {x:Int}(h0:0≤x)(h1:x≤9223372036854775807):IntKind.i64.wrap ((BitVec.ofInt IntKind.i64.bits x &&& BitVec.ofInt IntKind.i64.bits 1).toNat)=x % 2:=by
 have hb:IntKind.i64.bits=64:=rfl
 rw[hb,BitVec.toNat_and,ofInt_toNat h0 (by omega),ofInt_toNat (by omega) (by omega)]
 rw[show(1:Int).toNat=1 from rfl,Nat.and_one_is_mod]
 rw[w64 (by omega) (by omega)]
 omega
def bitI (m:Int)(k:Nat):Int:=(m / 2 ^ k) % 2
theorem shr_and {m:Int}{k:Nat}(h0:0≤m)(h1:m≤9223372036854775807)(hk:k < 64) :
  IntKind.i64.wrap ((BitVec.ofInt IntKind.i64.bits (m.fdiv (2 ^ (min ((k:Int).toNat) IntKind.i64.bits))) &&& BitVec.ofInt IntKind.i64.bits 1).toNat)=bitI m k:=by
 have hb:IntKind.i64.bits=64:=rfl
 have hm:min ((k:Int).toNat) 64=k:=by omega
 have h3:=pow_pos' k
 have he:m.fdiv (2 ^ k)=m / 2 ^ k:=Int.fdiv_eq_ediv_of_nonneg _ (by omega)
 have h4:0≤m / 2 ^ k:=Int.ediv_nonneg h0 (by omega)
 have h5:m / 2 ^ k≤m:=Int.ediv_le_self _ h0
 rw[show min ((k:Int).toNat) IntKind.i64.bits=k from hm,he]
 exact and1 h4 (by omega)
theorem take_succ {α:Type}{l:List α}{k:Nat}{x:α}(h:l[k]? = some x):l.take (k+1)=l.take k++[x]:=by
 rw[List.take_add_one,h];rfl
open Go Go.RowKit
theorem rowI_okk (k m:Nat):∀l:List Int,okks k m (l.map encI)
 | []=>trivial
 | _ :: l=>⟨trivial,rowI_okk k m l⟩
open Go Go.RowKit
open Go Go.RowKit
def tI:Ty:=.int .i64
def tCell:Ty:=.st [tI,tI,tI,tI,tI]
def tSched:Ty:=.st [tI,tI,.sl tCell]
def I64b (n:Int):Prop:=-9223372036854775808≤n∧n≤9223372036854775807
theorem sh_int {l:List AV}(h:tI.sh l):∃n,l=[.int .i64 n]∧I64b n:=by
 obtain⟨n,rfl,hw⟩:=h
 refine⟨n,rfl,?_⟩
 simp only[Lit.wf,Bool.and_eq_true,decide_eq_true_eq]at hw
 exact hw
theorem sh_cell {l:List AV}(h:tCell.sh l):∃c:Cell,l=[.int .i64 c.slot,.int .i64 c.off,.int .i64 c.src,.int .i64 c.dst,.int .i64 c.flow]:=by
 obtain⟨_,_,rfl,_,h1,_,_,rfl,_,h2,_,_,rfl,_,h3,_,_,rfl,_,h4,_,_,rfl,_,h5,h6⟩:=h
 obtain⟨a,rfl,_⟩:=sh_int h1
 obtain⟨b,rfl,_⟩:=sh_int h2
 obtain⟨c,rfl,_⟩:=sh_int h3
 obtain⟨d,rfl,_⟩:=sh_int h4
 obtain⟨e,rfl,_⟩:=sh_int h5
 obtain rfl:=h6
 exact⟨⟨a,b,c,d,e⟩,rfl⟩
theorem list_of {α:Type}{d:Ty}{f:α→AV}(h:∀l,d.sh l→∃x,d.mk l=f x):∀els:List (List AV),(∀c∈els,d.sh c∧c.length=d.n)→∃xs:List α,els.map d.mk=xs.map f∧xs.length=els.length
 | [],_=>⟨[],rfl,rfl⟩
 | c :: els,hc=>by
  obtain⟨x,hx⟩:=h c (hc c (by simp)).1
  obtain⟨xs,h1,h2⟩:=list_of h els (fun c hm=>hc c (by simp[hm]))
  exact⟨x :: xs,by simp[hx,h1],by simp[h2]⟩
theorem sh_cells {l:List AV}(h:(Ty.sl tCell).sh l):∃cs:List Cell,l=[encCells cs]∧cs.length≤140737488355328:=by
 obtain⟨els,rfl,h1,h2⟩:=h
 obtain⟨cs,h3,h4⟩:=list_of (f:=Cell.av) (fun l hl=>by
  obtain⟨c,rfl⟩:=sh_cell hl
  exact⟨c,rfl⟩) els h1
 exact⟨cs,by rw[h3];rfl,by omega⟩
theorem sh_ints {l:List AV}(h:(Ty.sl tI).sh l):∃f:List Int,l=[encIs f]∧f.length≤140737488355328:=by
 obtain⟨els,rfl,h1,h2⟩:=h
 obtain⟨cs,h3,h4⟩:=list_of (f:=encI) (fun l hl=>by
  obtain⟨c,rfl,_⟩:=sh_int hl
  exact⟨c,rfl⟩) els h1
 exact⟨cs,by rw[h3];rfl,by omega⟩
theorem sh5 {d1 d2 d3 d4 d5:Ty}:∀{es:List AV},shArgs [d1,d2,d3,d4,d5] es→∃l1 l2 l3 l4 l5,es=[d1.mk l1,d2.mk l2,d3.mk l3,d4.mk l4,d5.mk l5]∧d1.sh l1∧d2.sh l2∧d3.sh l3∧d4.sh l4∧d5.sh l5
 | [e1,e2,e3,e4,e5],h=>by
  obtain⟨⟨l1,h1,rfl⟩,⟨l2,h2,rfl⟩,⟨l3,h3,rfl⟩,⟨l4,h4,rfl⟩,⟨l5,h5,rfl⟩,_⟩:=h
  exact⟨l1,l2,l3,l4,l5,rfl,h1,h2,h3,h4,h5⟩
 | [],h=>by simp[shArgs]at h
 | [_],h=>by simp[shArgs]at h
 | [_,_],h=>by simp[shArgs]at h
 | [_,_,_],h=>by simp[shArgs]at h
 | [_,_,_,_],h=>by simp[shArgs]at h
 | _ :: _ :: _ :: _ :: _ :: _ :: _,h=>by simp[shArgs]at h
open Go Go.RowKit
structure Link where
 src:Int
 dst:Int
 loss:Int
 deriving DecidableEq
def Link.av (l:Link):AV:=.agg [.int .i64 l.src,.int .i64 l.dst,.int .i64 l.loss]
def encLinks (l:List Link):AV:=.sl false (l.map Link.av)
structure Net where
 nodes:Int
 power:List (List Int)
 noise:Int
 thr:Int
 links:List Link
 margin:List Int
def encRows (l:List (List Int)):AV:=.sl false (l.map encIs)
def Net.cs (n:Net):List AV:=[.int .i64 n.nodes,encRows n.power,.int .i64 n.noise,.int .i64 n.thr,encLinks n.links,encIs n.margin]
def Net.av (n:Net):AV:=.agg [.int .i64 n.nodes,encRows n.power,.int .i64 n.noise,.int .i64 n.thr,encLinks n.links,encIs n.margin]
structure Flow where
 id:Int
 src:Int
 dst:Int
 period:Int
 phase:Int
 dead:Int
 deriving DecidableEq
def Flow.av (f:Flow):AV:=.agg [.int .i64 f.id,.int .i64 f.src,.int .i64 f.dst,.int .i64 f.period,.int .i64 f.phase,.int .i64 f.dead]
def encFlows (l:List Flow):AV:=.sl false (l.map Flow.av)
def firstE (f:Nat→Int):Nat→Int
 | 0=>0
 | k+1=>if firstE f k=0 then f k else firstE f k
theorem firstE_zero {f:Nat→Int}:∀{n:Nat},(∀j,j < n→f j=0)→firstE f n=0
 | 0,_=>rfl
 | n+1,h=>by rw[firstE,firstE_zero fun j hj=>h j (by omega),if_pos rfl];exact h n (by omega)
theorem firstE_hit {f:Nat→Int}{k:Nat}(h0:∀j,j < k→f j=0)(he:f k≠0):∀{n:Nat},k < n→firstE f n=f k
 | 0,h=>by omega
 | n+1,h=>by
  rw[firstE]
  by_cases e:k=n
  ·subst e;rw[firstE_zero h0,if_pos rfl]
  ·rw[firstE_hit h0 he (n:=n) (by omega),if_neg he]
theorem firstE_spec {f:Nat→Int}:∀{n:Nat},firstE f n=0↔∀j,j < n→f j=0
 | 0=>by simp[firstE]
 | n+1=>by
  rw[firstE]
  constructor
  ·intro h j hj
   by_cases h0:firstE f n=0
   ·rw[if_pos h0]at h
    rcases Nat.lt_succ_iff_lt_or_eq.1 hj with hl|rfl
    ·exact firstE_spec.1 h0 j hl
    ·exact h
   ·rw[if_neg h0]at h;exact absurd h h0
  ·intro h
   rw[if_pos (firstE_spec.2 fun j hj=>h j (by omega))]
   exact h n (by omega)
def Link.key (l:Link):List Int:=[l.src,l.dst]
def Link.cmp (a b:Link):Int:=cmpL a.key b.key
def powAt (n:Net)(a b:Int):Int:=(n.power.getD a.toNat []).getD b.toNat 0
def badP (x:Int):Bool:=decide (x < 0)||decide (68719476736 < x)
def powerE (n:Net):Int:=
 if (n.power.length:Int)≠n.nodes∨n.power.any (fun r=>(r.length:Int) != n.nodes) then 1
 else if n.power.any (fun r=>r.any badP) then 2 else 0
def linkR (n:Net)(l:Link):Bool:=insB l.src n.nodes&&insB l.dst n.nodes&&decide (l.src≠l.dst)&&decide (0≤l.loss)&&decide (l.loss≤7)
def linkO (n:Net)(i:Nat)(l:Link):Bool:=match i with
 | 0=>true
 | j+1=>match n.links[j]? with
  | some p=>decide (p.cmp l < 0)
  | none=>true
def linkE (n:Net)(i:Nat):Int:=match n.links[i]? with
 | none=>0
 | some l=>if linkR n l=false then 2 else if linkO n i l=false then 5
  else if n.margin.getD i 0 < 0∨powAt n l.src l.dst < n.margin.getD i 0 then 2 else 0
def netE (n:Net):Int:=
 if n.nodes < 2∨32 < n.nodes then 2
 else if powerE n≠0 then powerE n
 else if n.noise < 0∨68719476736 < n.noise∨n.thr < 1000∨100000 < n.thr then 2
 else if 128 < n.links.length then 8
 else if n.margin.length≠n.links.length then 11
 else firstE (linkE n) n.links.length
structure NetOk (n:Net):Prop where
 nodes:2≤n.nodes∧n.nodes≤32
 rows:(n.power.length:Int)=n.nodes
 row:∀r∈n.power,(r.length:Int)=n.nodes
 pow:∀r∈n.power,∀x∈r,0≤x∧x≤68719476736
 noise:0≤n.noise∧n.noise≤68719476736
 thr:1000≤n.thr∧n.thr≤100000
 many:n.links.length≤128
 mar:n.margin.length=n.links.length
 link:∀i l,n.links[i]? = some l→linkR n l=true∧linkO n i l=true∧0≤n.margin.getD i 0∧n.margin.getD i 0≤powAt n l.src l.dst
theorem powerE_ok {n:Net}(h:powerE n=0):(n.power.length:Int)=n.nodes∧(∀r∈n.power,(r.length:Int)=n.nodes)∧∀r∈n.power,∀x∈r,0≤x∧x≤68719476736:=by
 unfold powerE at h
 split at h
 ·cases h
 ·rename_i h1
  split at h
  ·cases h
  ·rename_i h2
   simp only[not_or,ne_eq,Decidable.not_not,Bool.not_eq_true,List.any_eq_false,bne_iff_ne]at h1 h2
   refine⟨h1.1,h1.2,fun r hr x hx=>?_⟩
   have:=h2 r hr x hx
   simp[badP]at this
   omega
theorem powAt_bd {n:Net}(h:∀r∈n.power,∀x∈r,0≤x∧x≤68719476736)(a b:Int):0≤powAt n a b∧powAt n a b≤68719476736:=by
 unfold powAt
 rw[List.getD_eq_getElem?_getD,List.getD_eq_getElem?_getD]
 cases h1:n.power[a.toNat]? with
 | none=>simp
 | some r=>
  simp only[Option.getD_some]
  cases h2:r[b.toNat]? with
  | none=>simp
  | some x=>exact h r (List.mem_of_getElem? h1) x (List.mem_of_getElem? h2)
theorem netE_ok {n:Net}(h:netE n=0):NetOk n:=by
 unfold netE at h
 split at h
 ·cases h
 split at h
 ·contradiction
 split at h
 ·cases h
 split at h
 ·cases h
 split at h
 ·cases h
 rename_i h1 h2 h3 h4 h5
 obtain⟨p1,p2,p3⟩:=powerE_ok (Decidable.not_not.1 h2)
 refine⟨by omega,p1,p2,p3,by omega,by omega,by omega,by omega,fun i l hl=>?_⟩
 have hi:=(List.getElem?_eq_some_iff.1 hl).1
 have:=firstE_spec.1 h i hi
 unfold linkE at this
 rw[hl]at this
 simp only at this
 split at this
 ·cases this
 split at this
 ·cases this
 split at this
 ·cases this
 rename_i g1 g2 g3
 exact⟨by simpa using g1,by simpa using g2,by omega,by omega⟩
theorem linkR_bd {n:Net}{l:Link}(h:linkR n l=true):0≤l.src∧l.src < n.nodes∧0≤l.dst∧l.dst < n.nodes∧l.src≠l.dst∧0≤l.loss∧l.loss≤7:=by
 simp[linkR,insB]at h;omega
theorem cmpI_lt {x y:Int}:cmpI x y < 0↔x < y:=by
 unfold cmpI
 by_cases h:x < y
 ·simp[h]
 ·by_cases h2:y < x<;>simp[h,h2]
theorem cmpI_eq {x y:Int}:cmpI x y=0↔x=y:=by
 unfold cmpI
 by_cases h:x < y
 ·simp[h];omega
 ·by_cases h2:y < x
  ·simp[h,h2];omega
  ·simp[h,h2];omega
theorem cmpI_bd (x y:Int):-1≤cmpI x y∧cmpI x y≤1:=by
 unfold cmpI
 by_cases h:x < y
 ·simp[h]
 ·by_cases h2:y < x<;>simp[h,h2]
theorem cmpL_bd:∀(xs ys:List Int),-1≤cmpL xs ys∧cmpL xs ys≤1
 | [],[]=>by simp[cmpL]
 | [],_ :: _=>by simp[cmpL]
 | _ :: _,[]=>by simp[cmpL]
 | x :: xs,y :: ys=>by
  unfold cmpL
  split
  ·exact cmpL_bd xs ys
  ·exact cmpI_bd x y
theorem cmpL_eq:∀{xs ys:List Int},cmpL xs ys=0↔xs=ys
 | [],[]=>by simp[cmpL]
 | [],_ :: _=>by simp[cmpL]
 | _ :: _,[]=>by simp[cmpL]
 | x :: xs,y :: ys=>by
  unfold cmpL
  split
  ·rename_i h
   rw[cmpI_eq]at h
   simp[h,cmpL_eq (xs:=xs) (ys:=ys)]
  ·rename_i h
   have h2:x≠y:=fun e=>h (cmpI_eq.2 e)
   simp[h,h2]
theorem cmpL_trans:∀{xs ys zs:List Int},cmpL xs ys < 0→cmpL ys zs < 0→cmpL xs zs < 0
 | [],[],_,h,_=>by simp[cmpL]at h
 | [],_ :: _,[],_,h=>by simp[cmpL]at h
 | [],_ :: _,_ :: _,_,_=>by simp[cmpL]
 | _ :: _,[],_,h,_=>by simp[cmpL]at h
 | _ :: _,_ :: _,[],_,h=>by simp[cmpL]at h
 | x :: xs,y :: ys,z :: zs,h1,h2=>by
  unfold cmpL at h1 h2 ⊢
  split at h1
  ·rename_i e1
   rw[cmpI_eq]at e1;subst e1
   split at h2
   ·rename_i e2
    rw[if_pos e2];exact cmpL_trans h1 h2
   ·rename_i e2
    rw[if_neg e2];exact h2
  ·rename_i e1
   rw[cmpI_lt]at h1
   split at h2
   ·rename_i e2
    rw[cmpI_eq]at e2;subst e2
    rw[if_neg (fun e=>by rw[cmpI_eq]at e;omega),cmpI_lt];exact h1
   ·rename_i e2
    rw[cmpI_lt]at h2
    rw[if_neg (fun e=>by rw[cmpI_eq]at e;omega),cmpI_lt];omega
theorem cmpL_anti:∀{xs ys:List Int},cmpL xs ys < 0↔0 < cmpL ys xs
 | [],[]=>by simp[cmpL]
 | [],_ :: _=>by simp[cmpL]
 | _ :: _,[]=>by simp[cmpL]
 | x :: xs,y :: ys=>by
  unfold cmpL
  by_cases e:x=y
  ·subst e
   rw[if_pos (cmpI_eq.2 rfl),if_pos (cmpI_eq.2 rfl)];exact cmpL_anti
  ·rw[if_neg (fun h=>e (cmpI_eq.1 h)),if_neg (fun h=>e (cmpI_eq.1 h).symm)]
   unfold cmpI
   by_cases h1:x < y
   ·have h2:¬y < x:=by omega
    simp[h1,h2]
   ·have h2:y < x:=by omega
    simp[h1,h2]
def Sorted {α:Type}(c:α→α→Int)(l:List α):Prop:=∀(i j:Nat) (x y:α),i < j→l[i]? = some x→l[j]? = some y→c x y < 0
theorem sorted_of_next {α:Type}{key:α→List Int}{l:List α}(h:∀(j:Nat) (p x:α),l[j]? = some p→l[j+1]? = some x→cmpL (key p) (key x) < 0):Sorted (fun a b=>cmpL (key a) (key b)) l:=by
 intro i j x y hij hx hy
 induction j generalizing y with
 | zero=>omega
 | succ j ih=>
  have hlt:=(List.getElem?_eq_some_iff.1 hy).1
  have hj:l[j]? = some l[j]:=List.getElem?_eq_getElem (by omega)
  rcases Nat.lt_succ_iff_lt_or_eq.1 hij with h1|rfl
  ·exact cmpL_trans (ih _ h1 hj) (h j _ y hj hy)
  ·rw[hx]at hj;injection hj with hj
   exact h i x y hx hy
def posB {α:Type}(c:α→Int)(l:List α):Nat:=(l.takeWhile fun x=>decide (c x < 0)).length
def hasB {α:Type}(c:α→Int)(l:List α):Bool:=match l[posB c l]? with
 | some x=>c x==0
 | none=>false
def Mono {α:Type}(c:α→Int)(l:List α):Prop:=∀(i j:Nat) (x y:α),i < j→l[i]? = some x→l[j]? = some y→c y < 0→c x < 0
theorem posB_lt {α:Type}{c:α→Int}:∀{l:List α} {i:Nat} {x:α},i < posB c l→l[i]? = some x→c x < 0
 | [],_,_,h,_=>by simp[posB]at h
 | a :: l,i,x,h,hx=>by
  unfold posB at h
  rw[List.takeWhile_cons]at h
  split at h
  ·rename_i ha
   cases i with
   | zero=>simp at hx;subst hx;simpa using ha
   | succ i=>exact posB_lt (l:=l) (by simpa[posB] using h) (by simpa using hx)
  ·simp at h
theorem posB_ge {α:Type}{c:α→Int}:∀{l:List α} {x:α},l[posB c l]? = some x→¬c x < 0
 | [],_,h=>by simp[posB]at h
 | a :: l,x,h=>by
  unfold posB at h
  rw[List.takeWhile_cons]at h
  split at h
  ·exact posB_ge (l:=l) (by simpa[posB] using h)
  ·rename_i ha
   simp at h;subst h
   simpa using ha
theorem posB_le {α:Type}(c:α→Int):∀l:List α,posB c l≤l.length
 | []=>by simp[posB]
 | a :: l=>by
  unfold posB
  rw[List.takeWhile_cons]
  split
  ·simpa[posB] using posB_le c l
  ·simp
theorem posB_uniq {α:Type}{c:α→Int}{l:List α}{p:Nat}(hp:p≤l.length)(h1:∀i x,i < p→l[i]? = some x→c x < 0)(h2:∀x,l[p]? = some x→¬c x < 0):posB c l=p:=by
 rcases Nat.lt_trichotomy (posB c l) p with h|h|h
 ·have hlt:posB c l < l.length:=by omega
  exact absurd (h1 _ _ h (List.getElem?_eq_getElem hlt)) (posB_ge (List.getElem?_eq_getElem hlt))
 ·exact h
 ·have hlt:p < l.length:=by have:=posB_le c l;omega
  exact absurd (posB_lt h (List.getElem?_eq_getElem hlt)) (h2 _ (List.getElem?_eq_getElem hlt))
def isL (a b:Int)(l:Link):Bool:=l.src==a&&l.dst==b
def findL (n:Net)(a b:Int):Int:=idxF (isL a b) n.links
def lossL (n:Net)(a b:Int):Int:=match n.links[(findL n a b).toNat]? with
 | some l=>l.loss
 | none=>0
def cmpTo (a b:Int)(l:Link):Int:=cmpL l.key [a,b]
theorem cmpTo_eq {a b:Int}{l:Link}:cmpTo a b l=0↔isL a b l=true:=by
 unfold cmpTo Link.key isL
 rw[cmpL_eq];simp
theorem NetOk.sorted {n:Net}(h:NetOk n):Sorted Link.cmp n.links:=by
 refine sorted_of_next (key:=Link.key) fun j p x hp hx=>?_
 have:=(h.link (j+1) x hx).2.1
 unfold linkO at this
 simp only[hp]at this
 exact of_decide_eq_true this
theorem NetOk.mono {n:Net}(h:NetOk n)(a b:Int):Mono (cmpTo a b) n.links:=fun i j x y hij hx hy hc=>cmpL_trans (h.sorted i j x y hij hx hy) hc
theorem idxF_at {α:Type}{p:α→Bool}{l:List α}(h:idxF p l ≠ -1):∃(k:Nat) (x:α),idxF p l=k∧l[k]? = some x∧p x=true:=by
 unfold idxF at h ⊢
 cases ha:l.any p with
 | false=>simp[ha]at h
 | true=>
  simp only[if_true]
  have hlt:l.findIdx p < l.length:=List.findIdx_lt_length_of_exists (by simpa[List.any_eq_true] using ha)
  exact⟨_,l[l.findIdx p],rfl,List.getElem?_eq_getElem hlt,List.findIdx_getElem⟩
theorem find_half {n:Net}(h:NetOk n)(a b:Int):(if hasB (cmpTo a b) n.links then(posB (cmpTo a b) n.links:Int) else -1)=findL n a b:=by
 have hs:=h.mono a b
 unfold findL hasB
 cases hp:n.links[posB (cmpTo a b) n.links]? with
 | none=>
  simp only[Bool.false_eq_true,if_false]
  symm
  refine idxF_none fun j y hj hy=>?_
  have:¬posB (cmpTo a b) n.links < n.links.length:=fun hh=>by rw[List.getElem?_eq_getElem hh]at hp;cases hp
  have h1:=posB_lt (c:=cmpTo a b) (l:=n.links) (i:=j) (by omega) hy
  cases e:isL a b y with
  | false=>rfl
  | true=>rw[cmpTo_eq.2 e]at h1;omega
 | some x=>
  simp only
  by_cases e:cmpTo a b x=0
  ·rw[if_pos (by simpa using e)]
   symm
   have hlt:=(List.getElem?_eq_some_iff.1 hp).1
   refine idxF_some hlt (fun j y hj hy=>?_) hp (cmpTo_eq.1 e)
   have h1:=posB_lt hj hy
   cases e2:isL a b y with
   | false=>rfl
   | true=>rw[cmpTo_eq.2 e2]at h1;omega
  ·rw[if_neg (by simpa using e)]
   symm
   refine idxF_none fun j y hj hy=>?_
   cases e2:isL a b y with
   | false=>rfl
   | true=>
    have h0:=cmpTo_eq.2 e2
    have hx:=posB_ge hp
    rcases Nat.lt_trichotomy j (posB (cmpTo a b) n.links) with hlt|rfl|hgt
    ·have:=posB_lt hlt hy;omega
    ·rw[hp]at hy;injection hy with hy;subst hy;exact absurd h0 e
    ·have h2:=h.sorted _ _ x y hgt hp hy
     have h3:y.key=[a,b]:=cmpL_eq.1 h0
     unfold Link.cmp at h2
     rw[h3]at h2
     exact absurd h2 hx
def heardB (n:Net)(s d:Int):Bool:=decide (n.thr*(n.noise+d)≤s*1000)
def heardAt (n:Net)(i:Int):Bool:=heardB n (n.margin.getD i.toNat 0) 0
def goodL (n:Net)(a b:Int):Bool:=decide (0≤findL n a b)&&decide (0≤findL n b a)&&heardAt n (findL n a b)&&heardAt n (findL n b a)
def usableL (n:Net)(i:Int):Bool:=match n.links[i.toNat]? with
 | some l=>decide (0≤findL n l.dst l.src)&&heardAt n i&&heardAt n (findL n l.dst l.src)
 | none=>false
def usableN (n:Net)(i:Int):Bool:=decide (netE n=0)&&insB i n.links.length&&usableL n i
def indexN (n:Net)(a b:Int):Int:=if netE n=0 then findL n a b else -1
theorem findL_at {n:Net}{a b:Int}(h:0≤findL n a b):∃(k:Nat) (l:Link),findL n a b=k∧n.links[k]? = some l∧l.src=a∧l.dst=b:=by
 obtain⟨k,l,h1,h2,h3⟩:=idxF_at (p:=isL a b) (l:=n.links) (by unfold findL at h;omega)
 simp[isL]at h3
 exact⟨k,l,h1,h2,h3.1,h3.2⟩
theorem findL_bd (n:Net)(a b:Int):-1≤findL n a b∧findL n a b < n.links.length:=by
 unfold findL idxF
 split
 ·rename_i h
  have:n.links.findIdx (isL a b) < n.links.length:=List.findIdx_lt_length_of_exists (by simpa[List.any_eq_true] using h)
  omega
 ·omega
theorem usable_index {n:Net}(h:netE n=0)(a b:Int):usableN n (indexN n a b)=goodL n a b:=by
 unfold usableN indexN goodL
 rw[if_pos h]
 have hb:=findL_bd n a b
 by_cases h0:0≤findL n a b
 ·obtain⟨k,l,h1,h2,h3,h4⟩:=findL_at h0
  have hins:insB (findL n a b) n.links.length=true:=by simp[insB];omega
  rw[hins]
  unfold usableL
  rw[h1,Int.toNat_natCast,h2]
  simp only[h3,h4,h,decide_true,Bool.true_and]
  simp[Bool.and_comm]
 ·have:insB (findL n a b) n.links.length=false:=by simp[insB,h0]
  simp[this,h0]
def flowE (nodes:Int)(f:Flow):Int:=
 if f.id < 0∨255 < f.id∨insB f.src nodes=false∨insB f.dst nodes=false then 2
 else if f.period < 1∨512 < f.period∨f.phase < 0∨f.period≤f.phase∨f.dead < 1∨f.period < f.dead then 2
 else if f.src=f.dst then 1 else 0
def flowO (l:List Flow)(i:Nat)(f:Flow):Bool:=match i with
 | 0=>true
 | j+1=>match l[j]? with
  | some p=>decide (p.id < f.id)
  | none=>true
def flowAt (nodes:Int)(l:List Flow)(i:Nat):Int:=match l[i]? with
 | none=>0
 | some f=>if flowE nodes f≠0 then flowE nodes f else if flowO l i f=false then 5 else 0
def firstAt (f:Nat→Int)(n:Nat):Int×Int:=match (List.range n).find? (fun i=>f i != 0) with
 | some i=>(i,f i)
 | none=>(-1,0)
theorem firstAt_hit {f:Nat→Int}{n k:Nat}(h0:∀j,j < k→f j=0)(he:f k≠0)(hk:k < n):firstAt f n=((k:Int),f k):=by
 unfold firstAt
 have:(List.range n).find? (fun i=>f i != 0)=some k:=by
  rw[List.find?_range_eq_some]
  exact⟨by simpa using he,by simpa using hk,fun j hj=>by simp[h0 j hj]⟩
 rw[this]
theorem firstAt_zero {f:Nat→Int}{n:Nat}(h0:∀j,j < n→f j=0):firstAt f n=(-1,0):=by
 unfold firstAt
 have:(List.range n).find? (fun i=>f i != 0)=none:=by
  rw[List.find?_eq_none]
  intro j hj
  simp[h0 j (by simpa using hj)]
 rw[this]
theorem firstAt_ok {f:Nat→Int}{n:Nat}:(firstAt f n).2=0↔∀j,j < n→f j=0:=by
 unfold firstAt
 cases h:(List.range n).find? (fun i=>f i != 0) with
 | none=>
  simp only[true_iff]
  rw[List.find?_eq_none]at h
  intro j hj
  simpa using h j (by simpa using hj)
 | some i=>
  rw[List.find?_range_eq_some]at h
  simp only
  constructor
  ·intro h2;simp[h2]at h
  ·intro h2;exact h2 i (by simpa using h.2.1)
def flowsE (nodes:Int)(l:List Flow):Int×Int:=
 if nodes < 2∨32 < nodes then(-1,2) else if 16 < l.length then(-1,8) else firstAt (flowAt nodes l) l.length
theorem flowE_ok {nodes:Int}{f:Flow}(h:flowE nodes f=0):0≤f.id∧f.id≤255∧0≤f.src∧f.src < nodes∧0≤f.dst∧f.dst < nodes∧1≤f.period∧f.period≤512∧0≤f.phase∧f.phase < f.period∧1≤f.dead∧f.dead≤f.period∧f.src≠f.dst:=by
 unfold flowE at h
 split at h
 ·cases h
 split at h
 ·cases h
 split at h
 ·cases h
 rename_i h1 h2 h3
 simp[insB]at h1 h2
 omega
def endsE (n:Net)(a b:Int):Int:=if netE n≠0 then 1 else if insB a n.nodes=false∨insB b n.nodes=false∨a=b then 2 else 0
def dupAt (r:List Int)(i:Nat):Bool:=match r[i]? with
 | some a=>(r.take i).any (·==a)
 | none=>false
def hopOk (n:Net)(r:List Int)(i:Nat):Bool:=goodL n (r.getD i 0) (r.getD (i+1) 0)
def routeF (n:Net)(a b:Int)(r:List Int):Int:=
 if r.length < 2 then 9 else if 9 < r.length then 8
 else if r.any (fun x=>!insB x n.nodes) then 2
 else if r.getD 0 0≠a∨r.getD (r.length-1) 0≠b then 11
 else if (List.range r.length).any (dupAt r) then 6
 else if (List.range (r.length-1)).all (hopOk n r) then 0 else 17
def routeE (n:Net)(a b:Int)(r:List Int):Int:=if endsE n a b≠0 then endsE n a b else routeF n a b r
theorem link_find {n:Net}(h:NetOk n){i:Nat}{l:Link}(hl:n.links[i]? = some l):findL n l.src l.dst=i:=by
 refine idxF_some (List.getElem?_eq_some_iff.1 hl).1 (fun j y hj hy=>?_) hl (by simp[isL])
 have:=h.sorted j i y l hj hy hl
 cases hc:isL l.src l.dst y with
 | false=>rfl
 | true=>
  simp[isL]at hc
  have e:y.key=l.key:=by simp[Link.key,hc.1,hc.2]
  unfold Link.cmp at this
  rw[e,cmpL_eq.2 rfl]at this
  exact absurd this (by decide)
theorem link_loss {n:Net}(h:NetOk n){i:Nat}{l:Link}(hl:n.links[i]? = some l):lossL n l.src l.dst=l.loss:=by
 unfold lossL
 rw[link_find h hl,Int.toNat_natCast,hl]
theorem strict_ext {α:Type}{lt:α→α→Prop}(irr:∀a,¬lt a a)(asy:∀a b,lt a b→¬lt b a):∀{l m:List α},l.Pairwise lt→m.Pairwise lt→(∀x,x∈l↔x∈m)→l=m
 | [],[],_,_,_=>rfl
 | [],y :: m,_,_,h=>absurd ((h y).2 (by simp)) (by simp)
 | x :: l,[],_,_,h=>absurd ((h x).1 (by simp)) (by simp)
 | x :: l,y :: m,h1,h2,h=>by
  obtain⟨a1,a2⟩:=List.pairwise_cons.1 h1
  obtain⟨b1,b2⟩:=List.pairwise_cons.1 h2
  have e:x=y:=by
   rcases List.mem_cons.1 ((h x).1 (by simp)) with e|hx
   ·exact e
   rcases List.mem_cons.1 ((h y).2 (by simp)) with e|hy
   ·exact e.symm
   exact absurd (a1 y hy) (asy _ _ (b1 x hx))
  subst e
  rw[strict_ext irr asy a2 b2 fun z=>?_]
  constructor
  ·intro hz
   rcases List.mem_cons.1 ((h z).1 (by simp[hz])) with rfl|h'
   ·exact absurd (a1 z hz) (irr z)
   ·exact h'
  ·intro hz
   rcases List.mem_cons.1 ((h z).2 (by simp[hz])) with rfl|h'
   ·exact absurd (b1 z hz) (irr z)
   ·exact h'
open Go Go.RowKit
structure EncOk {α:Type}(enc:α→AV)(sz:Nat):Prop where
 agg:∀x,enc x=.agg (enc x).cells
 len:∀x,(enc x).cells.length=sz
 fz:∀x,fzs (enc x).cells=some (enc x).cells
 cell:∀x,(enc x).cells.all AV.isCell=true
 two:2≤sz
theorem scalars_append:∀a b:List AV,scalars (a++b)=(scalars a&&scalars b)
 | [],b=>by simp[scalars]
 | x :: a,b=>by simp[scalars,scalars_append a b,Bool.and_assoc]
section
variable {α:Type} {enc:α→AV} {sz:Nat}
theorem EncOk.els (h:EncOk enc sz)(l:List α):Els sz (l.map enc):=Els.map fun x=>⟨h.len x,h.cell x⟩
theorem EncOk.scal (h:EncOk enc sz)(hs:∀x,scalars (enc x).cells=true):∀l:List α,scalars (flatE (l.map enc))=true
 | []=>rfl
 | x :: l=>by
  have:=EncOk.scal h hs l
  simp only[flatE,List.map_cons,List.flatMap_cons,scalars_append]at this ⊢
  rw[hs x,this];rfl
theorem EncOk.flen (h:EncOk enc sz)(l:List α):(flatE (l.map enc)).length=l.length*sz:=by
 have:=flatE_len (sz:=sz) (es:=l.map enc) (by
  intro e he
  obtain⟨x,_,rfl⟩:=List.mem_map.1 he
  exact h.len x)
 simpa using this
theorem EncOk.ld (h:EncOk enc sz):∀{l:List α} {k:Nat} {x:α} (ex:List AV),l[k]? = some x→((flatE (l.map enc)++ex).drop (k*sz)).take sz=(enc x).cells
 | [],_,_,_,hk=>by simp at hk
 | y :: l,0,x,ex,hk=>by
  simp at hk;subst hk
  simp only[flatE,List.map_cons,List.flatMap_cons,Nat.zero_mul,List.drop_zero,List.append_assoc]
  rw[←h.len y];simp
 | y :: l,k+1,x,ex,hk=>by
  have:=EncOk.ld h (l:=l) ex (by simpa using hk)
  simp only[flatE,List.map_cons,List.flatMap_cons,List.append_assoc]at this ⊢
  rw[Nat.add_mul,Nat.one_mul,Nat.add_comm,←List.drop_drop]
  have e:((enc y).cells++(List.flatMap AV.cells (l.map enc)++ex)).drop sz=List.flatMap AV.cells (l.map enc)++ex:=by
   rw[←h.len y];simp
  rw[e];exact this
theorem EncOk.ldr (h:EncOk enc sz){l:List α}{k:Nat}{x:α}(ex:List AV)(hk:l[k]? = some x)(n n':Nat)(hn:n=sz)(hn':n'=sz):((flatE (l.map enc)++ex).drop (0+(k:Int).toNat*n)).take n'=(enc x).cells:=by
 subst hn;subst hn';rw[Nat.zero_add,Int.toNat_natCast];exact h.ld ex hk
theorem EncOk.ldc (h:EncOk enc sz){l:List α}{k:Nat}{x:α}(ex:List AV)(hk:l[k]? = some x)(j:Nat)(hj:j < sz):(flatE (l.map enc)++ex)[k*sz+j]? = (enc x).cells[j]?:=by
 have:=congrArg (·[j]?) (h.ld ex hk)
 simp only[List.getElem?_take,hj,if_true,List.getElem?_drop]at this
 exact this
theorem splice_append_left:∀(a b c:List AV) (n:Nat),splice (a++b) (a.length+n) c=a++splice b n c
 | [],b,c,n=>by simp
 | x :: a,b,c,n=>by
  rw[List.cons_append,List.length_cons,show a.length+1+n=(a.length+n)+1 by omega,splice,splice_append_left a b c n,List.cons_append]
theorem splice_head:∀(a b c:List AV),c.length=a.length→splice (a++b) 0 c=c++b
 | [],b,[],_=>by simp[splice_nil]
 | [],_,_ :: _,h=>by simp at h
 | _ :: _,_,[],h=>by simp at h
 | x :: a,b,y :: c,h=>by
  have:=splice_head a b c (by simpa using h)
  simp only[List.cons_append,splice,this]
theorem EncOk.st (h:EncOk enc sz)(v:α)(ex:List AV):∀{l:List α} {k:Nat},k < l.length→splice (flatE (l.map enc)++ex) (k*sz) (enc v).cells=flatE ((l.set k v).map enc)++ex
 | [],_,hk=>by simp at hk
 | y :: l,0,_=>by
  simp only[flatE,List.map_cons,List.flatMap_cons,Nat.zero_mul,List.set_cons_zero,List.append_assoc]
  exact splice_head _ _ _ (by rw[h.len,h.len])
 | y :: l,k+1,hk=>by
  have:=EncOk.st h v ex (l:=l) (k:=k) (by simpa using hk)
  simp only[flatE,List.map_cons,List.flatMap_cons,List.set_cons_succ,List.append_assoc]at this ⊢
  rw[Nat.add_mul,Nat.one_mul,Nat.add_comm]
  have e:=splice_append_left (enc y).cells (List.flatMap AV.cells (l.map enc)++ex) (enc v).cells (k*sz)
  rw[h.len y]at e
  rw[e,this]
theorem fzs_append:∀{a b a' b':List AV},fzs a=some a'→fzs b=some b'→fzs (a++b)=some (a'++b')
 | [],_,a',_,h,hb=>by simp[fzs]at h;subst h;simpa using hb
 | x :: a,b,a',b',h,hb=>by
  simp only[fzs]at h
  split at h
  ·rename_i y ys h1 h2
   simp at h;subst h
   simp only[List.cons_append,fzs,h1,fzs_append h2 hb]
  ·cases h
theorem EncOk.fzf (h:EncOk enc sz):∀l:List α,fzs (flatE (l.map enc))=some (flatE (l.map enc))
 | []=>rfl
 | x :: l=>by
  have:=EncOk.fzf h l
  simp only[flatE,List.map_cons,List.flatMap_cons]at this ⊢
  exact fzs_append (h.fz x) this
theorem EncOk.chunk (h:EncOk enc sz):∀l:List α,chunkA sz l.length (flatE (l.map enc))=l.map enc
 | []=>rfl
 | x :: l=>by
  have:=EncOk.chunk h l
  simp only[flatE,List.map_cons,List.flatMap_cons,List.length_cons,chunkA]at this ⊢
  rw[show((enc x).cells++List.flatMap AV.cells (l.map enc)).take sz=(enc x).cells from by rw[←h.len x];simp,show((enc x).cells++List.flatMap AV.cells (l.map enc)).drop sz=List.flatMap AV.cells (l.map enc) from by rw[←h.len x];simp,this,←h.agg x]
theorem EncOk.fzb (h:EncOk enc sz){S:St}{id n:Nat}{l:List α}{ex:List AV}{t:TypeId}(hb:S.bx[id]? = some (.cells (flatE (l.map enc)++ex) t))(hn:l.length=n):HM.fzb S (.vsl id 0 n sz)=some (.sl false (l.map enc)):=by
 subst hn
 have h2:=h.two
 have hfl:=h.flen l
 have htake:((flatE (l.map enc)++ex).drop 0).take (l.length*sz)=flatE (l.map enc):=by rw[List.drop_zero,←hfl];exact List.take_left
 simp only[HM.fzb,hb]
 rw[if_pos ⟨by rw[List.length_append,hfl,Nat.zero_add];exact Nat.le_add_right _ _,by omega⟩,htake,h.fzf l]
 simp only[Option.bind_some]
 have hne:¬sz=1:=by omega
 rw[if_pos (flatE_cell (h.els l)),if_neg hne,h.chunk l]
theorem EncOk.fit (h:EncOk enc sz){l:List α}(ex:List AV){k:Nat}(hk:k < l.length):k*sz+sz≤(flatE (l.map enc)++ex).length:=by
 rw[List.length_append,h.flen,←Nat.succ_mul]
 exact Nat.le_trans (Nat.mul_le_mul_right _ hk) (Nat.le_add_right _ _)
theorem EncOk.okk (h:EncOk enc sz)(k m:Nat)(l:List α):okks k m (flatE (l.map enc)):=fzs_okk (h.fzf l)
theorem okks_append {k m:Nat}:∀{a b:List AV},okks k m a→okks k m b→okks k m (a++b)
 | [],_,_,h=>h
 | _ :: _,_,h,h'=>⟨h.1,okks_append h.2 h'⟩
theorem okks_undef (k m:Nat):∀n,okks k m (List.replicate n .undef)
 | 0=>trivial
 | n+1=>⟨trivial,okks_undef k m n⟩
theorem EncOk.clr (h:EncOk enc sz)(l:List α){k:Nat}(ex:List AV)(zs:List AV)(hk:k≤l.length)(hz:zs.length=sz):splice (flatE (l.map enc)++ex) (k*sz) (repL (l.length-k) zs)=flatE ((l.take k).map enc)++(repL (l.length-k) zs++ex):=by
 have e1:flatE (l.map enc)=flatE ((l.take k).map enc)++flatE ((l.drop k).map enc):=by
  conv=>lhs;rw[←List.take_append_drop k l]
  simp only[flatE,List.map_append,List.flatMap_append]
 have e2:(flatE ((l.take k).map enc)).length=k*sz:=by rw[h.flen,List.length_take,Nat.min_eq_left hk]
 have e3:=splice_append_left (flatE ((l.take k).map enc)) (flatE ((l.drop k).map enc)++ex) (repL (l.length-k) zs) 0
 rw[e2,Nat.add_zero]at e3
 rw[e1,List.append_assoc,e3,splice_head _ _ _ (by rw[repL_len,h.flen,hz,List.length_drop])]
theorem EncOk.clr' (h:EncOk enc sz){l:List α}{k:Nat}(ex zs:List AV)(n m:Nat)(hn:n=sz)(hm:m=l.length-k)(hk:k≤l.length)(hz:zs.length=sz):splice (flatE (l.map enc)++ex) (0+(k:Int).toNat*n) (repL m zs)=flatE ((l.take k).map enc)++(repL m zs++ex):=by
 subst hn;subst hm;rw[Nat.zero_add,Int.toNat_natCast];exact h.clr l ex zs hk hz
theorem EncOk.headLe (h:EncOk enc sz){l:List α}{k:Nat}(ex:List AV)(n:Nat)(hn:n=sz)(hk:k≤l.length):0+(k:Int).toNat*n≤(flatE ((l.take k).map enc)++ex).length:=by
 subst hn
 rw[List.length_append,h.flen,Int.toNat_natCast,Nat.zero_add,List.length_take,Nat.min_eq_left hk]
 exact Nat.le_add_right _ _
end
theorem cellOk:EncOk Cell.av 5:=⟨fun _=>rfl,fun _=>rfl,fun _=>rfl,fun _=>rfl,by decide⟩
theorem fz2 {S:St}{a a':AV}{b b':List AV}(h:fzb S a=some a')(h2:fzbs S b=some b'):fzbs S (a :: b)=some (a' :: b'):=by simp only[fzbs,h,h2]
theorem fzf1 {S:St}{g:Nat}{c c':List AV}(h:fzbs S c=some c'):fzbs S [.fn g c] = some [.fn g c']:=by simp only[fzbs,fzb,h,Option.map_some]
structure Kept {α:Type}(p:α→Bool)(l a:List α)(i j:Nat):Prop where
 len:a.length=l.length
 ij:i≤j∧j≤l.length
 hd:a.take i=(l.take j).filter fun x=>!p x
 tl:a.drop j=l.drop j
theorem Kept.skip {α:Type}{p:α→Bool}{l a:List α}{i j:Nat}{x:α}(h:Kept p l a i j)(hx:l[j]? = some x)(hp:p x=true):Kept p l a i (j+1):=by
 have hlt:=(List.getElem?_eq_some_iff.1 hx).1
 refine⟨h.len,⟨by have:=h.ij;omega,by omega⟩,?_,?_⟩
 ·rw[h.hd,take_succ hx,List.filter_append];simp[hp]
 ·have:=congrArg (List.drop 1) h.tl
  simpa[List.drop_drop] using this
theorem Kept.keep {α:Type}{p:α→Bool}{l a:List α}{i j:Nat}{x:α}(h:Kept p l a i j)(hx:l[j]? = some x)(hp:p x=false):Kept p l (a.set i x) (i+1) (j+1):=by
 have hlt:=(List.getElem?_eq_some_iff.1 hx).1
 have h1:=h.len
 have h2:=h.ij
 refine⟨by simpa using h.len,⟨by omega,by omega⟩,?_,?_⟩
 ·have e:(a.set i x)[i]? = some x:=by rw[List.getElem?_set,if_pos rfl,if_pos (by omega)]
  rw[take_succ e,List.take_set_of_le (Nat.le_refl _),h.hd,take_succ hx,List.filter_append];simp[hp]
 ·rw[List.drop_set_of_lt (by omega)]
  have:=congrArg (List.drop 1) h.tl
  simpa[List.drop_drop] using this
theorem Kept.get {α:Type}{p:α→Bool}{l a:List α}{i j:Nat}{x:α}(h:Kept p l a i j)(hx:l[j]? = some x):a[j]? = some x:=by
 have:=congrArg (·[0]?) h.tl
 simp only[List.getElem?_drop,Nat.add_zero]at this
 rw[this,hx]
theorem Kept.start {α:Type}{p:α→Bool}{l:List α}{k:Nat}{x:α}(hk:l[k]? = some x)(hp:p x=true)(hb:∀(j:Nat) (y:α),j < k→l[j]? = some y→p y=false):Kept p l l k (k+1):=by
 have hlt:=(List.getElem?_eq_some_iff.1 hk).1
 refine⟨rfl,⟨by omega,by omega⟩,?_,rfl⟩
 rw[take_succ hk,List.filter_append]
 have e:(l.take k).filter (fun x=>!p x)=l.take k:=by
  rw[List.filter_eq_self]
  intro y hy
  obtain⟨j,hj⟩:=List.getElem?_of_mem hy
  rw[List.getElem?_take]at hj
  split at hj
  ·rename_i hlt2;simp[hb j y hlt2 hj]
  ·cases hj
 rw[e];simp[hp]
theorem Kept.fin {α:Type}{p:α→Bool}{l a:List α}{i:Nat}(h:Kept p l a i l.length):a.take i=l.filter fun x=>!p x:=by
 have:=h.hd
 rwa [List.take_length]at this
theorem idxF_none_iff {α:Type}{p:α→Bool}{l:List α}(h:idxF p l=-1):∀(j:Nat) (y:α),l[j]? = some y→p y=false:=by
 intro j y hy
 unfold idxF at h
 cases ha:l.any p with
 | true=>simp[ha]at h<;>omega
 | false=>
  rw[List.any_eq_false]at ha
  simpa using ha y (List.mem_of_getElem? hy)
theorem idxF_first {α:Type}{p:α→Bool}{l:List α}{k:Nat}(h:idxF p l=(k:Int)):∃x,l[k]? = some x∧p x=true∧∀(j:Nat) (y:α),j < k→l[j]? = some y→p y=false:=by
 unfold idxF at h
 cases ha:l.any p with
 | false=>simp[ha]at h<;>omega
 | true=>
  simp only[ha,if_true]at h
  have hk:l.findIdx p=k:=by omega
  have hlt:l.findIdx p < l.length:=List.findIdx_lt_length_of_exists (by simpa[List.any_eq_true] using ha)
  subst hk
  refine⟨l[l.findIdx p],List.getElem?_eq_getElem hlt,List.findIdx_getElem,fun j y hj hy=>?_⟩
  have:=List.not_of_lt_findIdx hj
  obtain⟨hjl,rfl⟩:=List.getElem?_eq_some_iff.1 hy
  simpa using this
theorem EncOk.push {α:Type}{enc:α→AV}{sz:Nat}(h:EncOk enc sz)(l:List α)(x:α)(d:Nat)(hr:(l.length+1)*sz≤(flatE (l.map enc)++List.replicate (d*sz) AV.undef).length):splice (flatE (l.map enc)++List.replicate (d*sz) .undef) (l.length*sz) (enc x).cells=flatE ((l++[x]).map enc)++List.replicate ((d-1)*sz) .undef:=by
 have hfl:=h.flen l
 have hx:=h.len x
 rw[List.length_append,hfl,List.length_replicate,Nat.add_mul]at hr
 rw[splice_eq _ _ _ (by rw[List.length_append,hfl,List.length_replicate,hx];omega),←hfl,List.take_left,List.drop_append,hfl,hx,List.drop_eq_nil_of_le (by rw[hfl];omega),List.nil_append,List.map_append,List.drop_replicate]
 congr 1
 ·simp[flatE]
 ·congr 1
  rw[Nat.sub_mul];omega
theorem EncOk.cut {α:Type}{enc:α→AV}{sz:Nat}(h:EncOk enc sz)(l:List α)(ex:List AV):(flatE (l.map enc)++ex).take (l.length*sz)=flatE (l.map enc):=by
 rw[←h.flen l,List.take_left]
theorem flatE_push {α:Type}(enc:α→AV)(l:List α)(x:α):flatE (l.map enc)++(enc x).cells=flatE ((l++[x]).map enc):=by simp[flatE]
open Go Go.RowKit
structure Way where
 n:Net
 s:Sched
 f:Flow
 r:List Int
 more:Int
def Way.cs (w:Way):List AV:=[.int .i64 w.n.nodes,encRows w.n.power,.int .i64 w.n.noise,.int .i64 w.n.thr,encLinks w.n.links,encIs w.n.margin,.int .i64 w.s.len,.int .i64 w.s.offs,encCells w.s.cells,.int .i64 w.f.id,.int .i64 w.f.src,.int .i64 w.f.dst,.int .i64 w.f.period,.int .i64 w.f.phase,.int .i64 w.f.dead,encIs w.r,.int .i64 w.more]
def Way.av (w:Way):AV:=.agg [.int .i64 w.n.nodes,encRows w.n.power,.int .i64 w.n.noise,.int .i64 w.n.thr,encLinks w.n.links,encIs w.n.margin,.int .i64 w.s.len,.int .i64 w.s.offs,encCells w.s.cells,.int .i64 w.f.id,.int .i64 w.f.src,.int .i64 w.f.dst,.int .i64 w.f.period,.int .i64 w.f.phase,.int .i64 w.f.dead,encIs w.r,.int .i64 w.more]
def wayE (n:Net)(s:Sched)(f:Flow)(r:List Int):Int:=
 if netE n≠0∨formB s=false∨flowE n.nodes f≠0 then 1
 else if s.len % f.period≠0 then 11
 else routeE n f.src f.dst r
def offL (id a b:Int)(c:Cell):Bool:=(c.flow != id)||(c.src != a)||(c.dst != b)
def cellsL (s:Sched)(f:Flow)(a b:Int):List Cell:=s.cells.filter fun c=>!offL f.id a b c
def allS (cs:List Cell)(len a:Int):Nat→List Int
 | 0=>[]
 | d+1=>allS cs len a d++((cs.filter fun c=>c.slot==(a+d) % len).map fun _=>a+(d:Int))
def partS (cs:List Cell)(len a:Int)(d j:Nat):List Int:=allS cs len a d++(((cs.take j).filter fun c=>c.slot==(a+d) % len).map fun _=>a+(d:Int))
theorem partS_zero (cs:List Cell)(len a:Int)(d:Nat):partS cs len a d 0=allS cs len a d:=by simp[partS]
theorem partS_all (cs:List Cell)(len a:Int)(d:Nat):partS cs len a d cs.length=allS cs len a (d+1):=by simp[partS,allS]
theorem partS_hit {cs:List Cell}{len a:Int}{d j:Nat}{c:Cell}(h:cs[j]? = some c)(hm:c.slot=(a+d) % len):partS cs len a d (j+1)=partS cs len a d j++[a+(d:Int)]:=by
 unfold partS
 rw[take_succ h,List.filter_append,List.map_append,List.append_assoc]
 simp[hm]
theorem partS_miss {cs:List Cell}{len a:Int}{d j:Nat}{c:Cell}(h:cs[j]? = some c)(hm:c.slot≠(a+d) % len):partS cs len a d (j+1)=partS cs len a d j:=by
 unfold partS
 rw[take_succ h,List.filter_append]
 simp[hm]
theorem allS_mem {cs:List Cell}{len a:Int}:∀{d:Nat} {x:Int},x∈allS cs len a d→a≤x∧x < a+d
 | 0,_,h=>by simp[allS]at h
 | d+1,x,h=>by
  simp only[allS,List.mem_append,List.mem_map]at h
  rcases h with h|⟨_,_,rfl⟩
  ·have:=allS_mem h;omega
  ·omega
theorem allS_prefix (cs:List Cell)(len a:Int){d e:Nat}(h:d≤e):∃t,allS cs len a e=allS cs len a d++t:=by
 induction e with
 | zero=>exact⟨[],by
             have:d=0:=by omega
             subst this;simp⟩
 | succ e ih=>
  rcases Nat.lt_or_ge d (e+1) with hlt|hge
  ·obtain⟨t,ht⟩:=ih (by omega)
   exact⟨t++_,by rw[allS,ht,List.append_assoc]⟩
  ·have:d=e+1:=by omega
   subst this;exact⟨[],by simp⟩
theorem take_prefix {α:Type}{l t:List α}{n:Nat}(h:n≤l.length):(l++t).take n=l.take n:=by
 rw[List.take_append_of_le_length h]
def slotsOn (s:Sched)(f:Flow)(a b:Int)(need:Nat)(at_ stop:Int):List Int:=(allS (cellsL s f a b) s.len at_ (stop-at_).toNat).take need
def nextA (at_:Int)(l:List Int):Int:=match l.getLast? with
 | some x=>x+1
 | none=>at_
def linkAt (n:Net)(r:List Int)(i:Nat):Link:=(n.links[(findL n (r.getD i 0) (r.getD (i+1) 0)).toNat]?).getD ⟨0,0,0⟩
def needAt (n:Net)(r:List Int)(more:Int)(i:Nat):Nat:=((linkAt n r i).loss+1+more).toNat
def slotsUp (n:Net)(s:Sched)(f:Flow)(r:List Int)(rel more:Int):Nat→Option (List Int×Int)
 | 0=>some ([],rel)
 | k+1=>match slotsUp n s f r rel more k with
  | none=>none
  | some (o,a)=>
   let h:=slotsOn s f (r.getD k 0) (r.getD (k+1) 0) (needAt n r more k) a (rel+f.period)
   if h.length < needAt n r more k then none else some (o++h,nextA a h)
def slotsW (n:Net)(s:Sched)(f:Flow)(r:List Int)(rel more:Int):Option (List Int):=(slotsUp n s f r rel more (r.length-1)).map (·.1)
def needUp (n:Net)(r:List Int)(more:Int):Nat→Nat
 | 0=>0
 | k+1=>needUp n r more k+needAt n r more k
theorem slotsOn_le (s:Sched)(f:Flow)(a b:Int)(need:Nat)(at_ stop:Int):(slotsOn s f a b need at_ stop).length≤need:=by
 unfold slotsOn;rw[List.length_take];omega
theorem slotsOn_mem {s:Sched}{f:Flow}{a b:Int}{need:Nat}{at_ stop:Int}{x:Int}(h:x∈slotsOn s f a b need at_ stop):at_≤x∧x < stop:=by
 have:=allS_mem (List.mem_of_mem_take h)
 omega
theorem slotsUp_ok {n:Net}{s:Sched}{f:Flow}{r:List Int}{rel more:Int}(hp:0≤f.period):∀{k:Nat} {o:List Int} {a:Int},slotsUp n s f r rel more k=some (o,a)→o.length=needUp n r more k∧rel≤a∧a≤rel+f.period∧∀x∈o,rel≤x∧x < rel+f.period
 | 0,o,a,h=>by simp[slotsUp]at h;obtain⟨rfl,rfl⟩:=h;simp[needUp];omega
 | k+1,o,a,h=>by
  unfold slotsUp at h
  split at h
  ·cases h
  ·rename_i o' a' h'
   obtain⟨h1,h2,h3,h4⟩:=slotsUp_ok hp h'
   simp only at h
   split at h
   ·cases h
   ·rename_i hlen
    injection h with h;injection h with e1 e2
    subst e1;subst e2
    have hle:=slotsOn_le s f (r.getD k 0) (r.getD (k+1) 0) (needAt n r more k) a' (rel+f.period)
    have hm:∀x∈slotsOn s f (r.getD k 0) (r.getD (k+1) 0) (needAt n r more k) a' (rel+f.period),a'≤x∧x < rel+f.period:=fun x hx=>slotsOn_mem hx
    refine⟨by rw[List.length_append,h1,needUp];omega,?_,?_,fun x hx=>?_⟩
    ·unfold nextA;split
     ·rename_i y hy
      have:=hm y (List.mem_of_getLast? hy);omega
     ·omega
    ·unfold nextA;split
     ·rename_i y hy
      have:=hm y (List.mem_of_getLast? hy);omega
     ·omega
    ·rcases List.mem_append.1 hx with hx|hx
     ·exact h4 x hx
     ·have:=hm x hx;omega
theorem slotsUp_none {n:Net}{s:Sched}{f:Flow}{r:List Int}{rel more:Int}{k:Nat}(h:slotsUp n s f r rel more k=none):∀{m:Nat},k≤m→slotsUp n s f r rel more m=none
 | 0,hm=>by
        have:k=0:=by omega
        subst this;exact h
 | m+1,hm=>by
  rcases Nat.lt_or_ge m k with hlt|hge
  ·have:k=m+1:=by omega
   subst this;exact h
  ·unfold slotsUp;rw[slotsUp_none h hge]
theorem needUp_mono {n:Net}{r:List Int}{more:Int}{k m:Nat}(h:k≤m):needUp n r more k≤needUp n r more m:=by
 induction m with
 | zero=>
      have:k=0:=by omega
      subst this;exact Nat.le_refl _
 | succ m ih=>
  rcases Nat.lt_or_ge m k with hlt|hge
  ·have:k=m+1:=by omega
   subst this;exact Nat.le_refl _
  ·have:=ih hge
   rw[needUp];omega
structure WayOk (n:Net)(s:Sched)(f:Flow)(r:List Int):Prop where
 net:NetOk n
 form:formB s=true
 flow:0≤f.id∧f.id≤255∧1≤f.period∧f.period≤512∧0≤f.phase∧f.phase < f.period∧1≤f.dead∧f.dead≤f.period∧f.src≠f.dst
 per:s.len % f.period=0
 len:2≤r.length∧r.length≤9
 hop:∀i,i+1 < r.length→goodL n (r.getD i 0) (r.getD (i+1) 0)=true
 dup:∀i,i < r.length→dupAt r i=false
 ends:r.getD 0 0=f.src∧r.getD (r.length-1) 0=f.dst
theorem routeF_ok {n:Net}{a b:Int}{r:List Int}(h:routeF n a b r=0):(2≤r.length∧r.length≤9)∧(∀i,i+1 < r.length→goodL n (r.getD i 0) (r.getD (i+1) 0)=true)∧(∀i,i < r.length→dupAt r i=false)∧(r.getD 0 0=a∧r.getD (r.length-1) 0=b)∧∀x∈r,insB x n.nodes=true:=by
 unfold routeF at h
 split at h
 ·cases h
 split at h
 ·cases h
 split at h
 ·cases h
 split at h
 ·cases h
 split at h
 ·cases h
 split at h
 ·rename_i h1 h2 h3 h4 h5 h6
  refine⟨by omega,fun i hi=>?_,fun i hi=>?_,by simpa using h4,fun x hx=>?_⟩
  ·exact List.all_eq_true.1 h6 i (by simp;omega)
  ·simp only[Bool.not_eq_true,List.any_eq_false]at h5
   simpa using h5 i (by simpa using hi)
  ·simp only[Bool.not_eq_true,List.any_eq_false]at h3
   simpa using h3 x hx
 ·cases h
theorem wayE_ok {n:Net}{s:Sched}{f:Flow}{r:List Int}(h:wayE n s f r=0):WayOk n s f r:=by
 unfold wayE at h
 split at h
 ·cases h
 split at h
 ·cases h
 rename_i h1 h2
 simp only[not_or,ne_eq,Decidable.not_not,Bool.not_eq_false]at h1 h2
 have hf:=flowE_ok h1.2.2
 unfold routeE at h
 split at h
 ·contradiction
 obtain⟨g1,g2,g3,g4,_⟩:=routeF_ok h
 exact⟨netE_ok h1.1,h1.2.1,by omega,h2,g1,g2,g3,g4⟩
theorem WayOk.at {n:Net}{s:Sched}{f:Flow}{r:List Int}(h:WayOk n s f r){i:Nat}(hi:i+1 < r.length):∃(k:Nat) (l:Link),findL n (r.getD i 0) (r.getD (i+1) 0)=k∧n.links[k]? = some l∧l.src=r.getD i 0∧l.dst=r.getD (i+1) 0∧0≤l.loss∧l.loss≤7∧linkAt n r i=l:=by
 have hg:=h.hop i hi
 unfold goodL at hg
 simp only[Bool.and_eq_true,decide_eq_true_eq]at hg
 obtain⟨k,l,e1,e2,e3,e4⟩:=findL_at hg.1.1.1
 have hb:=linkR_bd (h.net.link k l e2).1
 refine⟨k,l,e1,e2,e3,e4,by omega,by omega,?_⟩
 unfold linkAt
 rw[e1,Int.toNat_natCast,e2];rfl
theorem WayOk.need {n:Net}{s:Sched}{f:Flow}{r:List Int}(h:WayOk n s f r){more:Int}(h0:0≤more)(h1:more≤8):∀{k:Nat},k≤r.length-1→needUp n r more k≤16*k
 | 0,_=>by simp[needUp]
 | k+1,hk=>by
  have:=h.need h0 h1 (k:=k) (by omega)
  obtain⟨_,l,_,_,_,_,g1,g2,g3⟩:=h.at (i:=k) (by omega)
  have:needAt n r more k≤16:=by unfold needAt;rw[g3];omega
  rw[needUp];omega
def relR (n:Net)(s:Sched)(f:Flow)(r:List Int)(more rel:Int):Option (Int×List Int):=
 (slotsW n s f r rel more).map fun l=>(l.getLastD 0-rel+1,l.map (·-rel))
structure Bnd where
 b:Int
 w:Int
 l:List Int
def boundUp (n:Net)(s:Sched)(f:Flow)(r:List Int)(more:Int):Nat→Option Bnd
 | 0=>some ⟨0,0,[]⟩
 | k+1=>match boundUp n s f r more k,relR n s f r more (f.phase+k*f.period) with
  | some x,some (b,l)=>if b > x.b then some ⟨b,f.phase+k*f.period,l⟩ else some x
  | _,_=>none
def relsN (s:Sched)(f:Flow):Nat:=((s.len-f.phase+f.period-1) / f.period).toNat
def boundR (n:Net)(s:Sched)(f:Flow)(r:List Int)(more:Int):Option Bnd:=boundUp n s f r more (relsN s f)
theorem relsN_lt {s:Sched}{f:Flow}(hp:1≤f.period){k:Nat}:k < relsN s f↔f.phase+k*f.period < s.len:=by
 unfold relsN
 have h0:0 < f.period:=by omega
 constructor
 ·intro h
  have h1:(k:Int)+1≤(s.len-f.phase+f.period-1) / f.period:=by omega
  have h2:=Int.mul_le_of_le_ediv h0 h1
  rw[Int.add_mul]at h2
  omega
 ·intro h
  have h1:((k:Int)+1)≤(s.len-f.phase+f.period-1) / f.period:=by
   apply Int.le_ediv_of_mul_le h0
   rw[Int.add_mul];omega
  omega
open Go Go.RowKit
def hS (s:Sched)(f:Flow)(a b at_:Int)(need d j:Nat):List Int:=
 (allS (cellsL s f a b) s.len at_ d++((((s.cells.take j).filter fun c=>!offL f.id a b c).filter fun c=>c.slot==(at_+d) % s.len).map fun _=>at_+(d:Int))).take need
open Go Go.RowKit
def bndAV:Option Bnd→AV
 | none=>.tup [.int .i64 0,.int .i64 0,.sl false [],.bool false]
 | some x=>.tup [.int .i64 x.b,.int .i64 x.w,encIs x.l,.bool true]
theorem boundUp_none {n:Net}{s:Sched}{f:Flow}{r:List Int}{more:Int}{k:Nat}(h:boundUp n s f r more k=none):∀{m:Nat},k≤m→boundUp n s f r more m=none
 | 0,hm=>by
        have:k=0:=by omega
        subst this;exact h
 | m+1,hm=>by
  rcases Nat.lt_or_ge m k with hlt|hge
  ·have:k=m+1:=by omega
   subst this;exact h
  ·unfold boundUp;rw[boundUp_none h hge]
theorem boundUp_some {n:Net}{s:Sched}{f:Flow}{r:List Int}{more:Int}{k:Nat}{x:Bnd}{b:Int}{l:List Int}(h:boundUp n s f r more k=some x)(hr:relR n s f r more (f.phase+k*f.period)=some (b,l)) :
  boundUp n s f r more (k+1)=some (if b > x.b then ⟨b,f.phase+k*f.period,l⟩ else x):=by
 simp only[boundUp,h,hr]
 split<;>rfl
theorem boundUp_stop {n:Net}{s:Sched}{f:Flow}{r:List Int}{more:Int}{k:Nat}(hr:relR n s f r more (f.phase+k*f.period)=none) :
  boundUp n s f r more (k+1)=none:=by
 simp only[boundUp,hr]
 cases boundUp n s f r more k<;>rfl
def routeM (n:Net)(s:Sched)(f:Flow)(r:List Int):Int×Int×List Int×Int:=
 if wayE n s f r≠0 then(0,0,[],wayE n s f r)
 else match boundR n s f r 0 with
  | none=>(0,0,[],15)
  | some x=>(x.b,x.w,x.l,0)
def leastS (n:Net)(s:Sched)(f:Flow)(m:Int)(r:List Int):Int:=match boundR n s f r 0 with
 | some x=>if m=0∨x.b < m then x.b else m
 | none=>m
def leastF (n:Net)(s:Sched)(f:Flow)(l:List (List Int)):Int:=l.foldl (leastS n s f) 0
def firstW (n:Net)(s:Sched)(f:Flow):List (List Int)→Int
 | []=>0
 | r :: l=>if wayE n s f r≠0 then wayE n s f r else firstW n s f l
def leastM (n:Net)(s:Sched)(f:Flow)(l:List (List Int)):Int×Int:=
 if l.length=0 then(0,14) else if firstW n s f l≠0 then(0,firstW n s f l) else if leastF n s f l=0 then(0,15) else(leastF n s f l,0)
theorem wayE_net {n:Net}{s:Sched}{f:Flow}{r:List Int}(h:wayE n s f r=0):netE n=0:=by
 unfold wayE at h
 split at h
 ·cases h
 ·rename_i hh
  simp only[not_or,ne_eq,Decidable.not_not]at hh
  exact hh.1
theorem leastF_take {n:Net}{s:Sched}{f:Flow}{l:List (List Int)}{k:Nat}{r:List Int}(h:l[k]? = some r):leastF n s f (l.take (k+1))=leastS n s f (leastF n s f (l.take k)) r:=by
 rw[take_succ h,leastF,List.foldl_append];rfl
theorem firstW_zero {n:Net}{s:Sched}{f:Flow}:∀{l:List (List Int)},(∀(k:Nat) (r:List Int),l[k]? = some r→wayE n s f r=0)→firstW n s f l=0
 | [],_=>rfl
 | r :: l,h=>by
  rw[firstW,if_neg (by simpa using h 0 r rfl)]
  exact firstW_zero fun k x hx=>h (k+1) x (by simpa using hx)
theorem firstW_at {n:Net}{s:Sched}{f:Flow}:∀{l:List (List Int)} {k:Nat} {r:List Int},l[k]? = some r→(∀(j:Nat) (x:List Int),j < k→l[j]? = some x→wayE n s f x=0)→wayE n s f r≠0→firstW n s f l=wayE n s f r
 | [],_,_,h,_,_=>by simp at h
 | a :: l,0,r,h,_,hr=>by
  simp at h;subst h
  rw[firstW,if_pos hr]
 | a :: l,k+1,r,h,hb,hr=>by
  rw[firstW,if_neg (by simpa using hb 0 a (by omega) rfl)]
  exact firstW_at (by simpa using h) (fun j x hj hx=>hb (j+1) x (by omega) (by simpa using hx)) hr
open Go Go.RowKit
def tLink:Ty:=.st [tI,tI,tI]
def tRows:Ty:=.sl (.sl tI)
def tNet:Ty:=.st [tI,.sl (.sl tI),tI,tI,.sl tLink,.sl tI]
def tFlow:Ty:=.st [tI,tI,tI,tI,tI,tI]
theorem list_ofP {α:Type}{d:Ty}{f:α→AV}{Q:α→Prop}(h:∀l,d.sh l→∃x,d.mk l=f x∧Q x):∀els:List (List AV),(∀c∈els,d.sh c∧c.length=d.n)→∃xs:List α,els.map d.mk=xs.map f∧xs.length=els.length∧∀x∈xs,Q x
 | [],_=>⟨[],rfl,rfl,by simp⟩
 | c :: els,hc=>by
  obtain⟨x,hx,hq⟩:=h c (hc c (by simp)).1
  obtain⟨xs,h1,h2,h3⟩:=list_ofP h els (fun c hm=>hc c (by simp[hm]))
  exact⟨x :: xs,by simp[hx,h1],by simp[h2],by simpa using ⟨hq,h3⟩⟩
theorem sh_link {l:List AV}(h:tLink.sh l):∃c:Link,l=[.int .i64 c.src,.int .i64 c.dst,.int .i64 c.loss]:=by
 obtain⟨_,_,rfl,_,h1,_,_,rfl,_,h2,_,_,rfl,_,h3,h6⟩:=h
 obtain⟨a,rfl,_⟩:=sh_int h1
 obtain⟨b,rfl,_⟩:=sh_int h2
 obtain⟨c,rfl,_⟩:=sh_int h3
 obtain rfl:=h6
 exact⟨⟨a,b,c⟩,rfl⟩
theorem sh_links {l:List AV}(h:(Ty.sl tLink).sh l):∃cs:List Link,l=[encLinks cs]∧cs.length≤140737488355328:=by
 obtain⟨els,rfl,h1,h2⟩:=h
 obtain⟨cs,h3,h4⟩:=list_of (f:=Link.av) (fun l hl=>by
  obtain⟨c,rfl⟩:=sh_link hl
  exact⟨c,rfl⟩) els h1
 exact⟨cs,by rw[h3];rfl,by omega⟩
theorem sh_rows {l:List AV}(h:tRows.sh l):∃cs:List (List Int),l=[encRows cs]∧cs.length≤140737488355328∧∀r∈cs,r.length≤140737488355328:=by
 obtain⟨els,rfl,h1,h2⟩:=h
 obtain⟨cs,h3,h4,h5⟩:=list_ofP (f:=encIs) (Q:=fun r:List Int=>r.length≤140737488355328) (fun l hl=>by
  obtain⟨c,rfl,hc⟩:=sh_ints hl
  exact⟨c,rfl,hc⟩) els h1
 exact⟨cs,by rw[h3];rfl,by omega,h5⟩
theorem sh_flow {l:List AV}(h:tFlow.sh l):∃c:Flow,l=[.int .i64 c.id,.int .i64 c.src,.int .i64 c.dst,.int .i64 c.period,.int .i64 c.phase,.int .i64 c.dead]:=by
 obtain⟨_,_,rfl,_,h1,_,_,rfl,_,h2,_,_,rfl,_,h3,_,_,rfl,_,h4,_,_,rfl,_,h5,_,_,rfl,_,h5',h6⟩:=h
 obtain⟨a,rfl,_⟩:=sh_int h1
 obtain⟨b,rfl,_⟩:=sh_int h2
 obtain⟨c,rfl,_⟩:=sh_int h3
 obtain⟨d,rfl,_⟩:=sh_int h4
 obtain⟨e,rfl,_⟩:=sh_int h5
 obtain⟨f,rfl,_⟩:=sh_int h5'
 obtain rfl:=h6
 exact⟨⟨a,b,c,d,e,f⟩,rfl⟩
theorem sh_net {l:List AV}(h:tNet.sh l):∃n:Net,l=n.cs∧n.power.length≤140737488355328∧(∀r∈n.power,r.length≤140737488355328)∧n.links.length≤140737488355328∧n.margin.length≤140737488355328:=by
 obtain⟨_,_,rfl,_,h1,_,_,rfl,_,h2,_,_,rfl,_,h3,_,_,rfl,_,h4,_,_,rfl,_,h5,_,_,rfl,_,h5',h6⟩:=h
 obtain⟨a,rfl,_⟩:=sh_int h1
 obtain⟨b,rfl,b1,b2⟩:=sh_rows h2
 obtain⟨c,rfl,_⟩:=sh_int h3
 obtain⟨d,rfl,_⟩:=sh_int h4
 obtain⟨e,rfl,e1⟩:=sh_links h5
 obtain⟨f,rfl,f1⟩:=sh_ints h5'
 obtain rfl:=h6
 exact⟨⟨a,b,c,d,e,f⟩,rfl,b1,b2,e1,f1⟩
theorem sh_sched' {l:List AV}(h:tSched.sh l):∃s:Sched,l=[.int .i64 s.len,.int .i64 s.offs,encCells s.cells]∧s.cells.length≤140737488355328:=by
 obtain⟨_,_,rfl,_,h1,_,_,rfl,_,h2,_,_,rfl,_,h3,h6⟩:=h
 obtain⟨a,rfl,_⟩:=sh_int h1
 obtain⟨b,rfl,_⟩:=sh_int h2
 obtain⟨c,rfl,hc⟩:=sh_cells h3
 obtain rfl:=h6
 exact⟨⟨a,b,c⟩,rfl,hc⟩
open Go Go.RowKit
structure Rule where
 flow:Int
 src:Int
 dst:Int
 frame:Int
 outs:List Int
 deriving DecidableEq
def Rule.av (r:Rule):AV:=.agg [.int .i64 r.flow,.int .i64 r.src,.int .i64 r.dst,.int .i64 r.frame,encIs r.outs]
def encScript (x:List Rule):AV:=.sl false (x.map Rule.av)
def Rule.key (r:Rule):List Int:=[r.flow,r.frame,r.src,r.dst]
def Rule.cmp (a b:Rule):Int:=cmpL a.key b.key
def badO (o:Int):Bool:=decide (o < 1)||decide (3 < o)
def rangeB (x most:Int):Bool:=decide (0≤x)&&decide (x≤most)
def ruleB (r:Rule):Bool:=rangeB r.flow 255&&rangeB r.frame 1048576&&rangeB r.src 31&&rangeB r.dst 31&&decide ((1:Int)≤r.outs.length)&&decide ((r.outs.length:Int)≤16)&&!(r.outs.any badO)
def ruleO (x:List Rule)(i:Nat)(r:Rule):Bool:=match i with
 | 0=>true
 | j+1=>match x[j]? with
  | some p=>decide (p.cmp r < 0)
  | none=>true
def ruleF (x:List Rule)(i:Nat)(r:Rule):Int:=if ruleB r=false then 2 else if ruleO x i r=false then 5 else 0
def scriptF (x:List Rule):Nat→List Rule→Int×Int
 | _,[]=>(-1,0)
 | i,r :: l=>if ruleF x i r≠0 then(i,ruleF x i r) else scriptF x (i+1) l
def scriptM (x:List Rule):Int×Int:=if 1024 < x.length then(-1,8) else scriptF x 0 x
theorem scriptF_at {x:List Rule}:∀{l:List Rule} {i k:Nat} {r:Rule},l[k]? = some r→(∀j y,j < k→l[j]? = some y→ruleF x (i+j) y=0)→scriptF x i l=if ruleF x (i+k) r≠0 then(((i+k:Nat):Int),ruleF x (i+k) r) else scriptF x (i+k+1) (l.drop (k+1))
 | [],_,_,_,h,_=>by simp at h
 | y :: l,i,0,r,h,_=>by
  simp at h;subst h
  rw[scriptF];rfl
 | y :: l,i,k+1,r,h,hb=>by
  have h0:=hb 0 y (by omega) rfl
  rw[scriptF,if_neg (by simpa using h0),scriptF_at (l:=l) (i:=i+1) (k:=k) (by simpa using h) (fun j z hj hz=>by
   have:=hb (j+1) z (by omega) (by simpa using hz)
   rw[show i+1+j=i+(j+1) from by omega];exact this)]
  rw[show i+1+k=i+(k+1) from by omega]
  rfl
theorem scriptM_hit {x:List Rule}{k:Nat}{r:Rule}(hl:¬1024 < x.length)(h:x[k]? = some r)(hb:∀j y,j < k→x[j]? = some y→ruleF x j y=0)(hr:ruleF x k r≠0):scriptM x=((k:Int),ruleF x k r):=by
 rw[scriptM,if_neg hl,scriptF_at h (fun j y hj hy=>by rw[Nat.zero_add];exact hb j y hj hy),Nat.zero_add,if_pos hr]
theorem scriptF_ok {x:List Rule}:∀{l:List Rule} {i:Nat},(∀j y,l[j]? = some y→ruleF x (i+j) y=0)→scriptF x i l=(-1,0)
 | [],_,_=>rfl
 | y :: l,i,h=>by
  have h0:=h 0 y rfl
  rw[scriptF,if_neg (by simpa using h0)]
  exact scriptF_ok fun j z hz=>by
   have:=h (j+1) z (by simpa using hz)
   rw[show i+1+j=i+(j+1) from by omega];exact this
theorem scriptM_ok {x:List Rule}(hl:¬1024 < x.length)(hb:∀j y,x[j]? = some y→ruleF x j y=0):scriptM x=(-1,0):=by
 rw[scriptM,if_neg hl,scriptF_ok fun j y hy=>by rw[Nat.zero_add];exact hb j y hy]
def outcomeM (x:List Rule)(flow frame src dst:Int)(k:Nat):Int:=
 match x.find? fun r=>r.flow==flow&&r.frame==frame&&r.src==src&&r.dst==dst with
 | some r=>(r.outs[k]?).getD 1
 | none=>1
open Go Go.RowKit
theorem len1 {α:Type}{l:List α}(h:l.length=1):∃a,l=[a]:=List.length_eq_one_iff.1 h
theorem len2 {α:Type}{l:List α}(h:l.length=2):∃a b,l=[a,b]:=by
 obtain⟨a,l1,rfl⟩:=List.exists_cons_of_length_eq_add_one h
 obtain⟨b,rfl⟩:=len1 (l:=l1) (by simpa using h)
 exact⟨a,b,rfl⟩
open Go Go.RowKit
open Go Go.RowKit
def insAt {α:Type}(l:List α)(p:Nat)(x:α):List α:=l.take p++x :: l.drop p
theorem insAt_len {α:Type}(l:List α)(p:Nat)(x:α):(insAt l p x).length=l.length+1:=by
 simp[insAt];omega
theorem insAt_mem {α:Type}{l:List α}{p:Nat}{x y:α}:y∈insAt l p x↔y=x∨y∈l:=by
 unfold insAt
 rw[List.mem_append,List.mem_cons]
 constructor
 ·rintro (h|rfl|h)
  ·exact .inr (List.mem_of_mem_take h)
  ·exact .inl rfl
  ·exact .inr (List.mem_of_mem_drop h)
 ·rintro (rfl|h)
  ·exact .inr (.inl rfl)
  ·rw[←List.take_append_drop p l,List.mem_append]at h
   rcases h with h|h
   ·exact .inl h
   ·exact .inr (.inr h)
theorem insAt_get {α:Type}{l:List α}{p:Nat}{x:α}(hp:p≤l.length)(j:Nat):(insAt l p x)[j]? = if j < p then l[j]? else if j=p then some x else l[j-1]?:=by
 unfold insAt
 by_cases h1:j < p
 ·rw[if_pos h1,List.getElem?_append_left (by simp;omega),List.getElem?_take,if_pos h1]
 ·rw[if_neg h1,List.getElem?_append_right (by simp;omega),List.length_take,Nat.min_eq_left hp]
  by_cases h2:j=p
  ·subst h2;simp
  ·rw[if_neg h2,show j-p=(j-1-p)+1 by omega,List.getElem?_cons_succ,List.getElem?_drop]
   congr 1;omega
def cellTo (c x:Cell):Int:=x.cmp c
theorem formB_sorted {s:Sched}(h:formB s=true):Sorted Cell.cmp s.cells:=by
 refine sorted_of_next (key:=Cell.nums) fun j p x hp hx=>?_
 simp only[formB,Bool.and_eq_true,List.all_eq_true]at h
 have hlt:=(List.getElem?_eq_some_iff.1 hx).1
 have h2:=h.2 (j+1) (by simpa using hlt)
 unfold okAt at h2
 rw[hx]at h2
 simp only[hp,Bool.and_eq_true,decide_eq_true_eq]at h2
 exact h2.2
theorem formB_mono {s:Sched}(h:formB s=true)(c:Cell):Mono (cellTo c) s.cells:=fun i j x y hij hx hy hc=>cmpL_trans (formB_sorted h i j x y hij hx hy) hc
theorem formB_mk {s:Sched}(h1:sizedB s=true)(h2:s.cells.length≤512)(h3:∀c∈s.cells,formedB s c=true)(h4:Sorted Cell.cmp s.cells):formB s=true:=by
 simp only[formB,h1,decide_eq_true h2,Bool.true_and]
 refine range_all fun j hj=>?_
 obtain⟨c,hc⟩:=getLt hj
 unfold okAt
 rw[hc]
 simp only[h3 c (List.mem_of_getElem? hc),Bool.true_and]
 cases j with
 | zero=>rfl
 | succ j=>
  obtain⟨p,hp⟩:=getLt (l:=s.cells) (k:=j) (by omega)
  simp only[hp]
  exact decide_eq_true (h4 j (j+1) p c (by omega) hp hc)
def posC (s:Sched)(c:Cell):Nat:=posB (cellTo c) s.cells
def hasC (s:Sched)(c:Cell):Bool:=hasB (cellTo c) s.cells
def addM (s:Sched)(c:Cell):Sched×Int:=
 if formB s=false then(⟨0,0,[]⟩,1)
 else if formedB s c=false then(⟨0,0,[]⟩,2)
 else if hasC s c=true then(⟨0,0,[]⟩,6)
 else if s.cells.length=512 then(⟨0,0,[]⟩,8)
 else(⟨s.len,s.offs,insAt s.cells (posC s c) c⟩,0)
theorem addM_ok {s t:Sched}{c:Cell}(h:addM s c=(t,0)):formB s=true∧formedB s c=true∧hasC s c=false∧s.cells.length < 512∧t=⟨s.len,s.offs,insAt s.cells (posC s c) c⟩:=by
 unfold addM at h
 split at h
 ·simp at h
 split at h
 ·simp at h
 split at h
 ·simp at h
 split at h
 ·simp at h
 rename_i h1 h2 h3 h4
 have hb:=(form_all (by simpa using h1:formB s=true)).2.1
 injection h with h5 h6
 exact⟨by simpa using h1,by simpa using h2,by simpa using h3,by omega,h5.symm⟩
theorem formedB_len {s t:Sched}(h1:t.len=s.len)(h2:t.offs=s.offs)(c:Cell):formedB t c=formedB s c:=by
 unfold formedB placedB;rw[h1,h2]
theorem add_sorted {s:Sched}{c:Cell}(h:formB s=true)(hc:hasC s c=false):Sorted Cell.cmp (insAt s.cells (posC s c) c):=by
 have hs:=formB_sorted h
 have hp:posC s c≤s.cells.length:=posB_le _ _
 have hlt:∀(i:Nat) (x:Cell),i < posC s c→s.cells[i]? = some x→x.cmp c < 0:=fun i x hi hx=>posB_lt (c:=cellTo c) hi hx
 have hge:∀(j:Nat) (y:Cell),posC s c≤j→s.cells[j]? = some y→c.cmp y < 0:=by
  have h0:∀y,s.cells[posC s c]? = some y→c.cmp y < 0:=fun y hy=>by
   have h1:¬y.cmp c < 0:=posB_ge (c:=cellTo c) hy
   have h2:y.cmp c≠0:=by
    unfold hasC hasB at hc
    unfold posC at hy
    rw[hy]at hc
    simpa[cellTo] using hc
   have h3:0 < y.cmp c:=by omega
   exact cmpL_anti.2 h3
  intro j y hj hy
  rcases Nat.lt_or_eq_of_le hj with hj|rfl
  ·have hjl:=(List.getElem?_eq_some_iff.1 hy).1
   obtain⟨z,hz⟩:=getLt (l:=s.cells) (k:=posC s c) (by omega)
   exact cmpL_trans (h0 z hz) (hs _ _ z y hj hz hy)
  ·exact h0 y hy
 intro i j x y hij hx hy
 rw[insAt_get hp]at hx hy
 by_cases h1:j < posC s c
 ·rw[if_pos h1]at hy
  rw[if_pos (by omega)]at hx
  exact hs i j x y hij hx hy
 rw[if_neg h1]at hy
 by_cases h2:j=posC s c
 ·rw[if_pos h2]at hy
  injection hy with hy;subst hy
  rw[if_pos (by omega)]at hx
  exact hlt i x (by omega) hx
 rw[if_neg h2]at hy
 by_cases h3:i < posC s c
 ·rw[if_pos h3]at hx
  exact hs i (j-1) x y (by omega) hx hy
 rw[if_neg h3]at hx
 by_cases h4:i=posC s c
 ·rw[if_pos h4]at hx
  injection hx with hx;subst hx
  exact hge (j-1) y (by omega) hy
 ·rw[if_neg h4]at hx
  exact hs (i-1) (j-1) x y (by omega) hx hy
theorem ins_room {A B U X:List AV}(h:X.length≤U.length):splice (splice (A++B++U) (A.length+X.length) B) A.length X=A++X++B++U.drop X.length:=by
 have e1:splice (A++B++U) (A.length+X.length) B=(A++B++U).take (A.length+X.length)++B++U.drop X.length:=by
  rw[splice_eq _ _ _ (by simp;omega)]
  congr 1
  rw[show A.length+X.length+B.length=(A++B).length+X.length by simp;omega,List.drop_append]
  simp
 rw[e1,splice_eq _ _ _ (by simp;omega)]
 rw[List.append_assoc ((A++B++U).take _),List.take_append_of_le_length (by simp<;>omega),List.take_take,Nat.min_eq_left (by omega),List.append_assoc A,List.take_left]
 rw[List.drop_append,List.drop_eq_nil_of_le (by simp;omega)]
 rw[show A.length+X.length-(List.take (A.length+X.length) (A++(B++U))).length=0 by simp;omega]
 simp
theorem ins_grow {A B Z U X:List AV}(h:Z.length=X.length+B.length):splice (splice (A++Z++U) A.length X) (A.length+X.length) B=A++X++B++U:=by
 have e1:splice (A++Z++U) A.length X=A++X++(Z.drop X.length++U):=by
  rw[splice_eq _ _ _ (by simp;omega),List.append_assoc A,List.take_left,List.drop_append,List.drop_eq_nil_of_le (by omega)]
  rw[show A.length+X.length-A.length=X.length by omega,List.drop_append,show X.length-Z.length=0 by omega]
  rfl
 rw[e1,splice_eq _ _ _ (by simp;omega)]
 rw[show A.length+X.length=(A++X).length by simp,List.take_left,List.drop_append,List.drop_eq_nil_of_le (by omega)]
 rw[show(A++X).length+B.length-(A++X).length=B.length by omega,List.drop_append,List.drop_eq_nil_of_le (by simp;omega)]
 rw[show B.length-(Z.drop X.length).length=0 by simp;omega]
 simp
theorem flatE_app (a b:List AV):flatE (a++b)=flatE a++flatE b:=by simp[flatE]
open Go Go.RowKit
def curM (f:Flow)(slot:Int):Int×Bool:=if flowE 32 f≠0∨slot < f.phase∨1099511627776 < slot then(0,false) else((slot-f.phase) / f.period,true)
def findF (l:List Flow)(id:Int):Int:=idxF (fun f:Flow=>f.id==id) l
structure Att where
 slot:Int
 frame:Int
 cell:Cell
 out:Int
 deriving DecidableEq
def Att.av (a:Att):AV:=.agg [.int .i64 a.slot,.int .i64 a.frame,.int .i64 a.cell.slot,.int .i64 a.cell.off,.int .i64 a.cell.src,.int .i64 a.cell.dst,.int .i64 a.cell.flow,.int .i64 a.out]
structure Del where
 flow:Int
 frame:Int
 slot:Int
 deriving DecidableEq
def Del.av (d:Del):AV:=.agg [.int .i64 d.flow,.int .i64 d.frame,.int .i64 d.slot]
structure RunL where
 atts:List Att
 dels:List Del
def encAtts (l:List Att):AV:=.sl false (l.map Att.av)
def encDels (l:List Del):AV:=.sl false (l.map Del.av)
def RunL.av (r:RunL):AV:=.agg [encAtts r.atts,encDels r.dels]
def atM (s:Sched)(slot:Int):List Cell:=if formB s=false∨slot < 0 then [] else s.cells.filter fun c=>c.slot==slot % s.len
def readyM (l:List Flow)(s:Sched)(x:List Rule)(slots:Int):Int:=
 if (flowsE 32 l).2≠0∨formB s=false∨(scriptM x).2≠0 then 1 else if slots < 0∨4096 < slots then 2 else 0
theorem flowsE_all {l:List Flow}(h:(flowsE 32 l).2=0):l.length≤16∧∀(k:Nat) (f:Flow),l[k]? = some f→flowE 32 f=0∧flowO l k f=true:=by
 unfold flowsE at h
 rw[if_neg (by omega)]at h
 split at h
 ·cases h
 rename_i h16
 refine⟨by omega,fun k f hf=>?_⟩
 have:=firstAt_ok.1 h k (List.getElem?_eq_some_iff.1 hf).1
 unfold flowAt at this
 rw[hf]at this
 simp only at this
 split at this
 ·rename_i hne
  exact absurd this hne
 ·rename_i he
  split at this
  ·cases this
  ·rename_i ho
   exact⟨by simpa using he,by simpa using ho⟩
open Go Go.RowKit
structure IM where
 ks:List (List Int)
 vs:List Int
def IM.none:IM:=⟨[],[]⟩
def IM.get (m:IM)(x:List Int):Option Int:=(posOf m.ks x).bind fun i=>m.vs[i]?
def IM.set (m:IM)(x:List Int)(v:Int):IM:=⟨setKs m.ks x,match posOf m.ks x with
 | some i=>m.vs.set i v
 | _=>m.vs++[v]⟩
def IM.ob (sh:Option Nat)(m:IM):Ob:=.map sh m.ks (m.vs.map encI)
def IM.ok (m:IM):Prop:=m.ks.length=m.vs.length
theorem IM.assoc (m:IM)(x:List Int):assoc m.ks (m.vs.map encI) x=(m.get x).map encI:=by
 unfold HM.assoc IM.get
 cases posOf m.ks x with
 | none=>rfl
 | some i=>simp
theorem IM.setVs (m:IM)(x:List Int)(v:Int):setVs m.ks (m.vs.map encI) x (encI v)=(m.set x v).vs.map encI:=by
 unfold HM.setVs IM.set
 cases posOf m.ks x with
 | none=>simp
 | some i=>simp[List.map_set]
theorem IM.none_ok:IM.none.ok:=rfl
theorem IM.set_ok {m:IM}(h:m.ok)(x:List Int)(v:Int):(m.set x v).ok:=by
 unfold IM.ok IM.set setKs at *
 cases posOf m.ks x with
 | none=>simp[h]
 | some i=>simp[h]
theorem posOf_snoc {ks:List (List Int)}{x y:List Int}(h:posOf ks x=none):posOf (ks++[x]) y=if y=x then some ks.length else posOf ks y:=by
 induction ks with
 | nil=>
  simp only[List.nil_append,posOf]
  by_cases e:y=x
  ·subst e;simp
  ·rw[if_neg (fun h=>e h.symm),if_neg e];rfl
 | cons k ks ih=>
  have h0:k≠x∧posOf ks x=none:=by
   unfold posOf at h
   split at h
   ·cases h
   ·rename_i hne
    exact⟨hne,by simpa using h⟩
  rw[List.cons_append,posOf,ih h0.2]
  by_cases e:k=y
  ·subst e
   rw[if_pos rfl,if_neg h0.1,posOf,if_pos rfl]
  ·rw[if_neg e]
   by_cases e2:y=x
   ·subst e2;simp
   ·rw[if_neg e2,if_neg e2,posOf,if_neg e]
theorem posOf_inj {ks:List (List Int)}{x y:List Int}{i:Nat}(h:posOf ks x=some i)(h':posOf ks y=some i):x=y:=by
 have:=posOf_some h
 rw[posOf_some h']at this
 exact(Option.some.inj this).symm
theorem IM.get_set {m:IM}(h:m.ok)(x y:List Int)(v:Int):(m.set x v).get y=if y=x then some v else m.get y:=by
 unfold IM.get IM.set setKs
 unfold IM.ok at h
 cases hx:posOf m.ks x with
 | none=>
  simp only[posOf_snoc hx]
  by_cases e:y=x
  ·rw[if_pos e,if_pos e];simp[h]
  ·rw[if_neg e,if_neg e]
   cases hy:posOf m.ks y with
   | none=>rfl
   | some j=>
    have:=(List.getElem?_eq_some_iff.1 (posOf_some hy)).1
    simp only[Option.bind_some]
    rw[List.getElem?_append_left (by omega)]
 | some i=>
  have hi:=(List.getElem?_eq_some_iff.1 (posOf_some hx)).1
  simp only
  by_cases e:y=x
  ·subst e
   rw[if_pos rfl,hx]
   simp[←h,hi]
  ·rw[if_neg e]
   cases hy:posOf m.ks y with
   | none=>rfl
   | some j=>
    have hne:i≠j:=fun hh=>e (by subst hh;exact posOf_inj hy hx)
    simp[hne]
structure PS where
 frame:Int
 since:IM
 tries:IM
 acked:IM
 done:Bool
structure PL where
 sts:List PS
 atts:List Att
 dels:List Del
open Go Go.RowKit
def onA (c:Cell)(frame:Int)(a:Att):Bool:=a.cell.flow==c.flow&&a.frame==frame&&a.cell.src==c.src&&a.cell.dst==c.dst
def gotA (id frame node:Int)(a:Att):Bool:=a.cell.flow==id&&a.frame==frame&&a.cell.dst==node&&a.out != 3
def holdsR (f:Flow)(ats:List Att)(node frame slot:Int):Bool:=node==f.src||ats.any fun a=>gotA f.id frame node a&&decide (a.slot < slot)
def ackedR (ats:List Att)(c:Cell)(frame slot:Int):Bool:=ats.any fun a=>onA c frame a&&decide (a.slot < slot)&&a.out==1
def countR (ats:List Att)(c:Cell)(frame:Int):Nat:=ats.countP (onA c frame)
def hadR (ds:List Del)(id frame:Int):Bool:=ds.any fun d=>d.flow==id&&d.frame==frame
def laterD (d x:Del):Bool:=x.slot==d.slot&&decide (d.flow < x.flow)
def insD (d:Del)(ds:List Del):List Del:=(ds.reverse.dropWhile (laterD d)).reverse++d :: (ds.reverse.takeWhile (laterD d)).reverse
def attemptR (l:List Flow)(x:List Rule)(slot:Int)(r:RunL)(c:Cell):RunL:=
 if findF l c.flow < 0 then r else
 match l[(findF l c.flow).toNat]? with
 | some f=>
  if (curM f slot).2=false∨c.src=f.dst∨holdsR f r.atts c.src (curM f slot).1 slot=false∨ackedR r.atts c (curM f slot).1 slot=true then r else
  let o:=outcomeM x c.flow (curM f slot).1 c.src c.dst (countR r.atts c (curM f slot).1)
  ⟨r.atts++[⟨slot,(curM f slot).1,c,o⟩],if c.dst=f.dst∧o≠3∧hadR r.dels c.flow (curM f slot).1=false then insD ⟨c.flow,(curM f slot).1,slot⟩ r.dels else r.dels⟩
 | none=>r
def slotR (l:List Flow)(s:Sched)(x:List Rule)(r:RunL)(slot:Int):RunL:=(atM s slot).foldl (attemptR l x slot) r
def playR (l:List Flow)(sc:Nat→Sched)(x:List Rule):Nat→RunL
 | 0=>⟨[],[]⟩
 | n+1=>slotR l (sc n) x (playR l sc x n) n
structure FlowsOk (l:List Flow):Prop where
 len:l.length≤16
 ok:∀(k:Nat) f,l[k]? = some f→flowE 32 f=0
 lt:∀(i j:Nat) f g,i < j→l[i]? = some f→l[j]? = some g→f.id < g.id
theorem flowsOk_of {l:List Flow}(h:(flowsE 32 l).2=0):FlowsOk l:=by
 obtain⟨h1,h2⟩:=flowsE_all h
 refine⟨h1,fun k f hf=>(h2 k f hf).1,fun i j=>?_⟩
 induction j with
 | zero=>intro f g hij;omega
 | succ j ih=>
  intro f g hij hf hg
  have hj:j < l.length:=by have:=(List.getElem?_eq_some_iff.1 hg).1;omega
  obtain⟨c,hc⟩:∃c,l[j]? = some c:=⟨_,List.getElem?_eq_getElem hj⟩
  have h3:=(h2 (j+1) g hg).2
  simp only[flowO,hc,decide_eq_true_eq]at h3
  rcases Nat.lt_succ_iff_lt_or_eq.1 hij with hl|rfl
  ·have:=ih f c hl hf hc;omega
  ·rw[hf]at hc;injection hc with hc;subst hc;exact h3
theorem FlowsOk.find {l:List Flow}(h:FlowsOk l){i:Nat}{f:Flow}(hf:l[i]? = some f):findF l f.id=(i:Int):=by
 refine idxF_some (List.getElem?_eq_some_iff.1 hf).1 (fun j y hj hy=>?_) hf (by simp)
 have:=h.lt j i y f hj hy hf
 simp;omega
open Go Go.RowKit
def genB (l:List Flow)(R:List Att)(t:Int)(c:Cell):Option (Int×Int×Cell):=
 if findF l c.flow < 0 then none else
 match l[(findF l c.flow).toNat]? with
 | some f=>if (curM f t).2=false∨c.src=f.dst∨holdsR f R c.src (curM f t).1 t=false∨ackedR R c (curM f t).1 t=true then none else some (t,(curM f t).1,c)
 | none=>none
def keyA (a:Att):Int×Int×Cell:=(a.slot,a.frame,a.cell)
theorem any_late {p:Att→Bool}{r late:List Att}{t:Int}(h:∀b∈late,t≤b.slot)(hp:∀b,p b=true→b.slot < t):(r++late).any p=r.any p:=by
 rw[List.any_append]
 have:late.any p=false:=by
  rw[List.any_eq_false]
  intro b hb hpb
  have:=h b hb
  have:=hp b hpb
  omega
 rw[this,Bool.or_false]
theorem genB_late (l:List Flow){r late:List Att}{t:Int}(h:∀b∈late,t≤b.slot)(c:Cell):genB l (r++late) t c=genB l r t c:=by
 unfold genB holdsR ackedR
 have e1:∀id n node,((r++late).any fun a=>gotA id n node a&&decide (a.slot < t))=r.any fun a=>gotA id n node a&&decide (a.slot < t):=fun id n node=>any_late h fun b hb=>by
  simp only[Bool.and_eq_true,decide_eq_true_eq]at hb;exact hb.2
 have e2:∀n,((r++late).any fun a=>onA c n a&&decide (a.slot < t)&&a.out==1)=r.any fun a=>onA c n a&&decide (a.slot < t)&&a.out==1:=fun n=>any_late h fun b hb=>by
  simp only[Bool.and_eq_true,decide_eq_true_eq]at hb;exact hb.1.2
 simp only[e1,e2]
theorem attemptR_gen (l:List Flow)(x:List Rule)(t:Int)(r:RunL)(c:Cell):∃late,(attemptR l x t r c).atts=r.atts++late∧(∀b∈late,b.slot=t)∧late.map keyA=(genB l r.atts t c).toList:=by
 unfold attemptR genB
 by_cases h1:findF l c.flow < 0
 ·rw[if_pos h1,if_pos h1];exact⟨[],by simp,by simp,rfl⟩
 rw[if_neg h1,if_neg h1]
 cases hf:l[(findF l c.flow).toNat]? with
 | none=>exact⟨[],by simp,by simp,rfl⟩
 | some f=>
  simp only
  by_cases h2:(curM f t).2=false∨c.src=f.dst∨holdsR f r.atts c.src (curM f t).1 t=false∨ackedR r.atts c (curM f t).1 t=true
  ·rw[if_pos h2,if_pos h2];exact⟨[],by simp,by simp,rfl⟩
  ·rw[if_neg h2,if_neg h2];exact⟨[_],rfl,by simp,rfl⟩
theorem fold_gen (l:List Flow)(x:List Rule)(t:Int):∀(cs:List Cell) (r:RunL) (r0:List Att) (late0:List Att),r.atts=r0++late0→(∀b∈late0,b.slot=t)→∃late,(cs.foldl (attemptR l x t) r).atts=r.atts++late∧(∀b∈late,b.slot=t)∧late.map keyA=cs.filterMap (genB l r0 t)
 | [],r,r0,late0,_,_=>⟨[],by simp,by simp,rfl⟩
 | c :: cs,r,r0,late0,h0,hl0=>by
  obtain⟨l1,h1,h2,h3⟩:=attemptR_gen l x t r c
  obtain⟨l2,h4,h5,h6⟩:=fold_gen l x t cs (attemptR l x t r c) r0 (late0++l1) (by rw[h1,h0,List.append_assoc]) (fun b hb=>by
   rcases List.mem_append.1 hb with hb|hb
   ·exact hl0 b hb
   ·exact h2 b hb)
  refine⟨l1++l2,by rw[List.foldl_cons,h4,h1,List.append_assoc],fun b hb=>?_,?_⟩
  ·rcases List.mem_append.1 hb with hb|hb
   ·exact h2 b hb
   ·exact h5 b hb
  ·rw[List.map_append,h3,h6,h0,genB_late l (fun b hb=>by rw[hl0 b hb];exact Int.le_refl _),List.filterMap_cons]
   cases genB l r0 t c<;>rfl
theorem slotR_gen (l:List Flow)(s:Sched)(x:List Rule)(r:RunL)(t:Int):∃late,(slotR l s x r t).atts=r.atts++late∧(∀b∈late,b.slot=t)∧late.map keyA=(atM s t).filterMap (genB l r.atts t):=
 fold_gen l x t (atM s t) r r.atts [] (by simp) (by simp)
theorem playR_late (l:List Flow)(sc:Nat→Sched)(x:List Rule)(n:Nat):∀m,∃late,(playR l sc x (n+m)).atts=(playR l sc x n).atts++late∧∀b∈late,(n:Int)≤b.slot
 | 0=>⟨[],by simp,by simp⟩
 | m+1=>by
  obtain⟨l1,h1,h2⟩:=playR_late l sc x n m
  obtain⟨l2,h3,h4,_⟩:=slotR_gen l (sc (n+m)) x (playR l sc x (n+m)) (n+m:Nat)
  refine⟨l1++l2,?_,fun b hb=>?_⟩
  ·show(slotR l (sc (n+m)) x (playR l sc x (n+m)) (n+m:Nat)).atts=_
   rw[h3,h1,List.append_assoc]
  ·rcases List.mem_append.1 hb with hb|hb
   ·exact h2 b hb
   ·rw[h4 b hb];omega
open Go Go.RowKit
open Go Go.RowKit
open Go Go.RowKit
open Go Go.RowKit
end HM
