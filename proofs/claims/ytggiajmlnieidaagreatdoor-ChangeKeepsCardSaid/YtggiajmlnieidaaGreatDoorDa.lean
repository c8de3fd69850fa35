/- Schedules, masks and places in plain words. -/
import Derived.Test.YtggiajmlnieidaaGreatDoorFg
import Derived.Test.YtggiajmlnieidaaGreatDoorFh
namespace HM
open Go Go.RowKit
theorem xF.map {α:Type}{sz:Nat}{f:α→AV}(h:∀x,(f x).ncells=sz∧(f x).cells.all AV.isCell=true){l:List α}:xF sz (l.map f):=by
 intro e he
 obtain⟨x,_,rfl⟩:=List.mem_map.1 he
 exact h x
structure zg where
 slot:Int
 off:Int
 src:Int
 dst:Int
 flow:Int
 deriving DecidableEq
structure zc where
 len:Int
 offs:Int
 cells:List zg
def zM (n:Int):AV:=.int .i64 n
def zp (l:List Int):AV:=.sl false (l.map zM)
def zg.av (c:zg):AV:=.agg [.int .i64 c.slot,.int .i64 c.off,.int .i64 c.src,.int .i64 c.dst,.int .i64 c.flow]
def zy (l:List zg):AV:=.sl false (l.map zg.av)
def zc.av (s:zc):AV:=.agg [.int .i64 s.len,.int .i64 s.offs,zy s.cells]
def yE (x n:Int):Bool:=decide (0≤x)&&decide (x < n)
def wA (s:zc):Bool:=decide (1≤s.len)&&decide (s.len≤512)&&decide (1≤s.offs)&&decide (s.offs≤16)
def wy (s:zc)(c:zg):Bool:=yE c.slot s.len&&yE c.off s.offs
def yR (s:zc)(c:zg):Bool:=wy s c&&yE c.src 32&&yE c.dst 32&&yE c.flow 256
def zg.nums (c:zg):List Int:=[c.slot,c.off,c.src,c.dst,c.flow]
def qy (x y:Int):Int:=if x < y then -1 else if y < x then 1 else 0
def xt:List Int→List Int→Int
 | [],[]=>0
 | [],_ :: _=>-1
 | _ :: _,[]=>1
 | x :: xs,y :: ys=>if qy x y=0 then xt xs ys else qy x y
def zg.cmp (a b:zg):Int:=xt a.nums b.nums
theorem zk {α:Type}{f:α→AV}{l:List α}{k:Nat}{x:α}(h:l[k]? = some x):(l.map f)[(k:Int).toNat]? = some (f x):=by simp[h]
theorem qw {α:Type}{l:List α}{k:Nat}{x:α}(h:l[k]? = some x):l.drop k=x :: l.drop (k+1):=by
 obtain⟨hlt,rfl⟩:=List.getElem?_eq_some_iff.1 h
 exact List.drop_eq_getElem_cons hlt
theorem zr {α:Type}{l:List α}{k:Nat}(h:k < l.length):∃x,l[k]? = some x:=⟨_,List.getElem?_eq_getElem h⟩
theorem zgN {α:Type}{f:α→AV}{l:List α}{k:Nat}(h:decide ((k:Int) < ((l.map f).length:Int))=true):k < l.length:=by simpa using h
theorem zgP {α:Type}{f:α→AV}{l:List α}{k:Nat}(h:decide ((k:Int) < ((l.map f).length:Int))=false):l.length≤k:=by simpa using h
theorem zh {α:Type}{f:α→AV}{l:List α}{k:Nat}(h:k < l.length):InB (k:Int) (l.map f).length:=⟨by omega,by simp;omega⟩
theorem zhg {α:Type}{a b:List α}(hl:a.length=b.length)(h:∀(j:Nat) x y,j < a.length→a[j]? = some x→b[j]? = some y→x=y):a=b:=by
 apply List.ext_getElem?
 intro j
 by_cases hj:j < a.length
 ·have e1:a[j]? = some a[j]:=List.getElem?_eq_getElem hj
  have e2:b[j]? = some (b[j]'(by omega)):=List.getElem?_eq_getElem (by omega)
  rw[e1,e2,h j _ _ hj e1 e2]
 ·rw[List.getElem?_eq_none (by omega),List.getElem?_eq_none (by omega)]
theorem zu {k n:Nat}(h:k < n)(hn:n≤281474976710656):IntKind.i64.wrap ((k:Int)+1)=((k+1:Nat):Int):=by rw[xw]<;>omega
def Xr (s:zc)(i:Nat):Bool:=match s.cells[i]? with
 | some c=>yR s c&&(match i with
  | 0=>true
  | j+1=>match s.cells[j]? with
   | some p=>decide (p.cmp c < 0)
   | none=>true)
 | none=>true
def yc (s:zc):Bool:=wA s&&decide (s.cells.length≤512)&&(List.range s.cells.length).all (Xr s)
theorem ZV {n:Nat}{f:Nat→Bool}(h:∀j,j < n→f j=true):(List.range n).all f=true:=by
 simp[List.all_eq_true];exact h
theorem J7 {n k:Nat}{f:Nat→Bool}(hk:k < n)(h:f k=false):(List.range n).all f=false:=by
 rw[List.all_eq_false]
 exact⟨k,by simpa using hk,by simp[h]⟩
theorem xC {s:zc}(h:yc s=true):wA s=true∧s.cells.length≤512∧∀c∈s.cells,yR s c=true:=by
 simp only[yc,Bool.and_eq_true,decide_eq_true_eq,List.all_eq_true]at h
 refine⟨h.1.1,h.1.2,fun c hc=>?_⟩
 obtain⟨j,hj⟩:=List.getElem?_of_mem hc
 have h2:=h.2 j (by simp;exact(List.getElem?_eq_some_iff.1 hj).1)
 unfold Xr at h2
 rw[hj]at h2
 simp at h2
 exact h2.1
theorem vj {s:zc}(h:wA s=true):1≤s.len∧s.len≤512∧1≤s.offs∧s.offs≤16:=by simp[wA]at h;omega
mutual
theorem zj8:∀(e:AV) {e':AV} {k m:Nat},fz e=some e'→e'.okk k m
 | .int _ _,_,_,_,h=>by simp[fz]at h;subst h;trivial
 | .bool _,_,_,_,h=>by simp[fz]at h;subst h;trivial
 | .str _,_,_,_,h=>by simp[fz]at h;subst h;trivial
 | .nils,_,_,_,h=>by simp[fz]at h;subst h;trivial
 | .nilp,_,_,_,h=>by simp[fz]at h;subst h;trivial
 | .nili,_,_,_,h=>by simp[fz]at h;subst h;trivial
 | .nilm,_,_,_,h=>by simp[fz]at h;subst h;trivial
 | .sl _ _,_,_,_,h=>by simp[fz]at h;subst h;trivial
 | .own _ _,_,_,_,h=>by simp[fz]at h;subst h;trivial
 | .cptr _ _,_,_,_,h=>by simp[fz]at h;subst h;trivial
 | .cmp _ _ _,_,_,_,h=>by simp[fz]at h;subst h;trivial
 | .fn f caps,e',k,m,h=>by
  simp only[fz,Option.map_eq_some_iff]at h
  obtain⟨x,h1,rfl⟩:=h
  exact Zs caps h1
 | .agg cs,e',k,m,h=>by
  simp only[fz,Option.map_eq_some_iff]at h
  obtain⟨x,h1,rfl⟩:=h
  exact Zs cs h1
 | .tup cs,e',k,m,h=>by
  simp only[fz,Option.map_eq_some_iff]at h
  obtain⟨x,h1,rfl⟩:=h
  exact Zs cs h1
 | .undef,_,_,_,h=>by simp[fz]at h
 | .bsl _ _ _ _,_,_,_,h=>by simp[fz]at h
 | .vsl _ _ _ _,_,_,_,h=>by simp[fz]at h
 | .ptr _ _,_,_,_,h=>by simp[fz]at h
 | .yld _,_,_,_,h=>by simp[fz]at h
 | .mp _,_,_,_,h=>by simp[fz]at h
theorem Zs:∀(es:List AV) {es':List AV} {k m:Nat},xo es=some es'→wr k m es'
 | [],_,_,_,h=>by simp[xo]at h;subst h;trivial
 | e :: es,es',k,m,h=>by
  simp only[xo]at h
  split at h
  ·rename_i a b h1 h2
   simp at h;subst h
   exact⟨zj8 e h1,Zs es h2⟩
  ·cases h
end
theorem yz {es:List AV}{k m:Nat}(h:xo es=some es):wr k m es:=Zs es h
def wu {α:Type}(p:α→Bool)(l:List α):Int:=if l.any p then(l.findIdx p:Int) else -1
theorem yI {α:Type}{p:α→Bool}{l:List α}{k:Nat}{x:α}(hlt:k < l.length)(hinv:∀j y,j < k→l[j]? = some y→p y=false)(hx:l[k]? = some x)(hp:p x=true):wu p l=(k:Int):=by
 have hany:l.any p=true:=List.any_eq_true.2 ⟨x,List.mem_of_getElem? hx,hp⟩
 have hidx:l.findIdx p=k:=by
  rw[List.findIdx_eq hlt]
  obtain⟨_,rfl⟩:=List.getElem?_eq_some_iff.1 hx
  exact⟨hp,fun j hj=>hinv j _ hj (List.getElem?_eq_getElem (by omega))⟩
 simp[wu,hany,hidx]
theorem yY {α:Type}{p:α→Bool}{l:List α}(hinv:∀j y,j < l.length→l[j]? = some y→p y=false):wu p l=-1:=by
 have hany:l.any p=false:=by
  rw[List.any_eq_false]
  intro x hx
  obtain⟨j,hj⟩:=List.getElem?_of_mem hx
  simp[hinv j x (List.getElem?_eq_some_iff.1 hj).1 hj]
 simp[wu,hany]
theorem wU {α:Type}(p:α→Bool)(l:List α):decide (0≤wu p l)=l.any p:=by
 unfold wu
 cases h:l.any p<;>simp
def zkb (sz:Nat):List AV→Bool
 | []=>true
 | e :: es=>Nat.beq e.ncells sz&&e.cells.all AV.isCell&&zkb sz es
theorem xF.zgf {sz:Nat}:∀{es:List AV},zkb sz es=true→xF sz es
 | [],_=>xF.nil _
 | e :: es,h=>by
  simp only[zkb,Bool.and_eq_true]at h
  exact xF.cons (Nat.eq_of_beq_eq_true h.1.1) h.1.2 (xF.zgf h.2)
theorem sI {a b:Prop}(hb:b)(ha:a:=by first|rfl|exact⟨rfl,rfl⟩|exact Or.inl ⟨_,rfl⟩|exact Or.inr rfl|exact y6 rfl|exact xF.zgf rfl|exact xF.map (fun _=>⟨rfl,rfl⟩)|kernel_rfl):a∧b:=⟨ha,hb⟩
theorem sJ {a b:Prop}(hb:b)(ha:a:=by first|rfl|exact⟨rfl,rfl⟩|exact Or.inl ⟨_,rfl⟩|exact Or.inr rfl|exact y6 rfl|exact xF.zgf rfl|exact xF.map (fun _=>⟨rfl,rfl⟩)):a∧b:=⟨ha,hb⟩
theorem sT {a b:Prop}(hb:b)(ha:a:=by first|rfl|exact⟨rfl,rfl⟩|exact Or.inl ⟨_,rfl⟩|exact Or.inr rfl|exact y6 rfl|exact xF.zgf rfl|exact xF.map (fun _=>⟨rfl,rfl⟩)|exact trivial|kernel_rfl):a∧b:=⟨ha,hb⟩
theorem cD {G Q R:Prop}(h:Q)(k:R)(x:Q→R→G:=by intro h k;first|exact zo.data rfl h rfl k|exact xU.data rfl h rfl k):G:=x h k
theorem cB {G Q R:Prop}(h:Q)(k:R)(x:Q→R→G:=by intro h k;first|exact zo.box rfl h rfl rfl k|exact xU.box rfl h rfl rfl k):G:=x h k
theorem aI {p q:Prop}(hp:p)(hq:q):p∧q:=⟨hp,hq⟩
theorem fN {a:Nat→AV}{S S1:St}{l:List (Nat×AV)}(h:WK S.bx S1.bx∧y8 S.fr S1.fr∧je S.ty S1.ty S1.fr.length∧V9 S1.bx.length S1.fr.length S1.bx∧zcW S1.bx.length S1.fr.length a l)(h1:S1.n0=S.n0:=by rfl)(h2:S1.m0=S.m0:=by rfl)(h3:Nat.ble S1.n0 S1.bx.length=true:=by rfl)(h4:Nat.ble S1.m0 S1.fr.length=true:=by rfl):X3 a S l S1:=X3.mk' h1 h2 h3 h4 h.1 h.2.1 h.2.2.1 h.2.2.2.1 h.2.2.2.2
theorem fQ {p:Prop}(h:p:=by first|exact trivial|exact za.of_eq rfl|exact zfh rfl|rfl):p:=h
theorem Wk {p q:Prop}(hq:q)(h:q→p:=by intro h;(repeat((conv=>whnf);refine sI ?_));(try(conv=>whnf));exact h):p:=h hq
open Go Go.RowKit
theorem zK {α:Type}{l:List α}{k:Nat}{x:α}(h:l[k]? = some x):l.take (k+1)=l.take k++[x]:=by
 rw[List.take_add_one,h];rfl
open Go Go.RowKit
theorem qJ (k m:Nat):∀l:List Int,wr k m (l.map zM)
 | []=>trivial
 | _ :: l=>⟨trivial,qJ k m l⟩
open Go Go.RowKit
open Go Go.RowKit
def tI:Ty:=.int .i64
def JY:Ty:=.st [tI,tI,tI,tI,tI]
def zc3:Ty:=.st [tI,tI,.sl JY]
def I64b (n:Int):Prop:=-9223372036854775808≤n∧n≤9223372036854775807
theorem xg {l:List AV}(h:tI.sh l):∃n,l=[.int .i64 n]∧I64b n:=by
 obtain⟨n,rfl,hw⟩:=h
 refine⟨n,rfl,?_⟩
 simp only[Lit.wf,Bool.and_eq_true,decide_eq_true_eq]at hw
 exact hw
theorem zd8 {l:List AV}(h:JY.sh l):∃c:zg,l=[.int .i64 c.slot,.int .i64 c.off,.int .i64 c.src,.int .i64 c.dst,.int .i64 c.flow]:=by
 obtain⟨_,_,rfl,_,h1,_,_,rfl,_,h2,_,_,rfl,_,h3,_,_,rfl,_,h4,_,_,rfl,_,h5,h6⟩:=h
 obtain⟨a,rfl,_⟩:=xg h1
 obtain⟨b,rfl,_⟩:=xg h2
 obtain⟨c,rfl,_⟩:=xg h3
 obtain⟨d,rfl,_⟩:=xg h4
 obtain⟨e,rfl,_⟩:=xg h5
 obtain rfl:=h6
 exact⟨⟨a,b,c,d,e⟩,rfl⟩
theorem Xw {α:Type}{d:Ty}{f:α→AV}(h:∀l,d.sh l→∃x,d.mk l=f x):∀els:List (List AV),(∀c∈els,d.sh c∧c.length=d.n)→∃xs:List α,els.map d.mk=xs.map f∧xs.length=els.length
 | [],_=>⟨[],rfl,rfl⟩
 | c :: els,hc=>by
  obtain⟨x,hx⟩:=h c (hc c (by simp)).1
  obtain⟨xs,h1,h2⟩:=Xw h els (fun c hm=>hc c (by simp[hm]))
  exact⟨x :: xs,by simp[hx,h1],by simp[h2]⟩
theorem zgv {l:List AV}(h:(Ty.sl JY).sh l):∃cs:List zg,l=[zy cs]∧cs.length≤140737488355328:=by
 obtain⟨els,rfl,h1,h2⟩:=h
 obtain⟨cs,h3,h4⟩:=Xw (f:=zg.av) (fun l hl=>by
  obtain⟨c,rfl⟩:=zd8 hl
  exact⟨c,rfl⟩) els h1
 exact⟨cs,by rw[h3];rfl,by omega⟩
theorem K3 {l:List AV}(h:(Ty.sl tI).sh l):∃f:List Int,l=[zp f]∧f.length≤140737488355328:=by
 obtain⟨els,rfl,h1,h2⟩:=h
 obtain⟨cs,h3,h4⟩:=Xw (f:=zM) (fun l hl=>by
  obtain⟨c,rfl,_⟩:=xg hl
  exact⟨c,rfl⟩) els h1
 exact⟨cs,by rw[h3];rfl,by omega⟩
open Go Go.RowKit
structure yX where
 src:Int
 dst:Int
 loss:Int
 deriving DecidableEq
def yX.av (l:yX):AV:=.agg [.int .i64 l.src,.int .i64 l.dst,.int .i64 l.loss]
def wl (l:List yX):AV:=.sl false (l.map yX.av)
structure zF where
 nodes:Int
 power:List (List Int)
 noise:Int
 thr:Int
 links:List yX
 margin:List Int
def zZ (l:List (List Int)):AV:=.sl false (l.map zp)
def zF.cs (n:zF):List AV:=[.int .i64 n.nodes,zZ n.power,.int .i64 n.noise,.int .i64 n.thr,wl n.links,zp n.margin]
def zF.av (n:zF):AV:=.agg [.int .i64 n.nodes,zZ n.power,.int .i64 n.noise,.int .i64 n.thr,wl n.links,zp n.margin]
structure zf where
 id:Int
 src:Int
 dst:Int
 period:Int
 phase:Int
 dead:Int
 deriving DecidableEq
def zf.av (f:zf):AV:=.agg [.int .i64 f.id,.int .i64 f.src,.int .i64 f.dst,.int .i64 f.period,.int .i64 f.phase,.int .i64 f.dead]
def zN (l:List zf):AV:=.sl false (l.map zf.av)
def qi (f:Nat→Int):Nat→Int
 | 0=>0
 | k+1=>if qi f k=0 then f k else qi f k
theorem Zw {f:Nat→Int}:∀{n:Nat},(∀j,j < n→f j=0)→qi f n=0
 | 0,_=>rfl
 | n+1,h=>by rw[qi,Zw fun j hj=>h j (by omega),if_pos rfl];exact h n (by omega)
theorem QN {f:Nat→Int}{k:Nat}(h0:∀j,j < k→f j=0)(he:f k≠0):∀{n:Nat},k < n→qi f n=f k
 | 0,h=>by omega
 | n+1,h=>by
  rw[qi]
  by_cases e:k=n
  ·subst e;rw[Zw h0,if_pos rfl]
  ·rw[QN h0 he (n:=n) (by omega),if_neg he]
theorem Zx {f:Nat→Int}:∀{n:Nat},qi f n=0↔∀j,j < n→f j=0
 | 0=>by simp[qi]
 | n+1=>by
  rw[qi]
  constructor
  ·intro h j hj
   by_cases h0:qi f n=0
   ·rw[if_pos h0]at h
    rcases Nat.lt_succ_iff_lt_or_eq.1 hj with hl|rfl
    ·exact Zx.1 h0 j hl
    ·exact h
   ·rw[if_neg h0]at h;exact absurd h h0
  ·intro h
   rw[if_pos (Zx.2 fun j hj=>h j (by omega))]
   exact h n (by omega)
def yX.key (l:yX):List Int:=[l.src,l.dst]
def yX.cmp (a b:yX):Int:=xt a.key b.key
def Zj (n:zF)(a b:Int):Int:=(n.power.getD a.toNat []).getD b.toNat 0
def zcM (x:Int):Bool:=decide (x < 0)||decide (68719476736 < x)
def qL (n:zF):Int:=
 if (n.power.length:Int)≠n.nodes∨n.power.any (fun r=>(r.length:Int) != n.nodes) then 1
 else if n.power.any (fun r=>r.any zcM) then 2 else 0
def kP (n:zF)(l:yX):Bool:=yE l.src n.nodes&&yE l.dst n.nodes&&decide (l.src≠l.dst)&&decide (0≤l.loss)&&decide (l.loss≤7)
def Qj (n:zF)(i:Nat)(l:yX):Bool:=match i with
 | 0=>true
 | j+1=>match n.links[j]? with
  | some p=>decide (p.cmp l < 0)
  | none=>true
def Ql (n:zF)(i:Nat):Int:=match n.links[i]? with
 | none=>0
 | some l=>if kP n l=false then 2 else if Qj n i l=false then 5
  else if n.margin.getD i 0 < 0∨Zj n l.src l.dst < n.margin.getD i 0 then 2 else 0
def yS (n:zF):Int:=
 if n.nodes < 2∨32 < n.nodes then 2
 else if qL n≠0 then qL n
 else if n.noise < 0∨68719476736 < n.noise∨n.thr < 1000∨100000 < n.thr then 2
 else if 128 < n.links.length then 8
 else if n.margin.length≠n.links.length then 11
 else qi (Ql n) n.links.length
structure xT (n:zF):Prop where
 nodes:2≤n.nodes∧n.nodes≤32
 rows:(n.power.length:Int)=n.nodes
 row:∀r∈n.power,(r.length:Int)=n.nodes
 pow:∀r∈n.power,∀x∈r,0≤x∧x≤68719476736
 noise:0≤n.noise∧n.noise≤68719476736
 thr:1000≤n.thr∧n.thr≤100000
 many:n.links.length≤128
 mar:n.margin.length=n.links.length
 link:∀i l,n.links[i]? = some l→kP n l=true∧Qj n i l=true∧0≤n.margin.getD i 0∧n.margin.getD i 0≤Zj n l.src l.dst
theorem J9 {n:zF}(h:qL n=0):(n.power.length:Int)=n.nodes∧(∀r∈n.power,(r.length:Int)=n.nodes)∧∀r∈n.power,∀x∈r,0≤x∧x≤68719476736:=by
 unfold qL at h
 split at h
 ·cases h
 ·rename_i h1
  split at h
  ·cases h
  ·rename_i h2
   simp only[not_or,ne_eq,Decidable.not_not,Bool.not_eq_true,List.any_eq_false,bne_iff_ne]at h1 h2
   refine⟨h1.1,h1.2,fun r hr x hx=>?_⟩
   have:=h2 r hr x hx
   simp[zcM]at this
   omega
theorem V2 {n:zF}(h:∀r∈n.power,∀x∈r,0≤x∧x≤68719476736)(a b:Int):0≤Zj n a b∧Zj n a b≤68719476736:=by
 unfold Zj
 rw[List.getD_eq_getElem?_getD,List.getD_eq_getElem?_getD]
 cases h1:n.power[a.toNat]? with
 | none=>simp
 | some r=>
  simp only[Option.getD_some]
  cases h2:r[b.toNat]? with
  | none=>simp
  | some x=>exact h r (List.mem_of_getElem? h1) x (List.mem_of_getElem? h2)
theorem vo {n:zF}(h:yS n=0):xT n:=by
 unfold yS at h
 split at h
 ·cases h
 split at h
 ·contradiction
 split at h
 ·cases h
 split at h
 ·cases h
 split at h
 ·cases h
 rename_i h1 h2 h3 h4 h5
 obtain⟨p1,p2,p3⟩:=J9 (Decidable.not_not.1 h2)
 refine⟨by omega,p1,p2,p3,by omega,by omega,by omega,by omega,fun i l hl=>?_⟩
 have hi:=(List.getElem?_eq_some_iff.1 hl).1
 have:=Zx.1 h i hi
 unfold Ql at this
 rw[hl]at this
 simp only at this
 split at this
 ·cases this
 split at this
 ·cases this
 split at this
 ·cases this
 rename_i g1 g2 g3
 exact⟨by simpa using g1,by simpa using g2,by omega,by omega⟩
theorem Xx {n:zF}{l:yX}(h:kP n l=true):0≤l.src∧l.src < n.nodes∧0≤l.dst∧l.dst < n.nodes∧l.src≠l.dst∧0≤l.loss∧l.loss≤7:=by
 simp[kP,yE]at h;omega
theorem VB {x y:Int}:qy x y < 0↔x < y:=by
 unfold qy
 by_cases h:x < y
 ·simp[h]
 ·by_cases h2:y < x<;>simp[h,h2]
theorem vX {x y:Int}:qy x y=0↔x=y:=by
 unfold qy
 by_cases h:x < y
 ·simp[h];omega
 ·by_cases h2:y < x
  ·simp[h,h2];omega
  ·simp[h,h2];omega
theorem ziM (x y:Int):-1≤qy x y∧qy x y≤1:=by
 unfold qy
 by_cases h:x < y
 ·simp[h]
 ·by_cases h2:y < x<;>simp[h,h2]
theorem ziL:∀(xs ys:List Int),-1≤xt xs ys∧xt xs ys≤1
 | [],[]=>by simp[xt]
 | [],_ :: _=>by simp[xt]
 | _ :: _,[]=>by simp[xt]
 | x :: xs,y :: ys=>by
  unfold xt
  split
  ·exact ziL xs ys
  ·exact ziM x y
theorem vt:∀{xs ys:List Int},xt xs ys=0↔xs=ys
 | [],[]=>by simp[xt]
 | [],_ :: _=>by simp[xt]
 | _ :: _,[]=>by simp[xt]
 | x :: xs,y :: ys=>by
  unfold xt
  split
  ·rename_i h
   rw[vX]at h
   simp[h,vt (xs:=xs) (ys:=ys)]
  ·rename_i h
   have h2:x≠y:=fun e=>h (vX.2 e)
   simp[h,h2]
theorem y7:∀{xs ys zs:List Int},xt xs ys < 0→xt ys zs < 0→xt xs zs < 0
 | [],[],_,h,_=>by simp[xt]at h
 | [],_ :: _,[],_,h=>by simp[xt]at h
 | [],_ :: _,_ :: _,_,_=>by simp[xt]
 | _ :: _,[],_,h,_=>by simp[xt]at h
 | _ :: _,_ :: _,[],_,h=>by simp[xt]at h
 | x :: xs,y :: ys,z :: zs,h1,h2=>by
  unfold xt at h1 h2 ⊢
  split at h1
  ·rename_i e1
   rw[vX]at e1;subst e1
   split at h2
   ·rename_i e2
    rw[if_pos e2];exact y7 h1 h2
   ·rename_i e2
    rw[if_neg e2];exact h2
  ·rename_i e1
   rw[VB]at h1
   split at h2
   ·rename_i e2
    rw[vX]at e2;subst e2
    rw[if_neg (fun e=>by rw[vX]at e;omega),VB];exact h1
   ·rename_i e2
    rw[VB]at h2
    rw[if_neg (fun e=>by rw[vX]at e;omega),VB];omega
theorem Z5:∀{xs ys:List Int},xt xs ys < 0↔0 < xt ys xs
 | [],[]=>by simp[xt]
 | [],_ :: _=>by simp[xt]
 | _ :: _,[]=>by simp[xt]
 | x :: xs,y :: ys=>by
  unfold xt
  by_cases e:x=y
  ·subst e
   rw[if_pos (vX.2 rfl),if_pos (vX.2 rfl)];exact Z5
  ·rw[if_neg (fun h=>e (vX.1 h)),if_neg (fun h=>e (vX.1 h).symm)]
   unfold qy
   by_cases h1:x < y
   ·have h2:¬y < x:=by omega
    simp[h1,h2]
   ·have h2:y < x:=by omega
    simp[h1,h2]
def YX {α:Type}(c:α→α→Int)(l:List α):Prop:=∀(i j:Nat) (x y:α),i < j→l[i]? = some x→l[j]? = some y→c x y < 0
theorem Zf {α:Type}{key:α→List Int}{l:List α}(h:∀(j:Nat) (p x:α),l[j]? = some p→l[j+1]? = some x→xt (key p) (key x) < 0):YX (fun a b=>xt (key a) (key b)) l:=by
 intro i j x y hij hx hy
 induction j generalizing y with
 | zero=>omega
 | succ j ih=>
  have hlt:=(List.getElem?_eq_some_iff.1 hy).1
  have hj:l[j]? = some l[j]:=List.getElem?_eq_getElem (by omega)
  rcases Nat.lt_succ_iff_lt_or_eq.1 hij with h1|rfl
  ·exact y7 (ih _ h1 hj) (h j _ y hj hy)
  ·rw[hx]at hj;injection hj with hj
   exact h i x y hx hy
def wQ {α:Type}(c:α→Int)(l:List α):Nat:=(l.takeWhile fun x=>decide (c x < 0)).length
def jx {α:Type}(c:α→Int)(l:List α):Bool:=match l[wQ c l]? with
 | some x=>c x==0
 | none=>false
def zge {α:Type}(c:α→Int)(l:List α):Prop:=∀(i j:Nat) (x y:α),i < j→l[i]? = some x→l[j]? = some y→c y < 0→c x < 0
theorem jj {α:Type}{c:α→Int}:∀{l:List α} {i:Nat} {x:α},i < wQ c l→l[i]? = some x→c x < 0
 | [],_,_,h,_=>by simp[wQ]at h
 | a :: l,i,x,h,hx=>by
  unfold wQ at h
  rw[List.takeWhile_cons]at h
  split at h
  ·rename_i ha
   cases i with
   | zero=>simp at hx;subst hx;simpa using ha
   | succ i=>exact jj (l:=l) (by simpa[wQ] using h) (by simpa using hx)
  ·simp at h
theorem Xp {α:Type}{c:α→Int}:∀{l:List α} {x:α},l[wQ c l]? = some x→¬c x < 0
 | [],_,h=>by simp[wQ]at h
 | a :: l,x,h=>by
  unfold wQ at h
  rw[List.takeWhile_cons]at h
  split at h
  ·exact Xp (l:=l) (by simpa[wQ] using h)
  ·rename_i ha
   simp at h;subst h
   simpa using ha
theorem Vv {α:Type}(c:α→Int):∀l:List α,wQ c l≤l.length
 | []=>by simp[wQ]
 | a :: l=>by
  unfold wQ
  rw[List.takeWhile_cons]
  split
  ·simpa[wQ] using Vv c l
  ·simp
theorem Wf {α:Type}{c:α→Int}{l:List α}{p:Nat}(hp:p≤l.length)(h1:∀i x,i < p→l[i]? = some x→c x < 0)(h2:∀x,l[p]? = some x→¬c x < 0):wQ c l=p:=by
 rcases Nat.lt_trichotomy (wQ c l) p with h|h|h
 ·have hlt:wQ c l < l.length:=by omega
  exact absurd (h1 _ _ h (List.getElem?_eq_getElem hlt)) (Xp (List.getElem?_eq_getElem hlt))
 ·exact h
 ·have hlt:p < l.length:=by have:=Vv c l;omega
  exact absurd (jj h (List.getElem?_eq_getElem hlt)) (h2 _ (List.getElem?_eq_getElem hlt))
def isL (a b:Int)(l:yX):Bool:=l.src==a&&l.dst==b
def xf (n:zF)(a b:Int):Int:=wu (isL a b) n.links
def Qi (n:zF)(a b:Int):Int:=match n.links[(xf n a b).toNat]? with
 | some l=>l.loss
 | none=>0
def kR (a b:Int)(l:yX):Int:=xt l.key [a,b]
theorem XK {a b:Int}{l:yX}:kR a b l=0↔isL a b l=true:=by
 unfold kR yX.key isL
 rw[vt];simp
theorem xT.sorted {n:zF}(h:xT n):YX yX.cmp n.links:=by
 refine Zf (key:=yX.key) fun j p x hp hx=>?_
 have:=(h.link (j+1) x hx).2.1
 unfold Qj at this
 simp only[hp]at this
 exact of_decide_eq_true this
theorem xT.mono {n:zF}(h:xT n)(a b:Int):zge (kR a b) n.links:=fun i j x y hij hx hy hc=>y7 (h.sorted i j x y hij hx hy) hc
theorem vV {α:Type}{p:α→Bool}{l:List α}(h:wu p l ≠ -1):∃(k:Nat) (x:α),wu p l=k∧l[k]? = some x∧p x=true:=by
 unfold wu at h ⊢
 cases ha:l.any p with
 | false=>simp[ha]at h
 | true=>
  simp only[if_true]
  have hlt:l.findIdx p < l.length:=List.findIdx_lt_length_of_exists (by simpa[List.any_eq_true] using ha)
  exact⟨_,l[l.findIdx p],rfl,List.getElem?_eq_getElem hlt,List.findIdx_getElem⟩
theorem zfx {n:zF}(h:xT n)(a b:Int):(if jx (kR a b) n.links then(wQ (kR a b) n.links:Int) else -1)=xf n a b:=by
 have hs:=h.mono a b
 unfold xf jx
 cases hp:n.links[wQ (kR a b) n.links]? with
 | none=>
  simp only[Bool.false_eq_true,if_false]
  symm
  refine yY fun j y hj hy=>?_
  have:¬wQ (kR a b) n.links < n.links.length:=fun hh=>by rw[List.getElem?_eq_getElem hh]at hp;cases hp
  have h1:=jj (c:=kR a b) (l:=n.links) (i:=j) (by omega) hy
  cases e:isL a b y with
  | false=>rfl
  | true=>rw[XK.2 e]at h1;omega
 | some x=>
  simp only
  by_cases e:kR a b x=0
  ·rw[if_pos (by simpa using e)]
   symm
   have hlt:=(List.getElem?_eq_some_iff.1 hp).1
   refine yI hlt (fun j y hj hy=>?_) hp (XK.1 e)
   have h1:=jj hj hy
   cases e2:isL a b y with
   | false=>rfl
   | true=>rw[XK.2 e2]at h1;omega
  ·rw[if_neg (by simpa using e)]
   symm
   refine yY fun j y hj hy=>?_
   cases e2:isL a b y with
   | false=>rfl
   | true=>
    have h0:=XK.2 e2
    have hx:=Xp hp
    rcases Nat.lt_trichotomy j (wQ (kR a b) n.links) with hlt|rfl|hgt
    ·have:=jj hlt hy;omega
    ·rw[hp]at hy;injection hy with hy;subst hy;exact absurd h0 e
    ·have h2:=h.sorted _ _ x y hgt hp hy
     have h3:y.key=[a,b]:=vt.1 h0
     unfold yX.cmp at h2
     rw[h3]at h2
     exact absurd h2 hx
def xQ (n:zF)(s d:Int):Bool:=decide (n.thr*(n.noise+d)≤s*1000)
def vW (n:zF)(i:Int):Bool:=xQ n (n.margin.getD i.toNat 0) 0
def vb (n:zF)(a b:Int):Bool:=decide (0≤xf n a b)&&decide (0≤xf n b a)&&vW n (xf n a b)&&vW n (xf n b a)
def Y7 (n:zF)(i:Int):Bool:=match n.links[i.toNat]? with
 | some l=>decide (0≤xf n l.dst l.src)&&vW n i&&vW n (xf n l.dst l.src)
 | none=>false
def j6 (n:zF)(i:Int):Bool:=decide (yS n=0)&&yE i n.links.length&&Y7 n i
def wb (n:zF)(a b:Int):Int:=if yS n=0 then xf n a b else -1
theorem jT {n:zF}{a b:Int}(h:0≤xf n a b):∃(k:Nat) (l:yX),xf n a b=k∧n.links[k]? = some l∧l.src=a∧l.dst=b:=by
 obtain⟨k,l,h1,h2,h3⟩:=vV (p:=isL a b) (l:=n.links) (by unfold xf at h;omega)
 simp[isL]at h3
 exact⟨k,l,h1,h2,h3.1,h3.2⟩
theorem zhf (n:zF)(a b:Int):-1≤xf n a b∧xf n a b < n.links.length:=by
 unfold xf wu
 split
 ·rename_i h
  have:n.links.findIdx (isL a b) < n.links.length:=List.findIdx_lt_length_of_exists (by simpa[List.any_eq_true] using h)
  omega
 ·omega
theorem Y6 {n:zF}(h:yS n=0)(a b:Int):j6 n (wb n a b)=vb n a b:=by
 unfold j6 wb vb
 rw[if_pos h]
 have hb:=zhf n a b
 by_cases h0:0≤xf n a b
 ·obtain⟨k,l,h1,h2,h3,h4⟩:=jT h0
  have hins:yE (xf n a b) n.links.length=true:=by simp[yE];omega
  rw[hins]
  unfold Y7
  rw[h1,Int.toNat_natCast,h2]
  simp only[h3,h4,h,decide_true,Bool.true_and]
  simp[Bool.and_comm]
 ·have:yE (xf n a b) n.links.length=false:=by simp[yE,h0]
  simp[this,h0]
def yo (nodes:Int)(f:zf):Int:=
 if f.id < 0∨255 < f.id∨yE f.src nodes=false∨yE f.dst nodes=false then 2
 else if f.period < 1∨512 < f.period∨f.phase < 0∨f.period≤f.phase∨f.dead < 1∨f.period < f.dead then 2
 else if f.src=f.dst then 1 else 0
def Yz (l:List zf)(i:Nat)(f:zf):Bool:=match i with
 | 0=>true
 | j+1=>match l[j]? with
  | some p=>decide (p.id < f.id)
  | none=>true
def wv (nodes:Int)(l:List zf)(i:Nat):Int:=match l[i]? with
 | none=>0
 | some f=>if yo nodes f≠0 then yo nodes f else if Yz l i f=false then 5 else 0
def zS (f:Nat→Int)(n:Nat):Int×Int:=match (List.range n).find? (fun i=>f i != 0) with
 | some i=>(i,f i)
 | none=>(-1,0)
theorem xD {f:Nat→Int}{n k:Nat}(h0:∀j,j < k→f j=0)(he:f k≠0)(hk:k < n):zS f n=((k:Int),f k):=by
 unfold zS
 have:(List.range n).find? (fun i=>f i != 0)=some k:=by
  rw[List.find?_range_eq_some]
  exact⟨by simpa using he,by simpa using hk,fun j hj=>by simp[h0 j hj]⟩
 rw[this]
theorem xk {f:Nat→Int}{n:Nat}(h0:∀j,j < n→f j=0):zS f n=(-1,0):=by
 unfold zS
 have:(List.range n).find? (fun i=>f i != 0)=none:=by
  rw[List.find?_eq_none]
  intro j hj
  simp[h0 j (by simpa using hj)]
 rw[this]
theorem yw {f:Nat→Int}{n:Nat}:(zS f n).2=0↔∀j,j < n→f j=0:=by
 unfold zS
 cases h:(List.range n).find? (fun i=>f i != 0) with
 | none=>
  simp only[true_iff]
  rw[List.find?_eq_none]at h
  intro j hj
  simpa using h j (by simpa using hj)
 | some i=>
  rw[List.find?_range_eq_some]at h
  simp only
  constructor
  ·intro h2;simp[h2]at h
  ·intro h2;exact h2 i (by simpa using h.2.1)
def yd (nodes:Int)(l:List zf):Int×Int:=
 if nodes < 2∨32 < nodes then(-1,2) else if 16 < l.length then(-1,8) else zS (wv nodes l) l.length
theorem yB {nodes:Int}{f:zf}(h:yo nodes f=0):0≤f.id∧f.id≤255∧0≤f.src∧f.src < nodes∧0≤f.dst∧f.dst < nodes∧1≤f.period∧f.period≤512∧0≤f.phase∧f.phase < f.period∧1≤f.dead∧f.dead≤f.period∧f.src≠f.dst:=by
 unfold yo at h
 split at h
 ·cases h
 split at h
 ·cases h
 split at h
 ·cases h
 rename_i h1 h2 h3
 simp[yE]at h1 h2
 omega
def kQ (n:zF)(a b:Int):Int:=if yS n≠0 then 1 else if yE a n.nodes=false∨yE b n.nodes=false∨a=b then 2 else 0
def ZB (r:List Int)(i:Nat):Bool:=match r[i]? with
 | some a=>(r.take i).any (·==a)
 | none=>false
def zb1 (n:zF)(r:List Int)(i:Nat):Bool:=vb n (r.getD i 0) (r.getD (i+1) 0)
def vC (n:zF)(a b:Int)(r:List Int):Int:=
 if r.length < 2 then 9 else if 9 < r.length then 8
 else if r.any (fun x=>!yE x n.nodes) then 2
 else if r.getD 0 0≠a∨r.getD (r.length-1) 0≠b then 11
 else if (List.range r.length).any (ZB r) then 6
 else if (List.range (r.length-1)).all (zb1 n r) then 0 else 17
def kf (n:zF)(a b:Int)(r:List Int):Int:=if kQ n a b≠0 then kQ n a b else vC n a b r
theorem zfi {n:zF}(h:xT n){i:Nat}{l:yX}(hl:n.links[i]? = some l):xf n l.src l.dst=i:=by
 refine yI (List.getElem?_eq_some_iff.1 hl).1 (fun j y hj hy=>?_) hl (by simp[isL])
 have:=h.sorted j i y l hj hy hl
 cases hc:isL l.src l.dst y with
 | false=>rfl
 | true=>
  simp[isL]at hc
  have e:y.key=l.key:=by simp[yX.key,hc.1,hc.2]
  unfold yX.cmp at this
  rw[e,vt.2 rfl]at this
  exact absurd this (by decide)
theorem Ki {n:zF}(h:xT n){i:Nat}{l:yX}(hl:n.links[i]? = some l):Qi n l.src l.dst=l.loss:=by
 unfold Qi
 rw[zfi h hl,Int.toNat_natCast,hl]
theorem YE {α:Type}{lt:α→α→Prop}(irr:∀a,¬lt a a)(asy:∀a b,lt a b→¬lt b a):∀{l m:List α},l.Pairwise lt→m.Pairwise lt→(∀x,x∈l↔x∈m)→l=m
 | [],[],_,_,_=>rfl
 | [],y :: m,_,_,h=>absurd ((h y).2 (by simp)) (by simp)
 | x :: l,[],_,_,h=>absurd ((h x).1 (by simp)) (by simp)
 | x :: l,y :: m,h1,h2,h=>by
  obtain⟨a1,a2⟩:=List.pairwise_cons.1 h1
  obtain⟨b1,b2⟩:=List.pairwise_cons.1 h2
  have e:x=y:=by
   rcases List.mem_cons.1 ((h x).1 (by simp)) with e|hx
   ·exact e
   rcases List.mem_cons.1 ((h y).2 (by simp)) with e|hy
   ·exact e.symm
   exact absurd (a1 y hy) (asy _ _ (b1 x hx))
  subst e
  rw[YE irr asy a2 b2 fun z=>?_]
  constructor
  ·intro hz
   rcases List.mem_cons.1 ((h z).1 (by simp[hz])) with rfl|h'
   ·exact absurd (a1 z hz) (irr z)
   ·exact h'
  ·intro hz
   rcases List.mem_cons.1 ((h z).2 (by simp[hz])) with rfl|h'
   ·exact absurd (b1 z hz) (irr z)
   ·exact h'
open Go Go.RowKit
structure yH {α:Type}(enc:α→AV)(sz:Nat):Prop where
 agg:∀x,enc x=.agg (enc x).cells
 len:∀x,(enc x).cells.length=sz
 fz:∀x,xo (enc x).cells=some (enc x).cells
 cell:∀x,(enc x).cells.all AV.isCell=true
 two:2≤sz
theorem Zh:∀a b:List AV,xJ (a++b)=(xJ a&&xJ b)
 | [],b=>by simp[xJ]
 | x :: a,b=>by simp[xJ,Zh a b,Bool.and_assoc]
section
variable {α:Type} {enc:α→AV} {sz:Nat}
theorem yH.els (h:yH enc sz)(l:List α):xF sz (l.map enc):=xF.map fun x=>⟨h.len x,h.cell x⟩
theorem yH.scal (h:yH enc sz)(hs:∀x,xJ (enc x).cells=true):∀l:List α,xJ (zd (l.map enc))=true
 | []=>rfl
 | x :: l=>by
  have:=yH.scal h hs l
  simp only[zd,List.map_cons,List.flatMap_cons,Zh]at this ⊢
  rw[hs x,this];rfl
theorem yH.flen (h:yH enc sz)(l:List α):(zd (l.map enc)).length=l.length*sz:=by
 have:=jR (sz:=sz) (es:=l.map enc) (by
  intro e he
  obtain⟨x,_,rfl⟩:=List.mem_map.1 he
  exact h.len x)
 simpa using this
theorem yH.ld (h:yH enc sz):∀{l:List α} {k:Nat} {x:α} (ex:List AV),l[k]? = some x→((zd (l.map enc)++ex).drop (k*sz)).take sz=(enc x).cells
 | [],_,_,_,hk=>by simp at hk
 | y :: l,0,x,ex,hk=>by
  simp at hk;subst hk
  simp only[zd,List.map_cons,List.flatMap_cons,Nat.zero_mul,List.drop_zero,List.append_assoc]
  rw[←h.len y];simp
 | y :: l,k+1,x,ex,hk=>by
  have:=yH.ld h (l:=l) ex (by simpa using hk)
  simp only[zd,List.map_cons,List.flatMap_cons,List.append_assoc]at this ⊢
  rw[Nat.add_mul,Nat.one_mul,Nat.add_comm,←List.drop_drop]
  have e:((enc y).cells++(List.flatMap AV.cells (l.map enc)++ex)).drop sz=List.flatMap AV.cells (l.map enc)++ex:=by
   rw[←h.len y];simp
  rw[e];exact this
theorem yH.ldr (h:yH enc sz){l:List α}{k:Nat}{x:α}(ex:List AV)(hk:l[k]? = some x)(n n':Nat)(hn:n=sz)(hn':n'=sz):((zd (l.map enc)++ex).drop (0+(k:Int).toNat*n)).take n'=(enc x).cells:=by
 subst hn;subst hn';rw[Nat.zero_add,Int.toNat_natCast];exact h.ld ex hk
theorem wX:∀(a b c:List AV) (n:Nat),zR (a++b) (a.length+n) c=a++zR b n c
 | [],b,c,n=>by simp
 | x :: a,b,c,n=>by
  rw[List.cons_append,List.length_cons,show a.length+1+n=(a.length+n)+1 by omega,zR,wX a b c n,List.cons_append]
theorem Ze:∀(a b c:List AV),c.length=a.length→zR (a++b) 0 c=c++b
 | [],b,[],_=>by simp[j8]
 | [],_,_ :: _,h=>by simp at h
 | _ :: _,_,[],h=>by simp at h
 | x :: a,b,y :: c,h=>by
  have:=Ze a b c (by simpa using h)
  simp only[List.cons_append,zR,this]
theorem yH.st (h:yH enc sz)(v:α)(ex:List AV):∀{l:List α} {k:Nat},k < l.length→zR (zd (l.map enc)++ex) (k*sz) (enc v).cells=zd ((l.set k v).map enc)++ex
 | [],_,hk=>by simp at hk
 | y :: l,0,_=>by
  simp only[zd,List.map_cons,List.flatMap_cons,Nat.zero_mul,List.set_cons_zero,List.append_assoc]
  exact Ze _ _ _ (by rw[h.len,h.len])
 | y :: l,k+1,hk=>by
  have:=yH.st h v ex (l:=l) (k:=k) (by simpa using hk)
  simp only[zd,List.map_cons,List.flatMap_cons,List.set_cons_succ,List.append_assoc]at this ⊢
  rw[Nat.add_mul,Nat.one_mul,Nat.add_comm]
  have e:=wX (enc y).cells (List.flatMap AV.cells (l.map enc)++ex) (enc v).cells (k*sz)
  rw[h.len y]at e
  rw[e,this]
theorem QB:∀{a b a' b':List AV},xo a=some a'→xo b=some b'→xo (a++b)=some (a'++b')
 | [],_,a',_,h,hb=>by simp[xo]at h;subst h;simpa using hb
 | x :: a,b,a',b',h,hb=>by
  simp only[xo]at h
  split at h
  ·rename_i y ys h1 h2
   simp at h;subst h
   simp only[List.cons_append,xo,h1,QB h2 hb]
  ·cases h
theorem yH.fzf (h:yH enc sz):∀l:List α,xo (zd (l.map enc))=some (zd (l.map enc))
 | []=>rfl
 | x :: l=>by
  have:=yH.fzf h l
  simp only[zd,List.map_cons,List.flatMap_cons]at this ⊢
  exact QB (h.fz x) this
theorem yH.chunk (h:yH enc sz):∀l:List α,qS sz l.length (zd (l.map enc))=l.map enc
 | []=>rfl
 | x :: l=>by
  have:=yH.chunk h l
  simp only[zd,List.map_cons,List.flatMap_cons,List.length_cons,qS]at this ⊢
  rw[show((enc x).cells++List.flatMap AV.cells (l.map enc)).take sz=(enc x).cells from by rw[←h.len x];simp,show((enc x).cells++List.flatMap AV.cells (l.map enc)).drop sz=List.flatMap AV.cells (l.map enc) from by rw[←h.len x];simp,this,←h.agg x]
theorem yH.fzb (h:yH enc sz){S:St}{id n:Nat}{l:List α}{ex:List AV}{t:TypeId}(hb:S.bx[id]? = some (.cells (zd (l.map enc)++ex) t))(hn:l.length=n):HM.fzb S (.vsl id 0 n sz)=some (.sl false (l.map enc)):=by
 subst hn
 have h2:=h.two
 have hfl:=h.flen l
 have htake:((zd (l.map enc)++ex).drop 0).take (l.length*sz)=zd (l.map enc):=by rw[List.drop_zero,←hfl];exact List.take_left
 simp only[HM.fzb,hb]
 rw[if_pos ⟨by rw[List.length_append,hfl,Nat.zero_add];exact Nat.le_add_right _ _,by omega⟩,htake,h.fzf l]
 simp only[Option.bind_some]
 have hne:¬sz=1:=by omega
 rw[if_pos (kw (h.els l)),if_neg hne,h.chunk l]
theorem yH.fit (h:yH enc sz){l:List α}(ex:List AV){k:Nat}(hk:k < l.length):k*sz+sz≤(zd (l.map enc)++ex).length:=by
 rw[List.length_append,h.flen,←Nat.succ_mul]
 exact Nat.le_trans (Nat.mul_le_mul_right _ hk) (Nat.le_add_right _ _)
theorem yH.okk (h:yH enc sz)(k m:Nat)(l:List α):wr k m (zd (l.map enc)):=yz (h.fzf l)
theorem xc {k m:Nat}:∀{a b:List AV},wr k m a→wr k m b→wr k m (a++b)
 | [],_,_,h=>h
 | _ :: _,_,h,h'=>⟨h.1,xc h.2 h'⟩
theorem xq (k m:Nat):∀n,wr k m (List.replicate n .undef)
 | 0=>trivial
 | n+1=>⟨trivial,xq k m n⟩
theorem yH.clr (h:yH enc sz)(l:List α){k:Nat}(ex:List AV)(zs:List AV)(hk:k≤l.length)(hz:zs.length=sz):zR (zd (l.map enc)++ex) (k*sz) (ja (l.length-k) zs)=zd ((l.take k).map enc)++(ja (l.length-k) zs++ex):=by
 have e1:zd (l.map enc)=zd ((l.take k).map enc)++zd ((l.drop k).map enc):=by
  conv=>lhs;rw[←List.take_append_drop k l]
  simp only[zd,List.map_append,List.flatMap_append]
 have e2:(zd ((l.take k).map enc)).length=k*sz:=by rw[h.flen,List.length_take,Nat.min_eq_left hk]
 have e3:=wX (zd ((l.take k).map enc)) (zd ((l.drop k).map enc)++ex) (ja (l.length-k) zs) 0
 rw[e2,Nat.add_zero]at e3
 rw[e1,List.append_assoc,e3,Ze _ _ _ (by rw[VW,h.flen,hz,List.length_drop])]
theorem yH.clr' (h:yH enc sz){l:List α}{k:Nat}(ex zs:List AV)(n m:Nat)(hn:n=sz)(hm:m=l.length-k)(hk:k≤l.length)(hz:zs.length=sz):zR (zd (l.map enc)++ex) (0+(k:Int).toNat*n) (ja m zs)=zd ((l.take k).map enc)++(ja m zs++ex):=by
 subst hn;subst hm;rw[Nat.zero_add,Int.toNat_natCast];exact h.clr l ex zs hk hz
theorem yH.headLe (h:yH enc sz){l:List α}{k:Nat}(ex:List AV)(n:Nat)(hn:n=sz)(hk:k≤l.length):0+(k:Int).toNat*n≤(zd ((l.take k).map enc)++ex).length:=by
 subst hn
 rw[List.length_append,h.flen,Int.toNat_natCast,Nat.zero_add,List.length_take,Nat.min_eq_left hk]
 exact Nat.le_add_right _ _
end
theorem z8:yH zg.av 5:=⟨fun _=>rfl,fun _=>rfl,fun _=>rfl,fun _=>rfl,by decide⟩
theorem Y0 {S:St}{a a':AV}{b b':List AV}(h:fzb S a=some a')(h2:wj S b=some b'):wj S (a :: b)=some (a' :: b'):=by simp only[wj,h,h2]
theorem Yd {S:St}{g:Nat}{c c':List AV}(h:wj S c=some c'):wj S [.fn g c] = some [.fn g c']:=by simp only[wj,fzb,h,Option.map_some]
structure kV {α:Type}(p:α→Bool)(l a:List α)(i j:Nat):Prop where
 len:a.length=l.length
 ij:i≤j∧j≤l.length
 hd:a.take i=(l.take j).filter fun x=>!p x
 tl:a.drop j=l.drop j
theorem kV.skip {α:Type}{p:α→Bool}{l a:List α}{i j:Nat}{x:α}(h:kV p l a i j)(hx:l[j]? = some x)(hp:p x=true):kV p l a i (j+1):=by
 have hlt:=(List.getElem?_eq_some_iff.1 hx).1
 refine⟨h.len,⟨by have:=h.ij;omega,by omega⟩,?_,?_⟩
 ·rw[h.hd,zK hx,List.filter_append];simp[hp]
 ·have:=congrArg (List.drop 1) h.tl
  simpa[List.drop_drop] using this
theorem kV.keep {α:Type}{p:α→Bool}{l a:List α}{i j:Nat}{x:α}(h:kV p l a i j)(hx:l[j]? = some x)(hp:p x=false):kV p l (a.set i x) (i+1) (j+1):=by
 have hlt:=(List.getElem?_eq_some_iff.1 hx).1
 have h1:=h.len
 have h2:=h.ij
 refine⟨by simpa using h.len,⟨by omega,by omega⟩,?_,?_⟩
 ·have e:(a.set i x)[i]? = some x:=by rw[List.getElem?_set,if_pos rfl,if_pos (by omega)]
  rw[zK e,List.take_set_of_le (Nat.le_refl _),h.hd,zK hx,List.filter_append];simp[hp]
 ·rw[List.drop_set_of_lt (by omega)]
  have:=congrArg (List.drop 1) h.tl
  simpa[List.drop_drop] using this
theorem kV.get {α:Type}{p:α→Bool}{l a:List α}{i j:Nat}{x:α}(h:kV p l a i j)(hx:l[j]? = some x):a[j]? = some x:=by
 have:=congrArg (·[0]?) h.tl
 simp only[List.getElem?_drop,Nat.add_zero]at this
 rw[this,hx]
theorem kV.start {α:Type}{p:α→Bool}{l:List α}{k:Nat}{x:α}(hk:l[k]? = some x)(hp:p x=true)(hb:∀(j:Nat) (y:α),j < k→l[j]? = some y→p y=false):kV p l l k (k+1):=by
 have hlt:=(List.getElem?_eq_some_iff.1 hk).1
 refine⟨rfl,⟨by omega,by omega⟩,?_,rfl⟩
 rw[zK hk,List.filter_append]
 have e:(l.take k).filter (fun x=>!p x)=l.take k:=by
  rw[List.filter_eq_self]
  intro y hy
  obtain⟨j,hj⟩:=List.getElem?_of_mem hy
  rw[List.getElem?_take]at hj
  split at hj
  ·rename_i hlt2;simp[hb j y hlt2 hj]
  ·cases hj
 rw[e];simp[hp]
theorem kV.fin {α:Type}{p:α→Bool}{l a:List α}{i:Nat}(h:kV p l a i l.length):a.take i=l.filter fun x=>!p x:=by
 have:=h.hd
 rwa [List.take_length]at this
theorem wo {α:Type}{p:α→Bool}{l:List α}(h:wu p l=-1):∀(j:Nat) (y:α),l[j]? = some y→p y=false:=by
 intro j y hy
 unfold wu at h
 cases ha:l.any p with
 | true=>simp[ha]at h<;>omega
 | false=>
  rw[List.any_eq_false]at ha
  simpa using ha y (List.mem_of_getElem? hy)
theorem vH {α:Type}{p:α→Bool}{l:List α}{k:Nat}(h:wu p l=(k:Int)):∃x,l[k]? = some x∧p x=true∧∀(j:Nat) (y:α),j < k→l[j]? = some y→p y=false:=by
 unfold wu at h
 cases ha:l.any p with
 | false=>simp[ha]at h<;>omega
 | true=>
  simp only[ha,if_true]at h
  have hk:l.findIdx p=k:=by omega
  have hlt:l.findIdx p < l.length:=List.findIdx_lt_length_of_exists (by simpa[List.any_eq_true] using ha)
  subst hk
  refine⟨l[l.findIdx p],List.getElem?_eq_getElem hlt,List.findIdx_getElem,fun j y hj hy=>?_⟩
  have:=List.not_of_lt_findIdx hj
  obtain⟨hjl,rfl⟩:=List.getElem?_eq_some_iff.1 hy
  simpa using this
theorem yH.push {α:Type}{enc:α→AV}{sz:Nat}(h:yH enc sz)(l:List α)(x:α)(d:Nat)(hr:(l.length+1)*sz≤(zd (l.map enc)++List.replicate (d*sz) AV.undef).length):zR (zd (l.map enc)++List.replicate (d*sz) .undef) (l.length*sz) (enc x).cells=zd ((l++[x]).map enc)++List.replicate ((d-1)*sz) .undef:=by
 have hfl:=h.flen l
 have hx:=h.len x
 rw[List.length_append,hfl,List.length_replicate,Nat.add_mul]at hr
 rw[y4 _ _ _ (by rw[List.length_append,hfl,List.length_replicate,hx];omega),←hfl,List.take_left,List.drop_append,hfl,hx,List.drop_eq_nil_of_le (by rw[hfl];omega),List.nil_append,List.map_append,List.drop_replicate]
 congr 1
 ·simp[zd]
 ·congr 1
  rw[Nat.sub_mul];omega
theorem yH.cut {α:Type}{enc:α→AV}{sz:Nat}(h:yH enc sz)(l:List α)(ex:List AV):(zd (l.map enc)++ex).take (l.length*sz)=zd (l.map enc):=by
 rw[←h.flen l,List.take_left]
theorem YS {α:Type}(enc:α→AV)(l:List α)(x:α):zd (l.map enc)++(enc x).cells=zd ((l++[x]).map enc):=by simp[zd]
open Go Go.RowKit
structure JU where
 n:zF
 s:zc
 f:zf
 r:List Int
 more:Int
def JU.cs (w:JU):List AV:=[.int .i64 w.n.nodes,zZ w.n.power,.int .i64 w.n.noise,.int .i64 w.n.thr,wl w.n.links,zp w.n.margin,.int .i64 w.s.len,.int .i64 w.s.offs,zy w.s.cells,.int .i64 w.f.id,.int .i64 w.f.src,.int .i64 w.f.dst,.int .i64 w.f.period,.int .i64 w.f.phase,.int .i64 w.f.dead,zp w.r,.int .i64 w.more]
def JU.av (w:JU):AV:=.agg [.int .i64 w.n.nodes,zZ w.n.power,.int .i64 w.n.noise,.int .i64 w.n.thr,wl w.n.links,zp w.n.margin,.int .i64 w.s.len,.int .i64 w.s.offs,zy w.s.cells,.int .i64 w.f.id,.int .i64 w.f.src,.int .i64 w.f.dst,.int .i64 w.f.period,.int .i64 w.f.phase,.int .i64 w.f.dead,zp w.r,.int .i64 w.more]
def vx (n:zF)(s:zc)(f:zf)(r:List Int):Int:=
 if yS n≠0∨yc s=false∨yo n.nodes f≠0 then 1
 else if s.len % f.period≠0 then 11
 else kf n f.src f.dst r
def jL (id a b:Int)(c:zg):Bool:=(c.flow != id)||(c.src != a)||(c.dst != b)
def yp (s:zc)(f:zf)(a b:Int):List zg:=s.cells.filter fun c=>!jL f.id a b c
def xV (cs:List zg)(len a:Int):Nat→List Int
 | 0=>[]
 | d+1=>xV cs len a d++((cs.filter fun c=>c.slot==(a+d) % len).map fun _=>a+(d:Int))
def Zl (cs:List zg)(len a:Int)(d j:Nat):List Int:=xV cs len a d++(((cs.take j).filter fun c=>c.slot==(a+d) % len).map fun _=>a+(d:Int))
theorem vF (cs:List zg)(len a:Int)(d:Nat):Zl cs len a d 0=xV cs len a d:=by simp[Zl]
theorem zfc (cs:List zg)(len a:Int)(d:Nat):Zl cs len a d cs.length=xV cs len a (d+1):=by simp[Zl,xV]
theorem Kd {cs:List zg}{len a:Int}{d j:Nat}{c:zg}(h:cs[j]? = some c)(hm:c.slot=(a+d) % len):Zl cs len a d (j+1)=Zl cs len a d j++[a+(d:Int)]:=by
 unfold Zl
 rw[zK h,List.filter_append,List.map_append,List.append_assoc]
 simp[hm]
theorem zde {cs:List zg}{len a:Int}{d j:Nat}{c:zg}(h:cs[j]? = some c)(hm:c.slot≠(a+d) % len):Zl cs len a d (j+1)=Zl cs len a d j:=by
 unfold Zl
 rw[zK h,List.filter_append]
 simp[hm]
theorem XY {cs:List zg}{len a:Int}:∀{d:Nat} {x:Int},x∈xV cs len a d→a≤x∧x < a+d
 | 0,_,h=>by simp[xV]at h
 | d+1,x,h=>by
  simp only[xV,List.mem_append,List.mem_map]at h
  rcases h with h|⟨_,_,rfl⟩
  ·have:=XY h;omega
  ·omega
theorem zcQ (cs:List zg)(len a:Int){d e:Nat}(h:d≤e):∃t,xV cs len a e=xV cs len a d++t:=by
 induction e with
 | zero=>exact⟨[],by
             have:d=0:=by omega
             subst this;simp⟩
 | succ e ih=>
  rcases Nat.lt_or_ge d (e+1) with hlt|hge
  ·obtain⟨t,ht⟩:=ih (by omega)
   exact⟨t++_,by rw[xV,ht,List.append_assoc]⟩
  ·have:d=e+1:=by omega
   subst this;exact⟨[],by simp⟩
theorem WR {α:Type}{l t:List α}{n:Nat}(h:n≤l.length):(l++t).take n=l.take n:=by
 rw[List.take_append_of_le_length h]
def yZ (s:zc)(f:zf)(a b:Int)(need:Nat)(at_ stop:Int):List Int:=(xV (yp s f a b) s.len at_ (stop-at_).toNat).take need
def vn (at_:Int)(l:List Int):Int:=match l.getLast? with
 | some x=>x+1
 | none=>at_
def zdh (n:zF)(r:List Int)(i:Nat):yX:=(n.links[(xf n (r.getD i 0) (r.getD (i+1) 0)).toNat]?).getD ⟨0,0,0⟩
def yk (n:zF)(r:List Int)(more:Int)(i:Nat):Nat:=((zdh n r i).loss+1+more).toNat
def yb (n:zF)(s:zc)(f:zf)(r:List Int)(rel more:Int):Nat→Option (List Int×Int)
 | 0=>some ([],rel)
 | k+1=>match yb n s f r rel more k with
  | none=>none
  | some (o,a)=>
   let h:=yZ s f (r.getD k 0) (r.getD (k+1) 0) (yk n r more k) a (rel+f.period)
   if h.length < yk n r more k then none else some (o++h,vn a h)
def j9 (n:zF)(s:zc)(f:zf)(r:List Int)(rel more:Int):Option (List Int):=(yb n s f r rel more (r.length-1)).map (·.1)
def yA (n:zF)(r:List Int)(more:Int):Nat→Nat
 | 0=>0
 | k+1=>yA n r more k+yk n r more k
theorem zc6 (s:zc)(f:zf)(a b:Int)(need:Nat)(at_ stop:Int):(yZ s f a b need at_ stop).length≤need:=by
 unfold yZ;rw[List.length_take];omega
theorem v7 {s:zc}{f:zf}{a b:Int}{need:Nat}{at_ stop:Int}{x:Int}(h:x∈yZ s f a b need at_ stop):at_≤x∧x < stop:=by
 have:=XY (List.mem_of_mem_take h)
 omega
theorem wY {n:zF}{s:zc}{f:zf}{r:List Int}{rel more:Int}(hp:0≤f.period):∀{k:Nat} {o:List Int} {a:Int},yb n s f r rel more k=some (o,a)→o.length=yA n r more k∧rel≤a∧a≤rel+f.period∧∀x∈o,rel≤x∧x < rel+f.period
 | 0,o,a,h=>by simp[yb]at h;obtain⟨rfl,rfl⟩:=h;simp[yA];omega
 | k+1,o,a,h=>by
  unfold yb at h
  split at h
  ·cases h
  ·rename_i o' a' h'
   obtain⟨h1,h2,h3,h4⟩:=wY hp h'
   simp only at h
   split at h
   ·cases h
   ·rename_i hlen
    injection h with h;injection h with e1 e2
    subst e1;subst e2
    have hle:=zc6 s f (r.getD k 0) (r.getD (k+1) 0) (yk n r more k) a' (rel+f.period)
    have hm:∀x∈yZ s f (r.getD k 0) (r.getD (k+1) 0) (yk n r more k) a' (rel+f.period),a'≤x∧x < rel+f.period:=fun x hx=>v7 hx
    refine⟨by rw[List.length_append,h1,yA];omega,?_,?_,fun x hx=>?_⟩
    ·unfold vn;split
     ·rename_i y hy
      have:=hm y (List.mem_of_getLast? hy);omega
     ·omega
    ·unfold vn;split
     ·rename_i y hy
      have:=hm y (List.mem_of_getLast? hy);omega
     ·omega
    ·rcases List.mem_append.1 hx with hx|hx
     ·exact h4 x hx
     ·have:=hm x hx;omega
theorem ka {n:zF}{s:zc}{f:zf}{r:List Int}{rel more:Int}{k:Nat}(h:yb n s f r rel more k=none):∀{m:Nat},k≤m→yb n s f r rel more m=none
 | 0,hm=>by
        have:k=0:=by omega
        subst this;exact h
 | m+1,hm=>by
  rcases Nat.lt_or_ge m k with hlt|hge
  ·have:k=m+1:=by omega
   subst this;exact h
  ·unfold yb;rw[ka h hge]
theorem jk {n:zF}{r:List Int}{more:Int}{k m:Nat}(h:k≤m):yA n r more k≤yA n r more m:=by
 induction m with
 | zero=>
      have:k=0:=by omega
      subst this;exact Nat.le_refl _
 | succ m ih=>
  rcases Nat.lt_or_ge m k with hlt|hge
  ·have:k=m+1:=by omega
   subst this;exact Nat.le_refl _
  ·have:=ih hge
   rw[yA];omega
structure xS (n:zF)(s:zc)(f:zf)(r:List Int):Prop where
 net:xT n
 form:yc s=true
 flow:0≤f.id∧f.id≤255∧1≤f.period∧f.period≤512∧0≤f.phase∧f.phase < f.period∧1≤f.dead∧f.dead≤f.period∧f.src≠f.dst
 per:s.len % f.period=0
 len:2≤r.length∧r.length≤9
 hop:∀i,i+1 < r.length→vb n (r.getD i 0) (r.getD (i+1) 0)=true
 dup:∀i,i < r.length→ZB r i=false
 ends:r.getD 0 0=f.src∧r.getD (r.length-1) 0=f.dst
theorem ZU {n:zF}{a b:Int}{r:List Int}(h:vC n a b r=0):(2≤r.length∧r.length≤9)∧(∀i,i+1 < r.length→vb n (r.getD i 0) (r.getD (i+1) 0)=true)∧(∀i,i < r.length→ZB r i=false)∧(r.getD 0 0=a∧r.getD (r.length-1) 0=b)∧∀x∈r,yE x n.nodes=true:=by
 unfold vC at h
 split at h
 ·cases h
 split at h
 ·cases h
 split at h
 ·cases h
 split at h
 ·cases h
 split at h
 ·cases h
 split at h
 ·rename_i h1 h2 h3 h4 h5 h6
  refine⟨by omega,fun i hi=>?_,fun i hi=>?_,by simpa using h4,fun x hx=>?_⟩
  ·exact List.all_eq_true.1 h6 i (by simp;omega)
  ·simp only[Bool.not_eq_true,List.any_eq_false]at h5
   simpa using h5 i (by simpa using hi)
  ·simp only[Bool.not_eq_true,List.any_eq_false]at h3
   simpa using h3 x hx
 ·cases h
theorem Y4 {n:zF}{s:zc}{f:zf}{r:List Int}(h:vx n s f r=0):xS n s f r:=by
 unfold vx at h
 split at h
 ·cases h
 split at h
 ·cases h
 rename_i h1 h2
 simp only[not_or,ne_eq,Decidable.not_not,Bool.not_eq_false]at h1 h2
 have hf:=yB h1.2.2
 unfold kf at h
 split at h
 ·contradiction
 obtain⟨g1,g2,g3,g4,_⟩:=ZU h
 exact⟨vo h1.1,h1.2.1,by omega,h2,g1,g2,g3,g4⟩
theorem xS.at {n:zF}{s:zc}{f:zf}{r:List Int}(h:xS n s f r){i:Nat}(hi:i+1 < r.length):∃(k:Nat) (l:yX),xf n (r.getD i 0) (r.getD (i+1) 0)=k∧n.links[k]? = some l∧l.src=r.getD i 0∧l.dst=r.getD (i+1) 0∧0≤l.loss∧l.loss≤7∧zdh n r i=l:=by
 have hg:=h.hop i hi
 unfold vb at hg
 simp only[Bool.and_eq_true,decide_eq_true_eq]at hg
 obtain⟨k,l,e1,e2,e3,e4⟩:=jT hg.1.1.1
 have hb:=Xx (h.net.link k l e2).1
 refine⟨k,l,e1,e2,e3,e4,by omega,by omega,?_⟩
 unfold zdh
 rw[e1,Int.toNat_natCast,e2];rfl
theorem xS.need {n:zF}{s:zc}{f:zf}{r:List Int}(h:xS n s f r){more:Int}(h0:0≤more)(h1:more≤8):∀{k:Nat},k≤r.length-1→yA n r more k≤16*k
 | 0,_=>by simp[yA]
 | k+1,hk=>by
  have:=h.need h0 h1 (k:=k) (by omega)
  obtain⟨_,l,_,_,_,_,g1,g2,g3⟩:=h.at (i:=k) (by omega)
  have:yk n r more k≤16:=by unfold yk;rw[g3];omega
  rw[yA];omega
def vD (n:zF)(s:zc)(f:zf)(r:List Int)(more rel:Int):Option (Int×List Int):=
 (j9 n s f r rel more).map fun l=>(l.getLastD 0-rel+1,l.map (·-rel))
structure Bnd where
 b:Int
 w:Int
 l:List Int
def yM (n:zF)(s:zc)(f:zf)(r:List Int)(more:Int):Nat→Option Bnd
 | 0=>some ⟨0,0,[]⟩
 | k+1=>match yM n s f r more k,vD n s f r more (f.phase+k*f.period) with
  | some x,some (b,l)=>if b > x.b then some ⟨b,f.phase+k*f.period,l⟩ else some x
  | _,_=>none
def WV (s:zc)(f:zf):Nat:=((s.len-f.phase+f.period-1) / f.period).toNat
def xl (n:zF)(s:zc)(f:zf)(r:List Int)(more:Int):Option Bnd:=yM n s f r more (WV s f)
theorem zbw {s:zc}{f:zf}(hp:1≤f.period){k:Nat}:k < WV s f↔f.phase+k*f.period < s.len:=by
 unfold WV
 have h0:0 < f.period:=by omega
 constructor
 ·intro h
  have h1:(k:Int)+1≤(s.len-f.phase+f.period-1) / f.period:=by omega
  have h2:=Int.mul_le_of_le_ediv h0 h1
  rw[Int.add_mul]at h2
  omega
 ·intro h
  have h1:((k:Int)+1)≤(s.len-f.phase+f.period-1) / f.period:=by
   apply Int.le_ediv_of_mul_le h0
   rw[Int.add_mul];omega
  omega
open Go Go.RowKit
def hS (s:zc)(f:zf)(a b at_:Int)(need d j:Nat):List Int:=
 (xV (yp s f a b) s.len at_ d++((((s.cells.take j).filter fun c=>!jL f.id a b c).filter fun c=>c.slot==(at_+d) % s.len).map fun _=>at_+(d:Int))).take need
open Go Go.RowKit
def zkQ:Option Bnd→AV
 | none=>.tup [.int .i64 0,.int .i64 0,.sl false [],.bool false]
 | some x=>.tup [.int .i64 x.b,.int .i64 x.w,zp x.l,.bool true]
theorem XV {n:zF}{s:zc}{f:zf}{r:List Int}{more:Int}{k:Nat}(h:yM n s f r more k=none):∀{m:Nat},k≤m→yM n s f r more m=none
 | 0,hm=>by
        have:k=0:=by omega
        subst this;exact h
 | m+1,hm=>by
  rcases Nat.lt_or_ge m k with hlt|hge
  ·have:k=m+1:=by omega
   subst this;exact h
  ·unfold yM;rw[XV h hge]
theorem kG {n:zF}{s:zc}{f:zf}{r:List Int}{more:Int}{k:Nat}{x:Bnd}{b:Int}{l:List Int}(h:yM n s f r more k=some x)(hr:vD n s f r more (f.phase+k*f.period)=some (b,l)) :
  yM n s f r more (k+1)=some (if b > x.b then ⟨b,f.phase+k*f.period,l⟩ else x):=by
 simp only[yM,h,hr]
 split<;>rfl
theorem zaN {n:zF}{s:zc}{f:zf}{r:List Int}{more:Int}{k:Nat}(hr:vD n s f r more (f.phase+k*f.period)=none) :
  yM n s f r more (k+1)=none:=by
 simp only[yM,hr]
 cases yM n s f r more k<;>rfl
def yv (n:zF)(s:zc)(f:zf)(r:List Int):Int×Int×List Int×Int:=
 if vx n s f r≠0 then(0,0,[],vx n s f r)
 else match xl n s f r 0 with
  | none=>(0,0,[],15)
  | some x=>(x.b,x.w,x.l,0)
def wR (n:zF)(s:zc)(f:zf)(m:Int)(r:List Int):Int:=match xl n s f r 0 with
 | some x=>if m=0∨x.b < m then x.b else m
 | none=>m
def ws (n:zF)(s:zc)(f:zf)(l:List (List Int)):Int:=l.foldl (wR n s f) 0
def jA (n:zF)(s:zc)(f:zf):List (List Int)→Int
 | []=>0
 | r :: l=>if vx n s f r≠0 then vx n s f r else jA n s f l
def xP (n:zF)(s:zc)(f:zf)(l:List (List Int)):Int×Int:=
 if l.length=0 then(0,14) else if jA n s f l≠0 then(0,jA n s f l) else if ws n s f l=0 then(0,15) else(ws n s f l,0)
def Zu (n:zF)(s:zc)(f:zf)(r:List Int)(m:Nat):Bool:=match xl n s f r m with
 | some x=>decide (x.b≤f.dead)
 | none=>false
theorem za9 {n:zF}{s:zc}{f:zf}{r:List Int}(h:vx n s f r=0):yS n=0:=by
 unfold vx at h
 split at h
 ·cases h
 ·rename_i hh
  simp only[not_or,ne_eq,Decidable.not_not]at hh
  exact hh.1
theorem zbS {n:zF}{s:zc}{f:zf}{l:List (List Int)}{k:Nat}{r:List Int}(h:l[k]? = some r):ws n s f (l.take (k+1))=wR n s f (ws n s f (l.take k)) r:=by
 rw[zK h,ws,List.foldl_append];rfl
theorem Zv {n:zF}{s:zc}{f:zf}:∀{l:List (List Int)},(∀(k:Nat) (r:List Int),l[k]? = some r→vx n s f r=0)→jA n s f l=0
 | [],_=>rfl
 | r :: l,h=>by
  rw[jA,if_neg (by simpa using h 0 r rfl)]
  exact Zv fun k x hx=>h (k+1) x (by simpa using hx)
theorem Ky {n:zF}{s:zc}{f:zf}:∀{l:List (List Int)} {k:Nat} {r:List Int},l[k]? = some r→(∀(j:Nat) (x:List Int),j < k→l[j]? = some x→vx n s f x=0)→vx n s f r≠0→jA n s f l=vx n s f r
 | [],_,_,h,_,_=>by simp at h
 | a :: l,0,r,h,_,hr=>by
  simp at h;subst h
  rw[jA,if_pos hr]
 | a :: l,k+1,r,h,hb,hr=>by
  rw[jA,if_neg (by simpa using hb 0 a (by omega) rfl)]
  exact Ky (by simpa using h) (fun j x hj hx=>hb (j+1) x (by omega) (by simpa using hx)) hr
open Go Go.RowKit
def zbf:Ty:=.st [tI,tI,tI]
def zjq:Ty:=.sl (.sl tI)
def zjP:Ty:=.st [tI,.sl (.sl tI),tI,tI,.sl zbf,.sl tI]
def zgo:Ty:=.st [tI,tI,tI,tI,tI,tI]
theorem Xv {α:Type}{d:Ty}{f:α→AV}{Q:α→Prop}(h:∀l,d.sh l→∃x,d.mk l=f x∧Q x):∀els:List (List AV),(∀c∈els,d.sh c∧c.length=d.n)→∃xs:List α,els.map d.mk=xs.map f∧xs.length=els.length∧∀x∈xs,Q x
 | [],_=>⟨[],rfl,rfl,by simp⟩
 | c :: els,hc=>by
  obtain⟨x,hx,hq⟩:=h c (hc c (by simp)).1
  obtain⟨xs,h1,h2,h3⟩:=Xv h els (fun c hm=>hc c (by simp[hm]))
  exact⟨x :: xs,by simp[hx,h1],by simp[h2],by simpa using ⟨hq,h3⟩⟩
theorem zie {l:List AV}(h:zbf.sh l):∃c:yX,l=[.int .i64 c.src,.int .i64 c.dst,.int .i64 c.loss]:=by
 obtain⟨_,_,rfl,_,h1,_,_,rfl,_,h2,_,_,rfl,_,h3,h6⟩:=h
 obtain⟨a,rfl,_⟩:=xg h1
 obtain⟨b,rfl,_⟩:=xg h2
 obtain⟨c,rfl,_⟩:=xg h3
 obtain rfl:=h6
 exact⟨⟨a,b,c⟩,rfl⟩
theorem zgu {l:List AV}(h:(Ty.sl zbf).sh l):∃cs:List yX,l=[wl cs]∧cs.length≤140737488355328:=by
 obtain⟨els,rfl,h1,h2⟩:=h
 obtain⟨cs,h3,h4⟩:=Xw (f:=yX.av) (fun l hl=>by
  obtain⟨c,rfl⟩:=zie hl
  exact⟨c,rfl⟩) els h1
 exact⟨cs,by rw[h3];rfl,by omega⟩
theorem zd6 {l:List AV}(h:zjq.sh l):∃cs:List (List Int),l=[zZ cs]∧cs.length≤140737488355328∧∀r∈cs,r.length≤140737488355328:=by
 obtain⟨els,rfl,h1,h2⟩:=h
 obtain⟨cs,h3,h4,h5⟩:=Xv (f:=zp) (Q:=fun r:List Int=>r.length≤140737488355328) (fun l hl=>by
  obtain⟨c,rfl,hc⟩:=K3 hl
  exact⟨c,rfl,hc⟩) els h1
 exact⟨cs,by rw[h3];rfl,by omega,h5⟩
theorem zif {l:List AV}(h:zgo.sh l):∃c:zf,l=[.int .i64 c.id,.int .i64 c.src,.int .i64 c.dst,.int .i64 c.period,.int .i64 c.phase,.int .i64 c.dead]:=by
 obtain⟨_,_,rfl,_,h1,_,_,rfl,_,h2,_,_,rfl,_,h3,_,_,rfl,_,h4,_,_,rfl,_,h5,_,_,rfl,_,h5',h6⟩:=h
 obtain⟨a,rfl,_⟩:=xg h1
 obtain⟨b,rfl,_⟩:=xg h2
 obtain⟨c,rfl,_⟩:=xg h3
 obtain⟨d,rfl,_⟩:=xg h4
 obtain⟨e,rfl,_⟩:=xg h5
 obtain⟨f,rfl,_⟩:=xg h5'
 obtain rfl:=h6
 exact⟨⟨a,b,c,d,e,f⟩,rfl⟩
theorem zjT {l:List AV}(h:zjP.sh l):∃n:zF,l=n.cs∧n.power.length≤140737488355328∧(∀r∈n.power,r.length≤140737488355328)∧n.links.length≤140737488355328∧n.margin.length≤140737488355328:=by
 obtain⟨_,_,rfl,_,h1,_,_,rfl,_,h2,_,_,rfl,_,h3,_,_,rfl,_,h4,_,_,rfl,_,h5,_,_,rfl,_,h5',h6⟩:=h
 obtain⟨a,rfl,_⟩:=xg h1
 obtain⟨b,rfl,b1,b2⟩:=zd6 h2
 obtain⟨c,rfl,_⟩:=xg h3
 obtain⟨d,rfl,_⟩:=xg h4
 obtain⟨e,rfl,e1⟩:=zgu h5
 obtain⟨f,rfl,f1⟩:=K3 h5'
 obtain rfl:=h6
 exact⟨⟨a,b,c,d,e,f⟩,rfl,b1,b2,e1,f1⟩
theorem ze1 {l:List AV}(h:zc3.sh l):∃s:zc,l=[.int .i64 s.len,.int .i64 s.offs,zy s.cells]∧s.cells.length≤140737488355328:=by
 obtain⟨_,_,rfl,_,h1,_,_,rfl,_,h2,_,_,rfl,_,h3,h6⟩:=h
 obtain⟨a,rfl,_⟩:=xg h1
 obtain⟨b,rfl,_⟩:=xg h2
 obtain⟨c,rfl,hc⟩:=zgv h3
 obtain rfl:=h6
 exact⟨⟨a,b,c⟩,rfl,hc⟩
open Go Go.RowKit
structure zD where
 flow:Int
 src:Int
 dst:Int
 frame:Int
 outs:List Int
 deriving DecidableEq
def zD.av (r:zD):AV:=.agg [.int .i64 r.flow,.int .i64 r.src,.int .i64 r.dst,.int .i64 r.frame,zp r.outs]
def xn (x:List zD):AV:=.sl false (x.map zD.av)
def zD.key (r:zD):List Int:=[r.flow,r.frame,r.src,r.dst]
def zD.cmp (a b:zD):Int:=xt a.key b.key
def zf5 (o:Int):Bool:=decide (o < 1)||decide (3 < o)
def wP (x most:Int):Bool:=decide (0≤x)&&decide (x≤most)
def jh (r:zD):Bool:=wP r.flow 255&&wP r.frame 1048576&&wP r.src 31&&wP r.dst 31&&decide ((1:Int)≤r.outs.length)&&decide ((r.outs.length:Int)≤16)&&!(r.outs.any zf5)
def J6 (x:List zD)(i:Nat)(r:zD):Bool:=match i with
 | 0=>true
 | j+1=>match x[j]? with
  | some p=>decide (p.cmp r < 0)
  | none=>true
def wg (x:List zD)(i:Nat)(r:zD):Int:=if jh r=false then 2 else if J6 x i r=false then 5 else 0
def jg (x:List zD):Nat→List zD→Int×Int
 | _,[]=>(-1,0)
 | i,r :: l=>if wg x i r≠0 then(i,wg x i r) else jg x (i+1) l
def y0 (x:List zD):Int×Int:=if 1024 < x.length then(-1,8) else jg x 0 x
theorem VT {x:List zD}:∀{l:List zD} {i k:Nat} {r:zD},l[k]? = some r→(∀j y,j < k→l[j]? = some y→wg x (i+j) y=0)→jg x i l=if wg x (i+k) r≠0 then(((i+k:Nat):Int),wg x (i+k) r) else jg x (i+k+1) (l.drop (k+1))
 | [],_,_,_,h,_=>by simp at h
 | y :: l,i,0,r,h,_=>by
  simp at h;subst h
  rw[jg];rfl
 | y :: l,i,k+1,r,h,hb=>by
  have h0:=hb 0 y (by omega) rfl
  rw[jg,if_neg (by simpa using h0),VT (l:=l) (i:=i+1) (k:=k) (by simpa using h) (fun j z hj hz=>by
   have:=hb (j+1) z (by omega) (by simpa using hz)
   rw[show i+1+j=i+(j+1) from by omega];exact this)]
  rw[show i+1+k=i+(k+1) from by omega]
  rfl
theorem Zg {x:List zD}{k:Nat}{r:zD}(hl:¬1024 < x.length)(h:x[k]? = some r)(hb:∀j y,j < k→x[j]? = some y→wg x j y=0)(hr:wg x k r≠0):y0 x=((k:Int),wg x k r):=by
 rw[y0,if_neg hl,VT h (fun j y hj hy=>by rw[Nat.zero_add];exact hb j y hj hy),Nat.zero_add,if_pos hr]
theorem VS {x:List zD}:∀{l:List zD} {i:Nat},(∀j y,l[j]? = some y→wg x (i+j) y=0)→jg x i l=(-1,0)
 | [],_,_=>rfl
 | y :: l,i,h=>by
  have h0:=h 0 y rfl
  rw[jg,if_neg (by simpa using h0)]
  exact VS fun j z hz=>by
   have:=h (j+1) z (by simpa using hz)
   rw[show i+1+j=i+(j+1) from by omega];exact this
theorem zc9 {x:List zD}(hl:¬1024 < x.length)(hb:∀j y,x[j]? = some y→wg x j y=0):y0 x=(-1,0):=by
 rw[y0,if_neg hl,VS fun j y hy=>by rw[Nat.zero_add];exact hb j y hy]
theorem ke {x:List zD}(h:(y0 x).2=0):x.length≤1024∧∀j y,x[j]? = some y→wg x j y=0:=by
 by_cases hl:1024 < x.length
 ·rw[y0,if_pos hl]at h;cases h
 refine⟨by omega,fun j=>?_⟩
 induction j using Nat.strongRecOn with
 | _ j ih=>
  intro y hy
  by_cases hr:wg x j y=0
  ·exact hr
  ·rw[Zg hl hy (fun i z hi hz=>ih i hi z hz) hr]at h
   exact absurd h hr
structure zkp (r:zD):Prop where
 flow:0≤r.flow∧r.flow≤255
 frame:0≤r.frame∧r.frame≤1048576
 src:0≤r.src∧r.src≤31
 dst:0≤r.dst∧r.dst≤31
 len:1≤r.outs.length∧r.outs.length≤16
 outs:∀o∈r.outs,1≤o∧o≤3
theorem zgx {r:zD}(h:jh r=true):zkp r:=by
 simp only[jh,wP,Bool.and_eq_true,decide_eq_true_eq,Bool.not_eq_true',List.any_eq_false,zf5,Bool.or_eq_true,not_or,Int.not_lt]at h
 obtain⟨⟨⟨⟨⟨⟨h1,h2⟩,h3⟩,h4⟩,h5⟩,h6⟩,h7⟩:=h
 exact⟨h1,h2,h3,h4,by omega,fun o ho=>h7 o ho⟩
theorem zbo {x:List zD}{i:Nat}{r:zD}(h:wg x i r=0):jh r=true∧J6 x i r=true:=by
 unfold wg at h
 split at h
 ·cases h
 split at h
 ·cases h
 rename_i h1 h2
 exact⟨by simpa using h1,by simpa using h2⟩
theorem Yp {x:List zD}(h:(y0 x).2=0):∀(i j:Nat) (a b:zD),i < j→x[i]? = some a→x[j]? = some b→a.cmp b < 0:=by
 obtain⟨_,h⟩:=ke h
 intro i j
 induction j with
 | zero=>intro a b hij;omega
 | succ j ih=>
  intro a b hij ha hb
  have hj:j < x.length:=by have:=(List.getElem?_eq_some_iff.1 hb).1;omega
  obtain⟨c,hc⟩:∃c,x[j]? = some c:=⟨_,List.getElem?_eq_getElem hj⟩
  have h1:=(zbo (h (j+1) b hb)).2
  simp only[J6,hc,decide_eq_true_eq]at h1
  rcases Nat.lt_succ_iff_lt_or_eq.1 hij with hl|rfl
  ·exact y7 (ih a c hl ha hc) h1
  ·rw[ha]at hc;injection hc with hc;subst hc;exact h1
def vm (x:List zD)(flow frame src dst:Int)(k:Nat):Int:=
 match x.find? fun r=>r.flow==flow&&r.frame==frame&&r.src==src&&r.dst==dst with
 | some r=>(r.outs[k]?).getD 1
 | none=>1
open Go Go.RowKit
def zbe:Ty:=.st [tI,tI,tI,tI,.sl tI]
theorem zid {l:List AV}(h:zbe.sh l):∃r:zD,l=[.int .i64 r.flow,.int .i64 r.src,.int .i64 r.dst,.int .i64 r.frame,zp r.outs]∧r.outs.length≤140737488355328:=by
 obtain⟨_,_,rfl,_,h1,_,_,rfl,_,h2,_,_,rfl,_,h3,_,_,rfl,_,h4,_,_,rfl,_,h5,h6⟩:=h
 obtain⟨a,rfl,_⟩:=xg h1
 obtain⟨b,rfl,_⟩:=xg h2
 obtain⟨c,rfl,_⟩:=xg h3
 obtain⟨d,rfl,_⟩:=xg h4
 obtain⟨e,rfl,e1⟩:=K3 h5
 obtain rfl:=h6
 exact⟨⟨a,b,c,d,e⟩,rfl,e1⟩
theorem ze0 {l:List AV}(h:(Ty.sl zbe).sh l):∃x:List zD,l=[xn x]∧x.length≤140737488355328∧∀r∈x,r.outs.length≤140737488355328:=by
 obtain⟨els,rfl,h1,h2⟩:=h
 obtain⟨cs,h3,h4,h5⟩:=Xv (f:=zD.av) (Q:=fun r:zD=>r.outs.length≤140737488355328) (fun l hl=>by
  obtain⟨c,rfl,hc⟩:=zid hl
  exact⟨c,rfl,hc⟩) els h1
 exact⟨cs,by rw[h3];rfl,by omega,h5⟩
open Go Go.RowKit
structure zcV (s t:zc):Prop where
 len:t.len=s.len
 cells:∀p:zg→Bool,(s.cells.filter p).length≤(t.cells.filter p).length
theorem Xd {n:zF}{s:zc}{f:zf}{r:List Int}{rel more:Int}{k:Nat}{o:List Int}{a:Int}(hn:1≤yk n r more k)(h:yb n s f r rel more (k+1)=some (o,a)):o.getLast? = some (a-1):=by
 unfold yb at h
 split at h
 ·cases h
 ·rename_i o' a' h'
  simp only at h
  split at h
  ·cases h
  ·rename_i hlen
   injection h with h;injection h with e1 e2
   subst e1;subst e2
   obtain⟨z,hz⟩:=Option.isSome_iff_exists.1 (List.getLast?_isSome.2 (show yZ s f (r.getD k 0) (r.getD (k+1) 0) (yk n r more k) a' (rel+f.period)≠[] by intro hh;rw[hh]at hlen;simp at hlen;omega))
   rw[List.getLast?_append,hz,vn,hz]
   simp
open Go Go.RowKit
def xX {α:Type}(l:List α)(p:Nat)(x:α):List α:=l.take p++x :: l.drop p
theorem Kl {α:Type}(l:List α)(p:Nat)(x:α):(xX l p x).length=l.length+1:=by
 simp[xX];omega
theorem zfm {α:Type}{l:List α}{p:Nat}{x y:α}:y∈xX l p x↔y=x∨y∈l:=by
 unfold xX
 rw[List.mem_append,List.mem_cons]
 constructor
 ·rintro (h|rfl|h)
  ·exact .inr (List.mem_of_mem_take h)
  ·exact .inl rfl
  ·exact .inr (List.mem_of_mem_drop h)
 ·rintro (rfl|h)
  ·exact .inr (.inl rfl)
  ·rw[←List.take_append_drop p l,List.mem_append]at h
   rcases h with h|h
   ·exact .inl h
   ·exact .inr (.inr h)
theorem zaq {α:Type}(l:List α)(p:Nat)(x:α)(q:α→Bool):(l.filter q).length≤((xX l p x).filter q).length:=by
 unfold xX
 have h:=congrArg (fun l=>(List.filter q l).length) (List.take_append_drop p l)
 simp only[List.filter_append,List.length_append]at h ⊢
 have:(List.filter q (l.drop p)).length≤(List.filter q (x :: l.drop p)).length:=by
  rw[List.filter_cons];split<;>simp
 omega
theorem zfn {α:Type}{l:List α}{p:Nat}{x:α}(hp:p≤l.length)(j:Nat):(xX l p x)[j]? = if j < p then l[j]? else if j=p then some x else l[j-1]?:=by
 unfold xX
 by_cases h1:j < p
 ·rw[if_pos h1,List.getElem?_append_left (by simp;omega),List.getElem?_take,if_pos h1]
 ·rw[if_neg h1,List.getElem?_append_right (by simp;omega),List.length_take,Nat.min_eq_left hp]
  by_cases h2:j=p
  ·subst h2;simp
  ·rw[if_neg h2,show j-p=(j-1-p)+1 by omega,List.getElem?_cons_succ,List.getElem?_drop]
   congr 1;omega
def vO (c x:zg):Int:=x.cmp c
theorem kr {s:zc}(h:yc s=true):YX zg.cmp s.cells:=by
 refine Zf (key:=zg.nums) fun j p x hp hx=>?_
 simp only[yc,Bool.and_eq_true,List.all_eq_true]at h
 have hlt:=(List.getElem?_eq_some_iff.1 hx).1
 have h2:=h.2 (j+1) (by simpa using hlt)
 unfold Xr at h2
 rw[hx]at h2
 simp only[hp,Bool.and_eq_true,decide_eq_true_eq]at h2
 exact h2.2
theorem QH {s:zc}(h:yc s=true)(c:zg):zge (vO c) s.cells:=fun i j x y hij hx hy hc=>y7 (kr h i j x y hij hx hy) hc
theorem zb8 {s:zc}(h1:wA s=true)(h2:s.cells.length≤512)(h3:∀c∈s.cells,yR s c=true)(h4:YX zg.cmp s.cells):yc s=true:=by
 simp only[yc,h1,decide_eq_true h2,Bool.true_and]
 refine ZV fun j hj=>?_
 obtain⟨c,hc⟩:=zr hj
 unfold Xr
 rw[hc]
 simp only[h3 c (List.mem_of_getElem? hc),Bool.true_and]
 cases j with
 | zero=>rfl
 | succ j=>
  obtain⟨p,hp⟩:=zr (l:=s.cells) (k:=j) (by omega)
  simp only[hp]
  exact decide_eq_true (h4 j (j+1) p c (by omega) hp hc)
def vl (s:zc)(c:zg):Nat:=wQ (vO c) s.cells
def Qy (s:zc)(c:zg):Bool:=jx (vO c) s.cells
def kK (s:zc)(c:zg):zc×Int:=
 if yc s=false then(⟨0,0,[]⟩,1)
 else if yR s c=false then(⟨0,0,[]⟩,2)
 else if Qy s c=true then(⟨0,0,[]⟩,6)
 else if s.cells.length=512 then(⟨0,0,[]⟩,8)
 else(⟨s.len,s.offs,xX s.cells (vl s c) c⟩,0)
theorem VD {s t:zc}{c:zg}(h:kK s c=(t,0)):yc s=true∧yR s c=true∧Qy s c=false∧s.cells.length < 512∧t=⟨s.len,s.offs,xX s.cells (vl s c) c⟩:=by
 unfold kK at h
 split at h
 ·simp at h
 split at h
 ·simp at h
 split at h
 ·simp at h
 split at h
 ·simp at h
 rename_i h1 h2 h3 h4
 have hb:=(xC (by simpa using h1:yc s=true)).2.1
 injection h with h5 h6
 exact⟨by simpa using h1,by simpa using h2,by simpa using h3,by omega,h5.symm⟩
theorem W5 {s t:zc}(h1:t.len=s.len)(h2:t.offs=s.offs)(c:zg):yR t c=yR s c:=by
 unfold yR wy;rw[h1,h2]
theorem zdN {s:zc}{c:zg}(h:yc s=true)(hc:Qy s c=false):YX zg.cmp (xX s.cells (vl s c) c):=by
 have hs:=kr h
 have hp:vl s c≤s.cells.length:=Vv _ _
 have hlt:∀(i:Nat) (x:zg),i < vl s c→s.cells[i]? = some x→x.cmp c < 0:=fun i x hi hx=>jj (c:=vO c) hi hx
 have hge:∀(j:Nat) (y:zg),vl s c≤j→s.cells[j]? = some y→c.cmp y < 0:=by
  have h0:∀y,s.cells[vl s c]? = some y→c.cmp y < 0:=fun y hy=>by
   have h1:¬y.cmp c < 0:=Xp (c:=vO c) hy
   have h2:y.cmp c≠0:=by
    unfold Qy jx at hc
    unfold vl at hy
    rw[hy]at hc
    simpa[vO] using hc
   have h3:0 < y.cmp c:=by omega
   exact Z5.2 h3
  intro j y hj hy
  rcases Nat.lt_or_eq_of_le hj with hj|rfl
  ·have hjl:=(List.getElem?_eq_some_iff.1 hy).1
   obtain⟨z,hz⟩:=zr (l:=s.cells) (k:=vl s c) (by omega)
   exact y7 (h0 z hz) (hs _ _ z y hj hz hy)
  ·exact h0 y hy
 intro i j x y hij hx hy
 rw[zfn hp]at hx hy
 by_cases h1:j < vl s c
 ·rw[if_pos h1]at hy
  rw[if_pos (by omega)]at hx
  exact hs i j x y hij hx hy
 rw[if_neg h1]at hy
 by_cases h2:j=vl s c
 ·rw[if_pos h2]at hy
  injection hy with hy;subst hy
  rw[if_pos (by omega)]at hx
  exact hlt i x (by omega) hx
 rw[if_neg h2]at hy
 by_cases h3:i < vl s c
 ·rw[if_pos h3]at hx
  exact hs i (j-1) x y (by omega) hx hy
 rw[if_neg h3]at hx
 by_cases h4:i=vl s c
 ·rw[if_pos h4]at hx
  injection hx with hx;subst hx
  exact hge (j-1) y (by omega) hy
 ·rw[if_neg h4]at hx
  exact hs (i-1) (j-1) x y (by omega) hx hy
theorem zf8 {s t:zc}{c:zg}(h:kK s c=(t,0)):zcV s t∧yc s=true∧yc t=true:=by
 obtain⟨h1,h2,h3,h4,rfl⟩:=VD h
 obtain⟨f1,f2,f3⟩:=xC h1
 refine⟨⟨rfl,fun p=>zaq _ _ _ _⟩,h1,zb8 f1 (by simp only[Kl];omega) (fun x hx=>?_) (zdN h1 h3)⟩
 have e:=W5 (s:=s) (t:=⟨s.len,s.offs,xX s.cells (vl s c) c⟩) rfl rfl x
 rw[e]
 rcases zfm.1 hx with rfl|hx
 ·exact h2
 ·exact f3 x hx
theorem zgX {A B U X:List AV}(h:X.length≤U.length):zR (zR (A++B++U) (A.length+X.length) B) A.length X=A++X++B++U.drop X.length:=by
 have e1:zR (A++B++U) (A.length+X.length) B=(A++B++U).take (A.length+X.length)++B++U.drop X.length:=by
  rw[y4 _ _ _ (by simp;omega)]
  congr 1
  rw[show A.length+X.length+B.length=(A++B).length+X.length by simp;omega,List.drop_append]
  simp
 rw[e1,y4 _ _ _ (by simp;omega)]
 rw[List.append_assoc ((A++B++U).take _),List.take_append_of_le_length (by simp<;>omega),List.take_take,Nat.min_eq_left (by omega),List.append_assoc A,List.take_left]
 rw[List.drop_append,List.drop_eq_nil_of_le (by simp;omega)]
 rw[show A.length+X.length-(List.take (A.length+X.length) (A++(B++U))).length=0 by simp;omega]
 simp
theorem zgY {A B Z U X:List AV}(h:Z.length=X.length+B.length):zR (zR (A++Z++U) A.length X) (A.length+X.length) B=A++X++B++U:=by
 have e1:zR (A++Z++U) A.length X=A++X++(Z.drop X.length++U):=by
  rw[y4 _ _ _ (by simp;omega),List.append_assoc A,List.take_left,List.drop_append,List.drop_eq_nil_of_le (by omega)]
  rw[show A.length+X.length-A.length=X.length by omega,List.drop_append,show X.length-Z.length=0 by omega]
  rfl
 rw[e1,y4 _ _ _ (by simp;omega)]
 rw[show A.length+X.length=(A++X).length by simp,List.take_left,List.drop_append,List.drop_eq_nil_of_le (by omega)]
 rw[show(A++X).length+B.length-(A++X).length=B.length by omega,List.drop_append,List.drop_eq_nil_of_le (by simp;omega)]
 rw[show B.length-(Z.drop X.length).length=0 by simp;omega]
 simp
theorem qE (a b:List AV):zd (a++b)=zd a++zd b:=by simp[zd]
open Go Go.RowKit
def yq (f:zf)(slot:Int):Int×Bool:=if yo 32 f≠0∨slot < f.phase∨1099511627776 < slot then(0,false) else((slot-f.phase) / f.period,true)
def jt (f:zf)(frame:Int):Int×Int:=if yo 32 f≠0 then(0,1) else if frame < 0∨1099511627776 < frame∨1099511627776 < f.phase+frame*f.period then(0,2) else(f.phase+frame*f.period,0)
def xm (l:List zf)(id:Int):Int:=wu (fun f:zf=>f.id==id) l
structure y9 where
 slot:Int
 frame:Int
 cell:zg
 out:Int
 deriving DecidableEq
def y9.av (a:y9):AV:=.agg [.int .i64 a.slot,.int .i64 a.frame,.int .i64 a.cell.slot,.int .i64 a.cell.off,.int .i64 a.cell.src,.int .i64 a.cell.dst,.int .i64 a.cell.flow,.int .i64 a.out]
structure xd where
 flow:Int
 frame:Int
 slot:Int
 deriving DecidableEq
def xd.av (d:xd):AV:=.agg [.int .i64 d.flow,.int .i64 d.frame,.int .i64 d.slot]
structure wK where
 atts:List y9
 dels:List xd
def zep (l:List y9):AV:=.sl false (l.map y9.av)
def zeo (l:List xd):AV:=.sl false (l.map xd.av)
def wK.av (r:wK):AV:=.agg [zep r.atts,zeo r.dels]
def jB (r:wK)(flow frame:Int):Int×Bool:=match r.dels.find? fun d=>d.flow==flow&&d.frame==frame with
 | some d=>(d.slot,true)
 | none=>(0,false)
theorem QP {α:Type}{p:α→Bool}:∀{l:List α} {k:Nat} {x:α},(∀j y,j < k→l[j]? = some y→p y=false)→l[k]? = some x→p x=true→l.find? p=some x
 | [],_,_,_,h,_=>by simp at h
 | y :: l,0,x,_,h,hx=>by
  simp at h;subst h
  simp[hx]
 | y :: l,k+1,x,hb,h,hx=>by
  rw[List.find?_cons,hb 0 y (by omega) rfl]
  exact QP (k:=k) (fun j z hj hz=>hb (j+1) z (by omega) (by simpa using hz)) (by simpa using h) hx
theorem Kz {α:Type}{p:α→Bool}{l:List α}(hb:∀(j:Nat) y,l[j]? = some y→p y=false):l.find? p=none:=by
 rw[List.find?_eq_none]
 intro x hx
 obtain⟨j,hj⟩:=List.getElem?_of_mem hx
 simp[hb j x hj]
def Jh (s:zc)(slot:Int):List zg:=if yc s=false∨slot < 0 then [] else s.cells.filter fun c=>c.slot==slot % s.len
def wq (l:List zf)(s:zc)(x:List zD)(slots:Int):Int:=
 if (yd 32 l).2≠0∨yc s=false∨(y0 x).2≠0 then 1 else if slots < 0∨4096 < slots then 2 else 0
theorem QK {l:List zf}(h:(yd 32 l).2=0):l.length≤16∧∀(k:Nat) (f:zf),l[k]? = some f→yo 32 f=0∧Yz l k f=true:=by
 unfold yd at h
 rw[if_neg (by omega)]at h
 split at h
 ·cases h
 rename_i h16
 refine⟨by omega,fun k f hf=>?_⟩
 have:=yw.1 h k (List.getElem?_eq_some_iff.1 hf).1
 unfold wv at this
 rw[hf]at this
 simp only at this
 split at this
 ·rename_i hne
  exact absurd this hne
 ·rename_i he
  split at this
  ·cases this
  ·rename_i ho
   exact⟨by simpa using he,by simpa using ho⟩
theorem zij {f:zf}{frame:Int}(h:yo 32 f=0)(h0:0≤frame)(h1:f.phase+frame*f.period≤1099511627776):jt f frame=(f.phase+frame*f.period,0):=by
 obtain⟨q1,q2,q3,q4,q5,q6,q7,q8,q9,q10,q11,q12,q13⟩:=yB h
 have:frame*1≤frame*f.period:=Int.mul_le_mul_of_nonneg_left (by omega) h0
 rw[jt,if_neg (by omega),if_neg (by omega)]
open Go Go.RowKit
structure IM where
 ks:List (List Int)
 vs:List Int
def IM.none:IM:=⟨[],[]⟩
def IM.get (m:IM)(x:List Int):Option Int:=(zV m.ks x).bind fun i=>m.vs[i]?
def IM.set (m:IM)(x:List Int)(v:Int):IM:=⟨yu m.ks x,match zV m.ks x with
 | some i=>m.vs.set i v
 | _=>m.vs++[v]⟩
def IM.ob (sh:Option Nat)(m:IM):Ob:=.map sh m.ks (m.vs.map zM)
def IM.ok (m:IM):Prop:=m.ks.length=m.vs.length
theorem IM.assoc (m:IM)(x:List Int):assoc m.ks (m.vs.map zM) x=(m.get x).map zM:=by
 unfold HM.assoc IM.get
 cases zV m.ks x with
 | none=>rfl
 | some i=>simp
theorem IM.setVs (m:IM)(x:List Int)(v:Int):setVs m.ks (m.vs.map zM) x (zM v)=(m.set x v).vs.map zM:=by
 unfold HM.setVs IM.set
 cases zV m.ks x with
 | none=>simp
 | some i=>simp[List.map_set]
theorem IM.qA:IM.none.ok:=rfl
theorem IM.WM {m:IM}(h:m.ok)(x:List Int)(v:Int):(m.set x v).ok:=by
 unfold IM.ok IM.set yu at *
 cases zV m.ks x with
 | none=>simp[h]
 | some i=>simp[h]
theorem V3 {ks:List (List Int)}{x y:List Int}(h:zV ks x=none):zV (ks++[x]) y=if y=x then some ks.length else zV ks y:=by
 induction ks with
 | nil=>
  simp only[List.nil_append,zV]
  by_cases e:y=x
  ·subst e;simp
  ·rw[if_neg (fun h=>e h.symm),if_neg e];rfl
 | cons k ks ih=>
  have h0:k≠x∧zV ks x=none:=by
   unfold zV at h
   split at h
   ·cases h
   ·rename_i hne
    exact⟨hne,by simpa using h⟩
  rw[List.cons_append,zV,ih h0.2]
  by_cases e:k=y
  ·subst e
   rw[if_pos rfl,if_neg h0.1,zV,if_pos rfl]
  ·rw[if_neg e]
   by_cases e2:y=x
   ·subst e2;simp
   ·rw[if_neg e2,if_neg e2,zV,if_neg e]
theorem zfa {ks:List (List Int)}{x y:List Int}{i:Nat}(h:zV ks x=some i)(h':zV ks y=some i):x=y:=by
 have:=yV h
 rw[yV h']at this
 exact(Option.some.inj this).symm
theorem IM.vw {m:IM}(h:m.ok)(x y:List Int)(v:Int):(m.set x v).get y=if y=x then some v else m.get y:=by
 unfold IM.get IM.set yu
 unfold IM.ok at h
 cases hx:zV m.ks x with
 | none=>
  simp only[V3 hx]
  by_cases e:y=x
  ·rw[if_pos e,if_pos e];simp[h]
  ·rw[if_neg e,if_neg e]
   cases hy:zV m.ks y with
   | none=>rfl
   | some j=>
    have:=(List.getElem?_eq_some_iff.1 (yV hy)).1
    simp only[Option.bind_some]
    rw[List.getElem?_append_left (by omega)]
 | some i=>
  have hi:=(List.getElem?_eq_some_iff.1 (yV hx)).1
  simp only
  by_cases e:y=x
  ·subst e
   rw[if_pos rfl,hx]
   simp[←h,hi]
  ·rw[if_neg e]
   cases hy:zV m.ks y with
   | none=>rfl
   | some j=>
    have hne:i≠j:=fun hh=>e (by subst hh;exact zfa hy hx)
    simp[hne]
theorem IM.Jy (y:List Int):IM.none.get y=Option.none:=rfl
structure PS where
 frame:Int
 since:IM
 tries:IM
 acked:IM
 done:Bool
structure PL where
 sts:List PS
 atts:List y9
 dels:List xd
def PS.first:PS:=⟨-1,.none,.none,.none,false⟩
def PS.ok (p:PS):Prop:=p.since.ok∧p.tries.ok∧p.acked.ok
def VZ (f:zf)(slot:Int)(p:PS):PS:=if (yq f slot).2=true∧(yq f slot).1≠p.frame then ⟨(yq f slot).1,IM.none.set [f.src] slot,.none,.none,false⟩ else p
def xp (l:List zf)(slot:Int)(q:List PS):List PS:=l.zipWith (fun f p=>VZ f slot p) q
def vz (f:zf)(p:PS)(c:zg)(slot:Int):Bool:=
 (match p.since.get [c.src] with|some a=>decide (slot < a)|Option.none=>true)||c.src==f.dst||(match p.acked.get [c.src,c.dst] with|some a=>decide (a < slot)|Option.none=>false)
def wa (x:List zD)(f:zf)(p:PS)(c:zg):Int:=vm x f.id p.frame c.src c.dst ((p.tries.get [c.src,c.dst]).getD 0).toNat
def VE (f:zf)(p:PS)(c:zg)(slot o:Int):PS:=
 let a:IM:=if o=1∧p.acked.get [c.src,c.dst] = Option.none then p.acked.set [c.src,c.dst] slot else p.acked
 let s:IM:=if o≠3∧p.since.get [c.dst] = Option.none then p.since.set [c.dst] (slot+1) else p.since
 ⟨p.frame,s,p.tries.set [c.src,c.dst] ((p.tries.get [c.src,c.dst]).getD 0+1),a,p.done||(decide (o≠3)&&c.dst==f.dst)⟩
def yg (l:List zf)(x:List zD)(slot:Int)(q:PL)(c:zg):PL:=
 if xm l c.flow < 0 then q else
 match l[(xm l c.flow).toNat]?,q.sts[(xm l c.flow).toNat]? with
 | some f,some p=>
  if p.frame < 0∨vz f p c slot=true then q else
  ⟨q.sts.set (xm l c.flow).toNat (VE f p c slot (wa x f p c)),q.atts++[⟨slot,p.frame,c,wa x f p c⟩],
   q.dels++(if wa x f p c≠3∧c.dst=f.dst∧p.done=false then [⟨f.id,p.frame,slot⟩] else [])⟩
 | _,_=>q
def Yn (l:List zf)(s:zc)(x:List zD)(q:PL)(slot:Int):PL:=
 let r:=(Jh s slot).foldl (yg l x slot) ⟨xp l slot q.sts,q.atts,q.dels⟩
 ⟨r.sts,r.atts,r.dels.take q.dels.length++(r.dels.drop q.dels.length).mergeSort fun a b=>decide (a.flow≤b.flow)⟩
def vk (t r:zD):Int:=r.cmp t
def Qq (flow frame src dst:Int)(r:zD):Bool:=r.flow==flow&&r.frame==frame&&r.src==src&&r.dst==dst
theorem WY (x:List zD)(flow frame src dst:Int)(k:Nat):vm x flow frame src dst k=match x.find? (Qq flow frame src dst) with
 | some r=>(r.outs[k]?).getD 1
 | Option.none=>1:=rfl
theorem Wo {t r:zD}:Qq t.flow t.frame t.src t.dst r=true↔vk t r=0:=by
 unfold Qq vk zD.cmp zD.key
 rw[vt]
 simp[and_assoc]
theorem zbm {x:List zD}(h:(y0 x).2=0)(t:zD):zge (vk t) x:=fun i j a b hij ha hb hc=>y7 (Yp h i j a b hij ha hb) hc
theorem zbE {x:List zD}{t:zD}(h:jx (vk t) x=true):∃r,x[wQ (vk t) x]? = some r∧x.find? (Qq t.flow t.frame t.src t.dst)=some r:=by
 unfold jx at h
 split at h
 ·rename_i r hr
  refine⟨r,hr,QP (fun j y hj hy=>?_) hr (Wo.2 (by simpa using h))⟩
  have:=jj hj hy
  cases hb:Qq t.flow t.frame t.src t.dst y with
  | false=>rfl
  | true=>rw[Wo]at hb;omega
 ·cases h
theorem zae {x:List zD}(hs:(y0 x).2=0){t:zD}(h:jx (vk t) x=false):x.find? (Qq t.flow t.frame t.src t.dst)=Option.none:=by
 refine Kz fun j y hy=>?_
 cases hb:Qq t.flow t.frame t.src t.dst y with
 | false=>rfl
 | true=>
  rw[Wo]at hb
  have hj:¬j < wQ (vk t) x:=fun hj=>by have:=jj hj hy;omega
  have hlt:=(List.getElem?_eq_some_iff.1 hy).1
  obtain⟨r,hr⟩:∃r,x[wQ (vk t) x]? = some r:=⟨_,List.getElem?_eq_getElem (by omega)⟩
  have h1:=Xp hr
  have h2:¬vk t r=0:=by
   unfold jx at h
   rw[hr]at h
   simpa using h
  by_cases e:j=wQ (vk t) x
  ·subst e
   rw[hy]at hr;injection hr with hr;subst hr
   exact absurd hb h2
  ·have hc:r.cmp y < 0:=Yp hs _ _ r y (by omega) hr hy
   have:vk t r < 0:=by
    have hk:y.key=t.key:=vt.1 hb
    unfold vk zD.cmp
    rw[←hk];exact hc
   exact absurd this h1
open Go Go.RowKit
def onA (c:zg)(frame:Int)(a:y9):Bool:=a.cell.flow==c.flow&&a.frame==frame&&a.cell.src==c.src&&a.cell.dst==c.dst
def ko (id frame node:Int)(a:y9):Bool:=a.cell.flow==id&&a.frame==frame&&a.cell.dst==node&&a.out != 3
def xz (f:zf)(ats:List y9)(node frame slot:Int):Bool:=node==f.src||ats.any fun a=>ko f.id frame node a&&decide (a.slot < slot)
def vP (ats:List y9)(c:zg)(frame slot:Int):Bool:=ats.any fun a=>onA c frame a&&decide (a.slot < slot)&&a.out==1
def kB (ats:List y9)(c:zg)(frame:Int):Nat:=ats.countP (onA c frame)
def w6 (ds:List xd)(id frame:Int):Bool:=ds.any fun d=>d.flow==id&&d.frame==frame
def xy (d x:xd):Bool:=x.slot==d.slot&&decide (d.flow < x.flow)
def Qt (d:xd)(ds:List xd):List xd:=(ds.reverse.dropWhile (xy d)).reverse++d :: (ds.reverse.takeWhile (xy d)).reverse
def yQ (l:List zf)(x:List zD)(slot:Int)(r:wK)(c:zg):wK:=
 if xm l c.flow < 0 then r else
 match l[(xm l c.flow).toNat]? with
 | some f=>
  if (yq f slot).2=false∨c.src=f.dst∨xz f r.atts c.src (yq f slot).1 slot=false∨vP r.atts c (yq f slot).1 slot=true then r else
  let o:=vm x c.flow (yq f slot).1 c.src c.dst (kB r.atts c (yq f slot).1)
  ⟨r.atts++[⟨slot,(yq f slot).1,c,o⟩],if c.dst=f.dst∧o≠3∧w6 r.dels c.flow (yq f slot).1=false then Qt ⟨c.flow,(yq f slot).1,slot⟩ r.dels else r.dels⟩
 | none=>r
def Yo (l:List zf)(s:zc)(x:List zD)(r:wK)(slot:Int):wK:=(Jh s slot).foldl (yQ l x slot) r
def yf (l:List zf)(sc:Nat→zc)(x:List zD):Nat→wK
 | 0=>⟨[],[]⟩
 | n+1=>Yo l (sc n) x (yf l sc x n) n
def wx (l:List zf)(sc:Nat→zc)(x:List zD):Nat→PL
 | 0=>⟨l.map fun _=>PS.first,[],[]⟩
 | n+1=>Yn l (sc n) x (wx l sc x n) n
structure xE (l:List zf):Prop where
 len:l.length≤16
 ok:∀(k:Nat) f,l[k]? = some f→yo 32 f=0
 lt:∀(i j:Nat) f g,i < j→l[i]? = some f→l[j]? = some g→f.id < g.id
theorem YQ {l:List zf}(h:(yd 32 l).2=0):xE l:=by
 obtain⟨h1,h2⟩:=QK h
 refine⟨h1,fun k f hf=>(h2 k f hf).1,fun i j=>?_⟩
 induction j with
 | zero=>intro f g hij;omega
 | succ j ih=>
  intro f g hij hf hg
  have hj:j < l.length:=by have:=(List.getElem?_eq_some_iff.1 hg).1;omega
  obtain⟨c,hc⟩:∃c,l[j]? = some c:=⟨_,List.getElem?_eq_getElem hj⟩
  have h3:=(h2 (j+1) g hg).2
  simp only[Yz,hc,decide_eq_true_eq]at h3
  rcases Nat.lt_succ_iff_lt_or_eq.1 hij with hl|rfl
  ·have:=ih f c hl hf hc;omega
  ·rw[hf]at hc;injection hc with hc;subst hc;exact h3
theorem xE.find {l:List zf}(h:xE l){i:Nat}{f:zf}(hf:l[i]? = some f):xm l f.id=(i:Int):=by
 refine yI (List.getElem?_eq_some_iff.1 hf).1 (fun j y hj hy=>?_) hf (by simp)
 have:=h.lt j i y f hj hy hf
 simp;omega
theorem zce {l:List zf}{id:Int}(h:¬xm l id < 0):∃(i:Nat) (f:zf),xm l id=i∧l[i]? = some f∧f.id=id:=by
 obtain⟨i,f,h1,h2,h3⟩:=vV (p:=fun f:zf=>f.id==id) (l:=l) (fun hh=>h (by unfold xm;rw[hh];decide))
 exact⟨i,f,h1,h2,by simpa using h3⟩
theorem Q2 {f:zf}(h:yo 32 f=0){a b:Int}(hab:a≤b)(hb:b≤1099511627776)(ha:(yq f a).2=true):(yq f b).2=true∧(yq f a).1≤(yq f b).1:=by
 obtain⟨q1,q2,q3,q4,q5,q6,q7,q8,q9,q10,q11,q12,q13⟩:=yB h
 unfold yq at ha ⊢
 split at ha
 ·cases ha
 rename_i h1
 rw[if_neg h1,if_neg (by omega)]
 exact⟨rfl,Int.ediv_le_ediv (by omega) (by omega)⟩
theorem zhm {f:zf}(h:yo 32 f=0){a:Int}(ha:(yq f a).2=true):0≤(yq f a).1:=by
 obtain⟨q1,q2,q3,q4,q5,q6,q7,q8,q9,q10,q11,q12,q13⟩:=yB h
 unfold yq at ha ⊢
 split at ha
 ·cases ha
 rename_i h1
 rw[if_neg h1]
 exact Int.ediv_nonneg (by omega) (by omega)
theorem ziK {f:zf}(h:yo 32 f=0):(yq f (-1)).2=false:=by
 obtain⟨q1,q2,q3,q4,q5,q6,q7,q8,q9,q10,q11,q12,q13⟩:=yB h
 unfold yq
 rw[if_pos (by omega)]
structure qW (f:zf)(t:Int)(p:PS)(ats:List y9)(ds:List xd):Prop where
 ok:p.ok
 off:(yq f t).2=false→p.frame=-1
 on:(yq f t).2=true→p.frame=(yq f t).1
 s1:0≤p.frame→∀node a,p.since.get [node] = some a→node=f.src∨∃b∈ats,ko f.id p.frame node b=true∧a=b.slot+1
 s2:0≤p.frame→∀node b,b∈ats→ko f.id p.frame node b=true→∃a,p.since.get [node] = some a∧a≤b.slot+1
 s3:0≤p.frame→∃a,p.since.get [f.src] = some a∧a≤t
 a1:0≤p.frame→∀c:zg,c.flow=f.id→∀a,p.acked.get [c.src,c.dst] = some a→∃b∈ats,onA c p.frame b=true∧b.out=1∧b.slot=a
 a2:0≤p.frame→∀c:zg,c.flow=f.id→∀b∈ats,onA c p.frame b=true→b.out=1→∃a,p.acked.get [c.src,c.dst] = some a∧a≤b.slot
 tr:0≤p.frame→∀c:zg,c.flow=f.id→(p.tries.get [c.src,c.dst]).getD 0=(kB ats c p.frame:Int)
 dn:0≤p.frame→p.done=w6 ds f.id p.frame
structure zgb (l:List zf)(t:Int)(ats:List y9)(ds:List xd):Prop where
 at_:∀b∈ats,0≤b.slot∧b.slot≤t∧∃(i:Nat) (f:zf),l[i]? = some f∧f.id=b.cell.flow∧yq f b.slot=(b.frame,true)
 dl:∀d∈ds,∃b∈ats,b.slot=d.slot∧b.frame=d.frame∧b.cell.flow=d.flow
theorem qW.start {f:zf}(h:yo 32 f=0):qW f (-1) PS.first [] []:=by
 have hc:=ziK h
 have hn:¬(0:Int)≤PS.first.frame:=by simp[PS.first]
 exact⟨⟨IM.qA,IM.qA,IM.qA⟩,fun _=>rfl,fun h1=>by rw[hc]at h1;(cases h1),fun h=>(hn h).elim,fun h=>(hn h).elim,fun h=>(hn h).elim,fun h=>(hn h).elim,fun h=>(hn h).elim,fun h=>(hn h).elim,fun h=>(hn h).elim⟩
theorem ZT {l:List zf}(h:xE l){i j:Nat}{f g:zf}(hf:l[i]? = some f)(hg:l[j]? = some g)(he:f.id=g.id):i=j∧f=g:=by
 have h1:=h.find hf
 have h2:=h.find hg
 rw[he]at h1
 have:i=j:=by omega
 subst this
 rw[hf]at hg;injection hg with hg
 exact⟨rfl,hg⟩
theorem zgb.frame {l:List zf}(hl:xE l){t:Int}{ats:List y9}{ds:List xd}(h:zgb l t ats ds)(ht:t≤1099511627776){i:Nat}{f:zf}(hf:l[i]? = some f){b:y9}(hb:b∈ats)(wp:b.cell.flow=f.id) :
  (yq f t).2=true∧b.frame≤(yq f t).1∧yq f b.slot=(b.frame,true):=by
 obtain⟨h0,h1,j,g,hg,h2,h3⟩:=h.at_ b hb
 obtain⟨rfl,rfl⟩:=ZT hl hf hg (by rw[h2,wp])
 have:=Q2 (hl.ok _ _ hf) h1 ht (by rw[h3])
 rw[h3]at this
 exact⟨this.1,this.2,h3⟩
theorem qW.release {l:List zf}(hl:xE l){t:Int}(ht:t+1≤1099511627776){ats:List y9}{ds:List xd}(hr:zgb l t ats ds){i:Nat}{f:zf}(hf:l[i]? = some f){p:PS}(h:qW f t p ats ds):qW f (t+1) (VZ f (t+1) p) ats ds:=by
 have hfe:=hl.ok _ _ hf
 unfold VZ
 by_cases hc:(yq f (t+1)).2=true∧(yq f (t+1)).1≠p.frame
 ·rw[if_pos hc]
  obtain⟨hc1,hc2⟩:=hc
  have hnone:∀b∈ats,b.cell.flow=f.id→b.frame≠(yq f (t+1)).1:=by
   intro b hb wp he
   obtain⟨h1,h2,h3⟩:=hr.frame hl (by omega) hf hb wp
   have h4:=(Q2 hfe (show t≤t+1 by omega) ht h1).2
   exact hc2 (by rw[h.on h1];omega)
  have hg:∀node b,b∈ats→ko f.id (yq f (t+1)).1 node b=true→False:=by
   intro node b hb hh
   simp only[ko,Bool.and_eq_true,beq_iff_eq]at hh
   exact hnone b hb hh.1.1.1 hh.1.1.2
  have ho:∀c:zg,c.flow=f.id→∀b∈ats,onA c (yq f (t+1)).1 b=true→False:=by
   intro c hcf b hb hh
   simp only[onA,Bool.and_eq_true,beq_iff_eq]at hh
   exact hnone b hb (hh.1.1.1.trans hcf) hh.1.1.2
  refine⟨⟨IM.WM IM.qA _ _,IM.qA,IM.qA⟩,fun h1=>by rw[hc1]at h1;(cases h1),fun _=>rfl,fun _ node a ha=>?_,fun _ node b hb hh=>(hg node b hb hh).elim,fun _=>⟨t+1,?_,Int.le_refl _⟩,fun _ c _ a ha=>by simp[IM.Jy]at ha,fun _ c hcf b hb hh=>(ho c hcf b hb hh).elim,fun _ c hcf=>?_,fun _=>?_⟩
  ·simp only[IM.vw IM.qA,IM.Jy]at ha
   split at ha
   ·rename_i he;injection he with he;exact .inl he
   ·cases ha
  ·simp[IM.vw IM.qA]
  ·have:kB ats c (yq f (t+1)).1=0:=List.countP_eq_zero.2 fun b hb hh=>ho c hcf b hb hh
   simp[this,IM.Jy]
  ·symm
   rw[Bool.eq_false_iff]
   intro hh
   simp only[w6,List.any_eq_true,Bool.and_eq_true,beq_iff_eq]at hh
   obtain⟨d,hd,h1,h2⟩:=hh
   obtain⟨b,hb,_,h3,h4⟩:=hr.dl d hd
   exact hnone b hb (h4.trans h1) (h3.trans h2)
 ·rw[if_neg hc]
  have hcur:(yq f (t+1)).2=true→p.frame=(yq f (t+1)).1:=fun h1=>Classical.byContradiction fun h2=>hc ⟨h1,fun h3=>h2 h3.symm⟩
  refine⟨h.ok,fun h1=>h.off ?_,hcur,h.s1,h.s2,fun hp=>?_,h.a1,h.a2,h.tr,h.dn⟩
  ·rw[Bool.eq_false_iff]
   intro h2
   have:=(Q2 hfe (show t≤t+1 by omega) ht h2).1
   rw[h1]at this;cases this
  ·obtain⟨a,h1,h2⟩:=h.s3 hp
   exact⟨a,h1,by omega⟩
theorem qW.other {f:zf}{t:Int}{p:PS}{ats:List y9}{ds ds':List xd}(h:qW f t p ats ds){b:y9}(hb:b.cell.flow≠f.id)(hd:∀n,w6 ds' f.id n=w6 ds f.id n):qW f t p (ats++[b]) ds':=by
 have hon:∀c:zg,c.flow=f.id→∀n,onA c n b=false:=by
  intro c hc n
  rw[Bool.eq_false_iff]
  intro hh
  simp only[onA,Bool.and_eq_true,beq_iff_eq]at hh
  exact hb (hh.1.1.1.trans hc)
 have hgt:∀n node,ko f.id n node b=false:=by
  intro n node
  rw[Bool.eq_false_iff]
  intro hh
  simp only[ko,Bool.and_eq_true,beq_iff_eq]at hh
  exact hb hh.1.1.1
 refine⟨h.ok,h.off,h.on,fun hp node a ha=>?_,fun hp node b' hb' hh=>?_,h.s3,fun hp c hc a ha=>?_,fun hp c hc b' hb' hh ho=>?_,fun hp c hc=>?_,fun hp=>by rw[hd];exact h.dn hp⟩
 ·rcases h.s1 hp node a ha with h1|⟨b',h1,h2⟩
  ·exact .inl h1
  ·exact .inr ⟨b',by simp[h1],h2⟩
 ·rcases List.mem_append.1 hb' with h1|h1
  ·exact h.s2 hp node b' h1 hh
  ·simp at h1;subst h1;rw[hgt]at hh;cases hh
 ·obtain⟨b',h1,h2⟩:=h.a1 hp c hc a ha
  exact⟨b',by simp[h1],h2⟩
 ·rcases List.mem_append.1 hb' with h1|h1
  ·exact h.a2 hp c hc b' h1 hh ho
  ·simp at h1;subst h1;rw[hon c hc]at hh;cases hh
 ·rw[h.tr hp c hc]
  simp[kB,List.countP_append,hon c hc]
theorem zg1 {f:zf}{t:Int}{p:PS}{ats:List y9}{ds:List xd}(h:qW f t p ats ds)(hp:0≤p.frame){c:zg}(hc:c.flow=f.id) :
  vz f p c t=true↔(c.src=f.dst∨xz f ats c.src p.frame t=false∨vP ats c p.frame t=true):=by
 have e1:(match p.since.get [c.src] with|some a=>decide (t < a)|Option.none=>true)=!xz f ats c.src p.frame t:=by
  rw[Bool.eq_iff_iff,Bool.not_eq_true']
  cases hs:p.since.get [c.src] with
  | none=>
   simp only[true_iff]
   rw[Bool.eq_false_iff]
   intro hh
   simp only[xz,Bool.or_eq_true,beq_iff_eq,List.any_eq_true,Bool.and_eq_true,decide_eq_true_eq]at hh
   rcases hh with hh|⟨b,hb,h1,h2⟩
   ·obtain⟨a,h1,_⟩:=h.s3 hp
    rw[←hh,hs]at h1;cases h1
   ·obtain⟨a,h3,_⟩:=h.s2 hp _ b hb h1
    rw[hs]at h3;cases h3
  | some a=>
   simp only[decide_eq_true_eq]
   constructor
   ·intro hlt
    rw[Bool.eq_false_iff]
    intro hh
    simp only[xz,Bool.or_eq_true,beq_iff_eq,List.any_eq_true,Bool.and_eq_true,decide_eq_true_eq]at hh
    rcases hh with hh|⟨b,hb,h1,h2⟩
    ·obtain⟨a',h1,h2⟩:=h.s3 hp
     rw[←hh,hs]at h1;injection h1 with h1;omega
    ·obtain⟨a',h3,h4⟩:=h.s2 hp _ b hb h1
     rw[hs]at h3;injection h3 with h3;omega
   ·intro hh
    rw[Bool.eq_false_iff]at hh
    apply Classical.byContradiction
    intro hge
    apply hh
    simp only[xz,Bool.or_eq_true,beq_iff_eq,List.any_eq_true,Bool.and_eq_true,decide_eq_true_eq]
    rcases h.s1 hp _ a hs with h1|⟨b,h1,h2,h3⟩
    ·exact .inl h1
    ·exact .inr ⟨b,h1,h2,by omega⟩
 have e2:(match p.acked.get [c.src,c.dst] with|some a=>decide (a < t)|Option.none=>false)=vP ats c p.frame t:=by
  rw[Bool.eq_iff_iff]
  cases hs:p.acked.get [c.src,c.dst] with
  | none=>
   simp only[Bool.false_eq_true,false_iff]
   intro hh
   simp only[vP,List.any_eq_true,Bool.and_eq_true,decide_eq_true_eq,beq_iff_eq]at hh
   obtain⟨b,hb,⟨h1,h2⟩,h3⟩:=hh
   obtain⟨a,h4,_⟩:=h.a2 hp c hc b hb h1 h3
   rw[hs]at h4;cases h4
  | some a=>
   simp only[decide_eq_true_eq,vP,List.any_eq_true,Bool.and_eq_true,beq_iff_eq]
   constructor
   ·intro hlt
    obtain⟨b,hb,h1,h2,h3⟩:=h.a1 hp c hc a hs
    exact⟨b,hb,⟨h1,by omega⟩,h2⟩
   ·rintro⟨b,hb,⟨h1,h2⟩,h3⟩
    obtain⟨a',h4,h5⟩:=h.a2 hp c hc b hb h1 h3
    rw[hs]at h4;injection h4 with h4;omega
 have hi:vz f p c t=(!xz f ats c.src p.frame t||c.src==f.dst||vP ats c p.frame t):=by
  unfold vz
  exact congr (congrArg or (congrArg (fun z=>or z (c.src==f.dst)) e1)) e2
 rw[hi]
 simp only[Bool.or_eq_true,Bool.not_eq_true',beq_iff_eq]
 constructor
 ·rintro ((h1|h1)|h1)
  ·exact .inr (.inl h1)
  ·exact .inl h1
  ·exact .inr (.inr h1)
 ·rintro (h1|h1|h1)
  ·exact .inl (.inr h1)
  ·exact .inl (.inl h1)
  ·exact .inr h1
open Go Go.RowKit
def Vi (l:List zf)(R:List y9)(t:Int)(c:zg):Option (Int×Int×zg):=
 if xm l c.flow < 0 then none else
 match l[(xm l c.flow).toNat]? with
 | some f=>if (yq f t).2=false∨c.src=f.dst∨xz f R c.src (yq f t).1 t=false∨vP R c (yq f t).1 t=true then none else some (t,(yq f t).1,c)
 | none=>none
def zgR (a:y9):Int×Int×zg:=(a.slot,a.frame,a.cell)
theorem zcP {p:y9→Bool}{r late:List y9}{t:Int}(h:∀b∈late,t≤b.slot)(hp:∀b,p b=true→b.slot < t):(r++late).any p=r.any p:=by
 rw[List.any_append]
 have:late.any p=false:=by
  rw[List.any_eq_false]
  intro b hb hpb
  have:=h b hb
  have:=hp b hpb
  omega
 rw[this,Bool.or_false]
theorem Wu (l:List zf){r late:List y9}{t:Int}(h:∀b∈late,t≤b.slot)(c:zg):Vi l (r++late) t c=Vi l r t c:=by
 unfold Vi xz vP
 have e1:∀id n node,((r++late).any fun a=>ko id n node a&&decide (a.slot < t))=r.any fun a=>ko id n node a&&decide (a.slot < t):=fun id n node=>zcP h fun b hb=>by
  simp only[Bool.and_eq_true,decide_eq_true_eq]at hb;exact hb.2
 have e2:∀n,((r++late).any fun a=>onA c n a&&decide (a.slot < t)&&a.out==1)=r.any fun a=>onA c n a&&decide (a.slot < t)&&a.out==1:=fun n=>zcP h fun b hb=>by
  simp only[Bool.and_eq_true,decide_eq_true_eq]at hb;exact hb.1.2
 simp only[e1,e2]
theorem zaS (l:List zf)(x:List zD)(t:Int)(r:wK)(c:zg):∃late,(yQ l x t r c).atts=r.atts++late∧(∀b∈late,b.slot=t)∧late.map zgR=(Vi l r.atts t c).toList:=by
 unfold yQ Vi
 by_cases h1:xm l c.flow < 0
 ·rw[if_pos h1,if_pos h1];exact⟨[],by simp,by simp,rfl⟩
 rw[if_neg h1,if_neg h1]
 cases hf:l[(xm l c.flow).toNat]? with
 | none=>exact⟨[],by simp,by simp,rfl⟩
 | some f=>
  simp only
  by_cases h2:(yq f t).2=false∨c.src=f.dst∨xz f r.atts c.src (yq f t).1 t=false∨vP r.atts c (yq f t).1 t=true
  ·rw[if_pos h2,if_pos h2];exact⟨[],by simp,by simp,rfl⟩
  ·rw[if_neg h2,if_neg h2];exact⟨[_],rfl,by simp,rfl⟩
theorem zb9 (l:List zf)(x:List zD)(t:Int):∀(cs:List zg) (r:wK) (r0:List y9) (late0:List y9),r.atts=r0++late0→(∀b∈late0,b.slot=t)→∃late,(cs.foldl (yQ l x t) r).atts=r.atts++late∧(∀b∈late,b.slot=t)∧late.map zgR=cs.filterMap (Vi l r0 t)
 | [],r,r0,late0,_,_=>⟨[],by simp,by simp,rfl⟩
 | c :: cs,r,r0,late0,h0,hl0=>by
  obtain⟨l1,h1,h2,h3⟩:=zaS l x t r c
  obtain⟨l2,h4,h5,h6⟩:=zb9 l x t cs (yQ l x t r c) r0 (late0++l1) (by rw[h1,h0,List.append_assoc]) (fun b hb=>by
   rcases List.mem_append.1 hb with hb|hb
   ·exact hl0 b hb
   ·exact h2 b hb)
  refine⟨l1++l2,by rw[List.foldl_cons,h4,h1,List.append_assoc],fun b hb=>?_,?_⟩
  ·rcases List.mem_append.1 hb with hb|hb
   ·exact h2 b hb
   ·exact h5 b hb
  ·rw[List.map_append,h3,h6,h0,Wu l (fun b hb=>by rw[hl0 b hb];exact Int.le_refl _),List.filterMap_cons]
   cases Vi l r0 t c<;>rfl
theorem jI (l:List zf)(s:zc)(x:List zD)(r:wK)(t:Int):∃late,(Yo l s x r t).atts=r.atts++late∧(∀b∈late,b.slot=t)∧late.map zgR=(Jh s t).filterMap (Vi l r.atts t):=
 zb9 l x t (Jh s t) r r.atts [] (by simp) (by simp)
theorem qN (l:List zf)(sc:Nat→zc)(x:List zD)(n:Nat):∀m,∃late,(yf l sc x (n+m)).atts=(yf l sc x n).atts++late∧∀b∈late,(n:Int)≤b.slot
 | 0=>⟨[],by simp,by simp⟩
 | m+1=>by
  obtain⟨l1,h1,h2⟩:=qN l sc x n m
  obtain⟨l2,h3,h4,_⟩:=jI l (sc (n+m)) x (yf l sc x (n+m)) (n+m:Nat)
  refine⟨l1++l2,?_,fun b hb=>?_⟩
  ·show(Yo l (sc (n+m)) x (yf l sc x (n+m)) (n+m:Nat)).atts=_
   rw[h3,h1,List.append_assoc]
  ·rcases List.mem_append.1 hb with hb|hb
   ·exact h2 b hb
   ·rw[h4 b hb];omega
open Go Go.RowKit
open Go Go.RowKit
theorem zgQ {a b c d:Int}:([a,b]:List Int)=[c,d]↔a=c∧b=d:=by simp
theorem zdf {c':zg}{t n o:Int}{c:zg}(h:c.flow=c'.flow)(m:Int):onA c' m ⟨t,n,c,o⟩=(decide (n=m)&&decide ([c'.src,c'.dst] = [c.src,c.dst])):=by
 rw[Bool.eq_iff_iff]
 simp only[onA,Bool.and_eq_true,beq_iff_eq,decide_eq_true_eq,zgQ,h]
 constructor
 ·rintro⟨⟨⟨_,h1⟩,h2⟩,h3⟩
  exact⟨h1,h2.symm,h3.symm⟩
 ·rintro⟨h1,h2,h3⟩
  exact⟨⟨⟨trivial,h1⟩,h2.symm⟩,h3.symm⟩
theorem qW.used {f:zf}{t:Int}{p:PS}{ats:List y9}{ds ds':List xd}(h:qW f t p ats ds)(hp:0≤p.frame){c:zg}(hc:c.flow=f.id)(o:Int)(ht:∀b∈ats,b.slot≤t)
  (hd:w6 ds' f.id p.frame=(w6 ds f.id p.frame||(decide (o≠3)&&c.dst==f.dst))):qW f t (VE f p c t o) (ats++[⟨t,p.frame,c,o⟩]) ds':=by
 obtain⟨k1,k2,k3⟩:=h.ok
 have hbound:∀node a,p.since.get [node] = some a→a≤t+1:=by
  intro node a ha
  rcases h.s1 hp node a ha with rfl|⟨b,hb,_,rfl⟩
  ·obtain⟨a',h1,h2⟩:=h.s3 hp
   rw[ha]at h1;injection h1 with h1;omega
  ·have:=ht b hb;omega
 have hbound2:∀c':zg,c'.flow=f.id→∀a,p.acked.get [c'.src,c'.dst] = some a→a≤t:=by
  intro c' hc' a ha
  obtain⟨b,hb,_,_,rfl⟩:=h.a1 hp c' hc' a ha
  exact ht b hb
 have hgb:∀node,ko f.id p.frame node ⟨t,p.frame,c,o⟩=true↔node=c.dst∧o≠3:=by
  intro node
  simp only[ko,hc,Bool.and_eq_true,beq_iff_eq,bne_iff_ne,true_and]
  constructor
  ·rintro⟨h1,h2⟩;exact⟨h1.symm,h2⟩
  ·rintro⟨h1,h2⟩;exact⟨h1.symm,h2⟩
 refine⟨⟨?_,IM.WM k2 _ _,?_⟩,h.off,h.on,fun _ node a ha=>?_,fun _ node b hb hh=>?_,fun _=>?_,fun _ c' hc' a ha=>?_,fun _ c' hc' b hb hh ho=>?_,fun _ c' hc'=>?_,fun _=>?_⟩
 ·show IM.ok (if o≠3∧p.since.get [c.dst] = Option.none then p.since.set [c.dst] (t+1) else p.since)
  split
  ·exact IM.WM k1 _ _
  ·exact k1
 ·show IM.ok (if o=1∧p.acked.get [c.src,c.dst] = Option.none then p.acked.set [c.src,c.dst] t else p.acked)
  split
  ·exact IM.WM k3 _ _
  ·exact k3
 ·replace ha:(if o≠3∧p.since.get [c.dst] = Option.none then p.since.set [c.dst] (t+1) else p.since).get [node] = some a:=ha
  have old:p.since.get [node] = some a→node=f.src∨∃b∈ats++[⟨t,p.frame,c,o⟩],ko f.id p.frame node b=true∧a=b.slot+1:=by
   intro ha
   rcases h.s1 hp node a ha with h1|⟨b,hb,h2⟩
   ·exact .inl h1
   ·exact .inr ⟨b,by simp[hb],h2⟩
  split at ha
  ·rename_i hh
   rw[IM.vw k1]at ha
   split at ha
   ·rename_i he
    injection he with he
    injection ha with ha
    exact .inr ⟨_,by simp,(hgb node).2 ⟨he,hh.1⟩,ha.symm⟩
   ·exact old ha
  ·exact old ha
 ·show ∃a,(if o≠3∧p.since.get [c.dst] = Option.none then p.since.set [c.dst] (t+1) else p.since).get [node] = some a∧a≤b.slot+1
  have hb':b∈ats∨b=⟨t,p.frame,c,o⟩:=by simpa using hb
  rcases hb' with hb'|rfl
  ·obtain⟨a,h1,h2⟩:=h.s2 hp node b hb' hh
   refine⟨a,?_,h2⟩
   split
   ·rename_i hx
    rw[IM.vw k1,if_neg ?_]
    ·exact h1
    ·intro he;rw[he,hx.2]at h1;cases h1
   ·exact h1
  ·obtain⟨rfl,ho⟩:=(hgb node).1 hh
   cases hs:p.since.get [c.dst] with
   | none=>rw[if_pos ⟨ho,rfl⟩];exact⟨t+1,by simp[IM.vw k1],Int.le_refl _⟩
   | some a=>rw[if_neg (fun hh=>by cases hh.2)];exact⟨a,hs,hbound _ a hs⟩
 ·show ∃a,(if o≠3∧p.since.get [c.dst] = Option.none then p.since.set [c.dst] (t+1) else p.since).get [f.src] = some a∧a≤t
  obtain⟨a,h1,h2⟩:=h.s3 hp
  refine⟨a,?_,h2⟩
  split
  ·rename_i hx
   rw[IM.vw k1,if_neg ?_]
   ·exact h1
   ·intro he;rw[he,hx.2]at h1;cases h1
  ·exact h1
 ·replace ha:(if o=1∧p.acked.get [c.src,c.dst] = Option.none then p.acked.set [c.src,c.dst] t else p.acked).get [c'.src,c'.dst] = some a:=ha
  have old:p.acked.get [c'.src,c'.dst] = some a→∃b∈ats++[⟨t,p.frame,c,o⟩],onA c' p.frame b=true∧b.out=1∧b.slot=a:=by
   intro ha
   obtain⟨b,hb,h2⟩:=h.a1 hp c' hc' a ha
   exact⟨b,by simp[hb],h2⟩
  split at ha
  ·rename_i hh
   rw[IM.vw k3]at ha
   split at ha
   ·rename_i he
    injection ha with ha
    exact⟨_,List.mem_append_right _ (List.mem_singleton.2 rfl),by rw[zdf (hc.trans hc'.symm)];simp[he];rfl,hh.1,ha⟩
   ·exact old ha
  ·exact old ha
 ·show ∃a,(if o=1∧p.acked.get [c.src,c.dst] = Option.none then p.acked.set [c.src,c.dst] t else p.acked).get [c'.src,c'.dst] = some a∧a≤b.slot
  have hb':b∈ats∨b=⟨t,p.frame,c,o⟩:=by simpa using hb
  rcases hb' with hb'|rfl
  ·obtain⟨a,h1,h2⟩:=h.a2 hp c' hc' b hb' hh ho
   refine⟨a,?_,h2⟩
   split
   ·rename_i hx
    rw[IM.vw k3,if_neg ?_]
    ·exact h1
    ·intro he;rw[he,hx.2]at h1;cases h1
   ·exact h1
  ·have hh:onA c' p.frame ⟨t,p.frame,c,o⟩=true:=hh
   rw[zdf (hc.trans hc'.symm)]at hh
   simp only[decide_true,Bool.true_and,decide_eq_true_eq]at hh
   rw[hh]
   cases hs:p.acked.get [c.src,c.dst] with
   | none=>rw[if_pos ⟨ho,rfl⟩];exact⟨t,by simp[IM.vw k3],Int.le_refl _⟩
   | some a=>rw[if_neg (fun hh=>by cases hh.2)];exact⟨a,hs,hbound2 c hc a hs⟩
 ·show((p.tries.set [c.src,c.dst] ((p.tries.get [c.src,c.dst]).getD 0+1)).get [c'.src,c'.dst]).getD 0=(kB (ats++[⟨t,p.frame,c,o⟩]) c' p.frame:Int)
  rw[IM.vw k2]
  have e1:=h.tr hp c' hc'
  have e2:=h.tr hp c hc
  unfold kB at e1 e2 ⊢
  rw[List.countP_append,List.countP_singleton,zdf (hc.trans hc'.symm)]
  by_cases he:[c'.src,c'.dst] = [c.src,c.dst]
  ·have e3:List.countP (onA c' p.frame) ats=List.countP (onA c p.frame) ats:=by
    congr 1
    funext b
    obtain⟨h1,h2⟩:=zgQ.1 he
    simp only[onA,h1,h2,hc,hc']
   rw[if_pos he,e3]
   simp[he,e2]
  ·rw[if_neg he,e1]
   simp[he]
 ·show(p.done||(decide (o≠3)&&c.dst==f.dst))=_
  rw[h.dn hp];exact hd.symm
theorem VI {α:Type}{q:α→Bool}{l:List α}(h:∀x∈l,q x=false):l.takeWhile q=[]:=by
 cases l with
 | nil=>rfl
 | cons x l=>rw[List.takeWhile_cons,h x (by simp)];rfl
theorem QW {α:Type}{q:α→Bool}{l:List α}(h:∀x∈l,q x=false):l.dropWhile q=l:=by
 cases l with
 | nil=>rfl
 | cons x l=>rw[List.dropWhile_cons,h x (by simp)];rfl
theorem zgZ {d:xd}{base old:List xd}(h:∀x∈base,x.slot≠d.slot):Qt d (base++old)=base++Qt d old:=by
 have hb:∀x∈base.reverse,xy d x=false:=by
  intro x hx
  have:=h x (by simpa using hx)
  simp[xy,this]
 unfold Qt
 rw[List.reverse_append,List.takeWhile_append,List.dropWhile_append,VI hb,QW hb]
 split
 ·rename_i he
  have e2:=List.takeWhile_append_dropWhile (p:=xy d) (l:=old.reverse)
  have e4:List.dropWhile (xy d) old.reverse=[]:=List.isEmpty_iff.1 he
  have e1:List.takeWhile (xy d) old.reverse=old.reverse:=by
   rw[e4,List.append_nil]at e2
   exact e2
  rw[e4,e1]
  simp
 ·rename_i he
  have e2:=List.takeWhile_append_dropWhile (p:=xy d) (l:=old.reverse)
  rw[if_neg ?_]
  ·simp
  ·intro hl
   apply he
   have e3:=congrArg List.length e2
   rw[List.length_append]at e3
   rw[List.isEmpty_iff]
   exact List.length_eq_zero_iff.1 (by omega)
theorem Z1 (d:xd)(l:List xd):(Qt d l).Perm (l++[d]):=by
 have e2:=List.takeWhile_append_dropWhile (p:=xy d) (l:=l.reverse)
 have e3:l=(l.reverse.dropWhile (xy d)).reverse++(l.reverse.takeWhile (xy d)).reverse:=by
  rw[←List.reverse_append,e2,List.reverse_reverse]
 unfold Qt
 refine List.Perm.trans (List.perm_middle) ?_
 refine List.Perm.trans ?_ (List.perm_append_singleton d l).symm
 rw[←e3]
theorem zbX {d:xd}{l:List xd}(h:l.Pairwise fun a b=>a.flow < b.flow)(hs:∀x∈l,x.slot=d.slot)(hn:∀x∈l,x.flow≠d.flow):(Qt d l).Pairwise fun a b=>a.flow < b.flow:=by
 have e2:=List.takeWhile_append_dropWhile (p:=xy d) (l:=l.reverse)
 have hr:l.reverse.Pairwise fun a b=>b.flow < a.flow:=List.pairwise_reverse.2 h
 have hmem:∀x,x∈l.reverse.takeWhile (xy d)++l.reverse.dropWhile (xy d)→x∈l:=fun x hx=>by rw[e2]at hx;simpa using hx
 have h1:∀x∈l.reverse.takeWhile (xy d),d.flow < x.flow:=by
  intro x hx
  have:=List.all_eq_true.1 (List.all_takeWhile (p:=xy d) (l:=l.reverse)) x hx
  simp only[xy,Bool.and_eq_true,decide_eq_true_eq]at this
  exact this.2
 have h2:∀x∈l.reverse.dropWhile (xy d),x.flow < d.flow:=by
  rw[←e2]at hr
  have hr2:=(List.pairwise_append.1 hr).2.1
  cases hd:l.reverse.dropWhile (xy d) with
  | nil=>intro x hx;cases hx
  | cons y ys=>
   rw[hd]at hr2
   have hy:xy d y=false:=by
    have:=List.head_dropWhile_not (xy d) (l:=l.reverse) (by rw[hd];simp)
    simpa[hd] using this
   have hyl:y∈l:=hmem y (by rw[hd];simp)
   have hy2:y.flow < d.flow:=by
    simp only[xy,hs y hyl,beq_self_eq_true,Bool.true_and,decide_eq_false_iff_not]at hy
    have:=hn y hyl
    omega
   intro x hx
   rcases List.mem_cons.1 hx with rfl|hx
   ·exact hy2
   ·have:=(List.pairwise_cons.1 hr2).1 x hx
    omega
 rw[←e2]at hr
 obtain⟨r1,r2,r3⟩:=List.pairwise_append.1 hr
 unfold Qt
 refine List.pairwise_append.2 ⟨List.pairwise_reverse.2 r2,List.pairwise_cons.2 ⟨fun x hx=>h1 x (by simpa using hx),List.pairwise_reverse.2 r1⟩,fun a ha b hb=>?_⟩
 have ha':=h2 a (by simpa using ha)
 rcases List.mem_cons.1 hb with rfl|hb
 ·exact ha'
 ·have:=h1 b (by simpa using hb)
  omega
theorem zd4 {l l':List xd}(hp:l'.Perm l)(h:l'.Pairwise fun a b=>a.flow < b.flow):l.mergeSort (fun a b=>decide (a.flow≤b.flow))=l':=by
 refine List.Perm.eq_of_pairwise (le:=fun a b:xd=>a.flow≤b.flow) (fun a b ha hb h1 h2=>?_) ?_ (h.imp fun h=>Int.le_of_lt h) ((List.mergeSort_perm _ _).trans hp.symm)
 ·have ha':a∈l':=hp.symm.subset ((List.mergeSort_perm _ _).subset ha)
  obtain⟨i,hi⟩:=List.getElem?_of_mem ha'
  obtain⟨j,hj⟩:=List.getElem?_of_mem hb
  obtain⟨hi1,hi2⟩:=List.getElem?_eq_some_iff.1 hi
  obtain⟨hj1,hj2⟩:=List.getElem?_eq_some_iff.1 hj
  rcases Nat.lt_trichotomy i j with hij|rfl|hij
  ·have:=List.pairwise_iff_getElem.1 h i j hi1 hj1 hij
   rw[hi2,hj2]at this;omega
  ·rw[hi]at hj;injection hj
  ·have:=List.pairwise_iff_getElem.1 h j i hj1 hi1 hij
   rw[hi2,hj2]at this;omega
 ·have:=List.pairwise_mergeSort (le:=fun a b:xd=>decide (a.flow≤b.flow)) (fun a b c h1 h2=>by simp at *;omega) (fun a b=>by simp;omega) l
  exact this.imp fun h=>by simpa using h
structure Sim (l:List zf)(t:Int)(base:List xd)(q:PL)(r:wK):Prop where
 len:q.sts.length=l.length
 fl:∀(i:Nat) (f:zf) (p:PS),l[i]? = some f→q.sts[i]? = some p→qW f t p q.atts q.dels
 run:zgb l t q.atts q.dels
 at_:r.atts=q.atts
 dl:∃new old,q.dels=base++new∧r.dels=base++old∧old.Perm new∧(old.Pairwise fun a b=>a.flow < b.flow)∧∀d∈new,d.slot=t
 bs:∀d∈base,d.slot < t
theorem W3 (a b:List xd)(id n:Int):w6 (a++b) id n=(w6 a id n||w6 b id n):=by simp[w6]
theorem Ko {a b:List xd}(h:a.Perm b)(id n:Int):w6 a id n=w6 b id n:=by
 rw[Bool.eq_iff_iff]
 simp only[w6,List.any_eq_true]
 constructor
 ·rintro⟨d,hd,h1⟩;exact⟨d,h.subset hd,h1⟩
 ·rintro⟨d,hd,h1⟩;exact⟨d,h.symm.subset hd,h1⟩
theorem Sim.attempt {l:List zf}(hl:xE l){t:Int}(ht:t≤1099511627776)(ht0:0≤t){base:List xd}{q:PL}{r:wK}(x:List zD)(h:Sim l t base q r)(c:zg):Sim l t base (yg l x t q c) (yQ l x t r c):=by
 unfold yg yQ
 by_cases h1:xm l c.flow < 0
 ·rw[if_pos h1,if_pos h1];exact h
 rw[if_neg h1,if_neg h1]
 obtain⟨i,f,e1,hf,wp⟩:=zce h1
 have hil:=(List.getElem?_eq_some_iff.1 hf).1
 obtain⟨p,hp⟩:∃p,q.sts[i]? = some p:=⟨_,List.getElem?_eq_getElem (by rw[h.len];exact hil)⟩
 have hF:=h.fl i f p hf hp
 have hfe:=hl.ok i f hf
 rw[e1,Int.toNat_natCast,hf,hp]
 simp only
 by_cases hcur:(yq f t).2=false
 ·rw[if_pos (.inl (by rw[hF.off hcur];decide)),if_pos (.inl hcur)];exact h
 have hcur:(yq f t).2=true:=by simpa using hcur
 have hfr:=hF.on hcur
 have hp0:0≤p.frame:=by rw[hfr];exact zhm hfe hcur
 have hidle:=zg1 hF hp0 wp.symm
 by_cases hid2:vz f p c t=true
 ·rw[if_pos (.inr hid2),if_pos]
  ·exact h
  ·rw[←hfr,h.at_]
   exact .inr (hidle.1 hid2)
 have n1:¬(p.frame < 0∨vz f p c t=true):=by
  rintro (hh|hh)
  ·omega
  ·exact hid2 hh
 have n2:¬((yq f t).2=false∨c.src=f.dst∨xz f r.atts c.src (yq f t).1 t=false∨vP r.atts c (yq f t).1 t=true):=by
  rintro (hh|hh)
  ·rw[hcur]at hh;cases hh
  ·rw[←hfr,h.at_]at hh
   exact hid2 (hidle.2 hh)
 rw[if_neg n1,if_neg n2]
 have ho:wa x f p c=vm x c.flow (yq f t).1 c.src c.dst (kB r.atts c (yq f t).1):=by
  unfold wa
  rw[hF.tr hp0 c wp.symm,←hfr,h.at_,wp,Int.toNat_natCast]
 rw[←ho,←hfr]
 obtain⟨o,hoe⟩:∃o,o=wa x f p c:=⟨_,rfl⟩
 rw[←hoe]
 obtain⟨new,old,d1,d2,d3,d4,d5⟩:=h.dl
 have hperm:r.dels.Perm q.dels:=by rw[d1,d2];exact List.Perm.append_left base d3
 have hdn:p.done=w6 r.dels c.flow p.frame:=by rw[Ko hperm,←wp];exact hF.dn hp0
 obtain⟨b,hb⟩:∃b:y9,b=⟨t,p.frame,c,o⟩:=⟨_,rfl⟩
 rw[←hb]
 obtain⟨d,hd⟩:∃d:xd,d=⟨f.id,p.frame,t⟩:=⟨_,rfl⟩
 rw[show(⟨c.flow,p.frame,t⟩:xd)=d from by rw[hd,wp],←hd]
 have hcond:(o≠3∧c.dst=f.dst∧p.done=false)↔(c.dst=f.dst∧o≠3∧w6 r.dels c.flow p.frame=false):=by
  rw[hdn]
  constructor
  ·rintro⟨g1,g2,g3⟩;exact⟨g2,g1,g3⟩
  ·rintro⟨g1,g2,g3⟩;exact⟨g2,g1,g3⟩
 have hslots:∀b∈q.atts,b.slot≤t:=fun b hb=>(h.run.at_ b hb).2.1
 have hrun:zgb l t (q.atts++[b]) q.dels:=by
  refine⟨fun b' hb'=>?_,fun d' hd'=>?_⟩
  ·rcases List.mem_append.1 hb' with hb'|hb'
   ·exact h.run.at_ b' hb'
   ·have hb':b'=b:=by simpa using hb'
    subst hb';subst hb
    refine⟨ht0,Int.le_refl _,i,f,hf,wp,?_⟩
    show yq f t=(p.frame,true)
    rw[hfr,←hcur]
  ·obtain⟨b',g1,g2⟩:=h.run.dl d' hd'
   exact⟨b',by simp[g1],g2⟩
 by_cases hdel:o≠3∧c.dst=f.dst∧p.done=false
 ·rw[if_pos hdel,if_pos (hcond.1 hdel)]
  obtain⟨g1,g2,g3⟩:=hdel
  have hfresh:∀d'∈new,d'.flow≠f.id:=by
   intro d' hd' he
   have hmem:d'∈q.dels:=by rw[d1];simp[hd']
   obtain⟨b',f1,f2,f3,f4⟩:=h.run.dl d' hmem
   have h5:=(h.run.frame hl ht hf f1 (f4.trans he)).2.2
   rw[f2,d5 d' hd']at h5
   have h6:w6 q.dels f.id p.frame=true:=by
    simp only[w6,List.any_eq_true,Bool.and_eq_true,beq_iff_eq]
    exact⟨d',hmem,he,by rw[←f3,hfr,h5]⟩
   rw[hF.dn hp0,h6]at g3
   cases g3
  have hbase:∀y∈base,y.slot≠d.slot:=fun y hy=>by
   have:=h.bs y hy
   rw[hd];simp only;omega
  have hold:∀y∈old,y∈new:=fun y hy=>d3.subset hy
  have hhad:w6 (q.dels++[d]) f.id p.frame=(w6 q.dels f.id p.frame||(decide (o≠3)&&c.dst==f.dst)):=by
   rw[W3]
   congr 1
   rw[hd];simp[w6,g1,g2]
  refine⟨by simp[h.len],fun j f' p' hf' hp'=>?_,⟨hrun.at_,fun d' hd'=>?_⟩,by rw[h.at_],⟨new++[d],Qt d old,by simp[d1],?_,?_,?_,?_⟩,h.bs⟩
  ·by_cases hj:i=j
   ·subst hj
    rw[hf]at hf';injection hf' with hf';subst hf'
    have hpe:p'=VE f p c t o:=by
     simp only[List.getElem?_set_self (show i < q.sts.length by rw[h.len];exact hil),Option.some.injEq]at hp'
     exact hp'.symm
    subst hpe
    rw[hb]
    exact hF.used hp0 wp.symm o hslots hhad
   ·simp only[List.getElem?_set_ne hj]at hp'
    have hne:f'.id≠f.id:=fun he=>hj (ZT hl hf hf' he.symm).1
    refine(h.fl j f' p' hf' hp').other (by rw[hb];show c.flow≠f'.id;rw[←wp];exact fun he=>hne he.symm) fun n=>?_
    rw[W3]
    have:w6 [d] f'.id n=false:=by
     have hne':¬f.id=f'.id:=fun he=>hne he.symm
     rw[hd];simp[w6,hne']
    rw[this,Bool.or_false]
  ·rcases List.mem_append.1 hd' with hd'|hd'
   ·exact hrun.dl d' hd'
   ·have hd':d'=d:=by simpa using hd'
    subst hd'
    exact⟨b,by simp,by rw[hb,hd],by rw[hb,hd],by rw[hb,hd];exact wp.symm⟩
  ·rw[d2,zgZ hbase]
  ·exact(Z1 d old).trans (List.Perm.append_right _ d3)
  ·exact zbX d4 (fun y hy=>by rw[d5 y (hold y hy),hd]) (fun y hy=>by rw[hd];exact hfresh y (hold y hy))
  ·intro d' hd'
   rcases List.mem_append.1 hd' with hd'|hd'
   ·exact d5 d' hd'
   ·have hd':d'=d:=by simpa using hd'
    rw[hd',hd]
 ·rw[if_neg hdel,if_neg (fun hh=>hdel (hcond.2 hh))]
  have hhad:w6 q.dels f.id p.frame=(w6 q.dels f.id p.frame||(decide (o≠3)&&c.dst==f.dst)):=by
   rw[←hF.dn hp0]
   cases hpd:p.done with
   | true=>rfl
   | false=>
    symm
    simp only[Bool.false_or]
    rw[Bool.eq_false_iff]
    intro hh
    simp only[Bool.and_eq_true,decide_eq_true_eq,beq_iff_eq]at hh
    exact hdel ⟨hh.1,hh.2,hpd⟩
  refine⟨by simp[h.len],fun j f' p' hf' hp'=>?_,by simp only[List.append_nil];exact hrun,by rw[h.at_],⟨new,old,by simp[d1],d2,d3,d4,d5⟩,h.bs⟩
  simp only[List.append_nil]
  by_cases hj:i=j
  ·subst hj
   rw[hf]at hf';injection hf' with hf';subst hf'
   have hpe:p'=VE f p c t o:=by
    simp only[List.getElem?_set_self (show i < q.sts.length by rw[h.len];exact hil),Option.some.injEq]at hp'
    exact hp'.symm
   subst hpe
   rw[hb]
   exact hF.used hp0 wp.symm o hslots hhad
  ·simp only[List.getElem?_set_ne hj]at hp'
   have hne:f'.id≠f.id:=fun he=>hj (ZT hl hf hf' he.symm).1
   exact(h.fl j f' p' hf' hp').other (by rw[hb];show c.flow≠f'.id;rw[←wp];exact fun he=>hne he.symm) fun n=>rfl
theorem Sim.fold {l:List zf}(hl:xE l){t:Int}(ht:t≤1099511627776)(ht0:0≤t){base:List xd}(x:List zD):∀(cs:List zg) {q:PL} {r:wK},Sim l t base q r→Sim l t base (cs.foldl (yg l x t) q) (cs.foldl (yQ l x t) r)
 | [],_,_,h=>h
 | c :: cs,_,_,h=>Sim.fold hl ht ht0 x cs (h.attempt hl ht ht0 x c)
structure zdO (l:List zf)(t:Int)(q:PL)(r:wK):Prop where
 len:q.sts.length=l.length
 fl:∀(i:Nat) (f:zf) (p:PS),l[i]? = some f→q.sts[i]? = some p→qW f t p q.atts q.dels
 run:zgb l t q.atts q.dels
 at_:r.atts=q.atts
 dl:r.dels=q.dels
theorem zdO.slot {l:List zf}(hl:xE l){t:Int}(ht:t+1≤1099511627776)(ht0:-1≤t){q:PL}{r:wK}(s:zc)(x:List zD)(h:zdO l t q r):zdO l (t+1) (Yn l s x q (t+1)) (Yo l s x r (t+1)):=by
 have hslot:∀d∈q.dels,d.slot < t+1:=fun d hd=>by
  obtain⟨b,hb,h1,_⟩:=h.run.dl d hd
  have:=(h.run.at_ b hb).2.1
  omega
 have h0:Sim l (t+1) q.dels ⟨xp l (t+1) q.sts,q.atts,q.dels⟩ r:=by
  refine⟨by simp[xp,h.len],fun i f p hf hp=>?_,⟨fun b hb=>?_,h.run.dl⟩,h.at_,⟨[],[],by simp,by simp[h.dl],.refl _,.nil,by simp⟩,hslot⟩
  ·simp only[xp,List.getElem?_zipWith,hf]at hp
   cases hq:q.sts[i]? with
   | none=>rw[hq]at hp;cases hp
   | some p0=>
    rw[hq]at hp
    simp only[Option.some.injEq]at hp
    subst hp
    exact(h.fl i f p0 hf hq).release hl ht h.run hf
  ·obtain⟨g1,g2,g3⟩:=h.run.at_ b hb
   exact⟨g1,by omega,g3⟩
 have h1:=h0.fold hl ht (by omega) x (Jh s (t+1))
 unfold Yn Yo
 obtain⟨q1,hq1⟩:∃q1,q1=(Jh s (t+1)).foldl (yg l x (t+1)) ⟨xp l (t+1) q.sts,q.atts,q.dels⟩:=⟨_,rfl⟩
 obtain⟨r1,hr1⟩:∃r1,r1=(Jh s (t+1)).foldl (yQ l x (t+1)) r:=⟨_,rfl⟩
 rw[←hq1,←hr1]at h1
 simp only
 rw[←hq1,←hr1]
 obtain⟨new,old,d1,d2,d3,d4,d5⟩:=h1.dl
 have e1:q1.dels.take q.dels.length=q.dels:=by rw[d1];simp
 have e2:q1.dels.drop q.dels.length=new:=by rw[d1];simp
 rw[e1,e2,zd4 d3 d4]
 have hperm:(q.dels++old).Perm q1.dels:=by rw[d1];exact List.Perm.append_left _ d3
 refine⟨h1.len,fun i f p hf hp=>?_,⟨h1.run.at_,fun d hd=>h1.run.dl d (hperm.subset hd)⟩,h1.at_,d2⟩
 obtain⟨k1,k2,k3,k4,k5,k6,k7,k8,k9,k10⟩:=h1.fl i f p hf hp
 exact⟨k1,k2,k3,k4,k5,k6,k7,k8,k9,fun hp=>by rw[Ko hperm];exact k10 hp⟩
theorem zad {l:List zf}(hl:xE l)(sc:Nat→zc)(x:List zD):∀n:Nat,n≤1099511627776→zdO l ((n:Int)-1) (wx l sc x n) (yf l sc x n)
 | 0,_=>by
  refine⟨by simp[wx],fun i f p hf hp=>?_,⟨by simp[wx],by simp[wx]⟩,rfl,rfl⟩
  have:p=PS.first:=by
   simp only[wx,List.getElem?_map,hf,Option.map_some,Option.some.injEq]at hp
   exact hp.symm
  subst this
  exact qW.start (hl.ok i f hf)
 | n+1,hn=>by
  have:=(zad hl sc x n (by omega)).slot hl (t:=(n:Int)-1) (by omega) (by omega) (sc n) x
  rw[show((n:Int)-1+1)=n from by omega]at this
  rw[show((n+1:Nat):Int)-1=n from by omega]
  exact this
open Go Go.RowKit
def zka (l:List zf)(a:y9):Prop:=∃(i:Nat) (f:zf),l[i]? = some f∧f.id=a.cell.flow∧a.cell.dst=f.dst∧a.out≠3
structure zaZ (l:List zf)(r:wK):Prop where
 fm:∀d∈r.dels,∃a∈r.atts,a.slot=d.slot∧a.frame=d.frame∧a.cell.flow=d.flow∧zka l a
 to:∀a∈r.atts,zka l a→∃d∈r.dels,d.flow=a.cell.flow∧d.frame=a.frame∧d.slot≤a.slot
 un:r.dels.Pairwise fun d e=>¬(d.flow=e.flow∧d.frame=e.frame)
theorem XA {d e:xd}{ds:List xd}:e∈Qt d ds↔e∈ds∨e=d:=by
 rw[(Z1 d ds).mem_iff];simp
theorem ziv {d:xd}{ds:List xd}(h:ds.Pairwise fun d e=>¬(d.flow=e.flow∧d.frame=e.frame))(hn:∀e∈ds,¬(e.flow=d.flow∧e.frame=d.frame)):(Qt d ds).Pairwise fun d e=>¬(d.flow=e.flow∧d.frame=e.frame):=by
 refine List.Pairwise.perm (l:=ds++[d]) ?_ (Z1 d ds).symm (fun {x y} hxy hyx=>hxy ⟨hyx.1.symm,hyx.2.symm⟩)
 exact List.pairwise_append.2 ⟨h,by simp,fun a ha b hb=>by
  have:b=d:=by simpa using hb
  subst this
  exact hn a ha⟩
theorem zaZ.attempt {l:List zf}(hl:xE l){x:List zD}{t:Int}{r:wK}(h:zaZ l r)(hs:∀d∈r.dels,d.slot≤t)(c:zg):zaZ l (yQ l x t r c)∧∀d∈(yQ l x t r c).dels,d.slot≤t:=by
 unfold yQ
 by_cases h1:xm l c.flow < 0
 ·rw[if_pos h1];exact⟨h,hs⟩
 rw[if_neg h1]
 obtain⟨i,f,e1,hf,wp⟩:=zce h1
 rw[e1,Int.toNat_natCast,hf]
 simp only
 by_cases h2:(yq f t).2=false∨c.src=f.dst∨xz f r.atts c.src (yq f t).1 t=false∨vP r.atts c (yq f t).1 t=true
 ·rw[if_pos h2];exact⟨h,hs⟩
 rw[if_neg h2]
 obtain⟨o,ho⟩:∃o,o=vm x c.flow (yq f t).1 c.src c.dst (kB r.atts c (yq f t).1):=⟨_,rfl⟩
 rw[←ho]
 have hend:zka l ⟨t,(yq f t).1,c,o⟩↔c.dst=f.dst∧o≠3:=by
  constructor
  ·rintro⟨j,g,hg,h3,h4,h5⟩
   obtain⟨_,rfl⟩:=ZT hl hf hg (by rw[wp,h3])
   exact⟨h4,h5⟩
  ·rintro⟨h4,h5⟩
   exact⟨i,f,hf,wp,h4,h5⟩
 by_cases h3:c.dst=f.dst∧o≠3∧w6 r.dels c.flow (yq f t).1=false
 ·rw[if_pos h3]
  obtain⟨g1,g2,g3⟩:=h3
  have hno:∀e∈r.dels,¬(e.flow=c.flow∧e.frame=(yq f t).1):=by
   intro e he hh
   have:w6 r.dels c.flow (yq f t).1=true:=by
    simp only[w6,List.any_eq_true,Bool.and_eq_true,beq_iff_eq]
    exact⟨e,he,hh⟩
   rw[g3]at this;cases this
  refine⟨⟨fun d hd=>?_,fun a ha hae=>?_,ziv h.un hno⟩,fun d hd=>?_⟩
  ·rcases XA.1 hd with hd|rfl
   ·obtain⟨a,ha,hh⟩:=h.fm d hd
    exact⟨a,by simp[ha],hh⟩
   ·exact⟨⟨t,(yq f t).1,c,o⟩,by simp,rfl,rfl,rfl,hend.2 ⟨g1,g2⟩⟩
  ·rcases List.mem_append.1 ha with ha|ha
   ·obtain⟨d,hd,hh⟩:=h.to a ha hae
    exact⟨d,XA.2 (.inl hd),hh⟩
   ·have:a=⟨t,(yq f t).1,c,o⟩:=by simpa using ha
    subst this
    exact⟨_,XA.2 (.inr rfl),rfl,rfl,Int.le_refl _⟩
  ·rcases XA.1 hd with hd|rfl
   ·exact hs d hd
   ·exact Int.le_refl _
 ·rw[if_neg h3]
  refine⟨⟨fun d hd=>?_,fun a ha hae=>?_,h.un⟩,hs⟩
  ·obtain⟨a,ha,hh⟩:=h.fm d hd
   exact⟨a,by simp[ha],hh⟩
  ·rcases List.mem_append.1 ha with ha|ha
   ·exact h.to a ha hae
   ·have:a=⟨t,(yq f t).1,c,o⟩:=by simpa using ha
    subst this
    obtain⟨g1,g2⟩:=hend.1 hae
    have hhad:w6 r.dels c.flow (yq f t).1=true:=by
     cases hh:w6 r.dels c.flow (yq f t).1 with
     | true=>rfl
     | false=>exact absurd ⟨g1,g2,hh⟩ h3
    simp only[w6,List.any_eq_true,Bool.and_eq_true,beq_iff_eq]at hhad
    obtain⟨d,hd,k1,k2⟩:=hhad
    exact⟨d,hd,k1,k2,hs d hd⟩
theorem zaZ.fold {l:List zf}(hl:xE l){x:List zD}{t:Int}:∀(cs:List zg) {r:wK},zaZ l r→(∀d∈r.dels,d.slot≤t)→zaZ l (cs.foldl (yQ l x t) r)∧∀d∈(cs.foldl (yQ l x t) r).dels,d.slot≤t
 | [],_,h,hs=>⟨h,hs⟩
 | c :: cs,_,h,hs=>by
  obtain⟨h1,h2⟩:=h.attempt hl (x:=x) hs c
  exact zaZ.fold hl cs h1 h2
theorem Kc {l:List zf}(hl:xE l)(sc:Nat→zc)(x:List zD):∀n:Nat,zaZ l (yf l sc x n)∧∀d∈(yf l sc x n).dels,d.slot < n
 | 0=>⟨⟨by simp[yf],by simp[yf],by simp[yf]⟩,by simp[yf]⟩
 | n+1=>by
  obtain⟨h1,h2⟩:=Kc hl sc x n
  obtain⟨h3,h4⟩:=zaZ.fold hl (x:=x) (t:=(n:Nat)) (Jh (sc n) (n:Nat)) h1 (fun d hd=>Int.le_of_lt (h2 d hd))
  exact⟨h3,fun d hd=>by have:=h4 d hd;omega⟩
open Go Go.RowKit
end HM
