/- A valid schedule that serves requests: there is no reason against its size. -/
import Derived.Test.YtggiajmlnieidaaGreatDoorDc
import Derived.Test.YtggiajmlnieidaaGreatDoorDa
import Derived.Test.YtggiajmlnieidaaGreatDoorDb
namespace HM
open Go Go.RowKit
section
variable {n:zF} {q:List ye} {s:zc}
theorem Qx {m d d':Int}(hok:xT n)(h:xQ n m d=true)(hd:d'≤d):xQ n m d'=true:=by
 unfold xQ at h ⊢
 simp only[decide_eq_true_eq]at h ⊢
 have:=hok.thr
 have h2:n.thr*(n.noise+d')≤n.thr*(n.noise+d):=Int.mul_le_mul_of_nonneg_left (by omega) (by omega)
 omega
end
structure Ve where
 flow:Int
 routes:List (List Int)
 bounds:List Int
 worst:List Int
 slots:List (List Int)
 deriving DecidableEq
def Ve.av (c:Ve):AV:=.agg [.int .i64 c.flow,zZ c.routes,zp c.bounds,zp c.worst,zZ c.slots]
def WB (l:List Ve):AV:=.sl false (l.map Ve.av)
def zkf:Ve:=⟨0,[],[],[],[]⟩
def Yc (n:zF)(s:zc)(x:ye)(r:List Int):Bool:=decide ((yv n s x.flow r).2.2.2=0)&&decide ((yv n s x.flow r).1≤x.flow.dead)
def zke (n:zF)(s:zc)(x:ye)(l:List (List Int)):Ve:=⟨x.flow.id,l,l.map fun r=>(yv n s x.flow r).1,l.map fun r=>(yv n s x.flow r).2.1,l.map fun r=>(yv n s x.flow r).2.2.1⟩
def vN (n:zF)(s:zc)(x:ye):Bool:=x.routes.all (Yc n s x)
def vM (n:zF)(s:zc)(x:ye):Ve:=if vN n s x then zke n s x x.routes else zkf
def qP (n:zF)(s:zc)(q:List ye)(i:Nat):Int:=match q[i]? with
 | some x=>if vN n s x then 0 else 15
 | none=>0
def xh (n:zF)(q:List ye)(s:zc):List Ve×Int×Int:=
 if (wZ n q).2≠0 then([],(wZ n q).1,(wZ n q).2) else if (yU n (zL q) s).2≠0 then([],-1,1)
 else if (zS (qP n s q) q.length).2≠0 then([],zS (qP n s q) q.length) else(q.map (vM n s),-1,0)
theorem VOk.form {n:zF}{l:List zf}{s:zc}(h:VOk n l s):yc s=true:=by
 unfold yc
 rw[h.size,decide_eq_true h.many,Bool.true_and,Bool.true_and]
 refine ZV fun i hi=>?_
 obtain⟨c,hc⟩:=zr hi
 obtain⟨h1,h2,h3,h4⟩:=h.cell i c hc
 obtain⟨p,l',e1,e2,e3,e4⟩:=jT (Kp h2)
 have hb:=Xx (h.net.link p l' e2).1
 have hn:=h.net.nodes
 obtain⟨f,hf,wp⟩:=List.any_eq_true.1 h3
 have hff:0≤f.id∧f.id≤255:=by
  obtain⟨k,hk⟩:=List.getElem?_of_mem hf
  have hkl:=(List.getElem?_eq_some_iff.1 hk).1
  have hfl:=h.flows
  unfold yd at hfl
  split at hfl
  ·cases hfl
  split at hfl
  ·cases hfl
  have g:=yw.1 hfl k hkl
  unfold wv at g
  rw[hk]at g
  simp only at g
  have hfx:yo n.nodes f=0:=by
   split at g
   ·rename_i hh;exact absurd g hh
   ·omega
  have:=yB hfx
  omega
 simp only[beq_iff_eq]at wp
 unfold Xr
 rw[hc]
 simp only
 have hfm:yR s c=true:=by
  unfold yR
  rw[h1]
  simp only[yE,Bool.true_and,Bool.and_eq_true,decide_eq_true_eq]
  omega
 rw[hfm,Bool.true_and]
 unfold V7 at h4
 cases i with
 | zero=>rfl
 | succ j=>exact h4
def jW (n:zF)(rest:List zg)(node:Int):Int:=qq (fun d:zg=>jb n d.src node+jb n d.dst node) rest
theorem zdr {α:Type}{l:List α}{k i:Nat}{x:α}(h:l[k]? = some x):(l.take (k+1)).eraseIdx i=(l.take k).eraseIdx i++if k=i then [] else [x]:=by
 rw[zK h]
 have hk:k < l.length:=(List.getElem?_eq_some_iff.1 h).1
 have hl:(l.take k).length=k:=by rw[List.length_take];omega
 rcases Nat.lt_trichotomy k i with hlt|rfl|hgt
 ·rw[List.eraseIdx_of_length_le (by rw[List.length_append,hl];simp;omega),List.eraseIdx_of_length_le (by omega),if_neg (by omega)]
 ·rw[List.eraseIdx_append_of_length_le (by omega),hl,List.eraseIdx_of_length_le (l:=l.take k) (by omega),if_pos rfl];simp
 ·rw[List.eraseIdx_append_of_lt_length (by omega),if_neg (by omega)]
theorem QY (n:zF)(cs:List zg)(i:Nat)(node:Int):∀k:Nat,k≤cs.length→YB n cs i node k=jW n ((cs.take k).eraseIdx i) node
 | 0,_=>by simp[YB,jW,qq]
 | k+1,hk=>by
  obtain⟨x,hx⟩:=zr (l:=cs) (k:=k) (by omega)
  rw[QX,QY n cs i node k (by omega),zdr hx]
  unfold jW kA
  rw[VJ,hx]
  simp only
  congr 1
  split
  ·rfl
  ·simp[qq]
theorem zdz (n:zF)(cs:List zg)(i:Nat)(node:Int):jV n cs i node=jW n (cs.eraseIdx i) node:=by
 unfold jV
 rw[QY n cs i node _ (Nat.le_refl _),List.take_length]
theorem zeU {a b:List Int}(h:a.Perm b):a.sum=b.sum:=by
 induction h with
 | nil=>rfl
 | cons x _ ih=>simp only[List.sum_cons,ih]
 | swap x y l=>simp only[List.sum_cons];omega
 | trans _ _ h1 h2=>exact h1.trans h2
def jp {α:Type}(P:α→List α→Prop)(cs:List α):Prop:=∀(i:Nat) c,cs[i]? = some c→P c (cs.eraseIdx i)
theorem QU {α:Type}{cs:List α}{i:Nat}{c:α}(h:cs[i]? = some c):cs.Perm (c :: cs.eraseIdx i):=by
 obtain⟨hi,rfl⟩:=List.getElem?_eq_some_iff.1 h
 rw[List.eraseIdx_eq_take_drop_succ]
 have e:cs=cs.take i++cs[i] :: cs.drop (i+1):=by rw[←List.drop_eq_getElem_cons hi,List.take_append_drop]
 exact(List.Perm.of_eq e).trans List.perm_middle
theorem jp.perm {α:Type}{P:α→List α→Prop}(hP:∀c r r',r.Perm r'→P c r→P c r'){cs cs':List α}(h:jp P cs)(hp:cs.Perm cs'):jp P cs':=fun j c hj=>by
 obtain⟨i,hi⟩:=List.getElem?_of_mem (hp.mem_iff.2 (List.mem_of_getElem? hj))
 refine hP c _ _ ?_ (h i c hi)
 exact List.Perm.cons_inv ((QU hi).symm.trans (hp.trans (QU hj)))
def Ws (n:zF)(c:zg)(rest:List zg):Prop:=xQ n (v8 n c.src c.dst) (jW n rest c.dst)=true∧xQ n (v8 n c.dst c.src) (jW n rest c.src)=true
theorem Q0 {n:zF}{r r':List zg}(h:r.Perm r')(node:Int):jW n r node=jW n r' node:=by
 have g:∀l:List zg,jW n l node=(l.map fun d=>jb n d.src node+jb n d.dst node).sum:=fun l=>by
  unfold jW
  induction l with
  | nil=>rfl
  | cons x l ih=>simp only[List.map_cons,List.sum_cons,←ih];rfl
 rw[g,g]
 exact zeU (h.map _)
theorem zb2 {n:zF}{c:zg}{r r':List zg}(h:r.Perm r')(hc:Ws n c r):Ws n c r':=by
 unfold Ws at hc ⊢
 rw[←Q0 h,←Q0 h];exact hc
theorem XH {α:Type}{p:α→Bool}{cs:List α}{i:Nat}{c:α}(h:cs[i]? = some c)(hp:p c=true):(cs.filter p).eraseIdx ((cs.take i).filter p).length=(cs.eraseIdx i).filter p∧(cs.filter p)[((cs.take i).filter p).length]? = some c:=by
 obtain⟨hi,rfl⟩:=List.getElem?_eq_some_iff.1 h
 have e:cs.filter p=(cs.take i).filter p++cs[i] :: (cs.drop (i+1)).filter p:=by
  have e0:cs=cs.take i++cs[i] :: cs.drop (i+1):=by rw[←List.drop_eq_getElem_cons hi,List.take_append_drop]
  conv=>lhs;rw[e0]
  rw[List.filter_append,List.filter_cons,if_pos hp]
 rw[e]
 refine⟨?_,by simp⟩
 rw[List.eraseIdx_append_of_length_le (Nat.le_refl _),Nat.sub_self,List.eraseIdx_cons_zero,List.eraseIdx_eq_take_drop_succ,List.filter_append]
theorem Va {n:zF}{cs:List zg}{i:Nat}{c:zg}(h:cs[i]? = some c):qe n cs i=false↔Ws n c ((cs.eraseIdx i).filter (wB c)):=by
 have hs:wB c c=true:=by unfold wB;simp
 have:=(XH (p:=wB c) h hs).1
 unfold qe Ws
 rw[h]
 simp only[zdz,x8,kc]
 rw[this]
 simp
def ZC (n:zF)(c:zg)(rest:List zg):Prop:=(∀d∈rest,d.slot=c.slot→vh c d=false)∧Ws n c (rest.filter (wB c))
theorem zcq {n:zF}(c:zg)(r r':List zg)(h:r.Perm r')(hc:ZC n c r):ZC n c r':=⟨fun d hd=>hc.1 d (h.mem_iff.2 hd),zb2 (h.filter _) hc.2⟩
theorem VOk.rest {n:zF}{l:List zf}{s:zc}(h:VOk n l s):jp (ZC n) s.cells:=fun i c hc=>by
 refine⟨fun d hd hs=>?_,(Va hc).1 (h.heard i (List.getElem?_eq_some_iff.1 hc).1)⟩
 obtain⟨j,hj⟩:=List.getElem?_of_mem hd
 rw[List.getElem?_eraseIdx]at hj
 split at hj
 ·exact h.apart hc hj (by omega) hs.symm
 ·exact h.apart hc hj (by omega) hs.symm
theorem ze2 {n:zF}{l:List zf}{s:zc}(hn:yS n=0)(hf:(yd n.nodes l).2=0)(hz:wA s=true)(hp:∀f∈l,s.len % f.period=0)(hm:s.cells.length≤512)(hc:∀(i:Nat) c,s.cells[i]? = some c→wy s c=true∧vb n c.src c.dst=true∧Wr l c.flow=true∧V7 s.cells i c=true)(hr:jp (ZC n) s.cells):(yU n l s).2=0:=by
 have h5:(zS (qT n l s) s.cells.length).2=0:=by
  rw[yw]
  intro i hi
  obtain⟨c,hg⟩:=zr hi
  obtain⟨q1,q2,q3,q4⟩:=hc i c hg
  unfold qT
  rw[hg]
  simp[q1,q2,q3,q4]
 have h6:(zS (twI s.cells) s.cells.length).2=0:=by
  rw[yw]
  intro i hi
  obtain⟨c,hg⟩:=zr hi
  unfold twI
  have:kZ s.cells i=false:=by
   unfold kZ
   rw[hg]
   refine List.any_eq_false.2 fun j hj=>?_
   have hj:=List.mem_range.1 hj
   obtain⟨d,hd⟩:=zr (l:=s.cells) (k:=j) (by omega)
   unfold KW
   rw[hd]
   have hmem:d∈s.cells.eraseIdx i:=List.mem_of_getElem? (i:=j) (by rw[List.getElem?_eraseIdx,if_pos hj];exact hd)
   have:=(hr i c hg).1 d hmem
   by_cases e:d.slot=c.slot
   ·simp[this e]
   ·simp[e]
  rw[this];rfl
 have h7:(zS (dsI n s.cells) s.cells.length).2=0:=by
  rw[yw]
  intro i hi
  obtain⟨c,hg⟩:=zr hi
  unfold dsI
  rw[(Va hg).2 (hr i c hg).2];rfl
 unfold yU
 rw[if_neg (by omega),if_neg (by rw[hz];simp),if_neg (by
  intro h
  obtain⟨f,hf1,hf2⟩:=List.any_eq_true.1 h
  unfold zgM at hf2
  rw[hp f hf1]at hf2
  simp at hf2),if_neg (by omega),if_neg (by omega),if_neg (by omega)]
 exact h7
def JM (q:List ye)(id:Int):Bool:=q.any fun y=>y.flow.id==id
theorem zdq {n:zF}(hn:yS n=0)(q:List ye):((xh n q ⟨0,0,[]⟩).2.2 != 1||decide (0≤(xh n q ⟨0,0,[]⟩).2.1))=decide ((wZ n q).2≠0):=by
 have hok:=vo hn
 have hnd:=hok.nodes
 by_cases h:(wZ n q).2=0
 ·have hs:(yU n (zL q) ⟨0,0,[]⟩).2≠0:=fun h0=>by
   have:=(ZS h0).size
   revert this;decide
  have hM:xh n q ⟨0,0,[]⟩=([],-1,1):=by unfold xh;rw[if_neg (by omega),if_pos hs]
  rw[hM,decide_eq_false (by omega:¬(wZ n q).2≠0)];rfl
 ·have hM:xh n q ⟨0,0,[]⟩=([],(wZ n q).1,(wZ n q).2):=by unfold xh;rw[if_pos h]
  rw[hM,decide_eq_true h]
  simp only
  have key:(wZ n q).2≠1∨0≤(wZ n q).1:=by
   unfold wZ at h ⊢
   rw[if_neg (by omega)]at h ⊢
   split
   ·rename_i h1
    unfold yd at h1 ⊢
    rw[if_neg (by omega)]at h1 ⊢
    split
    ·left;simp
    ·rename_i h2
     rw[if_neg h2]at h1
     exact .inr (QO h1)
   ·rename_i h1
    rw[if_neg h1]at h
    exact .inr (QO h)
  rcases key with h1|h1
  ·rw[bne_iff_ne.2 h1];rfl
  ·rw[decide_eq_true h1,Bool.or_true]
theorem zcV.trans {s t u:zc}(h:zcV s t)(h':zcV t u):zcV s u:=⟨h'.len.trans h.len,fun p=>Nat.le_trans (h.cells p) (h'.cells p)⟩
theorem VQ {n:zF}{s t:zc}{f:zf}{r:List Int}{rel more:Int}(hl:t.len=s.len)(h:∀a b,yp t f a b=yp s f a b):∀k:Nat,yb n t f r rel more k=yb n s f r rel more k
 | 0=>rfl
 | k+1=>by
  rw[yb,yb,VQ hl h k]
  unfold yZ
  rw[hl]
  simp only[h]
theorem Jd {n:zF}{s t:zc}{f:zf}{r:List Int}{more:Int}(hl:t.len=s.len)(h:∀a b,yp t f a b=yp s f a b):∀k:Nat,yM n t f r more k=yM n s f r more k
 | 0=>rfl
 | k+1=>by
  have hr:vD n t f r more (f.phase+k*f.period)=vD n s f r more (f.phase+k*f.period):=by
   unfold vD j9
   rw[VQ hl h]
  rw[yM,yM,Jd hl h k,hr]
theorem zf3 {n:zF}{s t:zc}{f:zf}{r:List Int}{more:Int}(hl:t.len=s.len)(h:∀a b,yp t f a b=yp s f a b):xl n t f r more=xl n s f r more:=by
 unfold xl WV
 rw[hl]
 exact Jd hl h _
theorem zj7 {n:zF}{q:List ye}(h:(wZ n q).2=0):q.Pairwise fun a b=>a.flow.id < b.flow.id:=by
 have h1:=zay (xu h).2.2.2
 unfold zL at h1
 exact List.Pairwise.of_map ye.flow (fun a b h=>h) h1
theorem qO {n:zF}{q:List ye}{s:zc}(h:(xh n q s).2.2=0):(wZ n q).2=0∧VOk n (zL q) s∧(∀y∈q,vN n s y=true)∧xh n q s=(q.map (vM n s),-1,0):=by
 unfold xh at h ⊢
 split at h
 ·rename_i hh;exact absurd h hh
 rename_i h1
 rw[if_neg h1]
 split at h
 ·cases h
 rename_i h2
 rw[if_neg h2]
 split at h
 ·rename_i hh;exact absurd h hh
 rename_i h3
 rw[if_neg h3]
 refine⟨by omega,ZS (by omega),fun y hy=>?_,rfl⟩
 obtain⟨k,hk⟩:=List.getElem?_of_mem hy
 have h4:=yw.1 (show(zS (qP n s q) q.length).2=0 by omega) k (List.getElem?_eq_some_iff.1 hk).1
 unfold qP at h4
 rw[hk]at h4
 simp only at h4
 split at h4
 ·rename_i hh;exact hh
 ·cases h4
theorem zim {n:zF}{q:List ye}{s:zc}(h1:(wZ n q).2=0)(h2:(yU n (zL q) s).2=0)(h3:∀y∈q,vN n s y=true):xh n q s=(q.map (vM n s),-1,0):=by
 have h4:(zS (qP n s q) q.length).2=0:=yw.2 fun k hk=>by
  obtain⟨y,hy⟩:=zr hk
  unfold qP
  rw[hy]
  simp only
  rw[if_pos (h3 y (List.mem_of_getElem? hy))]
 unfold xh
 rw[if_neg (by omega),if_neg (by omega),if_neg (by omega)]
theorem zfA {n:zF}(h0:yS n=0){a b:Int}(ha:0≤a∧a < n.nodes)(hb:0≤b∧b < n.nodes)(hab:a≠b):kQ n a b=0:=by
 unfold kQ yE
 simp[h0,ha,hb,hab]
theorem zix {q:List ye}(h:q.Pairwise fun a b=>a.flow.id < b.flow.id){a b:ye}(ha:a∈q)(hb:b∈q)(he:a.flow.id=b.flow.id):a=b:=by
 obtain⟨i,hi⟩:=List.getElem?_of_mem ha
 obtain⟨j,hj⟩:=List.getElem?_of_mem hb
 have hil:=(List.getElem?_eq_some_iff.1 hi).1
 have hjl:=(List.getElem?_eq_some_iff.1 hj).1
 rcases Nat.lt_trichotomy i j with h1|h1|h1
 ·have:=List.pairwise_iff_getElem.1 h i j hil hjl h1
  rw[(List.getElem?_eq_some_iff.1 hi).2,(List.getElem?_eq_some_iff.1 hj).2]at this
  omega
 ·subst h1
  rw[hi]at hj;injection hj
 ·have:=List.pairwise_iff_getElem.1 h j i hjl hil h1
  rw[(List.getElem?_eq_some_iff.1 hi).2,(List.getElem?_eq_some_iff.1 hj).2]at this
  omega
theorem zcj {n:zF}(hok:xT n){r r':List zg}(h:r'.Sublist r)(node:Int):jW n r' node≤jW n r node:=by
 unfold jW
 induction h with
 | slnil=>exact Int.le_refl _
 | cons a _ ih=>
  have h1:=kg hok a.src node
  have h2:=kg hok a.dst node
  simp only[qq];omega
 | cons_cons a _ ih=>simp only[qq];omega
theorem zdE {n:zF}(hok:xT n){c:zg}{r r':List zg}(h:r'.Sublist r)(hc:ZC n c r):ZC n c r':=by
 obtain⟨h1,h2,h3⟩:=hc
 exact⟨fun d hd=>h1 d (h.subset hd),Qx hok h2 (zcj hok (h.filter _) _),Qx hok h3 (zcj hok (h.filter _) _)⟩
theorem ze4 {n:zF}(hok:xT n){A B:List zg}(h:jp (ZC n) (A++B)):jp (ZC n) A:=fun i c hc=>by
 have hi:=(List.getElem?_eq_some_iff.1 hc).1
 have h1:=h i c (by rw[List.getElem?_append_left hi];exact hc)
 rw[List.eraseIdx_append_of_lt_length hi]at h1
 exact zdE hok (List.sublist_append_left _ _) h1
section
variable {n:zF} {s t:zc} {p:zg→Bool} {f:zf} {r:List Int}
end
def yx (q:List ye)(id:Int):Option ye:=q.find? fun x=>x.flow.id==id
def wW (after:List ye)(x:ye):Bool:=match yx after x.flow.id with
 | some y=>decide (y.flow≠x.flow)
 | none=>false
def wz (before after:List ye)(id:Int):Option (ye×ye):=match yx before id,yx after id with
 | some x,some y=>some (x,y)
 | _,_=>none
def vJ (before after:List ye):List zf:=zL before++(after.filter fun x=>!JM before x.flow.id).map ye.flow
def wF (before after:List ye)(id:Int):Option zf:=match yx before id with
 | some x=>some x.flow
 | none=>(yx after id).map ye.flow
def qf (before after:List ye)(k:Nat):List zf:=(List.range k).filterMap fun (id:Nat)=>wF before after id
def yN (before after:List ye):List zf:=qf before after 256
def yJ (n:zF)(before after:List ye)(s:zc):Int:=
 if (xh n before s).2.2≠0∨(wZ n after).2≠0 then 1 else if before.any (wW after)=true then 11 else if (after.any fun x=>s.len % x.flow.period != 0)=true then 2 else if 16 < (yN before after).length then 2 else 0
def zdv (c:zJ)(per:Int)(d:zJ):Bool:=d.add&&(d.cell.flow==c.cell.flow&&decide (IntKind.i64.wrap (c.slot-d.slot) < per))
def kz (before after:List ye)(done:List zJ)(c:zJ):Bool:=!c.add&&match wz before after c.cell.flow with
 | some (x,_)=>done.any (zdv c x.flow.period)
 | none=>false
def vy (n:zF)(before after:List ye)(s:zc)(f:zf):Bool:=match wz before after f.id with
 | some (x,y)=>(xP n s f (x.routes++y.routes)).2==0&&decide ((xP n s f (x.routes++y.routes)).1≤f.dead)
 | none=>true
def Qp (n:zF)(before after:List ye)(s:zc):Bool:=(yN before after).all (vy n before after s)
def jc (after:List ye)(s:zc):zc:=⟨s.len,s.offs,s.cells.filter fun c=>(yx after c.flow).isSome⟩
def YA (n:zF)(after:List ye)(s:zc):Bool:=decide ((xh n after (jc after s)).2.2=0)
def xr (done:List zJ):Option Int:=done.getLast?.map zJ.slot
def kM (n:zF)(before after:List ye)(done:List zJ)(s:zc)(c:zJ):Int:=
 if wV (xr done) c≠0 then wV (xr done) c else if (yi s c).2≠0 then(yi s c).2 else if kz before after done c=true then 12
 else if (yU n (yN before after) (yi s c).1).2≠0 then 16 else if Qp n before after (yi s c).1=false then 15 else 0
def ya (s:zc)(l:List zJ):zc:=l.foldl (fun s c=>(yi s c).1) s
def qj (n:zF)(before after:List ye)(s:zc)(l:List zJ)(k:Nat):Int:=match l[k]? with
 | none=>0
 | some c=>kM n before after (l.take k) (ya s (l.take k)) c
def xR (n:zF)(before after:List ye)(s:zc)(l:List zJ):Int×Int:=
 if yJ n before after s≠0 then(-1,yJ n before after s) else if 1024 < l.length then(-1,8)
 else if (zS (qj n before after s l) l.length).2≠0 then zS (qj n before after s l) l.length
 else if YA n after (ya s l)=false then(-1,18) else(-1,0)
theorem wG {s:zc}{l:List zJ}{k:Nat}{c:zJ}(h:l[k]? = some c):ya s (l.take (k+1))=(yi (ya s (l.take k)) c).1:=by
 unfold ya
 rw[zK h,List.foldl_append];rfl
theorem zY {q:List ye}{id:Int}{x:ye}(h:yx q id=some x):x∈q∧x.flow.id=id:=by
 unfold yx at h
 exact⟨List.mem_of_find?_eq_some h,by simpa using List.find?_some h⟩
theorem Zr (q:List ye)(id:Int):(yx q id).isSome=JM q id:=by
 unfold yx JM
 rw[Bool.eq_iff_iff,List.find?_isSome,List.any_eq_true]
theorem Zq {q:List ye}(h:q.Pairwise fun a b=>a.flow.id < b.flow.id){x:ye}(hx:x∈q):yx q x.flow.id=some x:=by
 cases hg:yx q x.flow.id with
 | none=>
  have:=Zr q x.flow.id
  rw[hg]at this
  have h2:JM q x.flow.id=true:=List.any_eq_true.2 ⟨x,hx,by simp⟩
  rw[h2]at this;cases this
 | some y=>
  obtain⟨h1,h2⟩:=zY hg
  rw[zix h h1 hx h2]
theorem Z4 (q:List ye)(id:Int):(xm (zL q) id=-1∧yx q id=none)∨∃(k:Nat) (x:ye),xm (zL q) id=k∧q[k]? = some x∧yx q id=some x:=by
 have hfl:∀k:Nat,(zL q)[k]? = q[k]?.map ye.flow:=fun k=>by unfold zL;rw[List.getElem?_map]
 by_cases hneg:wu (fun f:zf=>f.id==id) (zL q)=-1
 ·refine .inl ⟨hneg,?_⟩
  have hnone:=wo hneg
  unfold yx
  rw[List.find?_eq_none]
  intro x hx
  obtain⟨k,hk⟩:=List.getElem?_of_mem hx
  have:=hnone k x.flow (by rw[hfl,hk];rfl)
  simpa using this
 ·obtain⟨k,f,e1,e2,e3⟩:=vV hneg
  obtain⟨_,_,_,e4⟩:=vH e1
  have hk:=hfl k
  rw[e2]at hk
  cases hq:q[k]? with
  | none=>rw[hq]at hk;cases hk
  | some x=>
   rw[hq]at hk
   simp only[Option.map_some,Option.some.injEq]at hk
   have hkl:=(List.getElem?_eq_some_iff.1 hq).1
   refine .inr ⟨k,x,e1,hq,?_⟩
   unfold yx
   rw[List.find?_eq_some_iff_getElem]
   refine⟨by rw[←hk];exact e3,k,hkl,(List.getElem?_eq_some_iff.1 hq).2,fun j hj=>?_⟩
   have h4:=e4 j (q[j]).flow hj (by rw[hfl,List.getElem?_eq_getElem (by omega)];rfl)
   simpa using h4
theorem Jf {before after:List ye}{id:Int}{f:zf}(h:wF before after id=some f):f.id=id:=by
 unfold wF at h
 cases hb:yx before id with
 | some x=>
  rw[hb]at h
  simp only[Option.some.injEq]at h
  rw[←h];exact(zY hb).2
 | none=>
  rw[hb]at h
  cases ha:yx after id with
  | some y=>
   rw[ha]at h
   simp only[Option.map_some,Option.some.injEq]at h
   rw[←h];exact(zY ha).2
  | none=>rw[ha]at h;cases h
theorem kH (before after:List ye)(k:Nat):qf before after (k+1)=qf before after k++(wF before after k).toList:=by
 unfold qf
 rw[List.range_succ,List.filterMap_append]
 congr 1
theorem KN {before after:List ye}:∀{k:Nat} {f:zf},f∈qf before after k→0≤f.id∧f.id < k
 | 0,_,h=>by simp[qf]at h
 | k+1,f,h=>by
  rw[kH]at h
  rcases List.mem_append.1 h with h|h
  ·have:=KN h;omega
  ·have:wF before after k=some f:=by
    cases hb:wF before after (k:Int) with
    | none=>rw[hb]at h;cases h
    | some g=>rw[hb]at h;simp at h;rw[h]
   have:=Jf this;omega
theorem qz (before after:List ye):∀k:Nat,(qf before after k).Pairwise fun a b=>a.id < b.id
 | 0=>by simp[qf]
 | k+1=>by
  rw[kH]
  refine List.pairwise_append.2 ⟨qz before after k,?_,fun a ha b hb=>?_⟩
  ·cases wF before after (k:Int)<;>simp
  ·have h1:=KN ha
   have h2:b.id=k:=by
    cases hg:wF before after (k:Int) with
    | none=>rw[hg]at hb;cases hb
    | some g=>rw[hg]at hb;simp at hb;rw[hb];exact Jf hg
   omega
theorem qF {before after:List ye}{f:zf}:∀{k:Nat},f∈qf before after k↔0≤f.id∧f.id < k∧wF before after f.id=some f
 | 0=>by simp[qf];intro h1 h2;omega
 | k+1=>by
  rw[kH,List.mem_append,qF (k:=k)]
  constructor
  ·rintro (⟨h1,h2,h3⟩|h)
   ·exact⟨h1,by omega,h3⟩
   ·cases hg:wF before after (k:Int) with
    | none=>rw[hg]at h;cases h
    | some g=>
     rw[hg]at h;simp at h
     subst h
     have:=Jf hg
     rw[this]
     exact⟨by omega,by omega,hg⟩
  ·rintro⟨h1,h2,h3⟩
   by_cases hk:f.id=k
   ·right;rw[←hk,h3];simp
   ·left;exact⟨h1,by omega,h3⟩
structure kL (q:List ye):Prop where
 sorted:q.Pairwise fun a b=>a.flow.id < b.flow.id
 ids:∀x∈q,0≤x.flow.id∧x.flow.id≤255
theorem qK {n:zF}{q:List ye}(h:(wZ n q).2=0):kL q where
 sorted:=zj7 h
 ids:=fun x hx=>by
  have:=yB ((xu h).2.2.1 x hx).flow
  omega
theorem YR {before after:List ye}(hb:kL before)(ha:kL after){f:zf}:f∈vJ before after↔f∈yN before after:=by
 unfold yN
 rw[qF]
 unfold vJ zL
 rw[List.mem_append,List.mem_map,List.mem_map]
 constructor
 ·rintro (⟨x,hx,rfl⟩|⟨y,hy,rfl⟩)
  ·have:=hb.ids x hx
   refine⟨this.1,by omega,?_⟩
   unfold wF
   rw[Zq hb.sorted hx]
  ·obtain⟨h1,h2⟩:=List.mem_filter.1 hy
   have:=ha.ids y h1
   refine⟨this.1,by omega,?_⟩
   unfold wF
   have hn:yx before y.flow.id=none:=by
    have:=Zr before y.flow.id
    cases hg:yx before y.flow.id with
    | none=>rfl
    | some z=>rw[hg]at this;rw[←this]at h2;simp at h2
   rw[hn,Zq ha.sorted h1];rfl
 ·rintro⟨_,_,h⟩
  unfold wF at h
  cases hg:yx before f.id with
  | some x=>
   rw[hg]at h
   simp only[Option.some.injEq]at h
   exact .inl ⟨x,(zY hg).1,h⟩
  | none=>
   rw[hg]at h
   cases hy:yx after f.id with
   | none=>rw[hy]at h;cases h
   | some y=>
    rw[hy]at h
    simp only[Option.map_some,Option.some.injEq]at h
    refine .inr ⟨y,List.mem_filter.2 ⟨(zY hy).1,?_⟩,h⟩
    have:=Zr before y.flow.id
    rw[(zY hy).2,hg]at this
    rw[(zY hy).2,←this];rfl
theorem zaz {before after:List ye}(hb:kL before)(ha:kL after):(vJ before after).Pairwise fun a b=>a.id≠b.id:=by
 unfold vJ zL
 refine List.pairwise_append.2 ⟨?_,?_,fun a hm b hm2=>?_⟩
 ·rw[List.pairwise_map];exact hb.sorted.imp fun h=>by omega
 ·rw[List.pairwise_map];exact(ha.sorted.filter _).imp fun h=>by omega
 ·obtain⟨x,hx,rfl⟩:=List.mem_map.1 hm
  obtain⟨y,hy,rfl⟩:=List.mem_map.1 hm2
  have h2:=(List.mem_filter.1 hy).2
  intro he
  have:JM before y.flow.id=true:=List.any_eq_true.2 ⟨x,hx,by simpa using he⟩
  rw[this]at h2;cases h2
theorem zaO {before after:List ye}(hb:kL before)(ha:kL after){ds:List zf}(hp:ds.Perm (vJ before after))(hs:ds.Pairwise fun a b=>¬b.id < a.id):ds=yN before after:=by
 have hn:ds.Pairwise fun a b=>a.id≠b.id:=(zaz hb ha).perm hp.symm fun h=>Ne.symm h
 refine YE (lt:=fun a b:zf=>a.id < b.id) (fun a=>by omega) (fun a b h1 h2=>by omega) ((hs.and hn).imp fun⟨h1,h2⟩=>by omega) (qz _ _ _) fun f=>?_
 rw[hp.mem_iff,YR hb ha]
theorem zcK {before after:List ye}(hb:kL before)(ha:kL after):(yN before after).length=(vJ before after).length:=by
 have hperm:=List.mergeSort_perm (vJ before after) fun a b=>decide (a.id≤b.id)
 have hs:=List.pairwise_mergeSort (le:=fun a b:zf=>decide (a.id≤b.id)) (fun a b c h1 h2=>decide_eq_true (Int.le_trans (of_decide_eq_true h1) (of_decide_eq_true h2))) (fun a b=>by simp only[Bool.or_eq_true,decide_eq_true_eq];omega) (vJ before after)
 rw[←zaO hb ha hperm (hs.imp fun h=>by simp at h;omega),hperm.length_eq]
theorem YP {n:zF}{s:zc}{f:zf}{d:Int}:∀{l:List (List Int)} {m:Int},0≤m→(∀r∈l,∀B,xl n s f r 0=some B→1≤B.b)→(l.foldl (wR n s f) m≠0∧l.foldl (wR n s f) m≤d↔(m≠0∧m≤d)∨∃r∈l,∃B,xl n s f r 0=some B∧B.b≤d)
 | [],m,_,_=>by simp
 | r :: l,m,hm,h=>by
  have hr:=h r (List.mem_cons_self ..)
  have ht:∀x∈l,∀B,xl n s f x 0=some B→1≤B.b:=fun x hx=>h x (List.mem_cons_of_mem _ hx)
  rw[List.foldl_cons]
  cases hb:xl n s f r 0 with
  | none=>
   have e:wR n s f m r=m:=by unfold wR;rw[hb]
   rw[e,YP hm ht]
   constructor
   ·rintro (h1|⟨x,h1,h2⟩)
    ·exact .inl h1
    ·exact .inr ⟨x,List.mem_cons_of_mem _ h1,h2⟩
   ·rintro (h1|⟨x,h1,B,h2,h3⟩)
    ·exact .inl h1
    ·rcases List.mem_cons.1 h1 with rfl|h1
     ·rw[hb]at h2;cases h2
     ·exact .inr ⟨x,h1,B,h2,h3⟩
  | some X=>
   have hX:=hr X hb
   have e:wR n s f m r=if m=0∨X.b < m then X.b else m:=by unfold wR;rw[hb]
   have h0:0≤wR n s f m r:=by rw[e];split<;>omega
   have key:(wR n s f m r≠0∧wR n s f m r≤d)↔(m≠0∧m≤d)∨X.b≤d:=by rw[e];split<;>omega
   rw[YP h0 ht,key]
   constructor
   ·rintro ((h1|h1)|⟨x,h1,h2⟩)
    ·exact .inl h1
    ·exact .inr ⟨r,List.mem_cons_self ..,X,hb,h1⟩
    ·exact .inr ⟨x,List.mem_cons_of_mem _ h1,h2⟩
   ·rintro (h1|⟨x,h1,B,h2,h3⟩)
    ·exact .inl (.inl h1)
    ·rcases List.mem_cons.1 h1 with rfl|h1
     ·rw[hb]at h2;cases h2;exact .inl (.inr h3)
     ·exact .inr ⟨x,h1,B,h2,h3⟩
theorem jS {n:zF}{s:zc}{f:zf}{r:List Int}:Zu n s f r 0=true↔∃B,xl n s f r 0=some B∧B.b≤f.dead:=by
 unfold Zu
 cases hb:xl n s f r ((0:Nat):Int) with
 | none=>simp
 | some B=>
  simp only[decide_eq_true_eq]
  constructor
  ·intro h;exact⟨B,rfl,h⟩
  ·rintro⟨C,h1,h2⟩
   cases h1;exact h2
theorem jF {n:zF}{s:zc}{x:ye}{r:List Int}(h0:yS n=0)(hf:yc s=true)(hx:zeJ n x)(hp:s.len % x.flow.period=0){f:zf}(hfe:f=x.flow)(hr:vC n f.src f.dst r=0):vx n s f r=0:=by
 subst hfe
 have h:=yB hx.flow
 unfold vx
 rw[if_neg (by simp[h0,hf,hx.flow]),if_neg (by omega)]
 unfold kf
 rw[if_neg (by rw[zfA h0 ⟨h.2.2.1,h.2.2.2.1⟩ ⟨h.2.2.2.2.1,h.2.2.2.2.2.1⟩ h.2.2.2.2.2.2.2.2.2.2.2.2];decide)]
 exact hr
theorem zdj {n:zF}{s:zc}{f:zf}{l:List (List Int)}(hl:l≠[])(hw:∀r∈l,vx n s f r=0):((xP n s f l).2==0&&decide ((xP n s f l).1≤f.dead))=l.any fun r=>Zu n s f r 0:=by
 have h1:jA n s f l=0:=Zv fun k r hr=>hw r (List.mem_of_getElem? hr)
 have key:=YP (n:=n) (s:=s) (f:=f) (d:=f.dead) (l:=l) (m:=0) (by omega) fun r hr B hB=>(zcJ (Y4 (hw r hr)) hB).1
 have hany:(l.any fun r=>Zu n s f r 0)=decide (ws n s f l≠0∧ws n s f l≤f.dead):=by
  rw[Bool.eq_iff_iff,List.any_eq_true,decide_eq_true_eq]
  rw[show ws n s f l=l.foldl (wR n s f) 0 from rfl,key]
  constructor
  ·rintro⟨r,hr,h⟩;exact .inr ⟨r,hr,jS.1 h⟩
  ·rintro (⟨h,_⟩|⟨r,hr,h⟩)
   ·exact absurd rfl h
   ·exact⟨r,hr,jS.2 h⟩
 rw[hany]
 unfold xP
 rw[if_neg (by simpa using hl),if_neg (by simp[h1])]
 by_cases h2:ws n s f l=0
 ·rw[if_pos h2];simp[h2]
 ·rw[if_neg h2];simp[h2]
def jH (before after:List ye)(id:Int):Bool:=match wz before after id with
 | some (x,y)=>decide (x.flow=y.flow)
 | none=>false
def xa (a b:List (List Int)):List (List Int):=a++b.filter fun r=>!(a.any fun x=>decide (x=r))
def zjw (n:zF)(before after:List ye)(s:zc):Bool:=before.all fun x=>match yx after x.flow.id with
 | some y=>!(jH before after x.flow.id)||(xa x.routes y.routes).any fun r=>Zu n s x.flow r 0
 | none=>true
def zjz (n:zF)(after:List ye)(s:zc):Bool:=after.all fun x=>x.routes.all fun r=>Zu n s x.flow r 0
theorem zeQ (a b:List (List Int))(p:List Int→Bool):(xa a b).any p=(a++b).any p:=by
 unfold xa
 rw[Bool.eq_iff_iff,List.any_eq_true,List.any_eq_true]
 constructor
 ·rintro⟨r,hr,hp⟩
  rcases List.mem_append.1 hr with h|h
  ·exact⟨r,List.mem_append_left _ h,hp⟩
  ·exact⟨r,List.mem_append_right _ (List.mem_filter.1 h).1,hp⟩
 ·rintro⟨r,hr,hp⟩
  rcases List.mem_append.1 hr with h|h
  ·exact⟨r,List.mem_append_left _ h,hp⟩
  ·by_cases ha:r∈a
   ·exact⟨r,List.mem_append_left _ ha,hp⟩
   ·refine⟨r,List.mem_append_right _ (List.mem_filter.2 ⟨h,?_⟩),hp⟩
    rw[Bool.not_eq_true',List.any_eq_false]
    intro x hx
    simp only[decide_eq_true_eq]
    rintro rfl;exact ha hx
structure X0 (n:zF)(before after:List ye)(s:zc):Prop where
 n0:yS n=0
 rb:(wZ n before).2=0
 ra:(wZ n after).2=0
 same:∀x∈before,∀y,yx after x.flow.id=some y→y.flow=x.flow
 pb:∀x∈before,s.len % x.flow.period=0
 pa:∀x∈after,s.len % x.flow.period=0
 vok:VOk n (zL before) s
theorem qB {n:zF}{before after:List ye}{s:zc}(h:yJ n before after s=0):X0 n before after s:=by
 unfold yJ at h
 split at h
 ·cases h
 rename_i h1
 simp only[not_or,ne_eq,Decidable.not_not]at h1
 split at h
 ·cases h
 rename_i h2
 split at h
 ·cases h
 rename_i h3
 obtain⟨a1,a2,_,_⟩:=qO h1.1
 refine⟨a2.n0,a1,h1.2,fun x hx y hy=>?_,fun x hx=>a2.per x.flow (List.mem_map.2 ⟨x,hx,rfl⟩),fun x hx=>?_,a2⟩
 ·have:=List.any_eq_false.1 (Bool.eq_false_iff.2 h2) x hx
  unfold wW at this
  rw[hy]at this
  simpa using this
 ·have:=List.any_eq_false.1 (Bool.eq_false_iff.2 h3) x hx
  simpa using this
theorem zgS {n:zF}{before after:List ye}{s0 s:zc}(hW:X0 n before after s0)(hl:s.len=s0.len)(hf:yc s=true):Qp n before after s=zjw n before after s:=by
 have hb:=qK hW.rb
 have ha:=qK hW.ra
 have one:∀x∈before,∀y,yx after x.flow.id=some y→wz before after x.flow.id=some (x,y):=fun x hx y hy=>by
  unfold wz
  rw[Zq hb.sorted hx,hy]
 have two:∀x∈before,∀y,yx after x.flow.id=some y→vy n before after s x.flow=(xa x.routes y.routes).any fun r=>Zu n s x.flow r 0:=fun x hx y hy=>by
  have hxo:=(xu hW.rb).2.2.1 x hx
  have hyo:=(xu hW.ra).2.2.1 y (zY hy).1
  have hfe:=hW.same x hx y hy
  unfold vy
  rw[one x hx y hy,zeQ]
  refine zdj (fun e=>?_) fun r hr=>?_
  ·have:=hxo.len.1
   rw[List.append_eq_nil_iff.1 e |>.1]at this;simp at this
  ·rcases List.mem_append.1 hr with h|h
   ·exact jF hW.n0 hf hxo (by rw[hl];exact hW.pb x hx) rfl (hxo.route r h)
   ·exact jF hW.n0 hf hyo (by rw[hl];exact hW.pa y (zY hy).1) hfe.symm (by rw[←hfe];exact hyo.route r h)
 unfold Qp zjw
 rw[Bool.eq_iff_iff,List.all_eq_true,List.all_eq_true]
 constructor
 ·intro h x hx
  cases hy:yx after x.flow.id with
  | none=>rfl
  | some y=>
   have hm:x.flow∈yN before after:=(YR hb ha).1 (List.mem_append_left _ (List.mem_map.2 ⟨x,hx,rfl⟩))
   have:=h x.flow hm
   rw[two x hx y hy]at this
   simp[this]
 ·intro h f hfm
  cases hst:wz before after f.id with
  | none=>unfold vy;rw[hst]
  | some p=>
   obtain⟨x,y⟩:=p
   unfold wz at hst
   cases hgx:yx before f.id with
   | none=>rw[hgx]at hst;cases hst
   | some x'=>
    cases hgy:yx after f.id with
    | none=>rw[hgx,hgy]at hst;cases hst
    | some y'=>
     obtain⟨m1,m2⟩:=zY hgx
     have hfx:f=x'.flow:=by
      unfold yN at hfm
      have:=(qF.1 hfm).2.2
      unfold wF at this
      rw[hgx]at this
      simpa using this.symm
     have hy2:yx after x'.flow.id=some y':=by rw[m2];exact hgy
     have h1:=h x' m1
     rw[hy2]at h1
     simp only at h1
     have hs:jH before after x'.flow.id=true:=by
      unfold jH
      rw[one x' m1 y' hy2]
      simp[hW.same x' m1 y' hy2]
     rw[hs]at h1
     rw[hfx,two x' m1 y' hy2]
     simpa using h1
theorem Qw (q:List ye)(id:Int):Wr (zL q) id=(yx q id).isSome:=by
 rw[Zr]
 unfold Wr zL JM
 rw[List.any_map];rfl
theorem VOk.part2 {n:zF}{l l':List zf}{s:zc}(h:VOk n l s)(p:zg→Bool)(hf:(yd n.nodes l').2=0)(hper:∀f∈l',s.len % f.period=0)(hp:∀c∈s.cells,p c=true→Wr l' c.flow=true):(yU n l' ⟨s.len,s.offs,s.cells.filter p⟩).2=0:=by
 have hperm:s.cells.Perm (s.cells.filter p++s.cells.filter fun c=>!p c):=(List.filter_append_perm p s.cells).symm
 have hrest:=ze4 h.net (jp.perm (fun c r r'=>zcq c r r') h.rest hperm)
 have hso:=(h.sorted.filter p)
 refine ze2 h.n0 hf h.size hper (Nat.le_trans (List.length_filter_le _ _) h.many) (fun i c hc=>?_) hrest
 obtain⟨hcm,hcp⟩:=List.mem_filter.1 (List.mem_of_getElem? hc)
 obtain⟨j,hj⟩:=List.getElem?_of_mem hcm
 obtain⟨h1,h2,_,_⟩:=h.cell j c hj
 refine⟨h1,h2,hp c hcm hcp,?_⟩
 unfold V7
 cases i with
 | zero=>rfl
 | succ j=>
  simp only at hc ⊢
  cases hq:(s.cells.filter p)[j]? with
  | none=>rfl
  | some d=>
   refine decide_eq_true ?_
   obtain⟨hi,rfl⟩:=List.getElem?_eq_some_iff.1 hc
   obtain⟨hj,rfl⟩:=List.getElem?_eq_some_iff.1 hq
   exact List.pairwise_iff_getElem.1 hso j (j+1) hj hi (by omega)
theorem zhi {n:zF}{before after:List ye}{s0 s:zc}{L:List zf}(hW:X0 n before after s0)(hl:s.len=s0.len)(hv:VOk n L s):YA n after s=zjz n after s:=by
 have ha:=qK hW.ra
 obtain⟨hok,hq16,hreq,hfl⟩:=xu hW.ra
 have hsv:(yU n (zL after) (jc after s)).2=0:=hv.part2 _ hfl (fun f hf=>by
  obtain⟨x,hx,rfl⟩:=List.mem_map.1 hf
  rw[hl];exact hW.pa x hx) fun c _ hc=>by rw[Qw];exact hc
 have hform:yc (jc after s)=true:=(ZS hsv).form
 have hclm:∀x∈after,vN n (jc after s) x=x.routes.all fun r=>Zu n s x.flow r 0:=fun x hx=>by
  unfold vN
  rw[Bool.eq_iff_iff,List.all_eq_true,List.all_eq_true]
  refine forall_congr' fun r=>forall_congr' fun hr=>?_
  have hway:=jF (s:=jc after s) hW.n0 hform (hreq x hx) (by show s.len % _=0;rw[hl];exact hW.pa x hx) rfl ((hreq x hx).route r hr)
  have hcells:∀a b,yp (jc after s) x.flow a b=yp s x.flow a b:=fun a b=>by
   unfold yp jc
   simp only
   rw[List.filter_filter]
   refine List.filter_congr fun c _=>?_
   cases ho:jL x.flow.id a b c with
   | true=>rfl
   | false=>
    have hcf:c.flow=x.flow.id:=by unfold jL at ho;simp at ho;exact ho.1.1
    rw[hcf,Zq ha.sorted hx];rfl
  have hbr:xl n (jc after s) x.flow r 0=xl n s x.flow r 0:=zf3 rfl hcells
  unfold Yc yv
  rw[if_neg (by simp[hway]),hbr,jS]
  cases hb:xl n s x.flow r 0 with
  | none=>simp
  | some B=>simp
 unfold YA zjz
 rw[Bool.eq_iff_iff,decide_eq_true_eq,List.all_eq_true]
 constructor
 ·intro h x hx
  rw[←hclm x hx]
  exact(qO h).2.2.1 x hx
 ·intro h
  rw[zim hW.ra hsv fun x hx=>by rw[hclm x hx];exact h x hx]
def qg (s:zc)(l:List zJ):Int:=if yc s=false then 1 else if 1024 < l.length then 8 else(xj none s l).2
def xM (l:List zJ)(t:Int):List zJ:=l.takeWhile fun c=>decide (c.slot≤t)
def kI (s:zc)(l:List zJ)(t:Int):zc×Int:=if qg s l≠0 then(⟨0,0,[]⟩,qg s l) else(ya s (xM l t),0)
theorem zjW (s:zc):wq [] s [] 0=if yc s=false then 1 else 0:=by
 unfold wq
 have h1:(yd 32 []).2=0:=by decide
 have h2:(y0 []).2=0:=by decide
 by_cases hf:yc s=false
 ·rw[if_pos hf,if_pos (.inr (.inl hf))]
 ·rw[if_neg hf,if_neg (by simp[h1,h2,hf]),if_neg (by omega)]
theorem zgm (s:zc)(l:List zJ):(yy [] s l [] 0).2=qg s l:=by
 unfold yy qg
 rw[zjW]
 by_cases hf:yc s=false
 ·rw[if_pos hf,if_pos hf,if_pos (by decide)]
 ·rw[if_neg hf,if_neg hf,if_neg (by decide)]
  split
  ·rfl
  split
  ·rfl
  ·rename_i h
   have h2:(xj none s l).2=0:=by omega
   exact h2.symm
theorem zcN {t:Int}:∀{p:Option Int} {s out:zc} {cs:List zJ},(xj p s cs).2=0→(∀c∈cs,t < c.slot)→(zcO p s out cs t).1=out
 | _,_,_,[],_,_=>rfl
 | p,s,out,c :: cs,h,hs=>by
  unfold xj at h
  split at h
  ·rename_i h1;exact absurd h h1
  split at h
  ·rename_i h1;exact absurd h h1
  rename_i h1 h2
  unfold zcO
  rw[if_neg h1,if_neg h2,if_neg (by have:=hs c (List.mem_cons_self ..);omega)]
  exact zcN h fun d hd=>hs d (List.mem_cons_of_mem _ hd)
theorem KP {t:Int}:∀{p:Option Int} {s:zc} {cs:List zJ},(xj p s cs).2=0→(zcO p s s cs t).1=ya s (xM cs t)
 | _,_,[],_=>rfl
 | p,s,c :: cs,h=>by
  unfold xj at h
  split at h
  ·rename_i h1;exact absurd h h1
  split at h
  ·rename_i h1;exact absurd h h1
  rename_i h1 h2
  unfold zcO
  rw[if_neg h1,if_neg h2]
  by_cases hc:c.slot≤t
  ·rw[if_pos hc,KP h]
   unfold xM
   rw[List.takeWhile_cons,if_pos (by simpa using hc)]
   rfl
  ·rw[if_neg hc,zcN h fun d hd=>by have:=WF h d hd;omega]
   unfold xM
   rw[List.takeWhile_cons,if_neg (by simpa using hc)]
   rfl
def vr (out:List zJ)(id:Int):Option Int:=((out.filter fun d=>d.add&&d.cell.flow==id).getLast?).map zJ.slot
def QL (l:List zf)(id:Int):Option zf:=l.find? fun f=>f.id==id
def vi (flows:List zf)(out:List zJ)(t:Int)(c:zJ):Int:=if c.add=true then t else match QL flows c.cell.flow,vr out c.cell.flow with
 | some f,some a=>max t (a+f.period)
 | _,_=>t
def Yk (flows:List zf):Int→List zJ→List zJ→Option (List zJ)
 | _,out,[]=>some out
 | t,out,c :: cs=>if 1048576 < vi flows out t c then none else Yk flows (vi flows out t c) (out++[⟨vi flows out t c,c.add,c.cell⟩]) cs
def Xa (flows:List zf)(l:List zJ)(fr:Int):List zJ×Int:=
 if (yd 32 flows).2≠0 then([],1) else if fr < 0∨1048576 < fr then([],2) else if 1024 < l.length then([],8) else match Yk flows fr [] l with
 | none=>([],2)
 | some o=>(o,0)
theorem W0 (out:List zJ)(c:zJ)(id:Int):vr (out++[c]) id=if (c.add&&c.cell.flow==id)=true then some c.slot else vr out id:=by
 unfold vr
 rw[List.filter_append]
 by_cases h:(c.add&&c.cell.flow==id)=true
 ·rw[if_pos h,show [c].filter (fun d=>d.add&&d.cell.flow==id)=[c] from List.filter_cons_of_pos (p:=fun d:zJ=>d.add&&d.cell.flow==id) h];simp
 ·rw[if_neg h,show [c].filter (fun d=>d.add&&d.cell.flow==id)=[] from List.filter_cons_of_neg (p:=fun d:zJ=>d.add&&d.cell.flow==id) h];simp
theorem zcc (l:List zf)(id:Int):(xm l id=-1∧QL l id=none)∨∃(k:Nat) (f:zf),xm l id=k∧l[k]? = some f∧QL l id=some f:=by
 by_cases hneg:wu (fun f:zf=>f.id==id) l=-1
 ·refine .inl ⟨hneg,?_⟩
  have hnone:=wo hneg
  unfold QL
  rw[List.find?_eq_none]
  intro x hx
  obtain⟨k,hk⟩:=List.getElem?_of_mem hx
  simpa using hnone k x hk
 ·obtain⟨k,f,e1,e2,e3⟩:=vV hneg
  obtain⟨_,_,_,e4⟩:=vH e1
  have hkl:=(List.getElem?_eq_some_iff.1 e2).1
  refine .inr ⟨k,f,e1,e2,?_⟩
  unfold QL
  rw[List.find?_eq_some_iff_getElem]
  refine⟨e3,k,hkl,(List.getElem?_eq_some_iff.1 e2).2,fun j hj=>?_⟩
  have h4:=e4 j l[j] hj (List.getElem?_eq_getElem (by omega))
  simpa using h4
def n42:zF:=⟨2,[[0,9],[9,0]],1,1000,[⟨0,1,0⟩,⟨1,0,0⟩],[9,9]⟩
def J8:List ye:=[⟨⟨1,0,1,4,0,4⟩,[[0,1]]⟩]
def s42:zc:=⟨4,1,[⟨0,0,0,1,1⟩]⟩
def Yy (r:Int):List zJ:=[⟨10,true,⟨2,0,0,1,1⟩⟩,⟨r,false,⟨0,0,0,1,1⟩⟩]
theorem zfD:xR n42 J8 J8 s42 (Yy 14)=(-1,0):=by decide +kernel
theorem zdw:xR n42 J8 J8 s42 (Yy 13)=(1,12):=by decide +kernel
theorem KC:(kI s42 (Yy 14) 12).2=0∧(kI s42 (Yy 14) 12).1.cells.length=2:=by decide +kernel
deriving instance DecidableEq for zJ
theorem zhl:Xa (zL J8) (Yy 13) 10=(Yy 14,0):=by decide +kernel
theorem zfp {α:Type}(p:α→Bool)(l:List α):(wu p l=-1∧l.find? p=none)∨∃(k:Nat) (x:α),wu p l=k∧l[k]? = some x∧l.find? p=some x:=by
 by_cases hneg:wu p l=-1
 ·refine .inl ⟨hneg,?_⟩
  have hnone:=wo hneg
  rw[List.find?_eq_none]
  intro x hx
  obtain⟨k,hk⟩:=List.getElem?_of_mem hx
  simpa using hnone k x hk
 ·obtain⟨k,f,e1,e2,e3⟩:=vV hneg
  obtain⟨_,_,_,e4⟩:=vH e1
  have hkl:=(List.getElem?_eq_some_iff.1 e2).1
  refine .inr ⟨k,f,e1,e2,?_⟩
  rw[List.find?_eq_some_iff_getElem]
  refine⟨e3,k,hkl,(List.getElem?_eq_some_iff.1 e2).2,fun j hj=>?_⟩
  have h4:=e4 j l[j] hj (List.getElem?_eq_getElem (by omega))
  simpa using h4
def zih:ye:=⟨⟨0,0,0,0,0,0⟩,[]⟩
def getD (q:List ye)(id:Int):ye:=(yx q id).getD zih
def zgL (n:zF)(before after:List ye)(flows:AV)(s:zc)(done:AV):List AV:=[.int .i64 n.nodes,zZ n.power,.int .i64 n.noise,.int .i64 n.thr,wl n.links,zp n.margin,zH before,zH after,flows,.int .i64 s.len,.int .i64 s.offs,zy s.cells,done]
def jl (n:zF)(before after:List ye)(flows:List zf)(s:zc)(done:List zJ):AV:=.agg (zgL n before after (zN flows) s (zT done))
def JX (before after:List ye)(done:List zJ)(c:zJ):Int:=if kz before after done c=true then 12 else 0
theorem zhk {before after:List ye}{done:List zJ}{c:zJ}:kz before after done c=((((yx before c.cell.flow).isSome&&(yx after c.cell.flow).isSome)&&!c.add)&&done.any fun d=>d.add&&(d.cell.flow==(getD before c.cell.flow).flow.id&&decide (IntKind.i64.wrap (c.slot-d.slot) < (getD before c.cell.flow).flow.period))):=by
 unfold kz wz getD
 cases hb:yx before c.cell.flow with
 | none=>simp
 | some x=>
  cases ha:yx after c.cell.flow with
  | none=>simp
  | some y=>
   have hx:=(zY hb).2
   simp only[Option.getD_some,Option.isSome_some,Bool.true_and]
   congr 1
   unfold zdv
   rw[hx]
theorem zir {n:zF}{before after:List ye}{s:zc}{f:zf}:vy n before after s f=(!((yx before f.id).isSome&&(yx after f.id).isSome)||((xP n s f ((getD before f.id).routes++(getD after f.id).routes)).2==0&&decide ((xP n s f ((getD before f.id).routes++(getD after f.id).routes)).1≤f.dead))):=by
 unfold vy wz getD
 cases hb:yx before f.id with
 | none=>simp
 | some x=>
  cases ha:yx after f.id with
  | none=>simp
  | some y=>simp
theorem ZO (l:List zJ)(t:Int):xM l t=l.take (xM l t).length:=by
 have h:xM l t <+: l:=List.takeWhile_prefix _
 exact(List.prefix_iff_eq_take.1 h)
theorem zgl {s:zc}{l:List zJ}(h:qg s l=0):yc s=true∧l.length≤1024∧(xj none s l).2=0:=by
 unfold qg at h
 split at h
 ·cases h
 split at h
 ·cases h
 rename_i h1 h2
 exact⟨by simpa using h1,by omega,h⟩
theorem Kv {nodes:Int}{l:List zf}(h1:2≤nodes)(h2:nodes≤32)(hl:l.length≤16)(hf:∀f∈l,yo nodes f=0)(hs:l.Pairwise fun a b=>a.id < b.id):(yd nodes l).2=0:=by
 unfold yd
 rw[if_neg (by omega),if_neg (by omega),yw]
 intro j hj
 unfold wv
 rw[List.getElem?_eq_getElem hj]
 simp only
 rw[if_neg (by rw[hf _ (List.getElem_mem hj)];decide),if_neg]
 rw[Bool.not_eq_false]
 unfold Yz
 cases j with
 | zero=>rfl
 | succ i=>
  simp only
  rw[List.getElem?_eq_getElem (by omega)]
  exact decide_eq_true (List.pairwise_iff_getElem.1 hs i (i+1) (by omega) hj (by omega))
theorem ku {nodes:Int}{l:List zf}(h:(yd nodes l).2=0):2≤nodes∧nodes≤32:=by
 unfold yd at h
 split at h
 ·cases h
 ·omega
theorem zcd {nodes:Int}{f:zf}(h:yo nodes f=0)(h2:nodes≤32):yo 32 f=0:=by
 have:=yB h
 unfold yo
 rw[if_neg (by simp[yE];omega),if_neg (by omega),if_neg (by omega)]
theorem Je {n:zF}{before after:List ye}{s:zc}(h:yJ n before after s=0):(yd n.nodes (yN before after)).2=0:=by
 have hW:=qB h
 obtain⟨_,_,b3,b4⟩:=xu hW.rb
 obtain⟨_,_,a3,_⟩:=xu hW.ra
 obtain⟨n2,n32⟩:=ku b4
 refine Kv n2 n32 ?_ (fun f hf=>?_) (qz _ _ _)
 ·unfold yJ at h
  split at h
  ·cases h
  split at h
  ·cases h
  split at h
  ·cases h
  split at h
  ·cases h
  ·omega
 ·have h3:=(qF.1 hf).2.2
  unfold wF at h3
  cases hg:yx before f.id with
  | some x=>
   rw[hg]at h3
   simp only[Option.some.injEq]at h3
   rw[←h3];exact(b3 x (zY hg).1).flow
  | none=>
   rw[hg]at h3
   cases hy:yx after f.id with
   | none=>rw[hy]at h3;cases h3
   | some y=>
    rw[hy]at h3
    simp only[Option.map_some,Option.some.injEq]at h3
    rw[←h3];exact(a3 y (zY hy).1).flow
theorem zhK {before after:List ye}{id:Int}(h:Wr (zL before) id=true)(hr:0≤id∧id≤255):Wr (yN before after) id=true:=by
 rw[Qw]at h
 cases hg:yx before id with
 | none=>rw[hg]at h;cases h
 | some x=>
  refine List.any_eq_true.2 ⟨x.flow,qF.2 ?_,by simp[(zY hg).2]⟩
  have wp:=(zY hg).2
  rw[wp]
  refine⟨hr.1,by omega,?_⟩
  unfold wF
  rw[hg]
theorem zhJ {n:zF}{before after:List ye}{s:zc}(hW:X0 n before after s):∀f∈yN before after,s.len % f.period=0:=fun f hf=>by
 have h3:=(qF.1 hf).2.2
 unfold wF at h3
 cases hg:yx before f.id with
 | some x=>
  rw[hg]at h3
  simp only[Option.some.injEq]at h3
  rw[←h3];exact hW.pb x (zY hg).1
 | none=>
  rw[hg]at h3
  cases hy:yx after f.id with
  | none=>rw[hy]at h3;cases h3
  | some y=>
   rw[hy]at h3
   simp only[Option.map_some,Option.some.injEq]at h3
   rw[←h3];exact hW.pa y (zY hy).1
theorem zdK {n:zF}{before after:List ye}{s:zc}(h:yJ n before after s=0):(yU n (yN before after) s).2=0:=by
 have hW:=qB h
 have:=hW.vok.part2 (fun _=>true) (Je h) (zhJ hW) fun c hc _=>by
  obtain⟨i,hi⟩:=List.getElem?_of_mem hc
  have wp:=(hW.vok.cell i c hi).2.2.1
  refine zhK wp ?_
  rw[Qw]at wp
  cases hg:yx before c.flow with
  | none=>rw[hg]at wp;cases wp
  | some x=>
   obtain⟨m1,m2⟩:=zY hg
   have:=(qK hW.rb).ids x m1
   omega
 rwa [List.filter_eq_self.2 (fun _ _=>rfl)]at this
structure vg (n:zF)(before after:List ye)(s:zc)(l:List zJ):Prop where
 whole:yJ n before after s=0
 few:l.length≤1024
 step:∀(k:Nat) c,l[k]? = some c→kM n before after (l.take k) (ya s (l.take k)) c=0
 ends:YA n after (ya s l)=true
theorem ckOk {n:zF}{before after:List ye}{s:zc}{l:List zJ}(h:(xR n before after s l).2=0):vg n before after s l:=by
 unfold xR at h
 split at h
 ·rename_i h1;exact absurd h h1
 split at h
 ·cases h
 split at h
 ·rename_i h1;exact absurd h h1
 split at h
 ·cases h
 rename_i h1 h2 h3 h4
 refine⟨by omega,by omega,fun k c hk=>?_,by simpa using h4⟩
 have h5:=yw.1 (by omega:(zS (qj n before after s l) l.length).2=0) k (List.getElem?_eq_some_iff.1 hk).1
 unfold qj at h5
 rw[hk]at h5
 exact h5
theorem vg.check {n:zF}{before after:List ye}{s:zc}{l:List zJ}(h:vg n before after s l):xR n before after s l=(-1,0):=by
 have h5:zS (qj n before after s l) l.length=(-1,0):=xk fun j hj=>by
  unfold qj
  rw[List.getElem?_eq_getElem hj]
  exact h.step j _ (List.getElem?_eq_getElem hj)
 have:=h.few
 unfold xR
 rw[if_neg (by rw[h.whole];decide),if_neg (by omega),if_neg (by rw[h5];decide),if_neg (by rw[h.ends];decide)]
theorem qC {n:zF}{before after:List ye}{done:List zJ}{s:zc}{c:zJ}:kM n before after done s c=0↔wV (xr done) c=0∧(yi s c).2=0∧kz before after done c=false∧(yU n (yN before after) (yi s c).1).2=0∧Qp n before after (yi s c).1=true:=by
 unfold kM
 constructor
 ·intro h
  split at h
  ·rename_i h1;exact absurd h h1
  split at h
  ·rename_i h1;exact absurd h h1
  split at h
  ·cases h
  split at h
  ·cases h
  split at h
  ·cases h
  rename_i h1 h2 h3 h4 h5
  exact⟨by omega,by omega,by simpa using h3,by omega,by simpa using h5⟩
 ·rintro⟨h1,h2,h3,h4,h5⟩
  rw[if_neg (by omega),if_neg (by omega),if_neg (by rw[h3];decide),if_neg (by omega),if_neg (by rw[h5];decide)]
theorem Yx (l:List zJ)(c:zJ):xr (l++[c])=some c.slot:=by unfold xr;simp
theorem zfH {p:Option Int}{c:zJ}(h:wV p c=0):0≤c.slot∧∀q,p=some q→q≤c.slot:=by
 unfold wV at h
 split at h
 ·cases h
 refine⟨by omega,fun q hq=>?_⟩
 subst hq
 simp only at h
 split at h
 ·cases h
 ·omega
theorem zhM {s:zc}:∀(rest done:List zJ),(∀(k:Nat) c,rest[k]? = some c→wV (xr (done++rest.take k)) c=0∧(yi (ya s (done++rest.take k)) c).2=0)→(xj (xr done) (ya s done) rest).2=0
 | [],_,_=>rfl
 | c :: rest,done,h=>by
  have h0:=h 0 c rfl
  rw[List.take_zero,List.append_nil]at h0
  have ih:=zhM (s:=s) rest (done++[c]) fun k d hk=>by
   have:=h (k+1) d hk
   rw[List.take_succ_cons,List.append_cons]at this
   exact this
  unfold xj
  rw[if_neg (by omega),if_neg (by omega)]
  simp only
  rw[Yx]at ih
  have e:ya s (done++[c])=(yi (ya s done) c).1:=by unfold ya;rw[List.foldl_append];rfl
  rw[e]at ih
  exact ih
section
variable {n:zF} {before after:List ye} {s:zc} {l:List zJ}
theorem vg.wrong (h:vg n before after s l):qg s l=0:=by
 have hW:=qB h.whole
 have:=h.few
 unfold qg
 rw[if_neg (by rw[hW.vok.form];decide),if_neg (by omega)]
 refine zhM l [] fun k c hk=>?_
 have:=qC.1 (h.step k c hk)
 exact⟨this.1,this.2.1⟩
theorem vg.valid (h:vg n before after s l):∀k,(yU n (yN before after) (ya s (l.take k))).2=0
 | 0=>zdK h.whole
 | k+1=>by
  cases hk:l[k]? with
  | none=>
   have hl:l.length≤k:=by
    rcases Nat.lt_or_ge k l.length with h|h
    ·rw[List.getElem?_eq_getElem h]at hk;cases hk
    ·exact h
   have:=h.valid k
   rw[List.take_of_length_le hl]at this
   rw[List.take_of_length_le (by omega)]
   exact this
  | some c=>
   rw[wG hk]
   exact(qC.1 (h.step k c hk)).2.2.2.1
end
end HM
