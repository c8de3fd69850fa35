/- Changes with the earliest slots: they have no fault either, none comes too early, and one slot earlier would be too early. -/
import Derived.Test.YtggiajmlnieidaaGreatDoorDd
import Derived.Test.YtggiajmlnieidaaGreatDoorDc
import Derived.Test.YtggiajmlnieidaaGreatDoorDa
import Derived.Test.YtggiajmlnieidaaGreatDoorDb
namespace HM
open Go Go.RowKit
theorem vB {before after:List ye}{id:Int}{x y:ye}(h:wz before after id=some (x,y)):yx before id=some x∧yx after id=some y:=by
 unfold wz at h
 cases hb:yx before id with
 | none=>rw[hb]at h;cases h
 | some x'=>
  cases ha:yx after id with
  | none=>rw[hb,ha]at h;cases h
  | some y'=>rw[hb,ha]at h;cases h;exact⟨rfl,rfl⟩
theorem zbh {n:zF}{before after:List ye}{s:zc}(hW:X0 n before after s)(id:Int):jH before after id=(wz before after id).isSome:=by
 unfold jH
 cases h:wz before after id with
 | none=>rfl
 | some p=>
  obtain⟨x,y⟩:=p
  obtain⟨h1,h2⟩:=vB h
  obtain⟨m1,m2⟩:=zY h1
  simp[hW.same x m1 y (by rw[m2];exact h2)]
section
variable {flows:List zf} {fr:Int} {l o:List zJ}
theorem JL {k:Nat}{d:zJ}(h:o[k]? = some d):xr (o.take (k+1))=some d.slot:=by rw[zK h,Yx]
end
section
variable {n:zF} {before after:List ye} {s:zc} {l o:List zJ} {fr:Int}
theorem zfC {done:List zJ}{c:zJ}(h:kz before after done c=false)(hc:c.add=false){x y:ye}(hq:wz before after c.cell.flow=some (x,y)){d:zJ}(hd:d∈done)(ha:d.add=true)(hf:d.cell.flow=c.cell.flow):x.flow.period≤IntKind.i64.wrap (c.slot-d.slot):=by
 unfold kz at h
 rw[hc,hq,Bool.not_false,Bool.true_and]at h
 simp only at h
 have:=List.any_eq_false.1 h d hd
 unfold zdv at this
 simp only[ha,hf,Bool.true_and,beq_self_eq_true,decide_eq_true_eq]at this
 omega
end
structure zcT (f:zf)(s:zc)(sc:Nat→zc)(lo hi:Int):Prop where
 form:∀t:Nat,lo≤t→t < hi→yc (sc t)=true
 len:∀t:Nat,lo≤t→t < hi→(sc t).len=s.len
 sub:∀t:Nat,lo≤t→t < hi→∀a b,(yp s f a b).Sublist (yp (sc t) f a b)
theorem W4 {l:List zf}{sc:Nat→zc}{s:zc}{f:zf}{lo hi:Int}(ho:zcT f s sc lo hi)(x:List zD){N k A:Nat}{a b:Int}(hlo:lo≤A):∀d:Nat,A+d≤N→(A:Int)+d≤hi →
  (∀t:Nat,A≤t→t < A+d→∀c:zg,jL f.id a b c=false→Vi l (yf l sc x N).atts (t:Nat) c=some (((t:Nat):Int),((k:Nat):Int),c)) →
  (xV (yp s f a b) s.len A d).length≤(yf l sc x (A+d)).atts.countP (Vh [f.id,(k:Nat),a,b])
 | 0,_,_,_=>by simp[xV]
 | d+1,hN,hh,hg=>by
  have ih:=W4 ho x (N:=N) (k:=k) (A:=A) (a:=a) (b:=b) hlo d (by omega) (by omega) fun t h1 h2=>hg t h1 (by omega)
  obtain⟨late,e1,_,e3⟩:=jI l (sc (A+d)) x (yf l sc x (A+d)) ((A+d:Nat):Int)
  obtain⟨l6,h6,h7⟩:=qN l sc x (A+d) (N-(A+d))
  rw[show A+d+(N-(A+d))=N by omega]at h6
  have e4:(yf l sc x (A+(d+1))).atts=(yf l sc x (A+d)).atts++late:=e1
  rw[e4,List.countP_append,xV,List.length_append,List.length_map]
  have h8:late.countP (Vh [f.id,(k:Nat),a,b])=(late.map zgR).countP (fun p:Int×Int×zg=>[p.2.2.flow,p.2.1,p.2.2.src,p.2.2.dst]==[f.id,(k:Nat),a,b]):=by rw[List.countP_map];rfl
  rw[h8,e3]
  have hfm:=ho.form (A+d) (by omega) (by omega)
  have hln:=ho.len (A+d) (by omega) (by omega)
  have h9:((yp s f a b).filter fun c=>c.slot==((A:Int)+(d:Nat)) % s.len).length≤((Jh (sc (A+d)) ((A+d:Nat):Int)).filter fun c=>!jL f.id a b c).length:=by
   refine Nat.le_trans ((ho.sub (A+d) (by omega) (by omega) a b).filter _).length_le ?_
   unfold Jh yp
   rw[if_neg (by rw[hfm];intro h;rcases h with h|h<;>first|cases h|omega),List.filter_filter,List.filter_filter,Int.natCast_add,hln]
   refine Nat.le_of_eq ?_
   congr 1
   refine List.filter_congr fun c _=>?_
   rw[Bool.and_comm]
  refine Nat.add_le_add ih (Nat.le_trans h9 (QI fun c hc hq=>?_))
  have h10:=hg (A+d) (by omega) (by omega) c (by simpa using hq)
  rw[h6,Wu l h7]at h10
  refine⟨_,h10,?_⟩
  unfold jL at hq
  simp only[Bool.not_or,Bool.and_eq_true,Bool.not_eq_true',bne_eq_false_iff_eq]at hq
  simp only[beq_iff_eq,List.cons.injEq,and_true,true_and]
  exact⟨hq.1.1,hq.1.2,hq.2⟩
theorem zkL {l:List zf}(hl:xE l){j:Nat}{sc:Nat→zc}{n:zF}{s:zc}{f:zf}{r:List Int}(h0:yS n=0)(hw:xS n s f r)(hj:l[j]? = some f)(x:List zD){N k:Nat}(ho:zcT f s sc (f.phase+(k:Nat)*f.period) (f.phase+(k:Nat)*f.period+f.period))(hbig:f.phase+(k:Nat)*f.period+f.period≤1099511627776)
  (hnb:Y8 n f r (yf l sc x N) (k:Nat)):∀(i:Nat) (o:List Int) (a:Int),i+1≤r.length→yb n s f r (f.phase+(k:Nat)*f.period) 0 i=some (o,a)→(∀y∈o,y < (N:Nat))→xz f (yf l sc x N).atts (r.getD i 0) (k:Nat) a=true
 | 0,o,a,_,_,_=>by unfold xz;rw[hw.ends.1];simp
 | i+1,o,a,hi,hs,hN=>by
  have hf:=hw.flow
  have hfl:=hl.ok _ _ hj
  have hk0:0≤((k:Nat):Int)*f.period:=Int.mul_nonneg (by omega) (by omega)
  unfold yb at hs
  split at hs
  ·cases hs
  rename_i o' a' h'
  simp only at hs
  split at hs
  ·cases hs
  rename_i hlen
  injection hs with hs;injection hs with e1 e2
  subst e1
  have ih:=zkL hl h0 hw hj x ho hbig hnb i o' a' (by omega) h' fun y hy=>hN y (List.mem_append_left _ hy)
  obtain⟨m,lk,g1,g2,g3,g4,g5,g6,g7⟩:=hw.at (i:=i) (by omega)
  have hneed:((yk n r 0 i:Nat):Int)=lk.loss+1:=by unfold yk;rw[g7];omega
  obtain⟨h,hh⟩:∃h,h=yZ s f (r.getD i 0) (r.getD (i+1) 0) (yk n r 0 i) a' (f.phase+(k:Nat)*f.period+f.period):=⟨_,rfl⟩
  rw[←hh]at e2 hlen hN
  have hne:h≠[]:=by intro e;rw[e]at hlen;simp at hlen;omega
  obtain⟨L,hL⟩:∃L,h.getLast? = some L:=⟨_,List.getLast?_eq_some_getLast hne⟩
  have hLN:=hN L (List.mem_append_right _ (List.mem_of_getLast? hL))
  have ha:a=L+1:=by rw[←e2];unfold vn;rw[hL]
  obtain⟨_,ha',_,_⟩:=wY (by omega) h'
  have hLm:=v7 (hh▸List.mem_of_getLast? hL)
  have hcnt:=Ym (hh▸hL) (by rw[←hh];omega)
  apply Decidable.byContradiction
  intro hno
  have hno2:∀b∈(yf l sc x N).atts,ko f.id (k:Nat) (r.getD (i+1) 0) b=true→¬b.slot < a:=fun b hb hg hs=>hno (by
   unfold xz
   simp only[Bool.or_eq_true,List.any_eq_true,Bool.and_eq_true,decide_eq_true_eq]
   exact .inr ⟨b,hb,hg,hs⟩)
  obtain⟨A,rfl⟩:∃A:Nat,a'=A:=⟨a'.toNat,by omega⟩
  obtain⟨d,hd⟩:∃d,d=(L+1-(A:Nat)).toNat:=⟨_,rfl⟩
  rw[←hd]at hcnt
  have hAd:((A+d:Nat):Int)=L+1:=by omega
  have hgen:=W4 (l:=l) ho x (N:=N) (k:=k) (A:=A) (a:=r.getD i 0) (b:=r.getD (i+1) 0) (by omega) d (by omega) (by omega) fun t h1 h2 c hc=>by
   have hc2:(!jL f.id (r.getD i 0) (r.getD (i+1) 0) c)=true:=by rw[hc];rfl
   unfold jL at hc2
   simp only[Bool.not_or,Bool.and_eq_true,Bool.not_eq_true',bne_eq_false_iff_eq]at hc2
   have hcm:=zeq (k:=(k:Nat)) (t:=(t:Nat)) hfl (by omega) (by omega) (by omega) (by omega)
   unfold Vi
   have hff:xm l c.flow=(j:Int):=by rw[hc2.1.1];exact hl.find hj
   rw[hff,if_neg (by omega)]
   simp only[Int.toNat_natCast,hj,hcm]
   rw[if_neg ?_]
   intro hor
   rcases hor with hor|hor|hor|hor
   ·cases hor
   ·rw[hc2.1.2,←hw.ends.2]at hor
    exact zdx hw.dup (by omega) (by omega) hor
   ·rw[hc2.1.2,W2 ih (by omega)]at hor;cases hor
   ·unfold vP at hor
    simp only[List.any_eq_true,Bool.and_eq_true,decide_eq_true_eq,beq_iff_eq]at hor
    obtain⟨b,hb,⟨hb1,hb2⟩,hb3⟩:=hor
    refine hno2 b hb ?_ (by omega)
    unfold onA at hb1
    simp only[Bool.and_eq_true,beq_iff_eq]at hb1
    unfold ko
    simp only[Bool.and_eq_true,beq_iff_eq,bne_iff_ne]
    exact⟨⟨⟨hb1.1.1.1.trans hc2.1.1,hb1.1.1.2⟩,hb1.2.trans hc2.2⟩,by omega⟩
  obtain⟨K,hK⟩:∃K:List Int,K=[f.id,(k:Nat),r.getD i 0,r.getD (i+1) 0]:=⟨_,rfl⟩
  rw[←hK]at hgen
  obtain⟨l6,h6,h7⟩:=qN l sc x (A+d) (N-(A+d))
  rw[show A+d+(N-(A+d))=N by omega]at h6
  have hnack:∀b∈(yf l sc x (A+d)).atts,b.key=K→b.out≠1:=fun b hb hbk ho=>by
   have hs:=Zk l sc x (A+d) b hb
   refine hno2 b (h6▸List.mem_append_left _ hb) ?_ (by omega)
   rw[hK]at hbk
   unfold y9.key at hbk
   injection hbk with q1 hbk;injection hbk with q2 hbk;injection hbk with q3 hbk;injection hbk with q4 hbk
   unfold ko
   simp only[Bool.and_eq_true,beq_iff_eq,bne_iff_ne]
   exact⟨⟨⟨q1,q2⟩,q4⟩,by omega⟩
  have hrow:=VU hnack
  cases hbk:(Y1 K lk.loss (yf l sc x (A+d)).atts).2 with
  | none=>
   have q1:=XU g5 hbk
   rw[zeE hbk]at q1
   omega
  | some sl=>
   have q1:=zcH (post:=l6) sl hbk
   rw[←h6]at q1
   have hpos:0 < (yf l sc x (A+d)).atts.countP (Vh K):=by omega
   obtain⟨b,hb,hbk2⟩:=List.countP_pos_iff.1 hpos
   have hmem:(xL.of K sl)∈j0 n (yf l sc x N):=by
    unfold j0
    rw[if_pos h0,Zi (Nat.le_refl _),List.take_length]
    have hkk:(xL.of K sl).key=K:=by rw[hK];rfl
    refine⟨⟨b,h6▸List.mem_append_left _ hb,by rw[hkk];exact eq_of_beq hbk2⟩,?_,?_⟩
    ·rw[hkk,hK]
     show 0≤xf n (r.getD i 0) (r.getD (i+1) 0)
     omega
    ·rw[hkk]
     have hls:wi n K=lk.loss:=by
      rw[hK]
      show Qi n (r.getD i 0) (r.getD (i+1) 0)=lk.loss
      rw[←g3,←g4,Ki hw.net g2]
     rw[hls]
     exact q1
   exact hnb i (by omega) _ hmem (by rw[hK];rfl)
theorem zaM {l:List zf}(hfs:xE l){j:Nat}{sc:Nat→zc}{n:zF}{s:zc}{f:zf}{r:List Int}(h0:yS n=0)(hw:xS n s f r)(hj:l[j]? = some f){B:Bnd}(hb:xl n s f r 0=some B)(x:List zD){N k:Nat}(ho:zcT f s sc (f.phase+(k:Nat)*f.period) (f.phase+(k:Nat)*f.period+f.period))(hbig:f.phase+(k:Nat)*f.period+f.period≤1099511627776)(hN:f.phase+(k:Nat)*f.period+B.b≤(N:Nat))
  (hnb:Y8 n f r (yf l sc x N) (k:Nat)):∃t,jB (yf l sc x N) f.id (k:Nat)=(t,true)∧t-(f.phase+(k:Nat)*f.period)+1≤B.b∧0≤t:=by
 have hf:=hw.flow
 have hl:=hw.len
 obtain⟨b,lt,h1,h2⟩:=zbT hw hb k
 unfold vD j9 at h1
 cases hs:yb n s f r (f.phase+(k:Nat)*f.period) 0 (r.length-1) with
 | none=>rw[hs]at h1;cases h1
 | some p=>
  obtain⟨o,a⟩:=p
  rw[hs]at h1
  simp only[Option.map_some,Option.some.injEq,Prod.mk.injEq]at h1
  have hlt:=VP hw (by omega) hs
  obtain⟨e,he⟩:∃e,r.length-1=e+1:=⟨r.length-2,by omega⟩
  have hlast:o.getLast? = some (a-1):=by
   obtain⟨m,lk,g1,g2,g3,g4,g5,g6,g7⟩:=hw.at (i:=e) (by omega)
   rw[he]at hs
   exact Xd (by unfold yk;rw[g7];omega) hs
  have hld:o.getLastD 0=a-1:=by rw[List.getLastD_eq_getLast?,hlast];rfl
  rw[hld]at h1
  have hh:=zkL hfs h0 hw hj x ho hbig hnb (r.length-1) o a (by omega) hs fun y hy=>by have:=hlt y hy;omega
  rw[hw.ends.2]at hh
  unfold xz at hh
  simp only[Bool.or_eq_true,beq_iff_eq,List.any_eq_true,Bool.and_eq_true,decide_eq_true_eq]at hh
  rcases hh with hh|⟨c,hc,hg,hs2⟩
  ·exact absurd hh.symm hf.2.2.2.2.2.2.2.2
  ·unfold ko at hg
   simp only[Bool.and_eq_true,beq_iff_eq,bne_iff_ne]at hg
   obtain⟨hD,_⟩:=Kc hfs sc x N
   obtain⟨d,hd,hd1,hd2,hd3⟩:=hD.to c hc ⟨j,f,hj,hg.1.1.1.symm,hg.1.2,hg.2⟩
   obtain⟨c2,hc2,hc3,_⟩:=hD.fm d hd
   have hnn:=Yr l sc x N c2 hc2
   refine⟨d.slot,?_,by omega,by omega⟩
   unfold jB
   have:=ziE hD.un hd
   rw[hd1,hd2,hg.1.1.1,hg.1.1.2]at this
   rw[this]
theorem zaB {α:Type}(l:List α)(p:Nat)(x:α){q:α→Bool}(hx:q x=false):(xX l p x).filter q=l.filter q:=by
 unfold xX
 rw[List.filter_append,List.filter_cons,if_neg (by rw[hx];decide),←List.filter_append,List.take_append_drop]
theorem zaC {α:Type}{l:List α}{p:Nat}{x:α}{q:α→Bool}(hp:l[p]? = some x)(hx:q x=false):(vd l p).filter q=l.filter q:=by
 obtain⟨h1,rfl⟩:=List.getElem?_eq_some_iff.1 hp
 unfold vd
 conv=>rhs;rw[←List.take_append_drop p l,List.drop_eq_getElem_cons h1,List.filter_append,List.filter_cons,if_neg (by rw[hx];decide),←List.filter_append]
theorem zeW {α:Type}(l:List α)(p:Nat)(x:α):l.Sublist (xX l p x):=by
 unfold xX
 conv=>lhs;rw[←List.take_append_drop p l]
 exact(List.Sublist.refl _).append (List.sublist_cons_self ..)
theorem Ke {f:zf}{a b:Int}{c:zg}(h:c.flow≠f.id):(!jL f.id a b c)=false:=by unfold jL;simp[h]
section
variable {s:zc} {c:zJ} {f:zf}
theorem ziO (h:(yi s c).2=0):(yi s c).1.len=s.len:=by
 unfold yi at h ⊢
 split at h
 ·rename_i hc
  rw[if_pos hc]
  rw[(VD (t:=(kK s c.cell).1) (by rw[←h])).2.2.2.2]
 ·rename_i hc
  rw[if_neg hc]
  unfold YK at h ⊢
  split at h
  ·cases h
  split at h
  ·cases h
  rename_i h1 h2
  rw[if_neg h1,if_neg h2]
theorem KG (h:(yi s c).2=0)(hc:c.cell.flow≠f.id)(a b:Int):yp (yi s c).1 f a b=yp s f a b:=by
 unfold yi at h ⊢
 split at h
 ·rename_i ha
  rw[if_pos ha]
  rw[(VD (t:=(kK s c.cell).1) (by rw[←h])).2.2.2.2]
  exact zaB _ _ _ (Ke hc)
 ·rename_i ha
  rw[if_neg ha]
  unfold YK at h ⊢
  split at h
  ·cases h
  split at h
  ·cases h
  rename_i h1 h2
  rw[if_neg h1,if_neg h2]
  exact zaC (zel (by simpa using h2)) (Ke hc)
theorem ziP (h:(yi s c).2=0)(ha:c.add=true)(a b:Int):(yp s f a b).Sublist (yp (yi s c).1 f a b):=by
 unfold yi at h ⊢
 rw[if_pos ha]at h ⊢
 rw[(VD (t:=(kK s c.cell).1) (by rw[←h])).2.2.2.2]
 exact(zeW _ _ _).filter _
theorem ziN (h:(yi s c).2=0)(ha:c.add=false)(a b:Int):(yp (yi s c).1 f a b).Sublist (yp s f a b):=by
 unfold yi at h ⊢
 rw[if_neg (by rw[ha];decide)]at h ⊢
 unfold YK at h ⊢
 split at h
 ·cases h
 split at h
 ·cases h
 rename_i h1 h2
 rw[if_neg h1,if_neg h2]
 exact(KD _ _).filter _
end
section
variable {n:zF} {before after:List ye} {s:zc} {l:List zJ} {f:zf}
theorem vg.chg (h:vg n before after s l){k:Nat}{c:zJ}(hc:l[k]? = some c):(yi (ya s (l.take k)) c).2=0:=(qC.1 (h.step k c hc)).2.1
theorem vg.len (h:vg n before after s l):∀k,(ya s (l.take k)).len=s.len
 | 0=>rfl
 | k+1=>by
  cases hk:l[k]? with
  | none=>
   have hl:l.length≤k:=by
    rcases Nat.lt_or_ge k l.length with h|h
    ·rw[List.getElem?_eq_getElem h]at hk;cases hk
    ·exact h
   have:=h.len k
   rw[List.take_of_length_le hl]at this
   rw[List.take_of_length_le (by omega)]
   exact this
  | some c=>rw[wG hk,ziO (h.chg hk),h.len k]
theorem vg.vok (h:vg n before after s l)(k:Nat):VOk n (yN before after) (ya s (l.take k)):=ZS (h.valid k)
theorem vg.form (h:vg n before after s l)(k:Nat):yc (ya s (l.take k))=true:=(h.vok k).form
theorem vg.up (h:vg n before after s l)(a b:Int){m:Nat}:∀(d:Nat),(∀i c,m≤i→i < m+d→l[i]? = some c→c.cell.flow=f.id→c.add=true)→(yp (ya s (l.take m)) f a b).Sublist (yp (ya s (l.take (m+d))) f a b)
 | 0,_=>List.Sublist.refl _
 | d+1,hh=>by
  have ih:=h.up a b d fun i c h1 h2=>hh i c h1 (by omega)
  refine ih.trans ?_
  cases hk:l[m+d]? with
  | none=>
   have hl:l.length≤m+d:=by
    rcases Nat.lt_or_ge (m+d) l.length with h|h
    ·rw[List.getElem?_eq_getElem h]at hk;cases hk
    ·exact h
   rw[List.take_of_length_le hl,List.take_of_length_le (by omega)]
   exact List.Sublist.refl _
  | some c=>
   rw[show m+(d+1)=m+d+1 from rfl,wG hk]
   by_cases hf:c.cell.flow=f.id
   ·exact ziP (h.chg hk) (hh (m+d) c (by omega) (by omega) hk hf) a b
   ·rw[KG (h.chg hk) hf];exact List.Sublist.refl _
theorem vg.down (h:vg n before after s l)(a b:Int){m:Nat}:∀(d:Nat),(∀i c,m≤i→i < m+d→l[i]? = some c→c.cell.flow=f.id→c.add=false)→(yp (ya s (l.take (m+d))) f a b).Sublist (yp (ya s (l.take m)) f a b)
 | 0,_=>List.Sublist.refl _
 | d+1,hh=>by
  have ih:=h.down a b d fun i c h1 h2=>hh i c h1 (by omega)
  refine List.Sublist.trans ?_ ih
  cases hk:l[m+d]? with
  | none=>
   have hl:l.length≤m+d:=by
    rcases Nat.lt_or_ge (m+d) l.length with h|h
    ·rw[List.getElem?_eq_getElem h]at hk;cases hk
    ·exact h
   rw[List.take_of_length_le hl,List.take_of_length_le (by omega)]
   exact List.Sublist.refl _
  | some c=>
   rw[show m+(d+1)=m+d+1 from rfl,wG hk]
   by_cases hf:c.cell.flow=f.id
   ·exact ziN (h.chg hk) (hh (m+d) c (by omega) (by omega) hk hf) a b
   ·rw[KG (h.chg hk) hf];exact List.Sublist.refl _
theorem vg.sorted (h:vg n before after s l):∀(j k:Nat) (c d:zJ),l[k]? = some c→l[k+j]? = some d→c.slot≤d.slot
 | 0,k,c,d,hc,hd=>by rw[Nat.add_zero,hc]at hd;cases hd;omega
 | j+1,k,c,d,hc,hd=>by
  have hlt:k+j < l.length:=by have:=(List.getElem?_eq_some_iff.1 hd).1;omega
  have h1:=h.sorted j k c _ hc (List.getElem?_eq_getElem hlt)
  have h2:=(zfH (qC.1 (h.step (k+j+1) d hd)).1).2 _ (JL (List.getElem?_eq_getElem hlt))
  omega
theorem Wh {α:Type}{p:α→Bool}:∀{l:List α} {x:α},x∈l.takeWhile p→p x=true
 | [],_,h=>by cases h
 | a :: l,x,h=>by
  rw[List.takeWhile_cons]at h
  cases ha:p a with
  | true=>
   rw[if_pos ha]at h
   rcases List.mem_cons.1 h with rfl|h
   ·exact ha
   ·exact Wh h
  | false=>rw[if_neg (by rw[ha];decide)]at h;cases h
theorem zh7 {t:Int}:∀{l:List zJ} {i:Nat} {c:zJ},i < (xM l t).length→l[i]? = some c→c.slot≤t:=fun {l i c} hi hc=>by
 have h1:(xM l t)[i]? = some c:=by
  rw[ZO,List.getElem?_take,if_pos hi];exact hc
 have h2:=List.mem_of_getElem? h1
 unfold xM at h2
 have:=Wh h2
 simpa using this
theorem qH {α:Type}{p:α→Bool}:∀{l:List α} {x:α},l[(l.takeWhile p).length]? = some x→p x=false
 | [],_,h=>by cases h
 | a :: l,x,h=>by
  rw[List.takeWhile_cons]at h
  cases ha:p a with
  | true=>rw[if_pos ha,List.length_cons,List.getElem?_cons_succ]at h;exact qH h
  | false=>rw[if_neg (by rw[ha];decide)]at h;cases h;exact ha
theorem vg.out (h:vg n before after s l){t:Int}{i:Nat}{c:zJ}(hi:(xM l t).length≤i)(hc:l[i]? = some c):t < c.slot:=by
 have hil:=(List.getElem?_eq_some_iff.1 hc).1
 have h1:(xM l t).length < l.length:=by omega
 have h2:=qH (p:=fun c:zJ=>decide (c.slot≤t)) (List.getElem?_eq_getElem h1)
 have h3:=h.sorted (i-(xM l t).length) (xM l t).length _ c (List.getElem?_eq_getElem h1) (by rw[show(xM l t).length+(i-(xM l t).length)=i by omega];exact hc)
 simp only[decide_eq_false_iff_not]at h2
 omega
theorem vg.now (h:vg n before after s l)(t:Int):jd s l t=ya s (xM l t):=by
 have hb:=(zgl h.wrong).2.2
 rw[←zjd t hb,KP hb]
theorem vg.over (h:vg n before after s l){m:Nat}{lo hi:Int}(_hm:m≤l.length)(h1:∀i c,m≤i→l[i]? = some c→c.slot < hi→c.cell.flow=f.id→c.add=true)(h2:∀i c,i < m→l[i]? = some c→lo < c.slot→c.cell.flow=f.id→c.add=false):zcT f (ya s (l.take m)) (fun t=>jd s l (t:Int)) lo hi where
 form:=fun t _ _=>by rw[h.now,ZO];exact h.form _
 len:=fun t _ _=>by rw[h.now,ZO,h.len,h.len]
 sub:=fun t hlo hhi a b=>by
  rw[h.now,ZO]
  rcases Nat.le_total m (xM l t).length with hle|hle
  ·have:=h.up (f:=f) a b (m:=m) ((xM l t).length-m) fun i c hi1 hi2 hc hf=>h1 i c hi1 hc (by have:=zh7 (t:=t) (by omega) hc;omega) hf
   rwa [show m+((xM l t).length-m)=(xM l t).length by omega]at this
  ·have:=h.down (f:=f) a b (m:=(xM l t).length) (m-(xM l t).length) fun i c hi1 hi2 hc hf=>h2 i c (by omega) hc (by have:=h.out (t:=t) hi1 hc;omega) hf
   rwa [show(xM l t).length+(m-(xM l t).length)=m by omega]at this
def zbD (l:List zJ)(id:Int)(p:Int→Bool):Bool:=(l.filter fun c=>c.cell.flow==id).any fun c=>p c.slot
def qR (before after:List ye)(l:List zJ)(id slot:Int):List (List Int):=match wz before after id with
 | some (x,y)=>if zbD l id (fun u=>decide (u≤slot+(x.flow.period-1)))=false then x.routes else if zbD l id (fun u=>decide (slot < u))=false then y.routes else xa x.routes y.routes
 | none=>[]
theorem zed {id:Int}{p:Int→Bool}(h:zbD l id p=false){i:Nat}{c:zJ}(hc:l[i]? = some c)(hf:c.cell.flow=id):p c.slot=false:=by
 unfold zbD at h
 have:=List.any_eq_false.1 h c (List.mem_filter.2 ⟨List.mem_of_getElem? hc,by simpa using hf⟩)
 simpa using this
theorem W6 (h:vg n before after s l){x y:ye}(hq:wz before after f.id=some (x,y))(hf:x.flow=f){slot:Int}(_h0:0≤slot)(_hs:slot≤1099511627776) :
  ∃m r,m≤l.length∧r∈qR before after l f.id slot∧Zu n (ya s (l.take m)) f r 0=true∧xS n (ya s (l.take m)) f r∧zcT f (ya s (l.take m)) (fun t=>jd s l (t:Int)) slot (slot+f.period):=by
 have hW:=qB h.whole
 obtain⟨q1,q2⟩:=vB hq
 obtain⟨m1,m2⟩:=zY q1
 obtain⟨m3,m4⟩:=zY q2
 have hxo:=(xu hW.rb).2.2.1 x m1
 have hyo:=(xu hW.ra).2.2.1 y m3
 have hyf:y.flow=f:=by rw[hW.same x m1 y (by rw[m2];exact q2),hf]
 have hper:=yB hxo.flow
 rw[hf]at hper
 have hwx:∀k,∀r∈x.routes,xS n (ya s (l.take k)) f r:=fun k r hr=>Y4 (jF hW.n0 (h.form k) hxo (by rw[h.len];exact hW.pb x m1) hf.symm (by rw[←hf];exact hxo.route r hr))
 have hwy:∀k,∀r∈y.routes,xS n (ya s (l.take k)) f r:=fun k r hr=>Y4 (jF hW.n0 (h.form k) hyo (by rw[h.len];exact hW.pa y m3) hyf.symm (by rw[←hyf];exact hyo.route r hr))
 have hmk:(xh n before s).2.2=0:=by
  have hw:=h.whole
  unfold yJ at hw
  split at hw
  ·cases hw
  ·rename_i h1;simp only[not_or,ne_eq,Decidable.not_not]at h1;exact h1.1
 have hbx:∀r∈x.routes,Zu n s f r 0=true:=fun r hr=>by
  have hc:=(qO hmk).2.2.1 x m1
  unfold vN at hc
  have:=List.all_eq_true.1 hc r hr
  unfold Yc yv at this
  have hwe:vx n s x.flow r=0:=jF hW.n0 hW.vok.form hxo (hW.pb x m1) rfl (hxo.route r hr)
  rw[if_neg (by simp[hwe])]at this
  rw[←hf,jS]
  cases hb:xl n s x.flow r 0 with
  | none=>rw[hb]at this;simp at this
  | some B=>rw[hb]at this;exact⟨B,rfl,by simpa using this⟩
 obtain⟨r0,hr0⟩:∃r,r∈x.routes:=by
  have:=hxo.len.1
  cases hxr:x.routes with
  | nil=>rw[hxr]at this;simp at this
  | cons a b=>exact⟨a,List.mem_cons_self ..⟩
 obtain⟨r1,hr1⟩:∃r,r∈y.routes:=by
  have:=hyo.len.1
  cases hxr:y.routes with
  | nil=>rw[hxr]at this;simp at this
  | cons a b=>exact⟨a,List.mem_cons_self ..⟩
 unfold qR
 rw[hq]
 simp only
 rw[hf]
 by_cases c1:zbD l f.id (fun u=>decide (u≤slot+(f.period-1)))=false
 ·rw[if_pos c1]
  refine⟨0,r0,by omega,hr0,hbx r0 hr0,hwx 0 r0 hr0,h.over (by omega) (fun i c _ hc hlt hfl=>?_) fun i c hi=>by omega⟩
  have:=zed c1 hc hfl
  simp only[decide_eq_false_iff_not]at this
  omega
 rw[if_neg c1]
 by_cases c2:zbD l f.id (fun u=>decide (slot < u))=false
 ·rw[if_pos c2]
  have he:=h.ends
  have hv:=h.vok l.length
  rw[List.take_length]at hv
  rw[zhi (s:=ya s l) (L:=yN before after) hW (by have:=h.len l.length;rwa [List.take_length]at this) hv]at he
  have hfit:=List.all_eq_true.1 (List.all_eq_true.1 he y m3) r1 hr1
  rw[hyf]at hfit
  refine⟨l.length,r1,by omega,hr1,by rw[List.take_length];exact hfit,hwy _ r1 hr1,h.over (by omega) (fun i c hi hc=>by have:=(List.getElem?_eq_some_iff.1 hc).1;omega) fun i c _ hc hlt hfl=>?_⟩
  have:=zed c2 hc hfl
  simp only[decide_eq_false_iff_not]at this
  omega
 rw[if_neg c2]
 obtain⟨m,hm,hm1,hm2⟩:∃m,m≤l.length∧(∀i c,i < m→l[i]? = some c→slot < c.slot→c.cell.flow=f.id→c.add=false)∧(∀c,l[m]? = some c→slot < c.slot∧c.cell.flow=f.id∧c.add=true):=by
  refine⟨(l.takeWhile fun c=>!(decide (slot < c.slot)&&(c.cell.flow==f.id&&c.add))).length,(List.takeWhile_prefix _).length_le,fun i c hi hc h1 h2=>?_,fun c hc=>?_⟩
  ·have h3:(l.takeWhile fun c=>!(decide (slot < c.slot)&&(c.cell.flow==f.id&&c.add)))[i]? = some c:=by
    have hp:l.takeWhile (fun c=>!(decide (slot < c.slot)&&(c.cell.flow==f.id&&c.add))) <+: l:=List.takeWhile_prefix _
    rw[List.prefix_iff_eq_take.1 hp,List.getElem?_take,if_pos hi];exact hc
   have h4:=Wh (List.mem_of_getElem? h3)
   simpa[h1,h2] using h4
  ·have:=qH hc
   simpa using this
 obtain⟨r,hr,hfit,hway⟩:∃r,r∈xa x.routes y.routes∧Zu n (ya s (l.take m)) f r 0=true∧xS n (ya s (l.take m)) f r:=by
  have hwu:∀r∈xa x.routes y.routes,∀k,xS n (ya s (l.take k)) f r:=fun r hr k=>by
   unfold xa at hr
   rcases List.mem_append.1 hr with hr|hr
   ·exact hwx k r hr
   ·exact hwy k r (List.mem_filter.1 hr).1
  cases m with
  | zero=>
   have hu:r0∈xa x.routes y.routes:=List.mem_append_left _ hr0
   exact⟨r0,hu,hbx r0 hr0,hwu r0 hu 0⟩
  | succ k=>
   obtain⟨c,hc⟩:=zr (l:=l) (k:=k) (by omega)
   have hkeep:=(qC.1 (h.step k c hc)).2.2.2.2
   rw[←wG hc,zgS hW (h.len _) (h.form _)]at hkeep
   have hx:=List.all_eq_true.1 hkeep x m1
   have hyq:yx after x.flow.id=some y:=by rw[m2];exact q2
   rw[hyq]at hx
   simp only at hx
   rw[zbh hW,m2,hq]at hx
   simp only[Option.isSome_some,Bool.not_true,Bool.false_or]at hx
   obtain⟨r,hr,hrf⟩:=List.any_eq_true.1 hx
   rw[hf]at hrf
   exact⟨r,hr,hrf,hwu r hr _⟩
 refine⟨m,r,hm,hr,hfit,hway,h.over hm (fun i c hi hc hlt hfl=>?_) hm1⟩
 cases hca:c.add with
 | true=>rfl
 | false=>
 exfalso
 have hil:=(List.getElem?_eq_some_iff.1 hc).1
 obtain⟨d,hd⟩:=zr (l:=l) (k:=m) (by omega)
 obtain⟨d1,d2,d3⟩:=hm2 d hd
 have hne:m≠i:=by
  rintro rfl
  rw[hd]at hc;cases hc
  rw[d3]at hca;cases hca
 have hearly:=(qC.1 (h.step i c hc)).2.2.1
 have key:=zfC hearly hca (by rw[hfl];exact hq) (List.mem_of_getElem? (show(l.take i)[m]? = some d by rw[List.getElem?_take,if_pos (by omega)];exact hd)) d3 (by rw[d2,hfl])
 have hsd:=h.sorted (i-m) m d c hd (by rw[show m+(i-m)=i by omega];exact hc)
 rw[hf]at key
 rw[xw (by omega) (by omega)]at key
 omega
end
def zg5 (r:List Int)(z:xL):Bool:=decide (0≤zfo r z.src)&&(decide (zfo r z.src+1 < (r.length:Int))&&(r.getD (zfo r z.src+1).toNat 0==z.dst))
def kF (id k:Int)(rs:List (List Int))(z:xL):Bool:=z.flow==id&&(z.frame==k&&rs.any fun r=>zg5 r z)
theorem zbb {n:zF}{f:zf}{r:List Int}{rs:List (List Int)}(hd:∀i,i < r.length→ZB r i=false)(hr:r∈rs){R:wK}{k:Int}(h:(j0 n R).any (kF f.id k rs)=false):Y8 n f r R k:=by
 intro i hi b hb e
 rw[List.any_eq_false]at h
 refine h b hb ?_
 unfold xL.key at e
 injection e with q1 e;injection e with q2 e;injection e with q3 e;injection e with q4 e
 unfold kF
 simp only[Bool.and_eq_true,beq_iff_eq,List.any_eq_true]
 refine⟨q1,q2,r,hr,?_⟩
 unfold zg5
 rw[q3,ziw hd (by omega)]
 simp only[Bool.and_eq_true,beq_iff_eq,decide_eq_true_eq]
 exact⟨by omega,by omega,by rw[q4,show((i:Nat)+1:Int).toNat=i+1 by omega]⟩
theorem zfj {n:zF}{before after:List ye}{s:zc}{l:List zJ}(h:vg n before after s l){x y:ye}{id:Int}(hq:wz before after id=some (x,y))(X:List zD){N k:Nat}(hN:x.flow.phase+(k:Nat)*x.flow.period+x.flow.period≤(N:Nat))(hN2:N≤1099511627776)
  (hnb:(j0 n (yf (yN before after) (fun t=>jd s l (t:Int)) X N)).any (kF id (k:Nat) (qR before after l id (x.flow.phase+(k:Nat)*x.flow.period)))=false) :
  (jB (yf (yN before after) (fun t=>jd s l (t:Int)) X N) id (k:Nat)).2=true∧(jB (yf (yN before after) (fun t=>jd s l (t:Int)) X N) id (k:Nat)).1-(x.flow.phase+(k:Nat)*x.flow.period)+1≤x.flow.dead∧0≤(jB (yf (yN before after) (fun t=>jd s l (t:Int)) X N) id (k:Nat)).1:=by
 have hW:=qB h.whole
 obtain⟨q1,q2⟩:=vB hq
 obtain⟨m1,m2⟩:=zY q1
 have hxo:=(xu hW.rb).2.2.1 x m1
 have hper:=yB hxo.flow
 have hfl:=Je h.whole
 obtain⟨n2,n32⟩:=ku hfl
 have h32:(yd 32 (yN before after)).2=0:=by
  obtain⟨e1,e2⟩:(yN before after).length≤16∧∀f∈yN before after,yo n.nodes f=0:=by
   unfold yd at hfl
   split at hfl
   ·cases hfl
   split at hfl
   ·cases hfl
   refine⟨by omega,fun f hf=>?_⟩
   obtain⟨i,hi⟩:=List.getElem?_of_mem hf
   have:=yw.1 hfl i (List.getElem?_eq_some_iff.1 hi).1
   unfold wv at this
   rw[hi]at this
   simp only at this
   split at this
   ·rename_i h1;exact absurd this h1
   ·omega
  exact Kv (by omega) (by omega) e1 (fun f hf=>zcd (e2 f hf) n32) (qz _ _ _)
 have hfs:=YQ h32
 have hk0:0≤((k:Nat):Int)*x.flow.period:=Int.mul_nonneg (by omega) (by omega)
 subst m2
 obtain⟨m,r,g1,g2,g3,g4,g5⟩:=W6 h (f:=x.flow) (slot:=x.flow.phase+(k:Nat)*x.flow.period) hq rfl (by omega) (by omega)
 obtain⟨B,hB,hBd⟩:=jS.1 g3
 have hmem:x.flow∈yN before after:=(YR (qK hW.rb) (qK hW.ra)).1 (List.mem_append_left _ (List.mem_map.2 ⟨x,m1,rfl⟩))
 obtain⟨j,hj⟩:=List.getElem?_of_mem hmem
 obtain⟨t,t1,t2,t3⟩:=zaM hfs hW.n0 g4 hj hB X (N:=N) (k:=k) g5 (by omega) (by omega) (zbb g4.dup g2 hnb)
 rw[t1]
 exact⟨rfl,by show t-_+1≤_;omega,t3⟩
theorem zhc {n:zF}{before after:List ye}{s:zc}{l:List zJ}(h:vg n before after s l){x y:ye}{id:Int}(hq:wz before after id=some (x,y)){slot:Int}(h0:0≤slot)(hs:slot≤1099511627776):qR before after l id slot≠[]:=by
 obtain⟨q1,q2⟩:=vB hq
 obtain⟨m1,m2⟩:=zY q1
 subst m2
 obtain⟨m,r,g1,g2,_⟩:=W6 h (f:=x.flow) (slot:=slot) hq rfl h0 hs
 intro e
 rw[e]at g2;cases g2
theorem zdO.start {l:List zf}(hl:xE l){t:Int}(ht:t+1≤1099511627776){q:PL}{r:wK}(h:zdO l t q r):Sim l (t+1) q.dels ⟨xp l (t+1) q.sts,q.atts,q.dels⟩ r:=by
 have hslot:∀d∈q.dels,d.slot < t+1:=fun d hd=>by
  obtain⟨b,hb,h1,_⟩:=h.run.dl d hd
  have:=(h.run.at_ b hb).2.1
  omega
 refine⟨by simp[xp,h.len],fun i f p hf hp=>?_,⟨fun b hb=>?_,h.run.dl⟩,h.at_,⟨[],[],by simp,by simp[h.dl],.refl _,.nil,by simp⟩,hslot⟩
 ·simp only[xp,List.getElem?_zipWith,hf]at hp
  cases hq:q.sts[i]? with
  | none=>rw[hq]at hp;cases hp
  | some p0=>
   rw[hq]at hp
   simp only[Option.some.injEq]at hp
   subst hp
   exact(h.fl i f p0 hf hq).release hl ht h.run hf
 ·obtain⟨g1,g2,g3⟩:=h.run.at_ b hb
  exact⟨g1,by omega,g3⟩
theorem zeZ {l l' ds:List xd}(hp:l'.Perm l)(h:l'.Pairwise fun a b=>a.flow < b.flow)(hd:ds.Perm l)(hs:ds.Pairwise fun a b=>a.flow≤b.flow):ds=l':=by
 refine List.Perm.eq_of_pairwise (le:=fun a b:xd=>a.flow≤b.flow) (fun a b ha hb h1 h2=>?_) hs (h.imp fun h=>Int.le_of_lt h) (hd.trans hp.symm)
 have ha':a∈l':=hp.symm.subset (hd.subset ha)
 obtain⟨i,hi⟩:=List.getElem?_of_mem ha'
 obtain⟨j,hj⟩:=List.getElem?_of_mem hb
 obtain⟨hi1,hi2⟩:=List.getElem?_eq_some_iff.1 hi
 obtain⟨hj1,hj2⟩:=List.getElem?_eq_some_iff.1 hj
 rcases Nat.lt_trichotomy i j with hij|rfl|hij
 ·have:=List.pairwise_iff_getElem.1 h i j hi1 hj1 hij
  rw[hi2,hj2]at this;omega
 ·rw[hi]at hj;injection hj
 ·have:=List.pairwise_iff_getElem.1 h j i hj1 hi1 hij
  rw[hi2,hj2]at this;omega
theorem Sim.ask {l:List zf}{t:Int}{base:List xd}{q:PL}{r:wK}(h:Sim l t base q r):(∀(i:Nat) (p:PS),q.sts[i]? = some p→p.ok)∧(∀(i:Nat) (p:PS),q.sts[i]? = some p→¬p.frame < 0→∀a b,0≤(p.tries.get [a,b]).getD 0∧(p.tries.get [a,b]).getD 0≤(q.atts.length:Int)):=by
 have hf:∀(i:Nat) (p:PS),q.sts[i]? = some p→∃f,l[i]? = some f:=fun i p hp=>by
  have h1:=(List.getElem?_eq_some_iff.1 hp).1
  exact⟨_,List.getElem?_eq_getElem (by rw[←h.len];exact h1)⟩
 refine⟨fun i p hp=>?_,fun i p hp h0 a b=>?_⟩
 ·obtain⟨f,hf⟩:=hf i p hp
  exact(h.fl i f p hf hp).ok
 ·obtain⟨f,hf⟩:=hf i p hp
  have:=(h.fl i f p hf hp).tr (by omega) ⟨0,0,a,b,f.id⟩ rfl
  simp only at this
  rw[this]
  have h2:kB q.atts ⟨0,0,a,b,f.id⟩ p.frame≤q.atts.length:=List.countP_le_length
  omega
theorem Sim.slotEnd {l:List zf}{t:Int}{q q1:PL}{r1:wK}(h:Sim l t q.dels q1 r1):∃new,q1.dels=q.dels++new∧∀ds,ds.Perm new→(ds.Pairwise fun a b=>a.flow≤b.flow)→q1.dels.take q.dels.length++(q1.dels.drop q.dels.length).mergeSort (fun a b=>decide (a.flow≤b.flow))=q.dels++ds:=by
 obtain⟨new,old,d1,d2,d3,d4,d5⟩:=h.dl
 refine⟨new,d1,fun ds hp hs=>?_⟩
 have e1:q1.dels.take q.dels.length=q.dels:=by rw[d1];simp
 have e2:q1.dels.drop q.dels.length=new:=by rw[d1];simp
 rw[e1,e2,zd4 d3 d4,zeZ d3 d4 hp hs]
theorem zkO:yH xd.av 3:=⟨fun _=>rfl,fun _=>rfl,fun _=>rfl,fun _=>rfl,by decide⟩
theorem zic (l:List zf)(g:Nat→Nat→Nat)(z:AV)(hz:∀h:Nat→Nat,VL h PS.first=z):zA g (l.map fun _=>PS.first)=List.replicate l.length z:=by
 apply List.ext_getElem?
 intro i
 simp only[zA,List.getElem?_mapIdx,List.getElem?_map,List.getElem?_replicate]
 cases hi:l[i]? with
 | none=>
  have:=List.getElem?_eq_none_iff.1 hi
  rw[if_neg (by omega)];rfl
 | some f=>
  have:=(List.getElem?_eq_some_iff.1 hi).1
  rw[if_pos this]
  simp[hz]
end HM
