/- Further plain words. -/
import Derived.Test.YtggiajmlnieidaaGreatDoorDb
import Derived.Test.YtggiajmlnieidaaGreatDoorDa
namespace HM
open Go Go.RowKit
def zgy (k:List Int)(row:List Int)(a:y9):List Int:=if a.key=k then(if a.out=1 then [] else row++[a.slot]) else row
def zjV (k:List Int)(ats:List y9):List Int:=ats.foldl (zgy k) []
theorem zeE {k:List Int}{loss:Int}:∀{ats:List y9},(Y1 k loss ats).2=none→(Y1 k loss ats).1=zjV k ats:=by
 intro ats
 suffices ∀(l:List y9) (st:List Int×Option (List Int)) (row:List Int),(st.2=none→st.1=row)→(l.foldl (brS k loss) st).2=none→(l.foldl (brS k loss) st).1=l.foldl (zgy k) row from this ats ([],none) [] (fun _=>rfl)
 intro l
 induction l with
 | nil=>intro st row h h2;exact h h2
 | cons a l ih=>
  intro st row h h2
  rw[List.foldl_cons]at h2 ⊢
  rw[List.foldl_cons]
  refine ih _ _ (fun h3=>?_) h2
  unfold brS at h3 ⊢
  unfold zgy
  split at h3
  ·rename_i hc
   rw[if_pos hc,if_pos hc.1]
   split at h3
   ·rename_i ho;rw[if_pos ho,if_pos ho]
   ·rename_i ho;rw[if_neg ho,if_neg ho,h hc.2]
  ·rename_i hc
   rw[if_neg hc]
   by_cases e:a.key=k
   ·exact absurd ⟨e,h3⟩ hc
   ·rw[if_neg e];exact h h3
theorem Jm (cs:List zg)(len a:Int):∀d:Nat,xV cs len (a+len) d=(xV cs len a d).map (·+len)
 | 0=>rfl
 | d+1=>by
  simp only[xV,List.map_append,List.map_map]
  rw[Jm cs len a d]
  congr 1
  have e:(a+len+(d:Int)) % len=(a+d) % len:=by rw[show a+len+(d:Int)=a+d+len by omega,Int.add_emod_right]
  rw[e]
  refine List.map_congr_left fun c _=>?_
  show a+len+(d:Int)=a+d+len
  omega
theorem JE (s:zc)(f:zf)(a b:Int)(need:Nat)(at_ stop:Int):yZ s f a b need (at_+s.len) (stop+s.len)=(yZ s f a b need at_ stop).map (·+s.len):=by
 unfold yZ
 rw[show stop+s.len-(at_+s.len)=stop-at_ by omega,Jm,List.map_take]
theorem zbK (a len:Int)(l:List Int):vn (a+len) (l.map (·+len))=vn a l+len:=by
 unfold vn
 rw[List.getLast?_map]
 cases l.getLast? with
 | none=>rfl
 | some x=>simp only[Option.map_some];omega
theorem Yl (n:zF)(s:zc)(f:zf)(r:List Int)(rel more:Int):∀k:Nat,yb n s f r (rel+s.len) more k=(yb n s f r rel more k).map fun p=>(p.1.map (·+s.len),p.2+s.len)
 | 0=>rfl
 | k+1=>by
  unfold yb
  rw[Yl n s f r rel more k]
  cases yb n s f r rel more k with
  | none=>rfl
  | some p=>
   obtain⟨o,a⟩:=p
   simp only[Option.map_some]
   rw[show rel+s.len+f.period=rel+f.period+s.len by omega,JE,List.length_map]
   split
   ·rfl
   ·simp only[Option.map_some,List.map_append]
    rw[zbK]
theorem zdb {n:zF}{s:zc}{f:zf}{r:List Int}{more rel:Int}(hne:∀o a,yb n s f r rel more (r.length-1)=some (o,a)→o≠[]):vD n s f r more (rel+s.len)=vD n s f r more rel:=by
 unfold vD j9
 rw[Yl]
 cases hs:yb n s f r rel more (r.length-1) with
 | none=>rfl
 | some p=>
  obtain⟨o,a⟩:=p
  have h0:=hne o a hs
  simp only[Option.map_some,List.map_map]
  congr 2
  ·rcases List.eq_nil_or_concat o with rfl|⟨o',x,rfl⟩
   ·exact absurd rfl h0
   ·simp;omega
  ·refine List.map_congr_left fun x _=>?_
   show x+s.len-(rel+s.len)=x-rel
   omega
theorem zfg {n:zF}{s:zc}{f:zf}{r:List Int}(h:xS n s f r):0 < yA n r 0 (r.length-1):=by
 have hl:=h.len
 obtain⟨_,l,_,_,_,_,g1,g2,g3⟩:=h.at (i:=0) (by omega)
 have h1:yA n r 0 1≤yA n r 0 (r.length-1):=jk (by omega)
 have h2:0 < yk n r 0 0:=by unfold yk;rw[g3];omega
 have h3:yA n r 0 1=yk n r 0 0:=by simp[yA]
 omega
theorem WW {n:zF}{s:zc}{f:zf}{r:List Int}(hw:xS n s f r)(rel:Int):∀m:Nat,vD n s f r 0 (rel+m*s.len)=vD n s f r 0 rel
 | 0=>by simp
 | m+1=>by
  have ih:=WW hw rel m
  rw[←ih,show rel+((m+1:Nat):Int)*s.len=rel+(m:Int)*s.len+s.len by rw[Int.natCast_add,Int.add_mul];simp;omega]
  refine zdb fun o a h e=>?_
  have h1:=(wY (by have:=hw.flow;omega) h).1
  have h2:=zfg hw
  subst e
  simp at h1
  omega
theorem Jb {n:zF}{s:zc}{f:zf}{r:List Int}{more:Int}:∀{K:Nat} {x:Bnd},yM n s f r more K=some x→∀k:Nat,k < K→∃b l,vD n s f r more (f.phase+k*f.period)=some (b,l)∧b≤x.b
 | 0,_,_,k,hk=>by omega
 | K+1,x,h,k,hk=>by
  cases hb:yM n s f r more K with
  | none=>rw[yM,hb]at h;cases h
  | some y=>
   cases hr:vD n s f r more (f.phase+K*f.period) with
   | none=>rw[yM,hb,hr]at h;cases h
   | some z=>
    obtain⟨b,l⟩:=z
    have h2:=kG hb hr
    rw[h2]at h
    injection h with h
    have hle:y.b≤x.b∧b≤x.b:=by
     split at h
     ·subst h;simp only;omega
     ·subst h;omega
    rcases Nat.lt_succ_iff_lt_or_eq.1 hk with hlt|rfl
    ·obtain⟨b',l',h3,h4⟩:=Jb hb k hlt
     exact⟨b',l',h3,by omega⟩
    ·exact⟨b,l,hr,hle.2⟩
theorem zbT {n:zF}{s:zc}{f:zf}{r:List Int}(hw:xS n s f r){B:Bnd}(hb:xl n s f r 0=some B)(k:Nat):∃b l,vD n s f r 0 (f.phase+k*f.period)=some (b,l)∧b≤B.b:=by
 have hf:=hw.flow
 obtain⟨hsz,_,_⟩:=xC hw.form
 have hsb:=vj hsz
 obtain⟨K,hK⟩:=Int.dvd_of_emod_eq_zero hw.per
 have hK1:1≤K:=by
  rcases Int.lt_or_le K 1 with h|h
  ·have:f.period*K≤f.period*0:=Int.mul_le_mul_of_nonneg_left (by omega) (by omega)
   omega
  ·exact h
 obtain⟨M,rfl⟩:∃M:Nat,K=M:=⟨K.toNat,by omega⟩
 have hdm:=Nat.div_add_mod k M
 have hj:k % M < M:=Nat.mod_lt _ (by omega)
 obtain⟨j,hjd⟩:∃j,j=k % M:=⟨_,rfl⟩
 obtain⟨m,hmd⟩:∃m,m=k / M:=⟨_,rfl⟩
 rw[←hjd]at hj hdm
 rw[←hmd]at hdm
 have he:f.phase+(k:Int)*f.period=f.phase+(j:Int)*f.period+(m:Int)*s.len:=by
  rw[←hdm,hK,Int.natCast_add,Int.natCast_mul,Int.add_mul]
  have:(M:Int)*m*f.period=m*(f.period*M):=by ac_rfl
  omega
 rw[he,WW hw]
 have hjp:((j:Int)+1)*f.period≤M*f.period:=Int.mul_le_mul_of_nonneg_right (by omega) (by omega)
 have hjs:f.phase+(j:Int)*f.period < s.len:=by
  rw[hK,Int.mul_comm f.period]
  rw[Int.add_mul]at hjp
  omega
 exact Jb hb j ((zbw (by omega)).2 hjs)
theorem KR (cs:List zg)(len a:Int)(d:Nat):∀e:Nat,xV cs len a (d+e)=xV cs len a d++xV cs len (a+d) e
 | 0=>by simp[xV]
 | e+1=>by
  rw[show d+(e+1)=d+e+1 from rfl]
  simp only[xV]
  rw[KR cs len a d e,List.append_assoc,show a+((d+e:Nat):Int)=a+(d:Int)+(e:Int) by omega]
theorem QI {α β:Type}{g:α→Option β}{p:β→Bool}{q:α→Bool}:∀{l:List α},(∀c∈l,q c=true→∃y,g c=some y∧p y=true)→(l.filter q).length≤(l.filterMap g).countP p
 | [],_=>by simp
 | c :: l,h=>by
  have ih:=QI (l:=l) (g:=g) (p:=p) (q:=q) fun c hc=>h c (List.mem_cons_of_mem _ hc)
  rw[List.filterMap_cons]
  by_cases hq:q c=true
  ·obtain⟨y,h1,h2⟩:=h c (List.mem_cons_self ..) hq
   rw[List.filter_cons,if_pos hq,h1]
   simp only[List.length_cons,List.countP_cons,h2,if_true]
   omega
  ·rw[List.filter_cons,if_neg hq]
   cases hg:g c with
   | none=>exact ih
   | some y=>simp only[List.countP_cons];omega
def Vh (K:List Int)(a:y9):Bool:=a.key==K
theorem Qz {s:zc}{f:zf}(hfm:yc s=true)(x:List zD){N k A:Nat}{a b:Int}:∀d:Nat,A+d≤N →
  (∀t:Nat,A≤t→t < A+d→∀c∈yp s f a b,Vi [f] (yf [f] (fun _=>s) x N).atts (t:Nat) c=some (((t:Nat):Int),((k:Nat):Int),c)) →
  (xV (yp s f a b) s.len A d).length≤(yf [f] (fun _=>s) x (A+d)).atts.countP (Vh [f.id,(k:Nat),a,b])
 | 0,_,_=>by simp[xV]
 | d+1,hN,hg=>by
  have ih:=Qz hfm x (N:=N) (k:=k) (A:=A) (a:=a) (b:=b) d (by omega) fun t h1 h2=>hg t h1 (by omega)
  obtain⟨late,e1,_,e3⟩:=jI [f] s x (yf [f] (fun _=>s) x (A+d)) ((A+d:Nat):Int)
  obtain⟨l6,h6,h7⟩:=qN [f] (fun _=>s) x (A+d) (N-(A+d))
  rw[show A+d+(N-(A+d))=N by omega]at h6
  have e4:(yf [f] (fun _=>s) x (A+(d+1))).atts=(yf [f] (fun _=>s) x (A+d)).atts++late:=e1
  rw[e4,List.countP_append,xV,List.length_append,List.length_map]
  have h8:late.countP (Vh [f.id,(k:Nat),a,b])=(late.map zgR).countP (fun p:Int×Int×zg=>[p.2.2.flow,p.2.1,p.2.2.src,p.2.2.dst]==[f.id,(k:Nat),a,b]):=by rw[List.countP_map];rfl
  rw[h8,e3]
  have h9:((yp s f a b).filter fun c=>c.slot==((A:Int)+(d:Nat)) % s.len).length=((Jh s ((A+d:Nat):Int)).filter fun c=>!jL f.id a b c).length:=by
   unfold Jh yp
   rw[if_neg (by rw[hfm];intro h;rcases h with h|h<;>first|cases h|omega),List.filter_filter,List.filter_filter,Int.natCast_add]
   congr 1
   refine List.filter_congr fun c _=>?_
   rw[Bool.and_comm]
  rw[h9]
  refine Nat.add_le_add ih (QI fun c hc hq=>?_)
  have hc1:c∈yp s f a b:=by
   unfold Jh at hc
   split at hc
   ·cases hc
   ·exact List.mem_filter.2 ⟨(List.mem_filter.1 hc).1,hq⟩
  have h10:=hg (A+d) (by omega) (by omega) c hc1
  rw[h6,Wu [f] h7]at h10
  refine⟨_,h10,?_⟩
  unfold jL at hq
  simp only[Bool.not_or,Bool.and_eq_true,Bool.not_eq_true',bne_eq_false_iff_eq]at hq
  simp only[beq_iff_eq,List.cons.injEq,and_true,true_and]
  exact⟨hq.1.1,hq.1.2,hq.2⟩
theorem VU {K:List Int}{ats:List y9}(h:∀a∈ats,a.key=K→a.out≠1):(zjV K ats).length=ats.countP (Vh K):=by
 suffices ∀(l:List y9) (row:List Int),(∀a∈l,a.key=K→a.out≠1)→(l.foldl (zgy K) row).length=row.length+l.countP (Vh K) by simpa[zjV] using this ats [] h
 intro l
 induction l with
 | nil=>intro row _;simp
 | cons a l ih=>
  intro row h
  rw[List.foldl_cons,ih _ fun b hb=>h b (List.mem_cons_of_mem _ hb),List.countP_cons]
  unfold zgy
  by_cases e:a.key=K
  ·have e2:Vh K a=true:=by unfold Vh;rw[e];exact beq_self_eq_true K
   rw[if_pos e,if_neg (h a (List.mem_cons_self ..) e),List.length_append,List.length_singleton,if_pos e2];omega
  ·have e2:¬Vh K a=true:=by unfold Vh;simpa using e
   rw[if_neg e,if_neg e2];omega
theorem XU {K:List Int}{loss:Int}(h0:0≤loss){ats:List y9}(h:(Y1 K loss ats).2=none):((Y1 K loss ats).1.length:Int)≤loss:=by
 suffices ∀(l:List y9) (st:List Int×Option (List Int)),(st.2=none→(st.1.length:Int)≤loss)→(l.foldl (brS K loss) st).2=none→((l.foldl (brS K loss) st).1.length:Int)≤loss from this ats ([],none) (fun _=>by simpa using h0) h
 intro l
 induction l with
 | nil=>intro st h1 h2;exact h1 h2
 | cons a l ih=>
  intro st h1 h2
  rw[List.foldl_cons]at h2 ⊢
  refine ih _ (fun h3=>?_) h2
  unfold brS at h3 ⊢
  split at h3
  ·rename_i hc
   rw[if_pos hc]
   split at h3
   ·rename_i ho;rw[if_pos ho];simpa using h0
   ·rename_i ho
    rw[if_neg ho]
    simp only at h3 ⊢
    split at h3
    ·cases h3
    ·rename_i hl;rw[List.length_append,List.length_singleton];omega
  ·rename_i hc
   rw[if_neg hc];exact h1 h3
theorem zeq {f:zf}{k t:Int}(hfl:yo 32 f=0)(hk:0≤k)(h1:f.phase+k*f.period≤t)(h2:t < f.phase+k*f.period+f.period)(h3:t≤1099511627776):yq f t=(k,true):=by
 have hf:=yB hfl
 have h4:0≤k*f.period:=Int.mul_nonneg hk (by omega)
 unfold yq
 rw[if_neg (by intro h;rcases h with h|h|h<;>first|exact h hfl|omega)]
 have e:t-f.phase=(t-f.phase-k*f.period)+k*f.period:=by omega
 rw[e,Int.add_mul_ediv_right _ _ (by omega),Int.ediv_eq_zero_of_lt (by omega) (by omega),Int.zero_add]
theorem Ym {s:zc}{f:zf}{a b:Int}{need:Nat}{at_ stop L:Int}(h:(yZ s f a b need at_ stop).getLast? = some L)(hl:need≤(yZ s f a b need at_ stop).length):need≤(xV (yp s f a b) s.len at_ (L+1-at_).toNat).length:=by
 have hL:=v7 (List.mem_of_getLast? h)
 obtain⟨e,he⟩:∃e,(stop-at_).toNat=(L+1-at_).toNat+e:=⟨(stop-at_).toNat-(L+1-at_).toNat,by omega⟩
 unfold yZ at h hl
 rw[he,KR]at h hl
 apply Decidable.byContradiction
 intro hn
 rw[List.take_append]at h hl
 rw[List.take_of_length_le (by omega)]at h hl
 rw[List.length_append]at hl
 rw[List.getLast?_append]at h
 have hne:(List.take (need-(xV (yp s f a b) s.len at_ (L+1-at_).toNat).length) (xV (yp s f a b) s.len (at_+((L+1-at_).toNat:Nat)) e))≠[]:=by
  intro h0;rw[h0]at hl;simp at hl;omega
 obtain⟨y,hy⟩:∃y,(List.take (need-(xV (yp s f a b) s.len at_ (L+1-at_).toNat).length) (xV (yp s f a b) s.len (at_+((L+1-at_).toNat:Nat)) e)).getLast? = some y:=⟨_,List.getLast?_eq_some_getLast hne⟩
 rw[hy]at h
 simp only[Option.some_or,Option.some.injEq]at h
 have:=XY (List.mem_of_mem_take (List.mem_of_getLast? hy))
 omega
theorem zdx {r:List Int}(hd:∀i,i < r.length→ZB r i=false){i j:Nat}(hij:i < j)(hj:j < r.length):r.getD i 0≠r.getD j 0:=by
 intro e
 have h:=hd j hj
 have hi:i < r.length:=by omega
 rw[List.getD_eq_getElem?_getD,List.getD_eq_getElem?_getD,List.getElem?_eq_getElem hi,List.getElem?_eq_getElem hj]at e
 simp only[Option.getD_some]at e
 unfold ZB at h
 rw[List.getElem?_eq_getElem hj]at h
 simp only at h
 rw[List.any_eq_false]at h
 exact h (r[i]) (List.mem_take_iff_getElem.2 ⟨i,by omega,rfl⟩) (by simpa using e)
def Y8 (n:zF)(f:zf)(r:List Int)(R:wK)(k:Int):Prop:=∀i,i+1 < r.length→∀b∈j0 n R,b.key≠[f.id,k,r.getD i 0,r.getD (i+1) 0]
theorem W2 {f:zf}{R:List y9}{a k t u:Int}(h:xz f R a k t=true)(htu:t≤u):xz f R a k u=true:=by
 unfold xz at h ⊢
 simp only[Bool.or_eq_true,List.any_eq_true,Bool.and_eq_true,decide_eq_true_eq]at h ⊢
 rcases h with h|⟨b,h1,h2,h3⟩
 ·exact .inl h
 ·exact .inr ⟨b,h1,h2,by omega⟩
theorem hop {n:zF}{s:zc}{f:zf}{r:List Int}(h0:yS n=0)(hw:xS n s f r)(hfl:yo 32 f=0)(x:List zD){N k:Nat}(hbig:f.phase+(k:Nat)*f.period+f.period≤1099511627776)
  (hnb:Y8 n f r (yf [f] (fun _=>s) x N) (k:Nat)):∀(i:Nat) (o:List Int) (a:Int),i+1≤r.length→yb n s f r (f.phase+(k:Nat)*f.period) 0 i=some (o,a)→(∀y∈o,y < (N:Nat))→xz f (yf [f] (fun _=>s) x N).atts (r.getD i 0) (k:Nat) a=true
 | 0,o,a,_,_,_=>by unfold xz;rw[hw.ends.1];simp
 | i+1,o,a,hi,hs,hN=>by
  have hf:=hw.flow
  have hk0:0≤((k:Nat):Int)*f.period:=Int.mul_nonneg (by omega) (by omega)
  unfold yb at hs
  split at hs
  ·cases hs
  rename_i o' a' h'
  simp only at hs
  split at hs
  ·cases hs
  rename_i hlen
  injection hs with hs;injection hs with e1 e2
  subst e1
  have ih:=hop h0 hw hfl x hbig hnb i o' a' (by omega) h' fun y hy=>hN y (List.mem_append_left _ hy)
  obtain⟨m,l,g1,g2,g3,g4,g5,g6,g7⟩:=hw.at (i:=i) (by omega)
  have hneed:((yk n r 0 i:Nat):Int)=l.loss+1:=by unfold yk;rw[g7];omega
  obtain⟨h,hh⟩:∃h,h=yZ s f (r.getD i 0) (r.getD (i+1) 0) (yk n r 0 i) a' (f.phase+(k:Nat)*f.period+f.period):=⟨_,rfl⟩
  rw[←hh]at e2 hlen hN
  have hne:h≠[]:=by intro e;rw[e]at hlen;simp at hlen;omega
  obtain⟨L,hL⟩:∃L,h.getLast? = some L:=⟨_,List.getLast?_eq_some_getLast hne⟩
  have hLN:=hN L (List.mem_append_right _ (List.mem_of_getLast? hL))
  have ha:a=L+1:=by rw[←e2];unfold vn;rw[hL]
  obtain⟨_,ha',_,_⟩:=wY (by omega) h'
  have hLm:=v7 (hh▸List.mem_of_getLast? hL)
  have hcnt:=Ym (hh▸hL) (by rw[←hh];omega)
  apply Decidable.byContradiction
  intro hno
  have hno2:∀b∈(yf [f] (fun _=>s) x N).atts,ko f.id (k:Nat) (r.getD (i+1) 0) b=true→¬b.slot < a:=fun b hb hg hs=>hno (by
   unfold xz
   simp only[Bool.or_eq_true,List.any_eq_true,Bool.and_eq_true,decide_eq_true_eq]
   exact .inr ⟨b,hb,hg,hs⟩)
  obtain⟨A,rfl⟩:∃A:Nat,a'=A:=⟨a'.toNat,by omega⟩
  obtain⟨d,hd⟩:∃d,d=(L+1-(A:Nat)).toNat:=⟨_,rfl⟩
  rw[←hd]at hcnt
  have hAd:((A+d:Nat):Int)=L+1:=by omega
  have hgen:=Qz hw.form x (N:=N) (k:=k) (A:=A) (a:=r.getD i 0) (b:=r.getD (i+1) 0) d (by omega) fun t h1 h2 c hc=>by
   have hc2:=(List.mem_filter.1 hc).2
   unfold jL at hc2
   simp only[Bool.not_or,Bool.and_eq_true,Bool.not_eq_true',bne_eq_false_iff_eq]at hc2
   have hcm:=zeq (k:=(k:Nat)) (t:=(t:Nat)) hfl (by omega) (by omega) (by omega) (by omega)
   unfold Vi
   have hff:xm [f] c.flow=0:=by rw[zfy,if_pos hc2.1.1.symm]
   rw[hff,if_neg (by omega)]
   simp only[Int.toNat_zero,List.getElem?_cons_zero,hcm]
   rw[if_neg ?_]
   intro hor
   rcases hor with hor|hor|hor|hor
   ·cases hor
   ·rw[hc2.1.2,←hw.ends.2]at hor
    exact zdx hw.dup (by omega) (by omega) hor
   ·rw[hc2.1.2,W2 ih (by omega)]at hor;cases hor
   ·unfold vP at hor
    simp only[List.any_eq_true,Bool.and_eq_true,decide_eq_true_eq,beq_iff_eq]at hor
    obtain⟨b,hb,⟨hb1,hb2⟩,hb3⟩:=hor
    refine hno2 b hb ?_ (by omega)
    unfold onA at hb1
    simp only[Bool.and_eq_true,beq_iff_eq]at hb1
    unfold ko
    simp only[Bool.and_eq_true,beq_iff_eq,bne_iff_ne]
    exact⟨⟨⟨hb1.1.1.1.trans hc2.1.1,hb1.1.1.2⟩,hb1.2.trans hc2.2⟩,by omega⟩
  obtain⟨K,hK⟩:∃K:List Int,K=[f.id,(k:Nat),r.getD i 0,r.getD (i+1) 0]:=⟨_,rfl⟩
  rw[←hK]at hgen
  obtain⟨l6,h6,h7⟩:=qN [f] (fun _=>s) x (A+d) (N-(A+d))
  rw[show A+d+(N-(A+d))=N by omega]at h6
  have hnack:∀b∈(yf [f] (fun _=>s) x (A+d)).atts,b.key=K→b.out≠1:=fun b hb hbk ho=>by
   have hs:=Zk [f] (fun _=>s) x (A+d) b hb
   refine hno2 b (h6▸List.mem_append_left _ hb) ?_ (by omega)
   rw[hK]at hbk
   unfold y9.key at hbk
   injection hbk with q1 hbk;injection hbk with q2 hbk;injection hbk with q3 hbk;injection hbk with q4 hbk
   unfold ko
   simp only[Bool.and_eq_true,beq_iff_eq,bne_iff_ne]
   exact⟨⟨⟨q1,q2⟩,q4⟩,by omega⟩
  have hrow:=VU hnack
  cases hbk:(Y1 K l.loss (yf [f] (fun _=>s) x (A+d)).atts).2 with
  | none=>
   have q1:=XU g5 hbk
   rw[zeE hbk]at q1
   omega
  | some sl=>
   have q1:=zcH (post:=l6) sl hbk
   rw[←h6]at q1
   have hpos:0 < (yf [f] (fun _=>s) x (A+d)).atts.countP (Vh K):=by omega
   obtain⟨b,hb,hbk2⟩:=List.countP_pos_iff.1 hpos
   have hmem:(xL.of K sl)∈j0 n (yf [f] (fun _=>s) x N):=by
    unfold j0
    rw[if_pos h0,Zi (Nat.le_refl _),List.take_length]
    have hkk:(xL.of K sl).key=K:=by rw[hK];rfl
    refine⟨⟨b,h6▸List.mem_append_left _ hb,by rw[hkk];exact eq_of_beq hbk2⟩,?_,?_⟩
    ·rw[hkk,hK]
     show 0≤xf n (r.getD i 0) (r.getD (i+1) 0)
     omega
    ·rw[hkk]
     have hls:wi n K=l.loss:=by
      rw[hK]
      show Qi n (r.getD i 0) (r.getD (i+1) 0)=l.loss
      rw[←g3,←g4,Ki hw.net g2]
     rw[hls]
     exact q1
   exact hnb i (by omega) _ hmem (by rw[hK];rfl)
theorem zeI (cs:List zg)(len a:Int):∀d:Nat,(xV cs len a d).Pairwise (·≤·)
 | 0=>by simp[xV]
 | d+1=>by
  rw[xV]
  refine List.pairwise_append.2 ⟨zeI cs len a d,?_,fun x hx y hy=>?_⟩
  ·refine List.pairwise_of_forall_mem_list fun x hx y hy=>?_
   obtain⟨_,_,rfl⟩:=List.mem_map.1 hx
   obtain⟨_,_,rfl⟩:=List.mem_map.1 hy
   exact Int.le_refl _
  ·obtain⟨_,_,rfl⟩:=List.mem_map.1 hy
   have:=XY hx
   omega
theorem ziq {l:List Int}(h:l.Pairwise (·≤·)){L:Int}(hL:l.getLast? = some L){y:Int}(hy:y∈l):y≤L:=by
 rcases List.eq_nil_or_concat l with rfl|⟨l',z,rfl⟩
 ·cases hy
 ·rw[List.concat_eq_append]at h hL hy
  simp at hL
  subst hL
  rcases List.mem_append.1 hy with hy|hy
  ·exact(List.pairwise_append.1 h).2.2 y hy z (by simp)
  ·have:y=z:=by simpa using hy
   omega
theorem VP {n:zF}{s:zc}{f:zf}{r:List Int}{rel:Int}(hw:xS n s f r):∀{i:Nat} {o:List Int} {a:Int},i+1≤r.length→yb n s f r rel 0 i=some (o,a)→∀y∈o,y < a
 | 0,o,a,_,h=>by simp[yb]at h;obtain⟨rfl,rfl⟩:=h;intro y hy;cases hy
 | i+1,o,a,hi,h=>by
  unfold yb at h
  split at h
  ·cases h
  rename_i o' a' h'
  simp only at h
  split at h
  ·cases h
  rename_i hlen
  injection h with h;injection h with e1 e2
  subst e1
  have ih:=VP hw (by omega) h'
  obtain⟨m,l,g1,g2,g3,g4,g5,g6,g7⟩:=hw.at (i:=i) (by omega)
  have hneed:((yk n r 0 i:Nat):Int)=l.loss+1:=by unfold yk;rw[g7];omega
  obtain⟨h,hh⟩:∃h,h=yZ s f (r.getD i 0) (r.getD (i+1) 0) (yk n r 0 i) a' (rel+f.period):=⟨_,rfl⟩
  rw[←hh]at e2 hlen
  rw[←hh]
  have hne:h≠[]:=by intro e;rw[e]at hlen;simp at hlen;omega
  obtain⟨L,hL⟩:∃L,h.getLast? = some L:=⟨_,List.getLast?_eq_some_getLast hne⟩
  have ha:a=L+1:=by rw[←e2];unfold vn;rw[hL]
  have hLm:=v7 (hh▸List.mem_of_getLast? hL)
  intro y hy
  rcases List.mem_append.1 hy with hy|hy
  ·have:=ih y hy;omega
  ·have hp:h.Pairwise (·≤·):=by rw[hh];exact(zeI _ _ _ _).sublist (List.take_sublist _ _)
   have:=ziq hp hL hy
   omega
theorem V0 {n:zF}{s:zc}{f:zf}{r:List Int}(hw:xS n s f r){rel b:Int}{l:List Int}(h:vD n s f r 0 rel=some (b,l)):1≤b∧b≤f.period:=by
 have hf:=hw.flow
 have hl:=hw.len
 unfold vD j9 at h
 cases hs:yb n s f r rel 0 (r.length-1) with
 | none=>rw[hs]at h;cases h
 | some p=>
  obtain⟨o,a⟩:=p
  rw[hs]at h
  simp only[Option.map_some,Option.some.injEq,Prod.mk.injEq]at h
  obtain⟨_,h2,h3,h4⟩:=wY (by omega) hs
  obtain⟨e,he⟩:∃e,r.length-1=e+1:=⟨r.length-2,by omega⟩
  have hlast:o.getLast? = some (a-1):=by
   obtain⟨m,l,g1,g2,g3,g4,g5,g6,g7⟩:=hw.at (i:=e) (by omega)
   rw[he]at hs
   exact Xd (by unfold yk;rw[g7];omega) hs
  have hld:o.getLastD 0=a-1:=by rw[List.getLastD_eq_getLast?,hlast];rfl
  rw[hld]at h
  have:=h4 _ (List.mem_of_getLast? hlast)
  omega
theorem Jc {n:zF}{s:zc}{f:zf}{r:List Int}(hw:xS n s f r):∀{K:Nat} {x:Bnd},yM n s f r 0 K=some x→x.b≤f.period
 | 0,x,h=>by
  have hf:=hw.flow
  simp only[yM,Option.some.injEq]at h
  subst h;simp only;omega
 | K+1,x,h=>by
  cases hb:yM n s f r 0 K with
  | none=>rw[yM,hb]at h;cases h
  | some y=>
   cases hr:vD n s f r 0 (f.phase+K*f.period) with
   | none=>rw[yM,hb,hr]at h;cases h
   | some z=>
    obtain⟨b,l⟩:=z
    have h2:=kG hb hr
    rw[h2]at h
    injection h with h
    have h3:=Jc hw hb
    have h4:=V0 hw hr
    split at h
    ·subst h;exact h4.2
    ·subst h;exact h3
theorem zcJ {n:zF}{s:zc}{f:zf}{r:List Int}(hw:xS n s f r){B:Bnd}(hb:xl n s f r 0=some B):1≤B.b∧B.b≤f.period:=by
 obtain⟨b,l,h1,h2⟩:=zbT hw hb 0
 have:=V0 hw h1
 exact⟨by omega,Jc hw hb⟩
def zfo (r:List Int)(x:Int):Int:=wu (fun y=>decide (x=y)) r
theorem ziw {r:List Int}(hd:∀i,i < r.length→ZB r i=false){i:Nat}(hi:i < r.length):zfo r (r.getD i 0)=(i:Nat):=by
 refine yI hi (fun j y hj hy=>?_) (List.getElem?_eq_getElem hi) (by simp[List.getD_eq_getElem?_getD,List.getElem?_eq_getElem hi])
 have:=zdx hd hj hi
 rw[List.getD_eq_getElem?_getD,hy]at this
 simp only[Option.getD_some]at this
 exact decide_eq_false fun e=>this e.symm
def Xu (f:zf)(M:Int):Nat:=((max (M-f.phase) 0+f.period-1) / f.period).toNat
theorem zbO {f:zf}(hp:1≤f.period){M:Int}{k:Nat}(h:k < Xu f M):f.phase+(k:Nat)*f.period < M:=by
 unfold Xu at h
 have h1:(k:Int)+1≤(max (M-f.phase) 0+f.period-1) / f.period:=by omega
 have h2:=Int.mul_le_of_le_ediv (by omega) h1
 rw[Int.add_mul]at h2
 have h3:0≤(k:Int)*f.period:=Int.mul_nonneg (by omega) (by omega)
 omega
theorem zbP {f:zf}(hp:1≤f.period)(h0:0≤f.phase){M:Int}(hM0:0≤M):(Xu f M:Int)≤M:=by
 apply Decidable.byContradiction
 intro hn
 have h1:M.toNat < Xu f M:=by omega
 have h2:=zbO hp h1
 have h3:(M.toNat:Int)*1≤(M.toNat:Int)*f.period:=Int.mul_le_mul_of_nonneg_left hp (by omega)
 omega
def v8 (n:zF)(a b:Int):Int:=n.margin.getD (xf n a b).toNat 0
def jb (n:zF)(a b:Int):Int:=if yE a n.nodes then Zj n a b else 0
def kA (n:zF)(cs:List zg)(i:Nat)(node:Int)(k:Nat):Int:=match cs[k]? with
 | some c=>if k=i then 0 else jb n c.src node+jb n c.dst node
 | none=>0
def YB (n:zF)(cs:List zg)(i:Nat)(node:Int)(k:Nat):Int:=qq (kA n cs i node) (List.range k)
def jV (n:zF)(cs:List zg)(i:Nat)(node:Int):Int:=YB n cs i node cs.length
def vh (a b:zg):Bool:=a.src==b.src||a.src==b.dst||a.dst==b.src||a.dst==b.dst
theorem QX (n:zF)(cs:List zg)(i:Nat)(node:Int)(k:Nat):YB n cs i node (k+1)=YB n cs i node k+kA n cs i node k:=by
 unfold YB
 rw[List.range_succ,VJ]
 simp[qq]
theorem kg {n:zF}(h:xT n)(a b:Int):0≤jb n a b∧jb n a b≤68719476736:=by
 unfold jb
 have:=V2 h.pow a b
 split<;>omega
theorem zfE {n:zF}(h:xT n)(cs:List zg)(i:Nat)(node:Int)(k:Nat):0≤kA n cs i node k∧kA n cs i node k≤137438953472:=by
 unfold kA
 split
 ·rename_i c _
  have h1:=kg h c.src node
  have h2:=kg h c.dst node
  split<;>omega
 ·omega
theorem QZ {n:zF}(h:xT n)(cs:List zg)(i:Nat)(node:Int)(k:Nat):0≤YB n cs i node k∧YB n cs i node k≤k*137438953472:=by
 have:=Vs (f:=kA n cs i node) (m:=137438953472) (by omega) (l:=List.range k) fun j _=>zfE h cs i node j
 rw[List.length_range]at this
 exact this
theorem zjY {n:zF}(h:xT n){a b:Int}(ha:yE a n.nodes=true)(hb:yE b n.nodes=true):∃(i j:Nat) (r:List Int) (x:Int),a=i∧b=j∧n.power[i]? = some r∧r[j]? = some x∧Zj n a b=x:=by
 simp only[yE,Bool.and_eq_true,decide_eq_true_eq]at ha hb
 obtain⟨i,rfl⟩:∃i:Nat,a=i:=⟨a.toNat,by omega⟩
 obtain⟨j,rfl⟩:∃j:Nat,b=j:=⟨b.toNat,by omega⟩
 have h1:=h.rows
 obtain⟨r,hr⟩:∃r,n.power[i]? = some r:=⟨_,List.getElem?_eq_getElem (by omega)⟩
 have h2:=h.row r (List.mem_of_getElem? hr)
 obtain⟨x,hx⟩:∃x,r[j]? = some x:=⟨_,List.getElem?_eq_getElem (by omega)⟩
 refine⟨i,j,r,x,rfl,rfl,hr,hx,?_⟩
 unfold Zj
 rw[Int.toNat_natCast,Int.toNat_natCast,List.getD_eq_getElem?_getD,List.getD_eq_getElem?_getD,hr,Option.getD_some,hx];rfl
theorem zav {n:zF}(h:xT n){a b:Int}(hg:vb n a b=true):∃(p:Nat) (m:Int),xf n a b=p∧n.margin[p]? = some m∧v8 n a b=m∧0≤m∧m≤68719476736∧yE a n.nodes=true∧yE b n.nodes=true∧vb n b a=true:=by
 have h0:=Kp hg
 obtain⟨p,l,e1,e2,e3,e4⟩:=jT h0
 have hp:=(List.getElem?_eq_some_iff.1 e2).1
 obtain⟨m,hm⟩:∃m,n.margin[p]? = some m:=⟨_,List.getElem?_eq_getElem (by rw[h.mar];exact hp)⟩
 have hk:=h.link p l e2
 have hb:=Xx hk.1
 have hpw:=V2 h.pow l.src l.dst
 rw[List.getD_eq_getElem?_getD,hm,Option.getD_some]at hk
 refine⟨p,m,e1,hm,?_,by omega,by omega,by rw[←e3];simp[yE];omega,by rw[←e4];simp[yE];omega,?_⟩
 ·unfold v8;rw[e1,Int.toNat_natCast,List.getD_eq_getElem?_getD,hm];rfl
 ·unfold vb at hg ⊢
  simp only[Bool.and_eq_true]at hg ⊢
  exact⟨⟨⟨hg.1.1.2,hg.1.1.1⟩,hg.2⟩,hg.1.2⟩
section
variable (tg:Nat→Nat→Bool)
end
theorem zcf {α:Type}(p:α→Bool){l:List α}{k:Nat}{x:α}(h:l[k]? = some x):(l.take (k+1)).filter p=if p x then(l.take k).filter p++[x] else(l.take k).filter p:=by
 rw[zK h,List.filter_append]
 split
 ·rename_i hp;rw[List.filter_cons_of_pos hp];rfl
 ·rename_i hp;rw[List.filter_cons_of_neg hp,List.filter_nil,List.append_nil]
theorem zdp {nodes:Int}{l:List zf}(h:(yd nodes l).2=0):∀f∈l,1≤f.period∧f.period≤512:=by
 intro f hf
 obtain⟨k,hk⟩:=List.getElem?_of_mem hf
 have hkl:=(List.getElem?_eq_some_iff.1 hk).1
 unfold yd at h
 split at h
 ·cases h
 split at h
 ·cases h
 have h3:=yw.1 h k hkl
 unfold wv at h3
 rw[hk]at h3
 simp only at h3
 have hfx:yo nodes f=0:=by
  split at h3
  ·rename_i hh;exact absurd h3 hh
  ·omega
 have:=yB hfx
 omega
def Wr (l:List zf)(id:Int):Bool:=l.any fun f=>f.id==id
def V7 (cs:List zg)(i:Nat)(c:zg):Bool:=match i with
 | 0=>true
 | j+1=>match cs[j]? with
  | some p=>decide (p.cmp c < 0)
  | none=>true
def qT (n:zF)(l:List zf)(s:zc)(i:Nat):Int:=match s.cells[i]? with
 | none=>0
 | some c=>if wy s c=false then 2 else if vb n c.src c.dst=false∨Wr l c.flow=false then 7 else if V7 s.cells i c=false then 5 else 0
def KW (cs:List zg)(c:zg)(k:Nat):Bool:=match cs[k]? with
 | some d=>d.slot==c.slot&&vh c d
 | none=>false
def kZ (cs:List zg)(i:Nat):Bool:=match cs[i]? with
 | none=>false
 | some c=>(List.range i).any (KW cs c)
def wB (c d:zg):Bool:=d.slot==c.slot&&d.off==c.off
def x8 (cs:List zg)(c:zg):List zg:=cs.filter (wB c)
def kc (cs:List zg)(c:zg)(i:Nat):Nat:=((cs.take i).filter (wB c)).length
def qe (n:zF)(cs:List zg)(i:Nat):Bool:=match cs[i]? with
 | none=>false
 | some c=>!xQ n (v8 n c.src c.dst) (jV n (x8 cs c) (kc cs c i) c.dst)||!xQ n (v8 n c.dst c.src) (jV n (x8 cs c) (kc cs c i) c.src)
def twI (cs:List zg)(i:Nat):Int:=if kZ cs i then 6 else 0
def dsI (n:zF)(cs:List zg)(i:Nat):Int:=if qe n cs i then 16 else 0
def zgM (s:zc)(f:zf):Bool:=s.len % f.period != 0
def yU (n:zF)(l:List zf)(s:zc):Int×Int:=
 if yS n≠0∨(yd n.nodes l).2≠0 then(-1,1) else if wA s=false then(-1,2) else if l.any (zgM s) then(-1,11) else if 512 < s.cells.length then(-1,8)
 else if (zS (qT n l s) s.cells.length).2≠0 then zS (qT n l s) s.cells.length
 else if (zS (twI s.cells) s.cells.length).2≠0 then zS (twI s.cells) s.cells.length
 else zS (dsI n s.cells) s.cells.length
structure VOk (n:zF)(l:List zf)(s:zc):Prop where
 net:xT n
 n0:yS n=0
 flows:(yd n.nodes l).2=0
 size:wA s=true
 per:∀f∈l,s.len % f.period=0
 many:s.cells.length≤512
 cell:∀(i:Nat) c,s.cells[i]? = some c→wy s c=true∧vb n c.src c.dst=true∧Wr l c.flow=true∧V7 s.cells i c=true
 once:∀(i j:Nat) c d,j < i→s.cells[i]? = some c→s.cells[j]? = some d→d.slot=c.slot→vh c d=false
 heard:∀(i:Nat),i < s.cells.length→qe n s.cells i=false
theorem ZS {n:zF}{l:List zf}{s:zc}(h:(yU n l s).2=0):VOk n l s:=by
 unfold yU at h
 split at h
 ·cases h
 rename_i h1
 split at h
 ·cases h
 rename_i h2
 split at h
 ·cases h
 rename_i h3
 split at h
 ·cases h
 rename_i h4
 split at h
 ·rename_i hh;exact absurd h hh
 rename_i h5
 split at h
 ·rename_i hh;exact absurd h hh
 rename_i h6
 have h5:(zS (qT n l s) s.cells.length).2=0:=by omega
 have h6:(zS (twI s.cells) s.cells.length).2=0:=by omega
 rw[yw]at h5 h6 h
 refine⟨vo (by omega),by omega,by omega,by simpa using h2,fun f hf=>?_,by omega,fun i c hc=>?_,fun i j c d hji hc hd hs=>?_,fun i hi=>?_⟩
 ·have:=List.any_eq_false.1 (by simpa using h3) f hf
  simpa[zgM] using this
 ·have:=h5 i (List.getElem?_eq_some_iff.1 hc).1
  unfold qT at this
  rw[hc]at this
  simp only at this
  split at this
  ·cases this
  rename_i g1
  split at this
  ·cases this
  rename_i g2
  split at this
  ·cases this
  rename_i g3
  simp only[not_or,Bool.not_eq_false]at g1 g2 g3
  exact⟨g1,g2.1,g2.2,g3⟩
 ·have:=h6 i (List.getElem?_eq_some_iff.1 hc).1
  unfold twI kZ at this
  rw[hc]at this
  simp only at this
  split at this
  ·cases this
  rename_i g
  have g2:=List.any_eq_false.1 (Bool.eq_false_iff.2 g) j (by simpa using hji)
  unfold KW at g2
  rw[hd]at g2
  cases ht:vh c d with
  | false=>rfl
  | true=>simp[hs,ht]at g2
 ·have:=h i hi
  unfold dsI at this
  split at this
  ·cases this
  ·rename_i g;simpa using g
theorem zbd (a b:zg):vh a b=vh b a:=by
 unfold vh
 rw[Bool.eq_iff_iff]
 simp only[Bool.or_eq_true,beq_iff_eq]
 constructor
 ·rintro (((h|h)|h)|h)<;>simp[h]
 ·rintro (((h|h)|h)|h)<;>simp[h]
theorem VOk.apart {n:zF}{l:List zf}{s:zc}(h:VOk n l s){i j:Nat}{c d:zg}(hc:s.cells[i]? = some c)(hd:s.cells[j]? = some d)(hij:i≠j)(hs:c.slot=d.slot):vh c d=false:=by
 rcases Nat.lt_or_gt_of_ne hij with h1|h1
 ·rw[zbd];exact h.once j i d c h1 hd hc hs
 ·exact h.once i j c d h1 hc hd hs.symm
theorem VOk.sorted {n:zF}{l:List zf}{s:zc}(h:VOk n l s):s.cells.Pairwise fun a b=>a.cmp b < 0:=by
 refine List.pairwise_iff_getElem.2 fun i j hi hj hij=>?_
 obtain⟨e,rfl⟩:∃e,j=i+e+1:=⟨j-i-1,by omega⟩
 induction e with
 | zero=>
  have:=(h.cell (i+0+1) _ (List.getElem?_eq_getElem hj)).2.2.2
  unfold V7 at this
  simp only[Nat.add_zero]at this
  rw[List.getElem?_eq_getElem hi]at this
  simpa using this
 | succ e ih=>
  have h1:=ih (by omega) (by omega)
  have:=(h.cell (i+(e+1)+1) _ (List.getElem?_eq_getElem hj)).2.2.2
  unfold V7 at this
  simp only at this
  rw[List.getElem?_eq_getElem (by omega:i+(e+1) < s.cells.length)]at this
  exact y7 h1 (of_decide_eq_true this)
theorem VOk.at {n:zF}{l:List zf}{s:zc}(h:VOk n l s){c:zg}(hc:c∈s.cells):0≤c.slot∧c.slot < s.len∧0≤c.off∧c.off < s.offs∧vb n c.src c.dst=true∧Wr l c.flow=true:=by
 obtain⟨i,hi⟩:=List.getElem?_of_mem hc
 obtain⟨h1,h2,h3,_⟩:=h.cell i c hi
 simp only[wy,yE,Bool.and_eq_true,decide_eq_true_eq]at h1
 exact⟨h1.1.1,h1.1.2,h1.2.1,h1.2.2,h2,h3⟩
theorem zay {nodes:Int}{l:List zf}(h:(yd nodes l).2=0):l.Pairwise fun a b=>a.id < b.id:=by
 unfold yd at h
 split at h
 ·cases h
 split at h
 ·cases h
 rw[yw]at h
 refine List.pairwise_iff_getElem.2 fun i j hi hj hij=>?_
 have step:∀k,(hk:k+1 < l.length)→(l[k]'(by omega)).id < (l[k+1]).id:=fun k hk=>by
  have:=h (k+1) hk
  unfold wv at this
  rw[List.getElem?_eq_getElem hk]at this
  simp only at this
  split at this
  ·rename_i hh;exact absurd this hh
  split at this
  ·cases this
  rename_i g
  unfold Yz at g
  simp only at g
  rw[List.getElem?_eq_getElem (by omega:k < l.length)]at g
  simpa using g
 obtain⟨e,rfl⟩:∃e,j=i+e+1:=⟨j-i-1,by omega⟩
 clear hij
 induction e with
 | zero=>exact step i hj
 | succ e ih=>exact Int.lt_trans (ih (by omega) step) (step (i+(e+1)) hj)
end HM
