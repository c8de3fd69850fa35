/- Code and loops. -/
import Derived.Test.YtckcedndijobaaaGreatDoorFd
import Derived.ControlIn
namespace HM
open Go Go.RowKit
def obOf (P:Program)(o:Oper):Option Ob:=match pureOp o.op with
 | true=>none
 | false=>match allocOf o with
  | some t=>(tzero P t).map fun cs=>.cells cs t
  | none=>none
def pnd (P:Program)(ops:Array Oper)(done:Nat→Bool)(p:Nat):Nat→List Ob
 | 0=>[]
 | n+1=>pnd P ops done p n++(match (ops[p+n]?).bind (obOf P) with
  | some ob=>[if done (p+n)=true then ob else .hole]
  | none=>[])
def all':Nat→Bool:=fun _=>true
theorem pnd_length (P:Program)(ops:Array Oper)(d d':Nat→Bool)(p:Nat):∀n,(pnd P ops d p n).length=(pnd P ops d' p n).length
 | 0=>rfl
 | n+1=>by
  simp only[pnd,List.length_append,pnd_length P ops d d' p n]
  split<;>rfl
theorem pnd_congr (P:Program)(ops:Array Oper){d d':Nat→Bool}(p:Nat):∀n,(∀i,p≤i→i < p+n→(∃ob,(ops[i]?).bind (obOf P)=some ob)→d i=d' i)→pnd P ops d p n=pnd P ops d' p n
 | 0,_=>rfl
 | n+1,h=>by
  simp only[pnd]
  rw[pnd_congr P ops p n fun i h1 h2 h3=>h i h1 (by omega) h3]
  split
  ·rename_i ob hob
   rw[h (p+n) (by omega) (by omega) ⟨ob,hob⟩]
  ·rfl
theorem pnd_holes (P:Program)(ops:Array Oper)(p:Nat):∀n,pnd P ops (fun _=>false) p n=List.replicate (pnd P ops all' p n).length .hole
 | 0=>rfl
 | n+1=>by
  simp only[pnd,pnd_holes P ops p n,List.length_append]
  split<;>simp[List.replicate_succ']
theorem pnd_set (P:Program)(ops:Array Oper){d d':Nat→Bool}(p:Nat){i:Nat}{ob:Ob}(hob:(ops[i]?).bind (obOf P)=some ob)(h0:d i=false)(h1:d' i=true)(h2:∀j,j≠i→d' j=d j):∀n,p≤i→i < p+n →
  (pnd P ops d p n)[(pnd P ops all' p (i-p)).length]? = some .hole∧pnd P ops d' p n=(pnd P ops d p n).set (pnd P ops all' p (i-p)).length ob
 | 0,_,h=>by omega
 | n+1,hp,h=>by
  have hlen:=pnd_length P ops all' d p (i-p)
  by_cases hin:i < p+n
  ·obtain⟨g1,g2⟩:=pnd_set P ops p hob h0 h1 h2 n hp hin
   have hlt:=(List.getElem?_eq_some_iff.1 g1).1
   simp only[pnd]
   refine⟨by rw[List.getElem?_append_left hlt];exact g1,?_⟩
   rw[g2,List.set_append_left _ _ hlt,h2 (p+n) (by omega)]
  ·obtain rfl:i=p+n:=by omega
   rw[show p+n-p=n from by omega]at hlen ⊢
   have hsame:pnd P ops d' p n=pnd P ops d p n:=pnd_congr P ops p n fun j _ hj _=>h2 j (by omega)
   simp only[pnd,hob,h0,h1,if_true,hsame]
   rw[hlen]
   exact⟨by simp,by simp⟩
structure Seg (P:Program)(L:World→Prop)(ops:Array Oper)(S:St)(K:(Nat→AV)→St→Prop)(p n:Nat)(a vs:Nat→AV):Prop where
 le:p+n≤ops.size
 free:∀i o,p≤i→i < p+n→ops[i]? = some o→freeOp o=true
 good:∀i o,p≤i→i < p+n→ops[i]? = some o→pureOp o.op=true→Good P L ops S (stS ops p a vs (upTo i)) o (vs i)
 made:∀i o,p≤i→i < p+n→ops[i]? = some o→pureOp o.op=false→(∃ob,obOf P o=some ob)∧vs i=.ptr (S.bx.length+(pnd P ops all' p (i-p)).length) 0
 stop:p+n=ops.size∨∃o,ops[p+n]? = some o∧freeOp o=false
 rest:twD P L ops (ops.toList.drop (p+n)) (stS ops p a vs (upTo (p+n))) S (pnd P ops all' p n) K
theorem stretch:∀l:List Oper,∃n,n≤l.length∧(∀o∈l.take n,freeOp o=true)∧(n=l.length∨∃o,l[n]? = some o∧freeOp o=false)
 | []=>⟨0,by simp⟩
 | o :: l=>by
  cases hp:freeOp o with
  | false=>exact⟨0,by simp,by simp,.inr ⟨o,by simp,hp⟩⟩
  | true=>
   obtain⟨n,h1,h2,h3⟩:=stretch l
   refine⟨n+1,by simpa using h1,fun x hx=>?_,?_⟩
   ·rw[List.take_succ_cons]at hx
    rcases List.mem_cons.1 hx with rfl|hx
    ·exact hp
    ·exact h2 x hx
   ·rcases h3 with h3|⟨o',h3,h4⟩
    ·exact .inl (by simp[h3])
    ·exact .inr ⟨o',by simpa using h3,h4⟩
theorem stS_same {ops:Array Oper}{p:Nat}{a vs vs':Nat→AV}{m:Nat}(h:∀i,i < m→vs' i=vs i):stS ops p a vs' (upTo m)=stS ops p a vs (upTo m):=by
 funext t
 simp only[stS]
 split
 ·rfl
 ·rename_i i _
  by_cases hlt:i < m
  ·simp[upTo,hlt,h i hlt]
  ·simp[upTo,hlt]
theorem twD_good {P:Program}{L:World→Prop}{all:Array Oper}(hD:Draw all){S:St}{K:(Nat→AV)→St→Prop}(p:Nat)(a:Nat→AV):∀(n:Nat) (l rest:List Oper) (m:Nat) (vs:Nat→AV),l.length=n→all.toList.drop (p+m)=l++rest→(∀o∈l,freeOp o=true) →
  twD P L all (l++rest) (stS all p a vs (upTo (p+m))) S (pnd P all all' p m) K →
  ∃vs':Nat→AV,(∀i,i < p+m→vs' i=vs i)∧(∀i o,p+m≤i→i < p+m+n→all[i]? = some o→(pureOp o.op=true→Good P L all S (stS all p a vs' (upTo i)) o (vs' i)) ∧
   (pureOp o.op=false→(∃ob,obOf P o=some ob)∧vs' i=.ptr (S.bx.length+(pnd P all all' p (i-p)).length) 0))∧twD P L all rest (stS all p a vs' (upTo (p+m+n))) S (pnd P all all' p (m+n)) K
 | 0,l,rest,m,vs,hl,_,_,h=>by
  have:l=[]:=List.eq_nil_of_length_eq_zero hl
  subst this
  exact⟨vs,fun _ _=>rfl,fun i o h1 h2=>by omega,by simpa using h⟩
 | n+1,[],_,_,_,hl,_,_,_=>by simp at hl
 | n+1,o :: l,rest,m,vs,hl,hdrop,hp,h=>by
  have hoq:all[p+m]? = some o:=by
   have:=congrArg (fun l=>l[0]?) hdrop
   simp at this
   simpa using this
  have hpo:=hp o (by simp)
  obtain⟨d,hd⟩:=Option.isSome_iff_exists.1 (hD.dst (p+m) o hoq hpo)
  have step:∃v,(pureOp o.op=true→Good P L all S (stS all p a vs (upTo (p+m))) o v)∧(pureOp o.op=false→(∃ob,obOf P o=some ob)∧v=.ptr (S.bx.length+(pnd P all all' p m).length) 0) ∧
    twD P L all (l++rest) (updo (stS all p a vs (upTo (p+m))) o.dst v) S (pnd P all all' p (m+1)) K:=by
   simp only[List.cons_append,twD]at h
   cases hpure:pureOp o.op with
   | true=>
    simp only[hpure]at h
    have hob:(all[p+m]?).bind (obOf P)=none:=by rw[hoq];simp[obOf,hpure]
    have hpnd:pnd P all all' p (m+1)=pnd P all all' p m:=by simp[pnd,hob]
    rw[hpnd]
    rcases gdK_split h with ⟨hg,h⟩|⟨hg,h⟩
    ·obtain⟨C,hC⟩:=OpK_rep (P:=P) (L:=L) (a:=stS all p a vs (upTo (p+m))) (S:=S) hpure
     obtain⟨v,hv,hK⟩:=(hC _).1 h
     exact⟨v,fun _=>hg _ _ ((hC _).2 ⟨v,hv,rfl,rfl⟩),fun h=>(by cases h),hK⟩
    ·exact⟨.tup [],fun _=>hg _ _ rfl,fun h=>(by cases h),h⟩
   | false=>
    simp only[hpure]at h
    have hal:(allocOf o).isSome=true:=by simpa[freeOp,hpure] using hpo
    obtain⟨t,ht⟩:=Option.isSome_iff_exists.1 hal
    simp only[ht]at h
    cases hz:tzero P t with
    | none=>simp only[hz]at h
    | some cs=>
     simp only[hz]at h
     have hob:obOf P o=some (.cells cs t):=by simp[obOf,hpure,ht,hz]
     have hpnd:pnd P all all' p (m+1)=pnd P all all' p m++[.cells cs t]:=by simp[pnd,hoq,hob,all']
     rw[hpnd]
     exact⟨_,fun h=>(by cases h),fun _=>⟨⟨_,hob⟩,rfl⟩,h⟩
  obtain⟨v,hgood,hmade,h2⟩:=step
  have hput:updo (stS all p a vs (upTo (p+m))) o.dst v=stS all p a (fun i=>if i=p+m then v else vs i) (upTo (p+(m+1))):=by
   rw[←stS_same (m:=p+m) (vs':=fun i=>if i=p+m then v else vs i) (vs:=vs) fun i hi=>by simp[show i≠p+m from by omega]]
   have:=stS_put hD (p:=p) (a:=a) (vs:=fun i=>if i=p+m then v else vs i) (done:=upTo (p+m)) (done':=upTo (p+(m+1))) hoq hd (by omega) (by simp[upTo]) (fun j hj=>by simp[upTo];omega)
   simpa using this
  rw[hput]at h2
  have hdrop':all.toList.drop (p+(m+1))=l++rest:=by
   have:=congrArg List.tail hdrop
   simpa[Nat.add_assoc] using this
  obtain⟨vs',e1,e2,e3⟩:=twD_good hD p a n l rest (m+1) _ (by simpa using hl) hdrop' (fun o ho=>hp o (by simp[ho])) h2
  refine⟨vs',fun i hi=>by rw[e1 i (by omega)];simp[show i≠p+m from by omega],fun i o' h3 h4 h5=>?_,by rw[show p+m+(n+1)=p+(m+1)+n from by omega,show m+(n+1)=m+1+n from by omega];exact e3⟩
  by_cases hiq:i=p+m
  ·subst hiq
   rw[hoq]at h5;injection h5 with h5;subst h5
   have hv:vs' (p+m)=v:=by rw[e1 (p+m) (by omega)];simp
   rw[hv]
   refine⟨fun hh=>?_,fun hh=>?_⟩
   ·rw[stS_same (vs:=vs) fun j hj=>by rw[e1 j (by omega)];simp[show j≠p+m from by omega]]
    exact hgood hh
   ·rw[show p+m-p=m from by omega]
    exact hmade hh
  ·exact e2 i o' (by omega) (by omega) h5
theorem Seg.start {P:Program}{L:World→Prop}{ops:Array Oper}(hD:Draw ops){S:St}{K:(Nat→AV)→St→Prop}{p:Nat}(hp:p≤ops.size){a:Nat→AV}(h:twD P L ops (ops.toList.drop p) a S [] K):∃n vs,Seg P L ops S K p n a vs:=by
 obtain⟨n,h1,h2,h3⟩:=stretch (ops.toList.drop p)
 simp only[List.length_drop,Array.length_toList]at h1 h3
 have ha:stS ops p a (fun _=>.undef) (upTo (p+0))=a:=by
  funext t
  simp only[stS]
  split
  ·rfl
  ·rename_i i _
   have:¬(p≤i∧upTo (p+0) i=true):=by simp[upTo]
   rw[if_neg this]
 have hsplit:ops.toList.drop p=(ops.toList.drop p).take n++ops.toList.drop (p+n):=by
  rw[←List.drop_drop,List.take_append_drop]
 have h':twD P L ops ((ops.toList.drop p).take n++ops.toList.drop (p+n)) (stS ops p a (fun _=>.undef) (upTo (p+0))) S (pnd P ops all' p 0) K:=by
  rw[ha,←hsplit]
  exact h
 obtain⟨vs,_,e2,e3⟩:=twD_good hD p a n ((ops.toList.drop p).take n) (ops.toList.drop (p+n)) 0 _ (by simp;omega) (by simpa using hsplit) h2 h'
 refine⟨n,vs,by omega,fun i o g1 g2 g3=>h2 o ?_,fun i o g1 g2 g3=>(e2 i o (by omega) (by omega) g3).1,fun i o g1 g2 g3=>(e2 i o (by omega) (by omega) g3).2,?_,by simpa using e3⟩
 ·have:((ops.toList.drop p).take n)[i-p]? = some o:=by
   rw[List.getElem?_take,if_pos (by omega),List.getElem?_drop,show p+(i-p)=i from by omega]
   simpa using g3
  exact List.mem_of_getElem? this
 ·rcases h3 with h3|⟨o,h3,h4⟩
  ·exact .inl (by omega)
  ·refine .inr ⟨o,?_,h4⟩
   rw[List.getElem?_drop]at h3
   simpa using h3
theorem More.flush (S:St)(X:List Ob):More S (S.flush X):=by
 rw[St.flush_eq]
 exact⟨fun id o h _=>by rw[List.getElem?_append_left (List.getElem?_eq_some_iff.1 h).1];exact h,rfl⟩
theorem flush_fr (S:St)(X:List Ob):(S.flush X).fr=S.fr:=by rw[St.flush_eq]
theorem RelS.toHoles {P:Program}{L:World→Prop}{w0:Orig L}{G:Gh}{S:St}{w:World}(h:RelS w0 G S w)(ops:Array Oper)(d:Nat→Bool)(p n:Nat)(hd:∀i,p≤i→i < p+n→d i=false):RelS w0 G (S.flush (pnd P ops d p n)) w:=by
 rw[pnd_congr P ops (d':=fun _=>false) p n (fun i h1 h2 _=>hd i h1 h2),pnd_holes,St.flush_eq]
 exact h.addHoles _
theorem Reach.listed {ops:Array Oper}{listed:Array Bool}(hcl:∀k o,ops[k]? = some o→listed.getD k false=true→∀e∈o.after,Region.binds .any e=true→listed.getD e.on false=true){i j:Nat}(h:Reach ops i j) :
  (∀o,ops[i]? = some o→∀e∈o.after,Region.binds .any e=true→listed.getD e.on false=true)→listed.getD j false=true:=by
 induction h with
 | base ho he hb=>intro h;exact h _ ho _ he hb
 | step ho he hb _ ih=>intro h;exact ih fun o' ho' e' he' hb'=>hcl _ o' ho' (h _ ho _ he hb) e' he' hb'
theorem anyOrder {P:Program}{ro:Option Nat}{ops:Array Oper}{nt:Nat}(hreg:regOk nt ops=true)(hD:Draw ops){L:World→Prop}{w0:Orig L}{K:(Nat→AV)→St→Prop}{Q:Exit→Act→World→Prop}
  (hQ:∀G a S act w,Rel w0 G S nt a act w→K a S→Q .normal act w) :
  ∀(fuel:Nat) (listed:Array Bool),listed.size=ops.size→listed.toList.countP (fun b=>!b)=fuel→∀(p n:Nat) (a vs:Nat→AV) (S:St) (G:Gh) (act:Act) (w:World),Seg P L ops S K p n a vs →
  (∀j,j < p→listed.getD j false=true)→(∀j,p+n≤j→listed.getD j false=false)→(∀k o,ops[k]? = some o→listed.getD k false=true→∀e∈o.after,Region.binds .any e=true→listed.getD e.on false=true) →
  RelS w0 G (S.flush (pnd P ops (fun j=>listed.getD j false) p n)) w→RelT w0.fi G S.fr w nt (stS ops p a vs fun j=>listed.getD j false) act→wpAnyIn (FW ro) 0 P .any ops Q fuel listed act w:=by
 have done:∀(listed:Array Bool) (p n:Nat) (a vs:Nat→AV) (S:St) (G:Gh) (act:Act) (w:World),Seg P L ops S K p n a vs→(∀j,p+n≤j→listed.getD j false=false)→(∀i,i < ops.size→listed.getD i false=true)→RelS w0 G (S.flush (pnd P ops (fun j=>listed.getD j false) p n)) w→RelT w0.fi G S.fr w nt (stS ops p a vs fun j=>listed.getD j false) act→Q .normal act w:=by
  intro listed p n a vs S G act w hg hun hall hS hT
  have hpn:p+n=ops.size:=by
   rcases hg.stop with h|⟨o,ho,_⟩
   ·exact h
   ·have:=(Array.getElem?_eq_some_iff.1 ho).1
    have h1:=hall _ this
    rw[hun _ (Nat.le_refl _)]at h1
    cases h1
  have hrest:=hg.rest
  rw[hpn,List.drop_of_length_le (by simp)]at hrest
  have hst:(stS ops p a vs fun j=>listed.getD j false)=stS ops p a vs (upTo ops.size):=by
   funext t
   simp only[stS]
   split
   ·rfl
   ·rename_i i hi
    obtain⟨o,ho,_⟩:=idxOf_some hi
    have hlt:=(List.getElem?_eq_some_iff.1 ho).1
    simp only[Array.length_toList]at hlt
    simp[hall i hlt,upTo,hlt]
  have hpd:pnd P ops (fun j=>listed.getD j false) p n=pnd P ops all' p n:=pnd_congr P ops p n fun i _ h2 _=>hall i (by omega)
  rw[hst]at hT
  rw[hpd]at hS
  exact hQ G _ (S.flush _) act w ⟨hS,by rw[flush_fr];exact hT⟩ hrest
 intro fuel
 induction fuel with
 | zero=>
  intro listed hsz hcnt p n a vs S G act w hg hlo hun hcl hS hT
  have hall:∀i,i < ops.size→listed.getD i false=true:=by
   intro i hi
   have h1:=List.countP_eq_zero.1 hcnt (listed[i]'(by omega)) (by simp)
   rw[Array.getD_eq_getD_getElem?,Array.getElem?_eq_getElem (by omega)]
   simpa using h1
  refine⟨?_,done listed p n a vs S G act w hg hun hall hS hT⟩
  cases hr:Region.ready .any ops listed with
  | nil=>rfl
  | cons i l=>
   obtain⟨o,ho,h1,_⟩:=ready_spec (ops:=ops) (listed:=listed) (i:=i) (by rw[hr];simp)
   have hlt:=(Array.getElem?_eq_some_iff.1 ho).1
   have:=hall i hlt
   rw[Array.getD_eq_getD_getElem?,Array.getElem?_eq_getElem (by omega)]at this h1
   simp at this h1
   rw[this]at h1;cases h1
 | succ fuel ih=>
  intro listed hsz hcnt p n a vs S G act w hg hlo hun hcl hS hT
  refine⟨fun hr=>done listed p n a vs S G act w hg hun (ready_nil hD hsz hr) hS hT,fun i hi=>?_⟩
  obtain⟨o,ho,hunl,haft⟩:=ready_spec hi
  have hlt:=(Array.getElem?_eq_some_iff.1 ho).1
  have hun':listed.getD i false=false:=by
   rw[Array.getD_eq_getD_getElem?,Array.getElem?_eq_getElem (by omega)]at hunl ⊢
   simpa using hunl
  have hset1:(listed.setIfInBounds i true).getD i false=true:=by
   rw[Array.getD_eq_getD_getElem?];simp[show i < listed.size from by omega]
  have hset2:∀j,j≠i→(listed.setIfInBounds i true).getD j false=listed.getD j false:=by
   intro j hj
   simp only[Array.getD_eq_getD_getElem?,Array.getElem?_setIfInBounds_ne (Ne.symm hj)]
  have hcnt':(listed.setIfInBounds i true).toList.countP (fun b=>!b)=fuel:=by
   have hil:i < listed.toList.length:=by simp;omega
   have hval:listed.toList[i] = false:=by
    rw[Array.getD_eq_getD_getElem?,Array.getElem?_eq_getElem (by omega)]at hunl
    simpa using hunl
   have e1:listed.toList=listed.toList.take i++false :: listed.toList.drop (i+1):=by
    rw[←hval,←List.drop_eq_getElem_cons hil,List.take_append_drop]
   rw[Array.toList_setIfInBounds,List.set_eq_take_append_cons_drop,if_pos hil]
   rw[e1]at hcnt
   simp only[List.countP_append,List.countP_cons]at hcnt ⊢
   simp at hcnt ⊢
   omega
  have hdt:∀t,o.dst=some t→t < nt:=regOk_spec hreg o (List.mem_of_getElem? (show ops.toList[i]? = some o by simpa using ho))
  have hcl':∀k o,ops[k]? = some o→(listed.setIfInBounds i true).getD k false=true→∀e∈o.after,Region.binds .any e=true→(listed.setIfInBounds i true).getD e.on false=true:=by
   intro k o' hk hlk e he hb
   have h1:listed.getD e.on false=true:=by
    by_cases hki:k=i
    ·subst hki
     rw[ho]at hk;injection hk with hk;subst hk
     exact haft e he hb
    ·rw[hset2 k hki]at hlk
     exact hcl k o' hk hlk e he hb
   by_cases hei:e.on=i
   ·rw[hei];exact hset1
   ·rw[hset2 _ hei];exact h1
  have hpi:p≤i:=by
   rcases Nat.lt_or_ge i p with h|h
   ·rw[hlo i h]at hun';cases hun'
   ·exact h
  have hTf:RelT w0.fi G (S.flush (pnd P ops (fun j=>listed.getD j false) p n)).fr w nt (stS ops p a vs fun j=>listed.getD j false) act:=by rw[flush_fr];exact hT
  unfold wpOpIn
  rw[ho]
  simp only
  by_cases hin:i < p+n
  ·have hlo':∀j,j < p→(listed.setIfInBounds i true).getD j false=true:=fun j hj=>by rw[hset2 j (by omega)];exact hlo j hj
   have hun2:∀j,p+n≤j→(listed.setIfInBounds i true).getD j false=false:=fun j hj=>by rw[hset2 j (by omega)];exact hun j hj
   have hfree:=hg.free i o hpi hin ho
   obtain⟨d,hd⟩:=Option.isSome_iff_exists.1 (hD.dst i o ho hfree)
   have hnext:updo (stS ops p a vs fun j=>listed.getD j false) o.dst (vs i)=stS ops p a vs fun j=>(listed.setIfInBounds i true).getD j false:=
    stS_put hD ho hd hpi hset1 hset2
   cases hpo:pureOp o.op with
   | true=>
    have hob:(ops[i]?).bind (obOf P)=none:=by rw[ho];simp[obOf,hpo]
    have hpd:pnd P ops (fun j=>(listed.setIfInBounds i true).getD j false) p n=pnd P ops (fun j=>listed.getD j false) p n:=pnd_congr P ops p n fun j _ _ ⟨ob,hj⟩=>hset2 j (by rintro rfl;rw[hob]at hj;cases hj)
    have hl':∀j,j < i→Aft o j→listed.getD j false=true:=by
     rintro j _ ⟨e,he,hb,rfl⟩
     exact haft e he hb
    have hgd0:Good P L ops S (stS ops p a vs fun j=>listed.getD j false) o (vs i):=by
     refine Good.congr (fun x hx=>?_) (fun j wt d hgd hd=>?_) (hg.good i o hpi hin ho hpo)
     ·cases x with
      | tmp t=>
       simp only[evO,stS]
       split
       ·rfl
       ·rename_i j hj
        obtain⟨o',ho',hd'⟩:=idxOf_some hj
        have hj':ops[j]? = some o':=by simpa using ho'
        have hlook:=hD.look i o ho t (by
         simp only[tmpsOf,List.mem_filterMap]
         exact⟨.tmp t,by simpa using hx,rfl⟩) j o' hj' hd'
        have key:upTo i j=listed.getD j false:=by
         rcases hlook with ⟨h1,h2⟩|⟨h1,e,he,hb,h2⟩|rfl
         ·simp[upTo,h1,hl' j h1 h2]
         ·have:listed.getD j false=false:=by
           cases hv:listed.getD j false with
           | false=>rfl
           | true=>
            have:=hcl j o' hj' hv e he hb
            rw[h2,hun']at this
            cases this
          simp[upTo,this];omega
         ·simp[upTo,hun']
        rw[key]
      | _=>rfl
     ·obtain⟨e,he,hb,hej⟩:=hD.guard i o ho j wt hgd
      have hji:j < i:=by have:=hD.edge i o ho e he hb;omega
      have hlj:=hl' j hji ⟨e,he,hb,hej⟩
      simp only[Option.bind_eq_some_iff]at hd
      obtain⟨o',ho',hd'⟩:=hd
      simp only[stS,idxOf_of hD ho' hd',hlj,upTo,hji,decide_true]
    rcases gdK_wanted hT hreg hgd0 with ⟨hw,h⟩|⟨hw,h⟩
    ·rw[if_pos hw]
     have h:=OpK_more (More.flush S (pnd P ops (fun j=>listed.getD j false) p n)) hpo h
     refine wpIn_mono1 (OpK_sound (ro:=ro) Q hS hTf hdt h) fun act' w' ⟨G',S',e,h1,_,h3,he,hS'⟩=>?_
     subst he;subst hS'
     rw[hnext,flush_fr]at h3
     exact ih _ (by simp[hsz]) hcnt' p n a vs S G' act' w' hg hlo' hun2 hcl' (by rw[hpd];exact h1) h3
    ·rw[if_neg (by simp[hw])]
     have:=hT.put hdt (e:=vs i) (v:=undef) (by rw[h];exact⟨#[],rfl,rfl⟩)
     rw[hnext]at this
     exact⟨fun _ _=>trivial,ih _ (by simp[hsz]) hcnt' p n a vs S G _ w hg hlo' hun2 hcl' (by rw[hpd];exact hS) this⟩
   | false=>
    obtain⟨⟨ob,hob⟩,hvi⟩:=hg.made i o hpi hin ho hpo
    have hob':(ops[i]?).bind (obOf P)=some ob:=by rw[ho];exact hob
    obtain⟨g1,g2⟩:=pnd_set P ops p hob' (d:=fun j=>listed.getD j false) (d':=fun j=>(listed.setIfInBounds i true).getD j false) hun' hset1 hset2 n hpi hin
    obtain⟨t,ht,cs,hz,rfl⟩:∃t,allocOf o=some t∧∃cs,tzero P t=some cs∧ob=.cells cs t:=by
     simp only[obOf,hpo]at hob
     split at hob
     ·rename_i t ht
      simp only[Option.map_eq_some_iff]at hob
      obtain⟨cs,h1,h2⟩:=hob
      exact⟨t,ht,cs,h1,h2.symm⟩
     ·cases hob
    have hgu:o.guard=none∧o.op=.alloc t:=by
     unfold allocOf at ht
     split at ht
     ·rename_i hgn
      split at ht
      ·rename_i t' hop
       injection ht with ht;subst ht
       exact⟨hgn,hop⟩
      ·cases ht
     ·cases ht
    obtain⟨hgn,hop⟩:=hgu
    have hw:Region.wanted o (yielded ops act.tmps)=true:=by simp[Region.wanted,hgn]
    rw[if_pos hw]
    have hlookup:(S.flush (pnd P ops (fun j=>listed.getD j false) p n)).bx[S.bx.length+(pnd P ops all' p (i-p)).length]? = some .hole:=by
     rw[St.flush_eq]
     simp only[List.getElem?_append_right (Nat.le_add_right _ _),Nat.add_sub_cancel_left]
     exact g1
    have hz':=hz
    unfold tzero at hz'
    simp only[Option.map_eq_some_iff,Option.bind_eq_some_iff]at hz'
    obtain⟨z,⟨it,hit,hzz⟩,hcs⟩:=hz'
    obtain⟨G',h1,h2,h3,h4⟩:=hS.revive hlookup (.cells cs t) (.cells z.cells t) ⟨_,rfl,by rw[←hcs];simp,by rw[←hcs,List.take_of_length_le (by simp)];exact VRs.ofCs _ _ _ _⟩
    have hrun:(execOp act.eval o).run P w=.ok (.value (.pointer (some ⟨w.heap.size,0,none⟩))) (w.alloc (.cells z.cells t)):=by
     have:(Instr.alloc t true (.tuple #[])).run P w=.ok (.pointer (some ⟨w.heap.size,0,none⟩)) (w.alloc (.cells z.cells t)):=by simp[Instr.alloc,zeroValue,typeInfo,hit,hzz,newVar,newRow]
     simp only[execOp,hop,Sem.run_bind,this,Result.andThen_ok,Sem.run_pure]
    refine wp_plain (fun c hc=>by rw[hop]at hc;cases hc) hrun ?_
    have hT':=(hT.keep (by rw[flush_fr]at h2;exact h2)).put hdt (e:=vs i) (v:=.pointer (some ⟨w.heap.size,0,none⟩)) (by rw[hvi];exact⟨_,h3,rfl⟩)
    rw[hnext]at hT'
    refine ih _ (by simp[hsz]) hcnt' p n a vs S G' _ _ hg hlo' hun2 hcl' ?_ hT'
    rw[g2]
    rw[St.flush_eq]at h1 ⊢
    simp only[List.set_append_right _ _ (Nat.le_add_right _ _),Nat.add_sub_cancel_left]at h1
    exact h1
  ·-- one that stands between all
   obtain⟨ob,hob,hpb⟩:∃o,ops[p+n]? = some o∧freeOp o=false:=by
    rcases hg.stop with h|h
    ·omega
    ·exact h
   have hie:i=p+n:=by
    by_cases h:i=p+n
    ·exact h
    ·exfalso
     have:=((hD.bar _ ob hob hpb).2 i o ho (by omega)).listed hcl fun o' ho' e he hb=>by rw[ho]at ho';injection ho' with ho';subst ho';exact haft e he hb
     rw[hun _ (Nat.le_refl _)]at this
     cases this
   subst hie
   rw[hob]at ho;injection ho with ho;subst ho
   have hall:∀j,j < p+n→listed.getD j false=true:=fun j hj=>by
    exact((hD.bar _ ob hob hpb).1 j hj).listed hcl fun o' ho' e he hb=>by rw[hob]at ho';injection ho' with ho';subst ho';exact haft e he hb
   have hst:(stS ops p a vs fun j=>listed.getD j false)=stS ops p a vs (upTo (p+n)):=by
    funext t
    simp only[stS]
    split
    ·rfl
    ·rename_i j hj
     by_cases hlt':j < p+n
     ·simp[hall j hlt',upTo,hlt']
     ·simp[hun j (by omega),upTo,hlt']
   have hpd:pnd P ops (fun j=>listed.getD j false) p n=pnd P ops all' p n:=pnd_congr P ops p n fun j _ h2 _=>hall j h2
   rw[hst]at hTf
   rw[hpd]at hS hTf
   have hrest:=hg.rest
   have hdrop:ops.toList.drop (p+n)=ob :: ops.toList.drop (p+n+1):=by
    have hlt2:p+n < ops.toList.length:=by simpa using hlt
    rw[List.drop_eq_getElem_cons hlt2]
    congr 1
    have:ops.toList[p+n]? = some ob:=by simpa using hob
    rw[List.getElem?_eq_getElem hlt2]at this
    injection this
   have hnp:pureOp ob.op=false∧allocOf ob=none:=by
    simp only[freeOp,Bool.or_eq_false_iff]at hpb
    exact⟨hpb.1,by simpa using hpb.2⟩
   rw[hdrop]at hrest
   simp only[twD,hnp.1,hnp.2]at hrest
   have hlo':∀j,j < p+n+1→(listed.setIfInBounds (p+n) true).getD j false=true:=fun j hj=>by
    by_cases h:j=p+n
    ·subst h;exact hset1
    ·rw[hset2 j h];exact hall j (by omega)
   have hun2:∀m j,p+n+1+m≤j→(listed.setIfInBounds (p+n) true).getD j false=false:=fun m j hj=>by rw[hset2 j (by omega)];exact hun j (by omega)
   have hnone:∀(a' vs':Nat→AV),(stS ops (p+n+1) a' vs' fun j=>(listed.setIfInBounds (p+n) true).getD j false)=a':=by
    intro a' vs'
    funext t
    simp only[stS]
    split
    ·rfl
    ·rename_i j _
     have:¬(p+n+1≤j∧(listed.setIfInBounds (p+n) true).getD j false=true):=fun⟨h1,h2⟩=>by
      rw[hun2 0 j (by omega)]at h2;cases h2
     rw[if_neg this]
   rcases gdK_wanted hTf hreg hrest with ⟨hw,h⟩|⟨hw,h⟩
   ·rw[if_pos hw]
    refine wpIn_mono1 (OpK_sound (ro:=ro) Q hS hTf hdt h) fun act' w' ⟨G',S',e,h1,_,h3,h4⟩=>?_
    obtain⟨n',vs',hg'⟩:=Seg.start hD (by omega) h4
    exact ih _ (by simp[hsz]) hcnt' (p+n+1) n' _ vs' S' G' act' w' hg' hlo' (fun j hj=>hun2 n' j hj) hcl' (h1.toHoles ops _ _ _ fun j g1 _=>hun2 0 j (by omega)) (by rw[hnone];exact h3)
   ·rw[if_neg (by simp[hw])]
    have h3:=hTf.put hdt (e:=.tup []) (v:=undef) ⟨#[],rfl,rfl⟩
    obtain⟨n',vs',hg'⟩:=Seg.start hD (by omega) h
    exact⟨fun _ _=>trivial,ih _ (by simp[hsz]) hcnt' (p+n+1) n' _ vs' _ G _ w hg' hlo' (fun j hj=>hun2 n' j hj) hcl' (hS.toHoles ops _ _ _ fun j g1 _=>hun2 0 j (by omega)) (by rw[hnone];exact h3)⟩
def Post {L:World→Prop}(w0:Orig L)(nt:Nat)(Q:Exit→(Nat→AV)→St→Prop)(e:Exit)(act:Act)(w:World):Prop:=∃G a S,Rel w0 G S nt a act w∧Q e a S
structure SemK (P:Program)(L:World→Prop)(nt:Nat)(c:Code)(a:Nat→AV)(S:St)(Q:Exit→(Nat→AV)→St→Prop):Prop where
 out:∀(w0:Orig L) G act w,Rel w0 G S nt a act w→c.wpIn (FW w0.ro) 0 P (Post w0 nt Q) act w
structure LoopK (P:Program)(L:World→Prop)(nt:Nat)(c:Code)(a:Nat→AV)(S:St)(Q:Exit→(Nat→AV)→St→Prop):Prop where
 out:SemK P L nt (.loop c) a S Q
structure RangeK (P:Program)(L:World→Prop)(nt:Nat)(g:Operand)(ps:Array Tmp)(asg body:Code)(a:Nat→AV)(S:St)(Q:Exit→(Nat→AV)→St→Prop):Prop where
 out:SemK P L nt (.rangeFunc g ps asg body) a S Q
structure SeqK (P:Program)(L:World→Prop)(nt:Nat)(c d:Code)(a:Nat→AV)(S:St)(Q:Exit→(Nat→AV)→St→Prop):Prop where
 out:SemK P L nt (.seq c d) a S Q
def headReg:Code→Option Nat
 | .region id _ _=>some id
 | .seq c _=>headReg c
 | .block _ c=>headReg c
 | _=>none
def hasCut:List Nat→Option Nat→Bool
 | [],_=>false
 | _,none=>false
 | i :: l,some j=>match Nat.beq i j with
  | true=>true
  | false=>hasCut l (some j)
def regChk (nt:Nat)(ops:Array Oper)(draw:Bool):Bool:=regOk nt ops&&(!draw||drawOk ops)
def seqQ (k:(Nat→AV)→St→Prop)(Q:Exit→(Nat→AV)→St→Prop):Exit→(Nat→AV)→St→Prop
 | .normal,a,S=>k a S
 | e,a,S=>Q e a S
def blkQ (id:Nat)(Q:Exit→(Nat→AV)→St→Prop):Exit→(Nat→AV)→St→Prop
 | .exit id',a,S=>if id'=id then Q .normal a S else Q (.exit id') a S
 | e,a,S=>Q e a S
def twC (P:Program)(L:World→Prop)(nt:Nat)(ct:List Nat):Code→(Nat→AV)→St→(Exit→(Nat→AV)→St→Prop)→Prop
 | .skip,a,S,Q=>Q .normal a S
 | .region id ops true,a,S,Q=>match hasCut ct (some (id+10000)) with
  | true=>SemK P L nt (.region id ops true) a S Q
  | false=>regChk nt ops true=true∧twD P L ops ops.toList a S [] (Q .normal)
 | .region _ ops false,a,S,Q=>regChk nt ops false=true∧twOps P L false ops ops.toList a S (Q .normal)
 | .seq c d,a,S,Q=>match hasCut ct (headReg d) with
  | true=>SeqK P L nt c d a S Q
  | false=>twC P L nt ct c a S (seqQ (fun a' S'=>twC P L nt ct d a' S' Q) Q)
 | .cond x c d,a,S,Q=>match evO a x with
  | .bool b=>BrK b (twC P L nt ct c a S Q) (twC P L nt ct d a S Q)
  | _=>False
 | .block id c,a,S,Q=>twC P L nt ct c a S (blkQ id Q)
 | .loop c,a,S,Q=>LoopK P L nt c a S Q
 | .exit id,a,S,Q=>Q (.exit id) a S
 | .ret,a,S,Q=>Q .ret a S
 | .rangeFunc g ps asg body,a,S,Q=>RangeK P L nt g ps asg body a S Q
 | c,a,S,Q=>SemK P L nt c a S Q
theorem RelS.drew {L:World→Prop}{w0:Orig L}{G:Gh}{S:St}{w:World}(h:RelS w0 G S w):RelS w0 G S {w with drawn:=w.drawn+1}∧KeepD G S.fr w G S.fr {w with drawn:=w.drawn+1}:=by
 have hb:Below w.heap.size w {w with drawn:=w.drawn+1}:=⟨rfl,rfl,rfl,Nat.le_refl _,fun _ _=>rfl⟩
 have:=h.of_below hb G.ok (fun _ _ _=>Iff.rfl) h.dn
 exact this
theorem twC_sound {P:Program}{L:World→Prop}{nt:Nat}{ct:List Nat}(hm:P.follows .mixedOrders=true):∀(c:Code) (a:Nat→AV) (S:St) (Q:Exit→(Nat→AV)→St→Prop),twC P L nt ct c a S Q→SemK P L nt c a S Q:=by
 intro c
 induction c with
 | skip=>intro a S Q h;exact⟨fun w0 G act w hR=>wpIn_skip ⟨G,a,S,hR,h⟩⟩
 | region id ops draw=>
  intro a S Q h
  cases draw with
  | false=>
   refine⟨fun w0 G act w hR=>?_⟩
   obtain⟨hchk,h⟩:=h
   simp only[regChk,Bool.and_eq_true]at hchk
   obtain⟨hreg,hdr⟩:=hchk
   exact wpIn_region_list (twOps_sound hreg (fun G a S act w hR hK=>⟨G,a,S,hR,hK⟩) _ a S G act w (fun _ ho=>ho) hR h)
  | true=>
   simp only[twC]at h
   split at h
   ·exact h
   refine⟨fun w0 G act w hR=>?_⟩
   obtain⟨hchk,h⟩:=h
   simp only[regChk,Bool.and_eq_true]at hchk
   obtain⟨hreg,hdr⟩:=hchk
   have hD:=drawOk_spec (by simpa using hdr)
   obtain⟨n,vs,hg⟩:=Seg.start hD (p:=0) (Nat.zero_le _) (by simpa using h)
   refine wpIn_region_any hm ?_
   obtain⟨d1,d2⟩:=hR.1.drew
   have hf:∀i,(Array.replicate ops.size false).getD i false=false:=by
    intro i
    rw[Array.getD_eq_getD_getElem?,Array.getElem?_replicate]
    split<;>rfl
   have hst:(stS ops 0 a vs fun j=>(Array.replicate ops.size false).getD j false)=a:=by
    funext t
    simp only[stS,hf]
    split<;>simp
   refine anyOrder hreg hD (K:=Q .normal) (fun G a S act w hR hK=>⟨G,a,S,hR,hK⟩) ops.size _ (by simp) (by simp[List.countP_replicate]) 0 n a vs S G act _ hg (fun j hj=>by omega) (fun j _=>hf j) (fun k o _ hk=>by rw[hf]at hk;cases hk) (d1.toHoles ops _ _ _ fun j _ _=>hf j) ?_
   rw[hst]
   exact hR.2.keep d2
 | seq c d ihc ihd=>
  intro a S Q h
  simp only[twC]at h
  split at h
  ·exact h.out
  refine⟨fun w0 G act w hR=>?_⟩
  refine wpIn_seq (Go.wpIn_mono ((ihc a S _ h).out w0 G act w hR) fun e a' w' ⟨G',a1,S',hR',hq⟩=>?_)
  cases e<;>first|exact(ihd _ _ _ hq).out w0 G' a' w' hR'|exact⟨G',a1,S',hR',hq⟩
 | cond x c d ihc ihd=>
  intro a S Q h
  refine⟨fun w0 G act w hR=>?_⟩
  simp only[twC]at h
  split at h
  ·rename_i b hb
   have hv:=hR.2.eval x
   rw[hb]at hv
   obtain hv:act.eval x=_:=hv
   cases b
   ·rw[BrK_false]at h
    exact wpIn_cond_false hv ((ihd a S Q h).out w0 G act w hR)
   ·rw[BrK_true]at h
    exact wpIn_cond_true hv ((ihc a S Q h).out w0 G act w hR)
  ·exact h.elim
 | block id c ih=>
  intro a S Q h
  refine⟨fun w0 G act w hR=>?_⟩
  refine wpIn_block (Go.wpIn_mono ((ih a S _ h).out w0 G act w hR) fun e a' w' ⟨G',a1,S',hR',hq⟩=>?_)
  cases e with
  | exit id'=>
   simp only[blkQ]at hq
   simp only[Exit.inBlock]
   split at hq
   ·rename_i he;rw[if_pos he];exact⟨G',a1,S',hR',hq⟩
   ·rename_i he;rw[if_neg he];exact⟨G',a1,S',hR',hq⟩
  | _=>exact⟨G',a1,S',hR',hq⟩
 | loop c _=>intro a S Q h;exact h.out
 | exit id=>intro a S Q h;exact⟨fun w0 G act w hR=>wpIn_exit ⟨G,a,S,hR,h⟩⟩
 | ret=>intro a S Q h;exact⟨fun w0 G act w hR=>wpIn_ret ⟨G,a,S,hR,h⟩⟩
 | rangeFunc f ps x y _ _=>
  intro a S Q h
  exact h.out
 | scope c _=>intro a S Q h;exact h
 | label l=>intro a S Q h;exact h
 | goto l=>intro a S Q h;exact h
 | refuse w=>intro a S Q h;exact h
theorem wpIn_loop_idx {P:Program}{F:Fence}{n:Nat}{Q:Exit→Act→World→Prop}{c:Code}{ι:Type}(μ:ι→Nat)(I:ι→Act→World→Prop)(i:ι){a:Act}{w:World}(h₀:I i a w)
  (round:∀i a w,I i a w→c.wpIn F n P (Exit.then (fun a' w'=>∃i',μ i' < μ i∧I i' a' w') Q) a w):(Code.loop c).wpIn F n P Q a w:=by
 intro b k cs hro hb hr
 have key:∀j i a w,μ i=j→I i a w →
   ∃e a' w',Q e a' w'∧ArrivesIn (Machine.fenced P F) P (lone (b.atR a (.code c :: .inLoop c :: k)) cs w) b k cs e a' w':=by
  intro j
  induction j using Nat.strongRecOn with
  | _ j ih=>
   intro i a w hn hI
   obtain⟨e,a₁,w₁,hq,harr⟩:=round i a w hI b (.inLoop c :: k) cs hro hb hr
   cases e with
   | normal=>
    obtain⟨i',hlt,hI₁⟩:=hq
    obtain⟨e₂,a₂,w₂,hq₂,harr₂⟩:=ih (μ i') (hn▸hlt) i' a₁ w₁ rfl hI₁
    exact⟨e₂,a₂,w₂,hq₂,.of_steps (StepsIn.trans harr (.one (fenced_calm hb hr rfl) stepR_inLoop)) harr₂⟩
   | exit id=>exact⟨_,a₁,w₁,hq,.pass (x:=.inLoop c) rfl (fun _ _=>.inl (by simp)) harr⟩
   | goto l=>exact⟨_,a₁,w₁,hq,.pass (x:=.inLoop c) rfl (fun _ _=>.inl (by simp)) harr⟩
   | ret=>exact⟨_,a₁,w₁,hq,.pass (x:=.inLoop c) rfl (fun _ _=>.inl (by simp)) harr⟩
   | panic ch=>exact⟨_,a₁,w₁,hq,.pass (x:=.inLoop c) rfl (fun _ _=>.inl (by simp)) harr⟩
   | outgrown=>exact⟨_,a₁,w₁,hq,.pass (x:=.inLoop c) rfl (fun _ _=>.inl (by simp)) harr⟩
 obtain⟨e,a',w',hq,harr⟩:=key _ i a w rfl h₀
 exact⟨e,a',w',hq,.of_steps (.one (fenced_calm hb hr rfl) stepR_loop) harr⟩
mutual
def AV.okk (k m:Nat):AV→Prop
 | .own _ ch=>ch < m
 | .grown e _=>e.okk k m
 | .bsl id _ _ _=>id < k
 | .vsl id _ _ _=>id < k
 | .ptr id _=>id < k
 | .yld id=>id < k
 | .mp id=>id < k
 | .bfn _ id _=>id < k
 | .fn _ caps=>okks k m caps
 | .agg cs=>okks k m cs
 | .tup cs=>okks k m cs
 | _=>True
def okks (k m:Nat):List AV→Prop
 | []=>True
 | e :: es=>e.okk k m∧okks k m es
end
theorem okks_mem {k m:Nat}:∀{l:List AV},okks k m l↔∀e∈l,e.okk k m
 | []=>by simp[okks]
 | e :: l=>by simp[okks,okks_mem (l:=l)]
def Ob.okk (k m:Nat):Ob→Prop
 | .cells cs _=>okks k m cs
 | .loop L=>∀t,(L.a t).okk k m
 | .map _ _ vs=>okks k m vs
 | .mapE _ _ vs _ _=>okks k m vs
 | .iter _ _ _ _=>True
 | .dead=>True
 | .hole=>False
theorem Keep.okEq {G G':Gh}{w:World}(dn:∀b e e',e'≤e→G.ok b e→G.ok b e')(h:G'.ok=G.ok):Keep G.pure [] w G'.pure [] w:=
 ⟨Nat.le_refl _,fun b e _ hh=>by simp only[Gh.pure,h]at hh ⊢;exact hh,dn,fun _ _ _ _=>rfl,fun _ _ hh=>by simp[Gh.pure]at hh,fun _ _ _ _ hh=>by simp[Gh.pure]at hh,fun _ _ _ _ _ hh=>hh,fun _ _ _ hF=>by simp at hF⟩
def cutG (k m:Nat)(G:Gh):Gh:={G with ρ:=fun id=>if id < k then G.ρ id else none,χ:=fun c=>if c < m then G.χ c else none}
mutual
theorem VR.cut {k m:Nat}{G:Gh}{fr fr':Frs}{w:World}(dn:∀b e e',e'≤e→G.ok b e→G.ok b e')(hf:∀c,c < m→fr'[c]? = fr[c]?):∀(e:AV) {v:Value},e.okk k m→VR G fr w e v→VR (cutG k m G) fr' w e v
 | .int _ _,_,_,h=>h
 | .bool _,_,_,h=>h
 | .str _,_,_,h=>h
 | .nils,_,_,h=>h
 | .nilp,_,_,h=>h
 | .nili,_,_,h=>h
 | .nilm,_,_,h=>h
 | .sl _ es,_,_,h=>by
  obtain⟨A,c,h1,h2,h3,h4⟩:=h
  refine⟨A,c,h1,h2,h3,fun hne=>?_⟩
  obtain⟨b,o,sz,h5,h6,h7,h8,h9⟩:=h4 hne
  exact⟨b,o,sz,h5,h6,h7,h8,MC.keep (Keep.okEq (G':=cutG k m G) dn rfl) es h6 (.inr (by rw[tot_uni h7];exact h8)) h9⟩
 | .own es ch,v,ho,h=>by
  simp only[AV.okk]at ho
  obtain⟨F,sz,h1,h2,h3,h4⟩:=h
  have hc:(cutG k m G).χ ch=G.χ ch:=by simp[cutG,ho]
  refine⟨F,sz,by rw[hf ch ho];exact h1,h2,h3,?_⟩
  rw[hc]
  rcases h4 with h4|⟨b,o,c,h5,h6,h7,h8,h9,h10⟩
  ·exact .inl h4
  ·refine .inr ⟨b,o,c,h5,h6,h7,h8,MC.keep (Keep.okEq (G':=cutG k m G) dn rfl) es h7 ?_ h9,h10⟩
   by_cases hne:es=[]
   ·exact .inl hne
   ·exact .inr (by rw[tot_uni h3];exact h8 hne)
 | .bsl id off n sz,v,ho,h=>by
  simp only[AV.okk]at ho
  simp only[VR,cutG,ho,if_true]at h ⊢
  exact h
 | .vsl id off n sz,v,ho,h=>by
  simp only[AV.okk]at ho
  simp only[VR,cutG,ho,if_true]at h ⊢
  exact h
 | .ptr id off,v,ho,h=>by
  simp only[AV.okk]at ho
  simp only[VR,cutG,ho,if_true]at h ⊢
  exact h
 | .grown e n,_,ho,h=>by
  obtain⟨A,c,h1,h2,h3⟩:=h
  exact⟨A,c,h1,h2,VR.cut dn hf e ho h3⟩
 | .cptr e off,_,_,h=>by
  obtain⟨b,o,h1,h2,h3,u,h4,h5⟩:=h
  exact⟨b,o,h1,h2,h3,u,VR.keep (Keep.okEq (G':=cutG k m G) dn rfl) e h4,h5⟩
 | .yld id,v,ho,h=>by
  simp only[AV.okk]at ho
  simp only[VR,cutG,ho,if_true]at h ⊢
  exact h
 | .mp id,v,ho,h=>by
  simp only[AV.okk]at ho
  simp only[VR,cutG,ho,if_true]at h ⊢
  exact h
 | .bfn f id off,v,ho,h=>by
  simp only[AV.okk]at ho
  simp only[VR,cutG,ho,if_true]at h ⊢
  exact h
 | .cmp sh ks vs,_,_,h=>by
  obtain⟨b,es,cl,h1,h2,h3,h4,h5,h6⟩:=h
  exact⟨b,es,cl,h1,h2,h3,h4,h5,VRs.keep (Keep.okEq (G':=cutG k m G) dn rfl) vs h6⟩
 | .fn f caps,v,ho,h=>by
  obtain⟨vs,rfl,hs⟩:=h
  exact⟨vs,rfl,VRs.cut dn hf caps (by simpa[AV.okk] using ho) hs⟩
 | .agg cs,v,ho,h=>by
  obtain⟨vs,rfl,hs⟩:=h
  exact⟨vs,rfl,VRs.cut dn hf cs (by simpa[AV.okk] using ho) hs⟩
 | .tup cs,v,ho,h=>by
  obtain⟨vs,rfl,hs⟩:=h
  exact⟨vs,rfl,VRs.cut dn hf cs (by simpa[AV.okk] using ho) hs⟩
 | .undef,_,_,h=>h
theorem VRs.cut {k m:Nat}{G:Gh}{fr fr':Frs}{w:World}(dn:∀b e e',e'≤e→G.ok b e→G.ok b e')(hf:∀c,c < m→fr'[c]? = fr[c]?):∀(es:List AV) {vs:List Value},okks k m es→VRs G fr w es vs→VRs (cutG k m G) fr' w es vs
 | [],_,_,h=>h
 | e :: es,vs,ho,h=>by
  obtain⟨u,us,rfl,h1,h2⟩:=h
  simp only[okks]at ho
  exact⟨u,us,rfl,VR.cut dn hf e ho.1 h1,VRs.cut dn hf es ho.2 h2⟩
end
structure Sees (e e':AV):Prop where
 out:∀(G:Gh) (fr:Frs) (w:World) (v:Value),VR G fr w e v→VR G fr w e' v
theorem Sees.rfl' (e:AV):Sees e e:=⟨fun _ _ _ _ h=>h⟩
theorem Sees.of_eq {e e':AV}(h:e=e'):Sees e e':=h▸Sees.rfl' e
theorem Sees.elems {e:AV}{es:List AV}(h:e.elems=some es):Sees e (.sl false es):=⟨fun G fr w v hv=>by
 obtain⟨A,c,h1,h2,h3⟩:=hv.elems h
 exact⟨A,c,h1,h2,by simp,h3⟩⟩
theorem Sees.trans {e e' e'':AV}(h:Sees e e')(h':Sees e' e''):Sees e e'':=⟨fun G fr w v hv=>h'.out G fr w v (h.out G fr w v hv)⟩
def SeesL:List AV→List AV→Prop
 | [],[]=>True
 | e :: es,e' :: es'=>Sees e e'∧SeesL es es'
 | _,_=>False
theorem SeesL.rfl':∀l:List AV,SeesL l l
 | []=>trivial
 | e :: l=>⟨Sees.rfl' e,SeesL.rfl' l⟩
theorem SeesL.of_eq {l l':List AV}(h:l=l'):SeesL l l':=h▸SeesL.rfl' l
theorem SeesL.length:∀{l l':List AV},SeesL l l'→l'.length=l.length
 | [],[],_=>rfl
 | _ :: _,_ :: _,h=>by simp[SeesL.length h.2]
 | [],_ :: _,h=>h.elim
 | _ :: _,[],h=>h.elim
theorem SeesL.out {G:Gh}{fr:Frs}{w:World}:∀{l l':List AV} {vs:List Value},SeesL l l'→VRs G fr w l vs→VRs G fr w l' vs
 | [],[],_,_,h=>h
 | _ :: _,_ :: _,_,hs,h=>by
  obtain⟨u,us,rfl,h1,h2⟩:=h
  exact⟨u,us,rfl,hs.1.out _ _ _ _ h1,SeesL.out hs.2 h2⟩
 | [],_ :: _,_,h,_=>h.elim
 | _ :: _,[],_,h,_=>h.elim
def SeesO:Ob→Ob→Prop
 | _,.dead=>True
 | .cells cs t,.cells cs' t'=>t=t'∧SeesL cs cs'
 | .loop L,.loop L'=>L=L'
 | .map sh ks vs,.map sh' ks' vs'=>sh=sh'∧ks=ks'∧SeesL vs vs'
 | .mapE sh ks vs i n,.mapE sh' ks' vs' i' n'=>sh=sh'∧ks=ks'∧SeesL vs vs'∧i=i'∧n=n'
 | .iter sh ks vs seen,.iter sh' ks' vs' seen'=>sh=sh'∧ks=ks'∧vs=vs'∧seen=seen'
 | .hole,.hole=>True
 | _,_=>False
theorem SeesO.rfl' (o:Ob):SeesO o o:=by
 cases o with
 | cells _ _=>exact⟨rfl,SeesL.rfl' _⟩
 | loop _=>rfl
 | map _ _ _=>exact⟨rfl,rfl,SeesL.rfl' _⟩
 | mapE _ _ _ _ _=>exact⟨rfl,rfl,SeesL.rfl' _,rfl,rfl⟩
 | iter _ _ _ _=>exact⟨rfl,rfl,rfl,rfl⟩
 | dead=>trivial
 | hole=>trivial
theorem SeesO.out {G:Gh}{fr:Frs}{w:World}{o o':Ob}{ob:Obj}(h:SeesO o o')(hv:OR G fr w o ob):OR G fr w o' ob:=by
 cases o' with
 | dead=>trivial
 | hole=>cases o<;>first|exact h.elim|exact hv.elim
 | cells cs' t'=>
  cases o with
  | cells cs t=>
   obtain⟨rfl,hs⟩:=h
   obtain⟨arr,h1,hz,h2⟩:=hv
   exact⟨arr,h1,by rw[hs.length];exact hz,by rw[hs.length];exact hs.out h2⟩
  | _=>exact h.elim
 | loop L'=>
  cases o with
  | loop L=>obtain rfl:=h;exact hv
  | _=>exact h.elim
 | map sh' ks' vs'=>
  cases o with
  | map sh ks vs=>
   obtain⟨rfl,rfl,hs⟩:=h
   obtain⟨es,cl,h1,h2,h3⟩:=hv
   exact⟨es,cl,h1,h2,hs.out h3⟩
  | _=>exact h.elim
 | mapE sh' ks' vs' i' n'=>
  cases o with
  | mapE sh ks vs i n=>
   obtain⟨rfl,rfl,hs,rfl,rfl⟩:=h
   obtain⟨es,cl,h1,h2,h3,h4⟩:=hv
   exact⟨es,cl,h1,h2,hs.out h3,h4⟩
  | _=>exact h.elim
 | iter sh' ks' vs' seen'=>
  cases o with
  | iter sh ks vs seen=>obtain⟨rfl,rfl,rfl,rfl⟩:=h;exact hv
  | _=>exact h.elim
def FitB:List Ob→List Ob→Prop
 | _,[]=>True
 | o :: l,o' :: l'=>SeesO o o'∧FitB l l'
 | [],_ :: _=>False
def FitF:Frs→Frs→Prop
 | _,[]=>True
 | x :: l,x' :: l'=>x=x'∧FitF l l'
 | [],_ :: _=>False
theorem FitB.get:∀{l l':List Ob} {i:Nat} {o':Ob},FitB l l'→l'[i]? = some o'→∃o,l[i]? = some o∧SeesO o o'
 | _,[],_,_,_,h=>by simp at h
 | [],_ :: _,_,_,h,_=>h.elim
 | o :: l,o1 :: l',0,o',h,hi=>by simp at hi;subst hi;exact⟨o,by simp,h.1⟩
 | o :: l,o1 :: l',i+1,o',h,hi=>by
  obtain⟨x,h1,h2⟩:=FitB.get h.2 (by simpa using hi)
  exact⟨x,by simpa using h1,h2⟩
theorem FitB.len:∀{l l':List Ob},FitB l l'→l'.length≤l.length
 | _,[],_=>by simp
 | [],_ :: _,h=>h.elim
 | _ :: _,_ :: _,h=>by simp[FitB.len h.2]
theorem FitF.get:∀{l l':Frs} {i:Nat},FitF l l'→i < l'.length→l'[i]? = l[i]?
 | _,[],_,_,h=>by simp at h
 | [],_ :: _,_,h,_=>h.elim
 | o :: l,o1 :: l',0,h,_=>by simp[h.1]
 | o :: l,o1 :: l',i+1,h,hi=>by
  have:=FitF.get (i:=i) h.2 (by simpa using hi)
  simpa using this
theorem FitF.len:∀{l l':Frs},FitF l l'→l'.length≤l.length
 | _,[],_=>by simp
 | [],_ :: _,h=>h.elim
 | _ :: _,_ :: _,h=>by simp[FitF.len h.2]
def obsOk (k m:Nat):List Ob→Prop
 | []=>True
 | o :: l=>o.okk k m∧obsOk k m l
theorem obsOk_get {k m:Nat}:∀{l:List Ob} {i:Nat} {o:Ob},obsOk k m l→l[i]? = some o→o.okk k m
 | [],_,_,_,h=>by simp at h
 | x :: l,0,o,h,hi=>by simp at hi;subst hi;exact h.1
 | x :: l,i+1,o,h,hi=>obsOk_get h.2 (by simpa using hi)
def FitT (ty ty':Nat→TypeId):Nat→Prop
 | 0=>True
 | n+1=>ty' n=ty n∧FitT ty ty' n
theorem FitT.get {ty ty':Nat→TypeId}:∀{n c:Nat},FitT ty ty' n→c < n→ty' c=ty c
 | 0,_,_,h=>by omega
 | n+1,c,h,hc=>by
  by_cases e:c=n
  ·subst e;exact h.1
  ·exact FitT.get h.2 (by omega)
structure FitS (S S1:St):Prop where
 n0:S1.n0=S.n0∧S1.m0=S.m0
 le:S1.n0≤S1.bx.length∧S1.m0≤S1.fr.length
 bx:FitB S.bx S1.bx
 fr:FitF S.fr S1.fr
 ty:FitT S.ty S1.ty S1.fr.length
 ok:obsOk S1.bx.length S1.fr.length S1.bx
theorem RelS.weak {L:World→Prop}{w0:Orig L}{G:Gh}{S S1:St}{w:World}(h:RelS w0 G S w)(hf:FitS S S1):RelS w0 (cutG S1.bx.length S1.fr.length G) S1 w:=by
 have hfr:∀c,c < S1.fr.length→S1.fr[c]? = S.fr[c]?:=fun c hc=>FitF.get hf.fr hc
 have hlive:∀id,S1.live id→S.live id∧id < S1.bx.length:=fun id ⟨o,h1,h2⟩=>by
  obtain⟨o0,h3,h4⟩:=FitB.get hf.bx h1
  refine⟨⟨o0,h3,?_⟩,(List.getElem?_eq_some_iff.1 h1).1⟩
  cases o0<;>first|rfl|(cases o<;>first|exact h4.elim|exact h2)
 obtain⟨n1,n2,n3,n4,n5⟩:=h.n0
 have hn:w0.n≤S1.bx.length:=by rw[←n1,←hf.n0.1];exact hf.le.1
 have hmm:w0.fr.length≤S1.fr.length:=by rw[←n2,←hf.n0.2];exact hf.le.2
 have hfl:=FitF.len hf.fr
 have hbl:=FitB.len hf.bx
 refine⟨h.below,h.bsz,h.dn,h.ob,⟨⟨h.kp.hs,h.kp.ok,h.kp.dn,h.kp.cell,fun id b hr=>?_,fun id b arr t hr ha=>h.kp.rs id b arr t hr ha,h.kp.mp,fun c F z hF=>?_⟩,h.kp.df,h.kp.lp⟩,⟨hf.n0.1.trans n1,hf.n0.2.trans n2,hn,hmm,n5⟩,fun id o hx hd=>?_,fun id id' b l1 l2 h1 h2=>?_,fun id b hr=>?_,fun c F z hF=>?_,fun id hx=>(obsOk_get hf.ok hx).elim⟩
 ·have:=n5 id b hr
  have h2:=h.kp.ρ id b hr
  simp[cutG,show id < S1.bx.length from by omega,h2]
 ·have hc:c < S1.fr.length:=by have:=(List.getElem?_eq_some_iff.1 hF).1;omega
  obtain⟨F',h1,h2,h3⟩:=h.kp.χ c F z hF
  refine⟨F',by rw[hfr c hc];exact h1,h2,fun he=>?_⟩
  simp only[cutG,hc,if_true]
  exact h3 he
 ·obtain⟨o0,h3,h4⟩:=FitB.get hf.bx hx
  have hlt:=(List.getElem?_eq_some_iff.1 hx).1
  have hd0:o0.isDead=false:=by cases o0<;>first|rfl|(cases o<;>first|exact h4.elim|exact hd)
  obtain⟨b,ob,hr,hheap,hv⟩:=h.bx id o0 h3 hd0
  refine⟨b,ob,by simp[cutG,hlt,hr],hheap,?_⟩
  have hv2:=h4.out hv
  have hok:=obsOk_get hf.ok hx
  cases o with
  | cells cs t=>
   obtain⟨arr,h1,hz,h2⟩:=hv2
   exact⟨arr,h1,hz,VRs.cut h.dn hfr cs hok h2⟩
  | loop Lp=>
   obtain⟨r,h1,h2,h3,h4,h5,h6,h7,h8⟩:=hv2
   exact⟨r,h1,h2,h3,h4,h5,h6,h7,fun t=>VR.cut h.dn hfr _ (hok t) (h8 t)⟩
  | map sh ks vs=>
   obtain⟨es,cl,h1,h2,h3⟩:=hv2
   exact⟨es,cl,h1,h2,VRs.cut h.dn hfr vs hok h3⟩
  | mapE sh ks vs i n=>
   obtain⟨es,cl,h1,h2,h3,h4⟩:=hv2
   exact⟨es,cl,h1,h2,VRs.cut h.dn hfr vs hok h3,h4⟩
  | iter sh ks vs seen=>
   obtain⟨b,es,cl,h1,h2,h3,h4,h5,h6,h7⟩:=hv2
   exact⟨b,es,cl,h1,h2,h3,h4,h5,VRs.keep (Keep.okEq (G':=cutG S1.bx.length S1.fr.length G) h.dn rfl) vs h6,h7⟩
  | dead=>trivial
  | hole=>exact hok.elim
 ·obtain⟨l1,i1⟩:=hlive id l1
  obtain⟨l2,i2⟩:=hlive id' l2
  simp only[cutG,i1,i2,if_true]at h1 h2
  exact h.ri id id' b l1 l2 h1 h2
 ·simp only[cutG]at hr
  split at hr
  ·rename_i hlt
   obtain⟨_,h2,h3,h4⟩:=h.rd id b hr
   exact⟨hlt,h2,h3,fun hl=>h4 (hlive id hl).1⟩
  ·cases hr
 ·have hc:=(List.getElem?_eq_some_iff.1 hF).1
  rw[hfr c hc]at hF
  obtain⟨h1,h2⟩:=h.ch c F z hF
  simp only[cutG,hc,if_true]
  refine⟨h1,fun b hb=>?_⟩
  obtain⟨h3,h4,h5,h6⟩:=h2 b hb
  refine⟨h3,by rw[hf.ty.get hc];exact h4,fun id hr=>?_,fun c' F' z' hF' he=>?_⟩
  ·split at hr
   ·exact h5 id hr
   ·cases hr
  ·have hc':=(List.getElem?_eq_some_iff.1 hF').1
   simp only[hc',if_true]at he
   rw[hfr c' hc']at hF'
   exact h6 c' F' z' hF' he
def ofL:List (Nat×AV)→Nat→AV
 | [],_=>.undef
 | (s,v) :: l,t=>match Nat.beq t s with
  | true=>v
  | false=>ofL l t
def FitA (k m:Nat)(a:Nat→AV):List (Nat×AV)→Prop
 | []=>True
 | (s,v) :: l=>Sees (a s) v∧v.okk k m∧FitA k m a l
structure Fits (a:Nat→AV)(S:St)(l:List (Nat×AV))(S1:St):Prop where
 s:FitS S S1
 a:FitA S1.bx.length S1.fr.length a l
theorem FitA.out {k m:Nat}{a:Nat→AV}{G:Gh}{fr fr':Frs}{w:World}{vs:Nat→Value}(dn:∀b e e',e'≤e→G.ok b e→G.ok b e')(hf:∀c,c < m→fr'[c]? = fr[c]?)(h:∀t,VR G fr w (a t) (vs t)):∀{l:List (Nat×AV)},FitA k m a l→∀t,VR (cutG k m G) fr' w (ofL l t) (vs t)
 | [],_,t=>trivial
 | (s,v) :: l,hl,t=>by
  obtain⟨h1,h2,h3⟩:=hl
  simp only[ofL]
  split
  ·rename_i he
   have he:t=s:=Nat.eq_of_beq_eq_true he
   subst he
   exact VR.cut dn hf v h2 (h1.out _ _ _ _ (h t))
  ·exact FitA.out dn hf h h3 t
theorem Rel.weak {L:World→Prop}{w0:Orig L}{G:Gh}{S S1:St}{nt:Nat}{a:Nat→AV}{l:List (Nat×AV)}{act:Act}{w:World}(h:Rel w0 G S nt a act w)(hf:Fits a S l S1):Rel w0 (cutG S1.bx.length S1.fr.length G) S1 nt (ofL l) act w:=
 ⟨h.1.weak hf.s,h.2.1,h.2.2.1,h.2.2.2.1,FitA.out h.1.dn (fun _ hc=>FitF.get hf.s.fr hc) h.2.2.2.2 hf.a⟩
theorem SemK.weak {P:Program}{L:World→Prop}{nt:Nat}{c:Code}{a:Nat→AV}{S S1:St}{l:List (Nat×AV)}{Q:Exit→(Nat→AV)→St→Prop}(hf:Fits a S l S1)(h:SemK P L nt c (ofL l) S1 Q):SemK P L nt c a S Q:=
 ⟨fun w0 _ act w hR=>h.out w0 _ act w (hR.weak hf)⟩
theorem LoopK.run {P:Program}{L:World→Prop}{nt:Nat}(hm:P.follows .mixedOrders=true)(ct:List Nat){c:Code}{a:Nat→AV}{S:St}{Q:Exit→(Nat→AV)→St→Prop}{σ:Type}(I:σ→Prop)(sl:σ→List (Nat×AV))(st:σ→St)(μ:σ→Nat)(s0:σ)
  (h0:I s0) (hf:Fits a S (sl s0) (st s0)) (hr:∀s,I s→twC P L nt ct c (ofL (sl s)) (st s) (seqQ (fun a' S'=>∃s',I s'∧μ s' < μ s∧Fits a' S' (sl s') (st s')) Q)):LoopK P L nt c a S Q:=by
 refine⟨SemK.weak hf ⟨fun w0 G act w hR=>?_⟩⟩
 refine wpIn_loop_idx μ (fun s act w=>I s∧∃G,Rel w0 G (st s) nt (ofL (sl s)) act w) s0 ⟨h0,G,hR⟩ fun s act w ⟨hI,G,hR⟩=>?_
 refine Go.wpIn_mono ((twC_sound hm c _ _ _ (hr s hI)).out w0 G act w hR) fun e a' w' ⟨G',a1,S',hR',hq⟩=>?_
 cases e with
 | normal=>
  obtain⟨s',hI',hlt,hfit⟩:=hq
  exact⟨s',hlt,hI',_,hR'.weak hfit⟩
 | _=>exact⟨G',a1,S',hR',hq⟩
end HM
