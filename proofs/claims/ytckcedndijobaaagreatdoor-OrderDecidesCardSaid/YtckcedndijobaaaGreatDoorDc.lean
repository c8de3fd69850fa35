/- Further plain words. -/
import Derived.Test.YtckcedndijobaaaGreatDoorDb
import Derived.Test.YtckcedndijobaaaGreatDoorDa
namespace HM
open Go Go.RowKit
def rowS (k:List Int)(row:List Int)(a:Att):List Int:=if a.key=k then(if a.out=1 then [] else row++[a.slot]) else row
def rowF (k:List Int)(ats:List Att):List Int:=ats.foldl (rowS k) []
theorem brk_row {k:List Int}{loss:Int}:∀{ats:List Att},(brk k loss ats).2=none→(brk k loss ats).1=rowF k ats:=by
 intro ats
 suffices ∀(l:List Att) (st:List Int×Option (List Int)) (row:List Int),(st.2=none→st.1=row)→(l.foldl (brS k loss) st).2=none→(l.foldl (brS k loss) st).1=l.foldl (rowS k) row from this ats ([],none) [] (fun _=>rfl)
 intro l
 induction l with
 | nil=>intro st row h h2;exact h h2
 | cons a l ih=>
  intro st row h h2
  rw[List.foldl_cons]at h2 ⊢
  rw[List.foldl_cons]
  refine ih _ _ (fun h3=>?_) h2
  unfold brS at h3 ⊢
  unfold rowS
  split at h3
  ·rename_i hc
   rw[if_pos hc,if_pos hc.1]
   split at h3
   ·rename_i ho;rw[if_pos ho,if_pos ho]
   ·rename_i ho;rw[if_neg ho,if_neg ho,h hc.2]
  ·rename_i hc
   rw[if_neg hc]
   by_cases e:a.key=k
   ·exact absurd ⟨e,h3⟩ hc
   ·rw[if_neg e];exact h h3
theorem allS_plus (cs:List Cell)(len a:Int)(d:Nat):∀e:Nat,allS cs len a (d+e)=allS cs len a d++allS cs len (a+d) e
 | 0=>by simp[allS]
 | e+1=>by
  rw[show d+(e+1)=d+e+1 from rfl]
  simp only[allS]
  rw[allS_plus cs len a d e,List.append_assoc,show a+((d+e:Nat):Int)=a+(d:Int)+(e:Int) by omega]
theorem fm_count {α β:Type}{g:α→Option β}{p:β→Bool}{q:α→Bool}:∀{l:List α},(∀c∈l,q c=true→∃y,g c=some y∧p y=true)→(l.filter q).length≤(l.filterMap g).countP p
 | [],_=>by simp
 | c :: l,h=>by
  have ih:=fm_count (l:=l) (g:=g) (p:=p) (q:=q) fun c hc=>h c (List.mem_cons_of_mem _ hc)
  rw[List.filterMap_cons]
  by_cases hq:q c=true
  ·obtain⟨y,h1,h2⟩:=h c (List.mem_cons_self ..) hq
   rw[List.filter_cons,if_pos hq,h1]
   simp only[List.length_cons,List.countP_cons,h2,if_true]
   omega
  ·rw[List.filter_cons,if_neg hq]
   cases hg:g c with
   | none=>exact ih
   | some y=>simp only[List.countP_cons];omega
def keyK (K:List Int)(a:Att):Bool:=a.key==K
theorem gens_count {s:Sched}{f:Flow}(hfm:formB s=true)(x:List Rule){N k A:Nat}{a b:Int}:∀d:Nat,A+d≤N →
  (∀t:Nat,A≤t→t < A+d→∀c∈cellsL s f a b,genB [f] (playR [f] (fun _=>s) x N).atts (t:Nat) c=some (((t:Nat):Int),((k:Nat):Int),c)) →
  (allS (cellsL s f a b) s.len A d).length≤(playR [f] (fun _=>s) x (A+d)).atts.countP (keyK [f.id,(k:Nat),a,b])
 | 0,_,_=>by simp[allS]
 | d+1,hN,hg=>by
  have ih:=gens_count hfm x (N:=N) (k:=k) (A:=A) (a:=a) (b:=b) d (by omega) fun t h1 h2=>hg t h1 (by omega)
  obtain⟨late,e1,_,e3⟩:=slotR_gen [f] s x (playR [f] (fun _=>s) x (A+d)) ((A+d:Nat):Int)
  obtain⟨l6,h6,h7⟩:=playR_late [f] (fun _=>s) x (A+d) (N-(A+d))
  rw[show A+d+(N-(A+d))=N by omega]at h6
  have e4:(playR [f] (fun _=>s) x (A+(d+1))).atts=(playR [f] (fun _=>s) x (A+d)).atts++late:=e1
  rw[e4,List.countP_append,allS,List.length_append,List.length_map]
  have h8:late.countP (keyK [f.id,(k:Nat),a,b])=(late.map keyA).countP (fun p:Int×Int×Cell=>[p.2.2.flow,p.2.1,p.2.2.src,p.2.2.dst]==[f.id,(k:Nat),a,b]):=by rw[List.countP_map];rfl
  rw[h8,e3]
  have h9:((cellsL s f a b).filter fun c=>c.slot==((A:Int)+(d:Nat)) % s.len).length=((atM s ((A+d:Nat):Int)).filter fun c=>!offL f.id a b c).length:=by
   unfold atM cellsL
   rw[if_neg (by rw[hfm];intro h;rcases h with h|h<;>first|cases h|omega),List.filter_filter,List.filter_filter,Int.natCast_add]
   congr 1
   refine List.filter_congr fun c _=>?_
   rw[Bool.and_comm]
  rw[h9]
  refine Nat.add_le_add ih (fm_count fun c hc hq=>?_)
  have hc1:c∈cellsL s f a b:=by
   unfold atM at hc
   split at hc
   ·cases hc
   ·exact List.mem_filter.2 ⟨(List.mem_filter.1 hc).1,hq⟩
  have h10:=hg (A+d) (by omega) (by omega) c hc1
  rw[h6,genB_late [f] h7]at h10
  refine⟨_,h10,?_⟩
  unfold offL at hq
  simp only[Bool.not_or,Bool.and_eq_true,Bool.not_eq_true',bne_eq_false_iff_eq]at hq
  simp only[beq_iff_eq,List.cons.injEq,and_true,true_and]
  exact⟨hq.1.1,hq.1.2,hq.2⟩
theorem rowF_count {K:List Int}{ats:List Att}(h:∀a∈ats,a.key=K→a.out≠1):(rowF K ats).length=ats.countP (keyK K):=by
 suffices ∀(l:List Att) (row:List Int),(∀a∈l,a.key=K→a.out≠1)→(l.foldl (rowS K) row).length=row.length+l.countP (keyK K) by simpa[rowF] using this ats [] h
 intro l
 induction l with
 | nil=>intro row _;simp
 | cons a l ih=>
  intro row h
  rw[List.foldl_cons,ih _ fun b hb=>h b (List.mem_cons_of_mem _ hb),List.countP_cons]
  unfold rowS
  by_cases e:a.key=K
  ·have e2:keyK K a=true:=by unfold keyK;rw[e];exact beq_self_eq_true K
   rw[if_pos e,if_neg (h a (List.mem_cons_self ..) e),List.length_append,List.length_singleton,if_pos e2];omega
  ·have e2:¬keyK K a=true:=by unfold keyK;simpa using e
   rw[if_neg e,if_neg e2];omega
theorem brk_none_len {K:List Int}{loss:Int}(h0:0≤loss){ats:List Att}(h:(brk K loss ats).2=none):((brk K loss ats).1.length:Int)≤loss:=by
 suffices ∀(l:List Att) (st:List Int×Option (List Int)),(st.2=none→(st.1.length:Int)≤loss)→(l.foldl (brS K loss) st).2=none→((l.foldl (brS K loss) st).1.length:Int)≤loss from this ats ([],none) (fun _=>by simpa using h0) h
 intro l
 induction l with
 | nil=>intro st h1 h2;exact h1 h2
 | cons a l ih=>
  intro st h1 h2
  rw[List.foldl_cons]at h2 ⊢
  refine ih _ (fun h3=>?_) h2
  unfold brS at h3 ⊢
  split at h3
  ·rename_i hc
   rw[if_pos hc]
   split at h3
   ·rename_i ho;rw[if_pos ho];simpa using h0
   ·rename_i ho
    rw[if_neg ho]
    simp only at h3 ⊢
    split at h3
    ·cases h3
    ·rename_i hl;rw[List.length_append,List.length_singleton];omega
  ·rename_i hc
   rw[if_neg hc];exact h1 h3
theorem curM_of {f:Flow}{k t:Int}(hfl:flowE 32 f=0)(hk:0≤k)(h1:f.phase+k*f.period≤t)(h2:t < f.phase+k*f.period+f.period)(h3:t≤1099511627776):curM f t=(k,true):=by
 have hf:=flowE_ok hfl
 have h4:0≤k*f.period:=Int.mul_nonneg hk (by omega)
 unfold curM
 rw[if_neg (by intro h;rcases h with h|h|h<;>first|exact h hfl|omega)]
 have e:t-f.phase=(t-f.phase-k*f.period)+k*f.period:=by omega
 rw[e,Int.add_mul_ediv_right _ _ (by omega),Int.ediv_eq_zero_of_lt (by omega) (by omega),Int.zero_add]
theorem slotsOn_count {s:Sched}{f:Flow}{a b:Int}{need:Nat}{at_ stop L:Int}(h:(slotsOn s f a b need at_ stop).getLast? = some L)(hl:need≤(slotsOn s f a b need at_ stop).length):need≤(allS (cellsL s f a b) s.len at_ (L+1-at_).toNat).length:=by
 have hL:=slotsOn_mem (List.mem_of_getLast? h)
 obtain⟨e,he⟩:∃e,(stop-at_).toNat=(L+1-at_).toNat+e:=⟨(stop-at_).toNat-(L+1-at_).toNat,by omega⟩
 unfold slotsOn at h hl
 rw[he,allS_plus]at h hl
 apply Decidable.byContradiction
 intro hn
 rw[List.take_append]at h hl
 rw[List.take_of_length_le (by omega)]at h hl
 rw[List.length_append]at hl
 rw[List.getLast?_append]at h
 have hne:(List.take (need-(allS (cellsL s f a b) s.len at_ (L+1-at_).toNat).length) (allS (cellsL s f a b) s.len (at_+((L+1-at_).toNat:Nat)) e))≠[]:=by
  intro h0;rw[h0]at hl;simp at hl;omega
 obtain⟨y,hy⟩:∃y,(List.take (need-(allS (cellsL s f a b) s.len at_ (L+1-at_).toNat).length) (allS (cellsL s f a b) s.len (at_+((L+1-at_).toNat:Nat)) e)).getLast? = some y:=⟨_,List.getLast?_eq_some_getLast hne⟩
 rw[hy]at h
 simp only[Option.some_or,Option.some.injEq]at h
 have:=allS_mem (List.mem_of_mem_take (List.mem_of_getLast? hy))
 omega
theorem dup_ne {r:List Int}(hd:∀i,i < r.length→dupAt r i=false){i j:Nat}(hij:i < j)(hj:j < r.length):r.getD i 0≠r.getD j 0:=by
 intro e
 have h:=hd j hj
 have hi:i < r.length:=by omega
 rw[List.getD_eq_getElem?_getD,List.getD_eq_getElem?_getD,List.getElem?_eq_getElem hi,List.getElem?_eq_getElem hj]at e
 simp only[Option.getD_some]at e
 unfold dupAt at h
 rw[List.getElem?_eq_getElem hj]at h
 simp only at h
 rw[List.any_eq_false]at h
 exact h (r[i]) (List.mem_take_iff_getElem.2 ⟨i,by omega,rfl⟩) (by simpa using e)
def unbroken (n:Net)(f:Flow)(r:List Int)(R:RunL)(k:Int):Prop:=∀i,i+1 < r.length→∀b∈brcsM n R,b.key≠[f.id,k,r.getD i 0,r.getD (i+1) 0]
theorem holdsR_mono {f:Flow}{R:List Att}{a k t u:Int}(h:holdsR f R a k t=true)(htu:t≤u):holdsR f R a k u=true:=by
 unfold holdsR at h ⊢
 simp only[Bool.or_eq_true,List.any_eq_true,Bool.and_eq_true,decide_eq_true_eq]at h ⊢
 rcases h with h|⟨b,h1,h2,h3⟩
 ·exact .inl h
 ·exact .inr ⟨b,h1,h2,by omega⟩
theorem hop {n:Net}{s:Sched}{f:Flow}{r:List Int}(h0:netE n=0)(hw:WayOk n s f r)(hfl:flowE 32 f=0)(x:List Rule){N k:Nat}(hbig:f.phase+(k:Nat)*f.period+f.period≤1099511627776)
  (hnb:unbroken n f r (playR [f] (fun _=>s) x N) (k:Nat)):∀(i:Nat) (o:List Int) (a:Int),i+1≤r.length→slotsUp n s f r (f.phase+(k:Nat)*f.period) 0 i=some (o,a)→(∀y∈o,y < (N:Nat))→holdsR f (playR [f] (fun _=>s) x N).atts (r.getD i 0) (k:Nat) a=true
 | 0,o,a,_,_,_=>by unfold holdsR;rw[hw.ends.1];simp
 | i+1,o,a,hi,hs,hN=>by
  have hf:=hw.flow
  have hk0:0≤((k:Nat):Int)*f.period:=Int.mul_nonneg (by omega) (by omega)
  unfold slotsUp at hs
  split at hs
  ·cases hs
  rename_i o' a' h'
  simp only at hs
  split at hs
  ·cases hs
  rename_i hlen
  injection hs with hs;injection hs with e1 e2
  subst e1
  have ih:=hop h0 hw hfl x hbig hnb i o' a' (by omega) h' fun y hy=>hN y (List.mem_append_left _ hy)
  obtain⟨m,l,g1,g2,g3,g4,g5,g6,g7⟩:=hw.at (i:=i) (by omega)
  have hneed:((needAt n r 0 i:Nat):Int)=l.loss+1:=by unfold needAt;rw[g7];omega
  obtain⟨h,hh⟩:∃h,h=slotsOn s f (r.getD i 0) (r.getD (i+1) 0) (needAt n r 0 i) a' (f.phase+(k:Nat)*f.period+f.period):=⟨_,rfl⟩
  rw[←hh]at e2 hlen hN
  have hne:h≠[]:=by intro e;rw[e]at hlen;simp at hlen;omega
  obtain⟨L,hL⟩:∃L,h.getLast? = some L:=⟨_,List.getLast?_eq_some_getLast hne⟩
  have hLN:=hN L (List.mem_append_right _ (List.mem_of_getLast? hL))
  have ha:a=L+1:=by rw[←e2];unfold nextA;rw[hL]
  obtain⟨_,ha',_,_⟩:=slotsUp_ok (by omega) h'
  have hLm:=slotsOn_mem (hh▸List.mem_of_getLast? hL)
  have hcnt:=slotsOn_count (hh▸hL) (by rw[←hh];omega)
  apply Decidable.byContradiction
  intro hno
  have hno2:∀b∈(playR [f] (fun _=>s) x N).atts,gotA f.id (k:Nat) (r.getD (i+1) 0) b=true→¬b.slot < a:=fun b hb hg hs=>hno (by
   unfold holdsR
   simp only[Bool.or_eq_true,List.any_eq_true,Bool.and_eq_true,decide_eq_true_eq]
   exact .inr ⟨b,hb,hg,hs⟩)
  obtain⟨A,rfl⟩:∃A:Nat,a'=A:=⟨a'.toNat,by omega⟩
  obtain⟨d,hd⟩:∃d,d=(L+1-(A:Nat)).toNat:=⟨_,rfl⟩
  rw[←hd]at hcnt
  have hAd:((A+d:Nat):Int)=L+1:=by omega
  have hgen:=gens_count hw.form x (N:=N) (k:=k) (A:=A) (a:=r.getD i 0) (b:=r.getD (i+1) 0) d (by omega) fun t h1 h2 c hc=>by
   have hc2:=(List.mem_filter.1 hc).2
   unfold offL at hc2
   simp only[Bool.not_or,Bool.and_eq_true,Bool.not_eq_true',bne_eq_false_iff_eq]at hc2
   have hcm:=curM_of (k:=(k:Nat)) (t:=(t:Nat)) hfl (by omega) (by omega) (by omega) (by omega)
   unfold genB
   have hff:findF [f] c.flow=0:=by rw[findF_one,if_pos hc2.1.1.symm]
   rw[hff,if_neg (by omega)]
   simp only[Int.toNat_zero,List.getElem?_cons_zero,hcm]
   rw[if_neg ?_]
   intro hor
   rcases hor with hor|hor|hor|hor
   ·cases hor
   ·rw[hc2.1.2,←hw.ends.2]at hor
    exact dup_ne hw.dup (by omega) (by omega) hor
   ·rw[hc2.1.2,holdsR_mono ih (by omega)]at hor;cases hor
   ·unfold ackedR at hor
    simp only[List.any_eq_true,Bool.and_eq_true,decide_eq_true_eq,beq_iff_eq]at hor
    obtain⟨b,hb,⟨hb1,hb2⟩,hb3⟩:=hor
    refine hno2 b hb ?_ (by omega)
    unfold onA at hb1
    simp only[Bool.and_eq_true,beq_iff_eq]at hb1
    unfold gotA
    simp only[Bool.and_eq_true,beq_iff_eq,bne_iff_ne]
    exact⟨⟨⟨hb1.1.1.1.trans hc2.1.1,hb1.1.1.2⟩,hb1.2.trans hc2.2⟩,by omega⟩
  obtain⟨K,hK⟩:∃K:List Int,K=[f.id,(k:Nat),r.getD i 0,r.getD (i+1) 0]:=⟨_,rfl⟩
  rw[←hK]at hgen
  obtain⟨l6,h6,h7⟩:=playR_late [f] (fun _=>s) x (A+d) (N-(A+d))
  rw[show A+d+(N-(A+d))=N by omega]at h6
  have hnack:∀b∈(playR [f] (fun _=>s) x (A+d)).atts,b.key=K→b.out≠1:=fun b hb hbk ho=>by
   have hs:=playR_slots [f] (fun _=>s) x (A+d) b hb
   refine hno2 b (h6▸List.mem_append_left _ hb) ?_ (by omega)
   rw[hK]at hbk
   unfold Att.key at hbk
   injection hbk with q1 hbk;injection hbk with q2 hbk;injection hbk with q3 hbk;injection hbk with q4 hbk
   unfold gotA
   simp only[Bool.and_eq_true,beq_iff_eq,bne_iff_ne]
   exact⟨⟨⟨q1,q2⟩,q4⟩,by omega⟩
  have hrow:=rowF_count hnack
  cases hbk:(brk K l.loss (playR [f] (fun _=>s) x (A+d)).atts).2 with
  | none=>
   have q1:=brk_none_len g5 hbk
   rw[brk_row hbk]at q1
   omega
  | some sl=>
   have q1:=brk_stop (post:=l6) sl hbk
   rw[←h6]at q1
   have hpos:0 < (playR [f] (fun _=>s) x (A+d)).atts.countP (keyK K):=by omega
   obtain⟨b,hb,hbk2⟩:=List.countP_pos_iff.1 hpos
   have hmem:(Brc.of K sl)∈brcsM n (playR [f] (fun _=>s) x N):=by
    unfold brcsM
    rw[if_pos h0,refB_mem (Nat.le_refl _),List.take_length]
    have hkk:(Brc.of K sl).key=K:=by rw[hK];rfl
    refine⟨⟨b,h6▸List.mem_append_left _ hb,by rw[hkk];exact eq_of_beq hbk2⟩,?_,?_⟩
    ·rw[hkk,hK]
     show 0≤findL n (r.getD i 0) (r.getD (i+1) 0)
     omega
    ·rw[hkk]
     have hls:lossK n K=l.loss:=by
      rw[hK]
      show lossL n (r.getD i 0) (r.getD (i+1) 0)=l.loss
      rw[←g3,←g4,link_loss hw.net g2]
     rw[hls]
     exact q1
   exact hnb i (by omega) _ hmem (by rw[hK];rfl)
def marginAt (n:Net)(a b:Int):Int:=n.margin.getD (findL n a b).toNat 0
def powN (n:Net)(a b:Int):Int:=if insB a n.nodes then powAt n a b else 0
def distAt (n:Net)(cs:List Cell)(i:Nat)(node:Int)(k:Nat):Int:=match cs[k]? with
 | some c=>if k=i then 0 else powN n c.src node+powN n c.dst node
 | none=>0
def distU (n:Net)(cs:List Cell)(i:Nat)(node:Int)(k:Nat):Int:=sumW (distAt n cs i node) (List.range k)
def distM (n:Net)(cs:List Cell)(i:Nat)(node:Int):Int:=distU n cs i node cs.length
def touchB (a b:Cell):Bool:=a.src==b.src||a.src==b.dst||a.dst==b.src||a.dst==b.dst
theorem distU_succ (n:Net)(cs:List Cell)(i:Nat)(node:Int)(k:Nat):distU n cs i node (k+1)=distU n cs i node k+distAt n cs i node k:=by
 unfold distU
 rw[List.range_succ,sumW_app]
 simp[sumW]
theorem powN_bd {n:Net}(h:NetOk n)(a b:Int):0≤powN n a b∧powN n a b≤68719476736:=by
 unfold powN
 have:=powAt_bd h.pow a b
 split<;>omega
theorem distAt_bd {n:Net}(h:NetOk n)(cs:List Cell)(i:Nat)(node:Int)(k:Nat):0≤distAt n cs i node k∧distAt n cs i node k≤137438953472:=by
 unfold distAt
 split
 ·rename_i c _
  have h1:=powN_bd h c.src node
  have h2:=powN_bd h c.dst node
  split<;>omega
 ·omega
theorem distU_bd {n:Net}(h:NetOk n)(cs:List Cell)(i:Nat)(node:Int)(k:Nat):0≤distU n cs i node k∧distU n cs i node k≤k*137438953472:=by
 have:=sumW_bd (f:=distAt n cs i node) (m:=137438953472) (by omega) (l:=List.range k) fun j _=>distAt_bd h cs i node j
 rw[List.length_range]at this
 exact this
theorem pow_at {n:Net}(h:NetOk n){a b:Int}(ha:insB a n.nodes=true)(hb:insB b n.nodes=true):∃(i j:Nat) (r:List Int) (x:Int),a=i∧b=j∧n.power[i]? = some r∧r[j]? = some x∧powAt n a b=x:=by
 simp only[insB,Bool.and_eq_true,decide_eq_true_eq]at ha hb
 obtain⟨i,rfl⟩:∃i:Nat,a=i:=⟨a.toNat,by omega⟩
 obtain⟨j,rfl⟩:∃j:Nat,b=j:=⟨b.toNat,by omega⟩
 have h1:=h.rows
 obtain⟨r,hr⟩:∃r,n.power[i]? = some r:=⟨_,List.getElem?_eq_getElem (by omega)⟩
 have h2:=h.row r (List.mem_of_getElem? hr)
 obtain⟨x,hx⟩:∃x,r[j]? = some x:=⟨_,List.getElem?_eq_getElem (by omega)⟩
 refine⟨i,j,r,x,rfl,rfl,hr,hx,?_⟩
 unfold powAt
 rw[Int.toNat_natCast,Int.toNat_natCast,List.getD_eq_getElem?_getD,List.getD_eq_getElem?_getD,hr,Option.getD_some,hx];rfl
theorem good_at {n:Net}(h:NetOk n){a b:Int}(hg:goodL n a b=true):∃(p:Nat) (m:Int),findL n a b=p∧n.margin[p]? = some m∧marginAt n a b=m∧0≤m∧m≤68719476736∧insB a n.nodes=true∧insB b n.nodes=true∧goodL n b a=true:=by
 have h0:=good_find hg
 obtain⟨p,l,e1,e2,e3,e4⟩:=findL_at h0
 have hp:=(List.getElem?_eq_some_iff.1 e2).1
 obtain⟨m,hm⟩:∃m,n.margin[p]? = some m:=⟨_,List.getElem?_eq_getElem (by rw[h.mar];exact hp)⟩
 have hk:=h.link p l e2
 have hb:=linkR_bd hk.1
 have hpw:=powAt_bd h.pow l.src l.dst
 rw[List.getD_eq_getElem?_getD,hm,Option.getD_some]at hk
 refine⟨p,m,e1,hm,?_,by omega,by omega,by rw[←e3];simp[insB];omega,by rw[←e4];simp[insB];omega,?_⟩
 ·unfold marginAt;rw[e1,Int.toNat_natCast,List.getD_eq_getElem?_getD,hm];rfl
 ·unfold goodL at hg ⊢
  simp only[Bool.and_eq_true]at hg ⊢
  exact⟨⟨⟨hg.1.1.2,hg.1.1.1⟩,hg.2⟩,hg.1.2⟩
theorem bitI_nat (M j:Nat):bitI (M:Int) j=if M.testBit j then 1 else 0:=by
 have h:bitI (M:Int) j=((M / 2 ^ j % 2:Nat):Int):=by simp[bitI]
 rw[h,Nat.testBit_eq_decide_div_mod_eq]
 by_cases h2:M / 2 ^ j % 2=1
 ·simp[h2]
 ·have:M / 2 ^ j % 2=0:=by omega
  simp[this]
section
variable (tg:Nat→Nat→Bool)
end
theorem filter_succ {α:Type}(p:α→Bool){l:List α}{k:Nat}{x:α}(h:l[k]? = some x):(l.take (k+1)).filter p=if p x then(l.take k).filter p++[x] else(l.take k).filter p:=by
 rw[take_succ h,List.filter_append]
 split
 ·rename_i hp;rw[List.filter_cons_of_pos hp];rfl
 ·rename_i hp;rw[List.filter_cons_of_neg hp,List.filter_nil,List.append_nil]
theorem flowsE_per {nodes:Int}{l:List Flow}(h:(flowsE nodes l).2=0):∀f∈l,1≤f.period∧f.period≤512:=by
 intro f hf
 obtain⟨k,hk⟩:=List.getElem?_of_mem hf
 have hkl:=(List.getElem?_eq_some_iff.1 hk).1
 unfold flowsE at h
 split at h
 ·cases h
 split at h
 ·cases h
 have h3:=firstAt_ok.1 h k hkl
 unfold flowAt at h3
 rw[hk]at h3
 simp only at h3
 have hfx:flowE nodes f=0:=by
  split at h3
  ·rename_i hh;exact absurd h3 hh
  ·omega
 have:=flowE_ok hfx
 omega
def idsB (l:List Flow)(id:Int):Bool:=l.any fun f=>f.id==id
def ordC (cs:List Cell)(i:Nat)(c:Cell):Bool:=match i with
 | 0=>true
 | j+1=>match cs[j]? with
  | some p=>decide (p.cmp c < 0)
  | none=>true
def cellF (n:Net)(l:List Flow)(s:Sched)(i:Nat):Int:=match s.cells[i]? with
 | none=>0
 | some c=>if placedB s c=false then 2 else if goodL n c.src c.dst=false∨idsB l c.flow=false then 7 else if ordC s.cells i c=false then 5 else 0
def twAt (cs:List Cell)(c:Cell)(k:Nat):Bool:=match cs[k]? with
 | some d=>d.slot==c.slot&&touchB c d
 | none=>false
def twiceM (cs:List Cell)(i:Nat):Bool:=match cs[i]? with
 | none=>false
 | some c=>(List.range i).any (twAt cs c)
def shareB (c d:Cell):Bool:=d.slot==c.slot&&d.off==c.off
def shareL (cs:List Cell)(c:Cell):List Cell:=cs.filter (shareB c)
def shareAt (cs:List Cell)(c:Cell)(i:Nat):Nat:=((cs.take i).filter (shareB c)).length
def disturbB (n:Net)(cs:List Cell)(i:Nat):Bool:=match cs[i]? with
 | none=>false
 | some c=>!heardB n (marginAt n c.src c.dst) (distM n (shareL cs c) (shareAt cs c i) c.dst)||!heardB n (marginAt n c.dst c.src) (distM n (shareL cs c) (shareAt cs c i) c.src)
def twI (cs:List Cell)(i:Nat):Int:=if twiceM cs i then 6 else 0
def dsI (n:Net)(cs:List Cell)(i:Nat):Int:=if disturbB n cs i then 16 else 0
def mism (s:Sched)(f:Flow):Bool:=s.len % f.period != 0
def schedE (n:Net)(l:List Flow)(s:Sched):Int×Int:=
 if netE n≠0∨(flowsE n.nodes l).2≠0 then(-1,1) else if sizedB s=false then(-1,2) else if l.any (mism s) then(-1,11) else if 512 < s.cells.length then(-1,8)
 else if (firstAt (cellF n l s) s.cells.length).2≠0 then firstAt (cellF n l s) s.cells.length
 else if (firstAt (twI s.cells) s.cells.length).2≠0 then firstAt (twI s.cells) s.cells.length
 else firstAt (dsI n s.cells) s.cells.length
structure VOk (n:Net)(l:List Flow)(s:Sched):Prop where
 net:NetOk n
 n0:netE n=0
 flows:(flowsE n.nodes l).2=0
 size:sizedB s=true
 per:∀f∈l,s.len % f.period=0
 many:s.cells.length≤512
 cell:∀(i:Nat) c,s.cells[i]? = some c→placedB s c=true∧goodL n c.src c.dst=true∧idsB l c.flow=true∧ordC s.cells i c=true
 once:∀(i j:Nat) c d,j < i→s.cells[i]? = some c→s.cells[j]? = some d→d.slot=c.slot→touchB c d=false
 heard:∀(i:Nat),i < s.cells.length→disturbB n s.cells i=false
theorem schedE_ok {n:Net}{l:List Flow}{s:Sched}(h:(schedE n l s).2=0):VOk n l s:=by
 unfold schedE at h
 split at h
 ·cases h
 rename_i h1
 split at h
 ·cases h
 rename_i h2
 split at h
 ·cases h
 rename_i h3
 split at h
 ·cases h
 rename_i h4
 split at h
 ·rename_i hh;exact absurd h hh
 rename_i h5
 split at h
 ·rename_i hh;exact absurd h hh
 rename_i h6
 have h5:(firstAt (cellF n l s) s.cells.length).2=0:=by omega
 have h6:(firstAt (twI s.cells) s.cells.length).2=0:=by omega
 rw[firstAt_ok]at h5 h6 h
 refine⟨netE_ok (by omega),by omega,by omega,by simpa using h2,fun f hf=>?_,by omega,fun i c hc=>?_,fun i j c d hji hc hd hs=>?_,fun i hi=>?_⟩
 ·have:=List.any_eq_false.1 (by simpa using h3) f hf
  simpa[mism] using this
 ·have:=h5 i (List.getElem?_eq_some_iff.1 hc).1
  unfold cellF at this
  rw[hc]at this
  simp only at this
  split at this
  ·cases this
  rename_i g1
  split at this
  ·cases this
  rename_i g2
  split at this
  ·cases this
  rename_i g3
  simp only[not_or,Bool.not_eq_false]at g1 g2 g3
  exact⟨g1,g2.1,g2.2,g3⟩
 ·have:=h6 i (List.getElem?_eq_some_iff.1 hc).1
  unfold twI twiceM at this
  rw[hc]at this
  simp only at this
  split at this
  ·cases this
  rename_i g
  have g2:=List.any_eq_false.1 (Bool.eq_false_iff.2 g) j (by simpa using hji)
  unfold twAt at g2
  rw[hd]at g2
  cases ht:touchB c d with
  | false=>rfl
  | true=>simp[hs,ht]at g2
 ·have:=h i hi
  unfold dsI at this
  split at this
  ·cases this
  ·rename_i g;simpa using g
theorem touchB_comm (a b:Cell):touchB a b=touchB b a:=by
 unfold touchB
 rw[Bool.eq_iff_iff]
 simp only[Bool.or_eq_true,beq_iff_eq]
 constructor
 ·rintro (((h|h)|h)|h)<;>simp[h]
 ·rintro (((h|h)|h)|h)<;>simp[h]
theorem VOk.apart {n:Net}{l:List Flow}{s:Sched}(h:VOk n l s){i j:Nat}{c d:Cell}(hc:s.cells[i]? = some c)(hd:s.cells[j]? = some d)(hij:i≠j)(hs:c.slot=d.slot):touchB c d=false:=by
 rcases Nat.lt_or_gt_of_ne hij with h1|h1
 ·rw[touchB_comm];exact h.once j i d c h1 hd hc hs
 ·exact h.once i j c d h1 hc hd hs.symm
theorem VOk.sorted {n:Net}{l:List Flow}{s:Sched}(h:VOk n l s):s.cells.Pairwise fun a b=>a.cmp b < 0:=by
 refine List.pairwise_iff_getElem.2 fun i j hi hj hij=>?_
 obtain⟨e,rfl⟩:∃e,j=i+e+1:=⟨j-i-1,by omega⟩
 induction e with
 | zero=>
  have:=(h.cell (i+0+1) _ (List.getElem?_eq_getElem hj)).2.2.2
  unfold ordC at this
  simp only[Nat.add_zero]at this
  rw[List.getElem?_eq_getElem hi]at this
  simpa using this
 | succ e ih=>
  have h1:=ih (by omega) (by omega)
  have:=(h.cell (i+(e+1)+1) _ (List.getElem?_eq_getElem hj)).2.2.2
  unfold ordC at this
  simp only at this
  rw[List.getElem?_eq_getElem (by omega:i+(e+1) < s.cells.length)]at this
  exact cmpL_trans h1 (of_decide_eq_true this)
theorem VOk.at {n:Net}{l:List Flow}{s:Sched}(h:VOk n l s){c:Cell}(hc:c∈s.cells):0≤c.slot∧c.slot < s.len∧0≤c.off∧c.off < s.offs∧goodL n c.src c.dst=true∧idsB l c.flow=true:=by
 obtain⟨i,hi⟩:=List.getElem?_of_mem hc
 obtain⟨h1,h2,h3,_⟩:=h.cell i c hi
 simp only[placedB,insB,Bool.and_eq_true,decide_eq_true_eq]at h1
 exact⟨h1.1.1,h1.1.2,h1.2.1,h1.2.2,h2,h3⟩
theorem flows_sorted {nodes:Int}{l:List Flow}(h:(flowsE nodes l).2=0):l.Pairwise fun a b=>a.id < b.id:=by
 unfold flowsE at h
 split at h
 ·cases h
 split at h
 ·cases h
 rw[firstAt_ok]at h
 refine List.pairwise_iff_getElem.2 fun i j hi hj hij=>?_
 have step:∀k,(hk:k+1 < l.length)→(l[k]'(by omega)).id < (l[k+1]).id:=fun k hk=>by
  have:=h (k+1) hk
  unfold flowAt at this
  rw[List.getElem?_eq_getElem hk]at this
  simp only at this
  split at this
  ·rename_i hh;exact absurd this hh
  split at this
  ·cases this
  rename_i g
  unfold flowO at g
  simp only at g
  rw[List.getElem?_eq_getElem (by omega:k < l.length)]at g
  simpa using g
 obtain⟨e,rfl⟩:∃e,j=i+e+1:=⟨j-i-1,by omega⟩
 clear hij
 induction e with
 | zero=>exact step i hj
 | succ e ih=>exact Int.lt_trans (ih (by omega) step) (step (i+(e+1)) hj)
end HM
