/- In a run without a breach a frame is there within the bound of its route. -/
import Derived.Test.YtpdlbjnjdbgpaaaGreatDoorDa
import Derived.Test.YtpdlbjnjdbgpaaaGreatDoorDb
import Derived.Test.YtpdlbjnjdbgpaaaGreatDoorDc
namespace HM
open Go Go.RowKit
theorem allS_plus (cs:List Cell)(len a:Int)(d:Nat):∀e:Nat,allS cs len a (d+e)=allS cs len a d++allS cs len (a+d) e
 | 0=>by simp[allS]
 | e+1=>by
  rw[show d+(e+1)=d+e+1 from rfl]
  simp only[allS]
  rw[allS_plus cs len a d e,List.append_assoc,show a+((d+e:Nat):Int)=a+(d:Int)+(e:Int) by omega]
theorem fm_count {α β:Type}{g:α→Option β}{p:β→Bool}{q:α→Bool}:∀{l:List α},(∀c∈l,q c=true→∃y,g c=some y∧p y=true)→(l.filter q).length≤(l.filterMap g).countP p
 | [],_=>by simp
 | c :: l,h=>by
  have ih:=fm_count (l:=l) (g:=g) (p:=p) (q:=q) fun c hc=>h c (List.mem_cons_of_mem _ hc)
  rw[List.filterMap_cons]
  by_cases hq:q c=true
  ·obtain⟨y,h1,h2⟩:=h c (List.mem_cons_self ..) hq
   rw[List.filter_cons,if_pos hq,h1]
   simp only[List.length_cons,List.countP_cons,h2,if_true]
   omega
  ·rw[List.filter_cons,if_neg hq]
   cases hg:g c with
   | none=>exact ih
   | some y=>simp only[List.countP_cons];omega
def keyK (K:List Int)(a:Att):Bool:=a.key==K
theorem gens_count {s:Sched}{f:Flow}(hfm:formB s=true)(x:List Rule){N k A:Nat}{a b:Int}:∀d:Nat,A+d≤N →
  (∀t:Nat,A≤t→t < A+d→∀c∈cellsL s f a b,genB [f] (playR [f] (fun _=>s) x N).atts (t:Nat) c=some (((t:Nat):Int),((k:Nat):Int),c)) →
  (allS (cellsL s f a b) s.len A d).length≤(playR [f] (fun _=>s) x (A+d)).atts.countP (keyK [f.id,(k:Nat),a,b])
 | 0,_,_=>by simp[allS]
 | d+1,hN,hg=>by
  have ih:=gens_count hfm x (N:=N) (k:=k) (A:=A) (a:=a) (b:=b) d (by omega) fun t h1 h2=>hg t h1 (by omega)
  obtain⟨late,e1,_,e3⟩:=slotR_gen [f] s x (playR [f] (fun _=>s) x (A+d)) ((A+d:Nat):Int)
  obtain⟨l6,h6,h7⟩:=playR_late [f] (fun _=>s) x (A+d) (N-(A+d))
  rw[show A+d+(N-(A+d))=N by omega]at h6
  have e4:(playR [f] (fun _=>s) x (A+(d+1))).atts=(playR [f] (fun _=>s) x (A+d)).atts++late:=e1
  rw[e4,List.countP_append,allS,List.length_append,List.length_map]
  have h8:late.countP (keyK [f.id,(k:Nat),a,b])=(late.map keyA).countP (fun p:Int×Int×Cell=>[p.2.2.flow,p.2.1,p.2.2.src,p.2.2.dst]==[f.id,(k:Nat),a,b]):=by rw[List.countP_map];rfl
  rw[h8,e3]
  have h9:((cellsL s f a b).filter fun c=>c.slot==((A:Int)+(d:Nat)) % s.len).length=((atM s ((A+d:Nat):Int)).filter fun c=>!offL f.id a b c).length:=by
   unfold atM cellsL
   rw[if_neg (by rw[hfm];intro h;rcases h with h|h<;>first|cases h|omega),List.filter_filter,List.filter_filter,Int.natCast_add]
   congr 1
   refine List.filter_congr fun c _=>?_
   rw[Bool.and_comm]
  rw[h9]
  refine Nat.add_le_add ih (fm_count fun c hc hq=>?_)
  have hc1:c∈cellsL s f a b:=by
   unfold atM at hc
   split at hc
   ·cases hc
   ·exact List.mem_filter.2 ⟨(List.mem_filter.1 hc).1,hq⟩
  have h10:=hg (A+d) (by omega) (by omega) c hc1
  rw[h6,genB_late [f] h7]at h10
  refine⟨_,h10,?_⟩
  unfold offL at hq
  simp only[Bool.not_or,Bool.and_eq_true,Bool.not_eq_true',bne_eq_false_iff_eq]at hq
  simp only[beq_iff_eq,List.cons.injEq,and_true,true_and]
  exact⟨hq.1.1,hq.1.2,hq.2⟩
theorem rowF_count {K:List Int}{ats:List Att}(h:∀a∈ats,a.key=K→a.out≠1):(rowF K ats).length=ats.countP (keyK K):=by
 suffices ∀(l:List Att) (row:List Int),(∀a∈l,a.key=K→a.out≠1)→(l.foldl (rowS K) row).length=row.length+l.countP (keyK K) by simpa[rowF] using this ats [] h
 intro l
 induction l with
 | nil=>intro row _;simp
 | cons a l ih=>
  intro row h
  rw[List.foldl_cons,ih _ fun b hb=>h b (List.mem_cons_of_mem _ hb),List.countP_cons]
  unfold rowS
  by_cases e:a.key=K
  ·have e2:keyK K a=true:=by unfold keyK;rw[e];exact beq_self_eq_true K
   rw[if_pos e,if_neg (h a (List.mem_cons_self ..) e),List.length_append,List.length_singleton,if_pos e2];omega
  ·have e2:¬keyK K a=true:=by unfold keyK;simpa using e
   rw[if_neg e,if_neg e2];omega
theorem brk_none_len {K:List Int}{loss:Int}(h0:0≤loss){ats:List Att}(h:(brk K loss ats).2=none):((brk K loss ats).1.length:Int)≤loss:=by
 suffices ∀(l:List Att) (st:List Int×Option (List Int)),(st.2=none→(st.1.length:Int)≤loss)→(l.foldl (brS K loss) st).2=none→((l.foldl (brS K loss) st).1.length:Int)≤loss from this ats ([],none) (fun _=>by simpa using h0) h
 intro l
 induction l with
 | nil=>intro st h1 h2;exact h1 h2
 | cons a l ih=>
  intro st h1 h2
  rw[List.foldl_cons]at h2 ⊢
  refine ih _ (fun h3=>?_) h2
  unfold brS at h3 ⊢
  split at h3
  ·rename_i hc
   rw[if_pos hc]
   split at h3
   ·rename_i ho;rw[if_pos ho];simpa using h0
   ·rename_i ho
    rw[if_neg ho]
    simp only at h3 ⊢
    split at h3
    ·cases h3
    ·rename_i hl;rw[List.length_append,List.length_singleton];omega
  ·rename_i hc
   rw[if_neg hc];exact h1 h3
theorem curM_of {f:Flow}{k t:Int}(hfl:flowE 32 f=0)(hk:0≤k)(h1:f.phase+k*f.period≤t)(h2:t < f.phase+k*f.period+f.period)(h3:t≤1099511627776):curM f t=(k,true):=by
 have hf:=flowE_ok hfl
 have h4:0≤k*f.period:=Int.mul_nonneg hk (by omega)
 unfold curM
 rw[if_neg (by intro h;rcases h with h|h|h<;>first|exact h hfl|omega)]
 have e:t-f.phase=(t-f.phase-k*f.period)+k*f.period:=by omega
 rw[e,Int.add_mul_ediv_right _ _ (by omega),Int.ediv_eq_zero_of_lt (by omega) (by omega),Int.zero_add]
theorem slotsOn_count {s:Sched}{f:Flow}{a b:Int}{need:Nat}{at_ stop L:Int}(h:(slotsOn s f a b need at_ stop).getLast? = some L)(hl:need≤(slotsOn s f a b need at_ stop).length):need≤(allS (cellsL s f a b) s.len at_ (L+1-at_).toNat).length:=by
 have hL:=slotsOn_mem (List.mem_of_getLast? h)
 obtain⟨e,he⟩:∃e,(stop-at_).toNat=(L+1-at_).toNat+e:=⟨(stop-at_).toNat-(L+1-at_).toNat,by omega⟩
 unfold slotsOn at h hl
 rw[he,allS_plus]at h hl
 apply Decidable.byContradiction
 intro hn
 rw[List.take_append]at h hl
 rw[List.take_of_length_le (by omega)]at h hl
 rw[List.length_append]at hl
 rw[List.getLast?_append]at h
 have hne:(List.take (need-(allS (cellsL s f a b) s.len at_ (L+1-at_).toNat).length) (allS (cellsL s f a b) s.len (at_+((L+1-at_).toNat:Nat)) e))≠[]:=by
  intro h0;rw[h0]at hl;simp at hl;omega
 obtain⟨y,hy⟩:∃y,(List.take (need-(allS (cellsL s f a b) s.len at_ (L+1-at_).toNat).length) (allS (cellsL s f a b) s.len (at_+((L+1-at_).toNat:Nat)) e)).getLast? = some y:=⟨_,List.getLast?_eq_some_getLast hne⟩
 rw[hy]at h
 simp only[Option.some_or,Option.some.injEq]at h
 have:=allS_mem (List.mem_of_mem_take (List.mem_of_getLast? hy))
 omega
theorem dup_ne {r:List Int}(hd:∀i,i < r.length→dupAt r i=false){i j:Nat}(hij:i < j)(hj:j < r.length):r.getD i 0≠r.getD j 0:=by
 intro e
 have h:=hd j hj
 have hi:i < r.length:=by omega
 rw[List.getD_eq_getElem?_getD,List.getD_eq_getElem?_getD,List.getElem?_eq_getElem hi,List.getElem?_eq_getElem hj]at e
 simp only[Option.getD_some]at e
 unfold dupAt at h
 rw[List.getElem?_eq_getElem hj]at h
 simp only at h
 rw[List.any_eq_false]at h
 exact h (r[i]) (List.mem_take_iff_getElem.2 ⟨i,by omega,rfl⟩) (by simpa using e)
def unbroken (n:Net)(f:Flow)(r:List Int)(R:RunL)(k:Int):Prop:=∀i,i+1 < r.length→∀b∈brcsM n R,b.key≠[f.id,k,r.getD i 0,r.getD (i+1) 0]
theorem holdsR_mono {f:Flow}{R:List Att}{a k t u:Int}(h:holdsR f R a k t=true)(htu:t≤u):holdsR f R a k u=true:=by
 unfold holdsR at h ⊢
 simp only[Bool.or_eq_true,List.any_eq_true,Bool.and_eq_true,decide_eq_true_eq]at h ⊢
 rcases h with h|⟨b,h1,h2,h3⟩
 ·exact .inl h
 ·exact .inr ⟨b,h1,h2,by omega⟩
theorem hop {n:Net}{s:Sched}{f:Flow}{r:List Int}(h0:netE n=0)(hw:WayOk n s f r)(hfl:flowE 32 f=0)(x:List Rule){N k:Nat}(hbig:f.phase+(k:Nat)*f.period+f.period≤1099511627776)
  (hnb:unbroken n f r (playR [f] (fun _=>s) x N) (k:Nat)):∀(i:Nat) (o:List Int) (a:Int),i+1≤r.length→slotsUp n s f r (f.phase+(k:Nat)*f.period) 0 i=some (o,a)→(∀y∈o,y < (N:Nat))→holdsR f (playR [f] (fun _=>s) x N).atts (r.getD i 0) (k:Nat) a=true
 | 0,o,a,_,_,_=>by unfold holdsR;rw[hw.ends.1];simp
 | i+1,o,a,hi,hs,hN=>by
  have hf:=hw.flow
  have hk0:0≤((k:Nat):Int)*f.period:=Int.mul_nonneg (by omega) (by omega)
  unfold slotsUp at hs
  split at hs
  ·cases hs
  rename_i o' a' h'
  simp only at hs
  split at hs
  ·cases hs
  rename_i hlen
  injection hs with hs;injection hs with e1 e2
  subst e1
  have ih:=hop h0 hw hfl x hbig hnb i o' a' (by omega) h' fun y hy=>hN y (List.mem_append_left _ hy)
  obtain⟨m,l,g1,g2,g3,g4,g5,g6,g7⟩:=hw.at (i:=i) (by omega)
  have hneed:((needAt n r 0 i:Nat):Int)=l.loss+1:=by unfold needAt;rw[g7];omega
  obtain⟨h,hh⟩:∃h,h=slotsOn s f (r.getD i 0) (r.getD (i+1) 0) (needAt n r 0 i) a' (f.phase+(k:Nat)*f.period+f.period):=⟨_,rfl⟩
  rw[←hh]at e2 hlen hN
  have hne:h≠[]:=by intro e;rw[e]at hlen;simp at hlen;omega
  obtain⟨L,hL⟩:∃L,h.getLast? = some L:=⟨_,List.getLast?_eq_some_getLast hne⟩
  have hLN:=hN L (List.mem_append_right _ (List.mem_of_getLast? hL))
  have ha:a=L+1:=by rw[←e2];unfold nextA;rw[hL]
  obtain⟨_,ha',_,_⟩:=slotsUp_ok (by omega) h'
  have hLm:=slotsOn_mem (hh▸List.mem_of_getLast? hL)
  have hcnt:=slotsOn_count (hh▸hL) (by rw[←hh];omega)
  apply Decidable.byContradiction
  intro hno
  have hno2:∀b∈(playR [f] (fun _=>s) x N).atts,gotA f.id (k:Nat) (r.getD (i+1) 0) b=true→¬b.slot < a:=fun b hb hg hs=>hno (by
   unfold holdsR
   simp only[Bool.or_eq_true,List.any_eq_true,Bool.and_eq_true,decide_eq_true_eq]
   exact .inr ⟨b,hb,hg,hs⟩)
  obtain⟨A,rfl⟩:∃A:Nat,a'=A:=⟨a'.toNat,by omega⟩
  obtain⟨d,hd⟩:∃d,d=(L+1-(A:Nat)).toNat:=⟨_,rfl⟩
  rw[←hd]at hcnt
  have hAd:((A+d:Nat):Int)=L+1:=by omega
  have hgen:=gens_count hw.form x (N:=N) (k:=k) (A:=A) (a:=r.getD i 0) (b:=r.getD (i+1) 0) d (by omega) fun t h1 h2 c hc=>by
   have hc2:=(List.mem_filter.1 hc).2
   unfold offL at hc2
   simp only[Bool.not_or,Bool.and_eq_true,Bool.not_eq_true',bne_eq_false_iff_eq]at hc2
   have hcm:=curM_of (k:=(k:Nat)) (t:=(t:Nat)) hfl (by omega) (by omega) (by omega) (by omega)
   unfold genB
   have hff:findF [f] c.flow=0:=by rw[findF_one,if_pos hc2.1.1.symm]
   rw[hff,if_neg (by omega)]
   simp only[Int.toNat_zero,List.getElem?_cons_zero,hcm]
   rw[if_neg ?_]
   intro hor
   rcases hor with hor|hor|hor|hor
   ·cases hor
   ·rw[hc2.1.2,←hw.ends.2]at hor
    exact dup_ne hw.dup (by omega) (by omega) hor
   ·rw[hc2.1.2,holdsR_mono ih (by omega)]at hor;cases hor
   ·unfold ackedR at hor
    simp only[List.any_eq_true,Bool.and_eq_true,decide_eq_true_eq,beq_iff_eq]at hor
    obtain⟨b,hb,⟨hb1,hb2⟩,hb3⟩:=hor
    refine hno2 b hb ?_ (by omega)
    unfold onA at hb1
    simp only[Bool.and_eq_true,beq_iff_eq]at hb1
    unfold gotA
    simp only[Bool.and_eq_true,beq_iff_eq,bne_iff_ne]
    exact⟨⟨⟨hb1.1.1.1.trans hc2.1.1,hb1.1.1.2⟩,hb1.2.trans hc2.2⟩,by omega⟩
  obtain⟨K,hK⟩:∃K:List Int,K=[f.id,(k:Nat),r.getD i 0,r.getD (i+1) 0]:=⟨_,rfl⟩
  rw[←hK]at hgen
  obtain⟨l6,h6,h7⟩:=playR_late [f] (fun _=>s) x (A+d) (N-(A+d))
  rw[show A+d+(N-(A+d))=N by omega]at h6
  have hnack:∀b∈(playR [f] (fun _=>s) x (A+d)).atts,b.key=K→b.out≠1:=fun b hb hbk ho=>by
   have hs:=playR_slots [f] (fun _=>s) x (A+d) b hb
   refine hno2 b (h6▸List.mem_append_left _ hb) ?_ (by omega)
   rw[hK]at hbk
   unfold Att.key at hbk
   injection hbk with q1 hbk;injection hbk with q2 hbk;injection hbk with q3 hbk;injection hbk with q4 hbk
   unfold gotA
   simp only[Bool.and_eq_true,beq_iff_eq,bne_iff_ne]
   exact⟨⟨⟨q1,q2⟩,q4⟩,by omega⟩
  have hrow:=rowF_count hnack
  cases hbk:(brk K l.loss (playR [f] (fun _=>s) x (A+d)).atts).2 with
  | none=>
   have q1:=brk_none_len g5 hbk
   rw[brk_row hbk]at q1
   omega
  | some sl=>
   have q1:=brk_stop (post:=l6) sl hbk
   rw[←h6]at q1
   have hpos:0 < (playR [f] (fun _=>s) x (A+d)).atts.countP (keyK K):=by omega
   obtain⟨b,hb,hbk2⟩:=List.countP_pos_iff.1 hpos
   have hmem:(Brc.of K sl)∈brcsM n (playR [f] (fun _=>s) x N):=by
    unfold brcsM
    rw[if_pos h0,refB_mem (Nat.le_refl _),List.take_length]
    have hkk:(Brc.of K sl).key=K:=by rw[hK];rfl
    refine⟨⟨b,h6▸List.mem_append_left _ hb,by rw[hkk];exact eq_of_beq hbk2⟩,?_,?_⟩
    ·rw[hkk,hK]
     show 0≤findL n (r.getD i 0) (r.getD (i+1) 0)
     omega
    ·rw[hkk]
     have hls:lossK n K=l.loss:=by
      rw[hK]
      show lossL n (r.getD i 0) (r.getD (i+1) 0)=l.loss
      rw[←g3,←g4,link_loss hw.net g2]
     rw[hls]
     exact q1
   exact hnb i (by omega) _ hmem (by rw[hK];rfl)
def partC (cs:List Cell)(f:Flow)(a b len at_:Int)(d j:Nat):List (Cell×Int):=
 evC (cs.filter fun c=>!offL f.id a b c) len at_ d++(((cs.take j).filter fun c=>!offL f.id a b c&&c.slot==(at_+d) % len).map fun c=>(c,at_+(d:Int)))
theorem partC_zero (cs:List Cell)(f:Flow)(a b len at_:Int)(d:Nat):partC cs f a b len at_ d 0=evC (cs.filter fun c=>!offL f.id a b c) len at_ d:=by simp[partC]
theorem partC_all (cs:List Cell)(f:Flow)(a b len at_:Int)(d:Nat):partC cs f a b len at_ d cs.length=partC cs f a b len at_ (d+1) 0:=by
 rw[partC_zero]
 unfold partC
 rw[List.take_length,evC,List.filter_filter]
 congr 3
 funext c
 rw[Bool.and_comm]
theorem partC_hit {cs:List Cell}{f:Flow}{a b len at_:Int}{d j:Nat}{c:Cell}(h:cs[j]? = some c)(h1:offL f.id a b c=false)(h2:c.slot=(at_+d) % len):partC cs f a b len at_ d (j+1)=partC cs f a b len at_ d j++[(c,at_+(d:Int))]:=by
 unfold partC
 rw[take_succ h,List.filter_append]
 simp[h1,h2]
theorem partC_miss {cs:List Cell}{f:Flow}{a b len at_:Int}{d j:Nat}{c:Cell}(h:cs[j]? = some c)(h1:offL f.id a b c=true∨c.slot≠(at_+d) % len):partC cs f a b len at_ d (j+1)=partC cs f a b len at_ d j:=by
 unfold partC
 rw[take_succ h,List.filter_append]
 have:(!offL f.id a b c&&c.slot==(at_+d) % len)=false:=by
  rcases h1 with h1|h1
  ·simp[h1]
  ·simp[h1]
 simp[this]
def hitC (need:Nat)(l:List (Cell×Int))(c:Cell):Prop:=c∈(l.take need).map (·.1)
theorem hitC_snoc {need:Nat}{l:List (Cell×Int)}{c d:Cell}{x:Int}:hitC need (l++[(d,x)]) c↔hitC need l c∨(l.length < need∧d=c):=by
 unfold hitC
 rw[List.take_append,List.map_append,List.mem_append]
 by_cases h:l.length < need
 ·obtain⟨e,he⟩:∃e,need-l.length=e+1:=⟨need-l.length-1,by omega⟩
  rw[he]
  simp[h,eq_comm]
 ·rw[show need-l.length=0 by omega]
  simp[h]
theorem evC_prefix (cs:List Cell)(len a:Int){d e:Nat}(h:d≤e):∃t,evC cs len a e=evC cs len a d++t:=by
 induction e with
 | zero=>exact⟨[],by rw[show d=0 by omega];simp⟩
 | succ e ih=>
  rcases Nat.lt_or_ge d (e+1) with hd|hd
  ·obtain⟨t,ht⟩:=ih (by omega)
   exact⟨t++_,by rw[evC,ht,List.append_assoc]⟩
  ·exact⟨[],by rw[show d=e+1 by omega];simp⟩
theorem evC_len (cs:List Cell)(len a:Int)(d:Nat):(evC cs len a d).length=(allS cs len a d).length:=by rw[←evC_snd,List.length_map]
theorem onC_stop {s:Sched}{f:Flow}{a b:Int}{need:Nat}{at_ stop L:Int}(h:(slotsOn s f a b need at_ stop).getLast? = some L)(hl:need≤(slotsOn s f a b need at_ stop).length)(c:Cell):hitC need (partC s.cells f a b s.len at_ (L+1-at_).toNat 0) c↔c∈onC s f a b need at_ stop:=by
 have hL:=slotsOn_mem (List.mem_of_getLast? h)
 have hc:=slotsOn_count h hl
 rw[partC_zero]
 unfold hitC onC
 obtain⟨t,ht⟩:=evC_prefix (cellsL s f a b) s.len at_ (show(L+1-at_).toNat≤(stop-at_).toNat by omega)
 rw[ht,List.take_append_of_le_length (by rw[evC_len];exact hc)]
 exact Iff.rfl
theorem cellsUp_next {n:Net}{s:Sched}{f:Flow}{r:List Int}{rel:Int}{k:Nat}{o:List Int}{a:Int}(h:slotsUp n s f r rel 0 k=some (o,a))(c:Cell):c∈cellsUp n s f r rel (k+1)↔c∈cellsUp n s f r rel k∨c∈onC s f (r.getD k 0) (r.getD (k+1) 0) (needAt n r 0 k) a (rel+f.period):=by
 conv=>lhs;unfold cellsUp
 rw[h]
 simp only[List.mem_append]
theorem onC_link {s:Sched}{f:Flow}{a b:Int}{need:Nat}{x y:Int}{c:Cell}(h:c∈onC s f a b need x y):offL f.id a b c=false:=by
 unfold onC at h
 obtain⟨e,he,rfl⟩:=List.mem_map.1 h
 have:=evC_mem (List.mem_of_mem_take he)
 unfold cellsL at this
 rw[List.mem_filter]at this
 simpa using this.2
theorem slotsUp_all {n:Net}{s:Sched}{f:Flow}{r:List Int}(h:(routeM n s f r).2.2.2=0){k:Nat}(hk:k < relsN s f):∀i,i+1≤r.length→∃o a,slotsUp n s f r (f.phase+k*f.period) 0 i=some (o,a):=by
 intro i hi
 obtain⟨_,x,hb,_⟩:=routeM_ok h
 cases hr:relR n s f r 0 (f.phase+k*f.period) with
 | none=>unfold boundR at hb;rw[boundUp_none (boundUp_stop hr) (by omega)]at hb;cases hb
 | some p=>
  unfold relR slotsW at hr
  cases hs:slotsUp n s f r (f.phase+k*f.period) 0 (r.length-1) with
  | none=>rw[hs]at hr;cases hr
  | some q=>
   cases hs2:slotsUp n s f r (f.phase+k*f.period) 0 i with
   | none=>rw[slotsUp_none hs2 (by omega)]at hs;cases hs
   | some q2=>exact⟨q2.1,q2.2,rfl⟩
theorem needL_any (n:Net)(s:Sched)(f:Flow)(l:List (List Int)):needL n s f l=s.cells.filter fun c=>l.any fun r=>decide (c∈relsC n s f r (relsN s f)):=by
 unfold needL allC
 congr 1
 funext c
 rw[Bool.eq_iff_iff]
 simp[List.mem_flatMap]
theorem partC_prefix {cs:List Cell}{f:Flow}{a b len at_:Int}{d j e:Nat}(hd:d+1≤e):∃t,partC cs f a b len at_ e 0=partC cs f a b len at_ d j++t:=by
 obtain⟨t,ht⟩:=evC_prefix (cs.filter fun c=>!offL f.id a b c) len at_ hd
 rw[partC_zero,ht,←partC_zero,←partC_all]
 refine⟨(((cs.drop j).filter fun c=>!offL f.id a b c&&c.slot==(at_+d) % len).map fun c=>(c,at_+(d:Int)))++t,?_⟩
 unfold partC
 rw[List.take_length]
 conv=>lhs;rw[←List.take_append_drop j cs]
 rw[List.take_append_drop]
 have:(cs.filter fun c=>!offL f.id a b c&&c.slot==(at_+d) % len)=((cs.take j).filter fun c=>!offL f.id a b c&&c.slot==(at_+d) % len)++((cs.drop j).filter fun c=>!offL f.id a b c&&c.slot==(at_+d) % len):=by
  rw[←List.filter_append,List.take_append_drop]
 rw[this]
 simp only[List.map_append,List.append_assoc]
theorem hitC_mono {need:Nat}{l t:List (Cell×Int)}{c:Cell}(h:hitC need l c):hitC need (l++t) c:=by
 unfold hitC at h ⊢
 rw[List.take_append,List.map_append,List.mem_append]
 exact .inl h
theorem evC_le (cs:List Cell)(len a:Int):∀d:Nat,(evC cs len a d).length≤d*cs.length
 | 0=>by simp[evC]
 | d+1=>by
  have:=evC_le cs len a d
  rw[evC,List.length_append,List.length_map,Nat.add_mul]
  have:=List.length_filter_le (fun c:Cell=>c.slot==(a+d) % len) cs
  omega
theorem partC_le (cs:List Cell)(f:Flow)(a b len at_:Int)(d j:Nat):(partC cs f a b len at_ d j).length≤(d+1)*cs.length:=by
 have h1:=evC_le (cs.filter fun c=>!offL f.id a b c) len at_ d
 have h2:=List.length_filter_le (fun c=>!offL f.id a b c) cs
 have h3:d*(cs.filter fun c=>!offL f.id a b c).length≤d*cs.length:=Nat.mul_le_mul_left _ h2
 unfold partC
 rw[List.length_append,List.length_map,Nat.add_mul]
 have h4:=List.length_filter_le (fun c=>!offL f.id a b c&&c.slot==(at_+d) % len) (cs.take j)
 have h5:(cs.take j).length≤cs.length:=by rw[List.length_take];omega
 omega
theorem cellsUp_mono {n:Net}{s:Sched}{f:Flow}{r:List Int}{rel:Int}{c:Cell}{k:Nat}(h:c∈cellsUp n s f r rel k):∀{m:Nat},k≤m→c∈cellsUp n s f r rel m
 | 0,hm=>by rw[show k=0 by omega]at h;exact h
 | m+1,hm=>by
  rcases Nat.lt_or_ge k (m+1) with hk|hk
  ·have ih:=cellsUp_mono h (m:=m) (by omega)
   conv=>unfold cellsUp
   split
   ·exact ih
   ·exact List.mem_append.2 (.inl ih)
  ·rw[show m+1=k by omega];exact h
theorem relsC_mono {n:Net}{s:Sched}{f:Flow}{r:List Int}{c:Cell}{k:Nat}(h:c∈relsC n s f r k):∀{m:Nat},k≤m→c∈relsC n s f r m
 | 0,hm=>by rw[show k=0 by omega]at h;exact h
 | m+1,hm=>by
  rcases Nat.lt_or_ge k (m+1) with hk|hk
  ·exact List.mem_append.2 (.inl (relsC_mono h (m:=m) (by omega)))
  ·rw[show m+1=k by omega];exact h
theorem relsC_of {n:Net}{s:Sched}{f:Flow}{r:List Int}{c:Cell}{k i:Nat}(hk:k < relsN s f)(hi:i+1 < r.length){o:List Int}{a:Int}(h:slotsUp n s f r (f.phase+k*f.period) 0 i=some (o,a))(hc:c∈onC s f (r.getD i 0) (r.getD (i+1) 0) (needAt n r 0 i) a (f.phase+k*f.period+f.period)):c∈relsC n s f r (relsN s f):=by
 have h1:=(cellsUp_next h c).2 (.inr hc)
 refine relsC_mono (k:=k+1) ?_ hk
 exact List.mem_append.2 (.inr (cellsUp_mono h1 (m:=r.length-1) (by omega)))
theorem posQ_at {q:List Req}{x:Req}(hs:q.Pairwise fun a b=>a.flow.id < b.flow.id)(hno:hasQ q x.flow.id=false){k:Nat}{y:Req}(hk:q[k]? = some y):x.flow.id < y.flow.id↔posQ x q≤k:=by
 constructor
 ·intro h
  rcases Nat.lt_or_ge k (posQ x q) with h1|h1
  ·have this:cmpI y.flow.id x.flow.id < 0:=posB_lt (c:=fun y:Req=>cmpI y.flow.id x.flow.id) h1 hk
   unfold cmpI at this
   rw[if_neg (by omega),if_pos h]at this
   omega
  ·exact h1
 ·intro h
  have hkl:=(List.getElem?_eq_some_iff.1 hk).1
  obtain⟨z,hz⟩:=getLt (l:=q) (k:=posQ x q) (by omega)
  have h1:¬cmpI z.flow.id x.flow.id < 0:=posB_ge (c:=fun y:Req=>cmpI y.flow.id x.flow.id) hz
  have h2:z.flow.id≠x.flow.id:=fun he=>by
   have:=List.any_eq_false.1 hno z (List.mem_of_getElem? hz)
   simp[he]at this
  have h3:x.flow.id < z.flow.id:=by
   unfold cmpI at h1
   split at h1
   ·omega
   ·split at h1<;>omega
  rcases Nat.lt_or_eq_of_le h with h4|h4
  ·have h5:=List.pairwise_iff_getElem.1 hs (posQ x q) k (List.getElem?_eq_some_iff.1 hz).1 hkl h4
   rw[(List.getElem?_eq_some_iff.1 hz).2,(List.getElem?_eq_some_iff.1 hk).2]at h5
   omega
  ·subst h4
   rw[hz]at hk;injection hk with hk;subst hk
   exact h3
def withQ (q:List Req)(x:Req)(k:Nat):List Req:=if k≤posQ x q then q.take k else insAt (q.take k) (posQ x q) x
theorem withQ_succ {q:List Req}{x:Req}{k:Nat}{y:Req}(hk:q[k]? = some y):withQ q x (k+1)=withQ q x k++if k=posQ x q then [x,y] else [y]:=by
 unfold withQ
 have hkl:=(List.getElem?_eq_some_iff.1 hk).1
 have ht:=take_succ hk
 have hl:(q.take k).length=k:=by rw[List.length_take];omega
 rcases Nat.lt_trichotomy k (posQ x q) with h|h|h
 ·rw[if_pos (by omega),if_pos (by omega),if_neg (by omega),ht]
 ·rw[if_neg (by omega),if_pos (by omega),if_pos h,ht,←h]
  unfold insAt
  rw[List.take_append_of_le_length (by omega),List.take_of_length_le (by omega),List.drop_append_of_le_length (by omega),List.drop_of_length_le (by omega)]
  rfl
 ·rw[if_neg (by omega),if_neg (by omega),if_neg (by omega),ht]
  unfold insAt
  rw[List.take_append_of_le_length (by omega),List.drop_append_of_le_length (by omega),List.append_assoc]
  rfl
theorem withQ_end {q:List Req}{x:Req}:insQ q x=if posQ x q < q.length then withQ q x q.length else withQ q x q.length++[x]:=by
 have hp:posQ x q≤q.length:=posB_le _ _
 unfold withQ insQ
 rw[List.take_length]
 split
 ·rw[if_neg (by omega)]
 ·rw[if_pos (by omega)]
  have:posQ x q=q.length:=by omega
  unfold insAt
  rw[this,List.take_length,List.drop_length]
theorem withQ_len (q:List Req)(x:Req)(k:Nat):(withQ q x k).length≤q.length+1:=by
 unfold withQ
 split
 ·rw[List.length_take];omega
 ·rw[insAt_len,List.length_take];omega
theorem withQ_zero (q:List Req)(x:Req):withQ q x 0=[]:=by
 unfold withQ
 rw[if_pos (by omega)];simp
theorem make_parts {n:Net}{q:List Req}{s:Sched}(h:(makeM n q s).2.2=0):(reqE n q).2=0∧VOk n (flowsQ q) s∧(∀y∈q,claimB n s y=true)∧makeM n q s=(q.map (claimM n s),-1,0):=by
 unfold makeM at h ⊢
 split at h
 ·rename_i hh;exact absurd h hh
 rename_i h1
 rw[if_neg h1]
 split at h
 ·cases h
 rename_i h2
 rw[if_neg h2]
 split at h
 ·rename_i hh;exact absurd h hh
 rename_i h3
 rw[if_neg h3]
 refine⟨by omega,schedE_ok (by omega),fun y hy=>?_,rfl⟩
 obtain⟨k,hk⟩:=List.getElem?_of_mem hy
 have h4:=firstAt_ok.1 (show(firstAt (lateAt n s q) q.length).2=0 by omega) k (List.getElem?_eq_some_iff.1 hk).1
 unfold lateAt at h4
 rw[hk]at h4
 simp only at h4
 split at h4
 ·rename_i hh;exact hh
 ·cases h4
theorem make_of {n:Net}{q:List Req}{s:Sched}(h1:(reqE n q).2=0)(h2:(schedE n (flowsQ q) s).2=0)(h3:∀y∈q,claimB n s y=true):makeM n q s=(q.map (claimM n s),-1,0):=by
 have h4:(firstAt (lateAt n s q) q.length).2=0:=firstAt_ok.2 fun k hk=>by
  obtain⟨y,hy⟩:=getLt hk
  unfold lateAt
  rw[hy]
  simp only
  rw[if_pos (h3 y (List.mem_of_getElem? hy))]
 unfold makeM
 rw[if_neg (by omega),if_neg (by omega),if_neg (by omega)]
theorem needAt_le {n:Net}(hok:NetOk n)(r:List Int)(i:Nat):needAt n r 0 i≤8:=by
 unfold needAt linkAt
 cases h:n.links[(findL n (r.getD i 0) (r.getD (i+1) 0)).toNat]? with
 | none=>simp
 | some l=>
  have:=linkR_bd (hok.link _ l h).1
  simp only[Option.getD_some]
  omega
theorem needUp_le {n:Net}(hok:NetOk n)(r:List Int):∀k:Nat,needUp n r 0 k≤8*k
 | 0=>by simp[needUp]
 | k+1=>by
  have:=needUp_le hok r k
  have:=needAt_le hok r k
  rw[needUp];omega
theorem relR_len {n:Net}(hok:NetOk n){s:Sched}{f:Flow}(hp:0≤f.period){r:List Int}{rel:Int}{b:Int}{l:List Int}(h:relR n s f r 0 rel=some (b,l)):l.length≤8*(r.length-1):=by
 unfold relR slotsW at h
 cases hu:slotsUp n s f r rel 0 (r.length-1) with
 | none=>rw[hu]at h;cases h
 | some p=>
  rw[hu]at h
  simp only[Option.map_some,Option.some.injEq,Prod.mk.injEq]at h
  have h1:=(slotsUp_ok (o:=p.1) (a:=p.2) hp hu).1
  rw[←h.2,List.length_map,h1]
  exact needUp_le hok r _
theorem boundUp_len {n:Net}(hok:NetOk n){s:Sched}{f:Flow}(hp:0≤f.period){r:List Int}:∀{k:Nat} {x:Bnd},boundUp n s f r 0 k=some x→x.l.length≤8*(r.length-1)
 | 0,x,h=>by
  simp only[boundUp,Option.some.injEq]at h
  subst h;simp
 | k+1,x,h=>by
  rw[boundUp]at h
  split at h
  ·rename_i y b l h1 h2
   split at h
   ·injection h with h
    subst h
    exact relR_len hok hp h2
   ·injection h with h
    subst h
    exact boundUp_len hok hp h1
  ·cases h
theorem routeM_slots {n:Net}(hok:NetOk n){s:Sched}{f:Flow}(hp:0≤f.period)(r:List Int):(routeM n s f r).2.2.1.length≤8*(r.length-1):=by
 unfold routeM
 split
 ·simp
 ·split
  ·simp
  ·rename_i x hx
   exact boundUp_len hok hp hx
theorem claim_parts {n:Net}(hok:NetOk n){s:Sched}{y:Req}(hy:ReqOk n y)(h:claimB n s y=true):(claimM n s y).routes=y.routes∧(claimM n s y).routes.length≤2∧(∀r∈(claimM n s y).routes,r.length≤9)∧(claimM n s y).bounds.length≤2∧(claimM n s y).worst.length≤2∧(claimM n s y).slots.length≤2∧(∀r∈(claimM n s y).slots,r.length≤64):=by
 have hfe:=flowE_ok hy.flow
 unfold claimM
 rw[if_pos h]
 unfold claimT
 refine⟨rfl,hy.len.2,fun r hr=>(routeF_ok (hy.route r hr)).1.2,?_,?_,?_,fun r hr=>?_⟩
 ·simp only[List.length_map];exact hy.len.2
 ·simp only[List.length_map];exact hy.len.2
 ·simp only[List.length_map];exact hy.len.2
 ·obtain⟨r0,hr0,rfl⟩:=List.mem_map.1 hr
  have h1:=routeM_slots hok (s:=s) (f:=y.flow) (by omega) r0
  have h2:=(routeF_ok (hy.route r0 hr0)).1.2
  omega
theorem distC_le {n:Net}(hok:NetOk n){r r':List Cell}(h:r'.Sublist r)(node:Int):distC n r' node≤distC n r node:=by
 unfold distC
 induction h with
 | slnil=>exact Int.le_refl _
 | cons a _ ih=>
  have h1:=powN_bd hok a.src node
  have h2:=powN_bd hok a.dst node
  simp only[sumW];omega
 | cons_cons a _ ih=>simp only[sumW];omega
theorem cellR2_sub {n:Net}(hok:NetOk n){c:Cell}{r r':List Cell}(h:r'.Sublist r)(hc:cellR2 n c r):cellR2 n c r':=by
 obtain⟨h1,h2,h3⟩:=hc
 exact⟨fun d hd=>h1 d (h.subset hd),heard_anti hok h2 (distC_le hok (h.filter _) _),heard_anti hok h3 (distC_le hok (h.filter _) _)⟩
theorem rest_left {n:Net}(hok:NetOk n){A B:List Cell}(h:AllRest (cellR2 n) (A++B)):AllRest (cellR2 n) A:=fun i c hc=>by
 have hi:=(List.getElem?_eq_some_iff.1 hc).1
 have h1:=h i c (by rw[List.getElem?_append_left hi];exact hc)
 rw[List.eraseIdx_append_of_lt_length hi]at h1
 exact cellR2_sub hok (List.sublist_append_left _ _) h1
def trimB (n:Net)(q:List Req)(s:Sched)(c:Cell):Bool:=q.any fun x=>decide (c∈allC n s x.flow x.routes)
def trimS (n:Net)(q:List Req)(s:Sched):Sched:=⟨s.len,s.offs,s.cells.filter (trimB n q s)⟩
def trimM (n:Net)(q:List Req)(s:Sched):Sched×Int:=if (makeM n q s).2.2≠0 then(⟨0,0,[]⟩,1) else(trimS n q s,0)
def joinL (n:Net)(q:List Req)(s:Sched):List Cell:=q.flatMap fun x=>needL n s x.flow x.routes
theorem join_mem {n:Net}{q:List Req}{s:Sched}(c:Cell):c∈joinL n q s↔c∈s.cells.filter (trimB n q s):=by
 unfold joinL needL trimB
 simp only[List.mem_flatMap,List.mem_filter,List.any_eq_true,decide_eq_true_eq]
 constructor
 ·rintro⟨x,hx,h1,h2⟩;exact⟨h1,x,hx,h2⟩
 ·rintro⟨h1,x,hx,h2⟩;exact⟨x,hx,h1,h2⟩
theorem join_take {n:Net}{q:List Req}{s:Sched}{k:Nat}{x:Req}(h:q[k]? = some x):joinL n (q.take (k+1)) s=joinL n (q.take k) s++needL n s x.flow x.routes:=by
 rw[take_succ h];simp[joinL]
theorem join_len (n:Net)(q:List Req)(s:Sched):(joinL n q s).length≤q.length*s.cells.length:=by
 unfold joinL
 induction q with
 | nil=>simp
 | cons x q ih=>
  rw[List.flatMap_cons,List.length_append,List.length_cons,Nat.add_mul]
  have:(needL n s x.flow x.routes).length≤s.cells.length:=List.length_filter_le _ _
  omega
theorem cel_irr (a:Cell):¬a.cmp a < 0:=by unfold Cell.cmp;rw[cmpL_eq.2 rfl];decide
theorem cel_asy {a b:Cell}(h1:a.cmp b < 0)(h2:b.cmp a < 0):False:=by
 have:=cmpL_trans h1 h2
 rw[cmpL_eq.2 rfl]at this;exact absurd this (by decide)
theorem cel_conn {a b:Cell}(h1:¬b.cmp a < 0)(hne:a≠b):a.cmp b < 0:=by
 rcases Int.lt_trichotomy (a.cmp b) 0 with h2|h2|h2
 ·exact h2
 ·have hk:=cmpL_eq.1 h2
  cases a;cases b
  simp[Cell.nums]at hk
  exact absurd (by simp[hk]) hne
 ·exact absurd (cmpL_anti.2 h2) h1
theorem compact_cells {cs ds:List Cell}(hc:cs.Pairwise fun a b=>a.cmp b < 0)(hm:∀c,c∈ds↔c∈cs)(hs:ds.Pairwise fun a b=>¬b.cmp a < 0):compact ds=cs:=
 strict_ext (lt:=fun a b:Cell=>a.cmp b < 0) cel_irr (fun a b h1 h2=>cel_asy h1 h2) (compact_strict (lt:=fun a b:Cell=>a.cmp b < 0) (fun h1 h2=>cmpL_trans h1 h2) hs fun a b _ _ h1 hne=>cel_conn h1 hne) hc fun c=>by rw[compact_mem,hm]
theorem trim_eq {n:Net}{q:List Req}{s:Sched}{l:List Flow}(h:VOk n l s){ds:List Cell}(hp:ds.Perm (joinL n q s))(hs:ds.Pairwise fun a b=>¬b.cmp a < 0):compact ds=s.cells.filter (trimB n q s):=
 compact_cells (h.sorted.filter _) (fun c=>by rw[hp.mem_iff,join_mem]) hs
theorem srv_routes {n:Net}{q:List Req}{s:Sched}(h:(makeM n q s).2.2=0){x:Req}(hx:x∈q):x.routes≠[]∧∀r∈x.routes,(routeM n s x.flow r).2.2.2=0:=by
 obtain⟨h1,_,h3,_⟩:=make_parts h
 obtain⟨_,_,hreq,_⟩:=reqE_ok h1
 refine⟨fun e=>?_,fun r hr=>?_⟩
 ·have:=(hreq x hx).len.1
  rw[e]at this;simp at this
 ·have:=List.all_eq_true.1 (h3 x hx) r hr
  unfold srvB at this
  simp only[Bool.and_eq_true,decide_eq_true_eq]at this
  exact this.1
theorem badR_nil {n:Net}{s:Sched}{f:Flow}:∀{l:List (List Int)},(∀r∈l,(routeM n s f r).2.2.2=0)→badR n s f l=0
 | [],_=>rfl
 | r :: l,h=>by
  rw[badR,if_neg (by simp[h r (List.mem_cons_self ..)])]
  exact badR_nil fun x hx=>h x (List.mem_cons_of_mem _ hx)
theorem need_srv {n:Net}{q:List Req}{s:Sched}(h:(makeM n q s).2.2=0){x:Req}(hx:x∈q):needM n s x.flow x.routes=(needL n s x.flow x.routes,0):=by
 obtain⟨h1,h2⟩:=srv_routes h hx
 have hz:badR n s x.flow x.routes=0:=badR_nil h2
 unfold needM
 rw[if_neg (by simpa using h1),if_neg (by simp[hz])]
section
variable {n:Net} {s t:Sched} {p:Cell→Bool} {f:Flow} {r:List Int}
theorem onC_part {a b x y:Int}{need:Nat}(hl:t.len=s.len)(ht:t.cells=s.cells.filter p)(hn:(slotsOn s f a b need x y).length=need)(hp:∀c∈onC s f a b need x y,p c=true):onC t f a b need x y=onC s f a b need x y:=by
 have hc:cellsL t f a b=(cellsL s f a b).filter p:=by
  unfold cellsL
  rw[ht,List.filter_filter,List.filter_filter]
  congr 1
  funext c
  simp[Bool.and_comm]
 have hn2:=onC_len s f a b need x y
 rw[hn]at hn2
 unfold onC at hn2 hp ⊢
 rw[List.length_map]at hn2
 rw[hc,hl,evC_filter,take_filter hn2 fun e he=>hp e.1 (List.mem_map.2 ⟨e,he,rfl⟩)]
theorem cellsUp_part {rel:Int}(hl:t.len=s.len)(ht:t.cells=s.cells.filter p):∀{k:Nat} {o:List Int} {a:Int},slotsUp n s f r rel 0 k=some (o,a)→(∀c∈cellsUp n s f r rel k,p c=true)→cellsUp n t f r rel k=cellsUp n s f r rel k
 | 0,_,_,_,_=>rfl
 | k+1,o,a,h,hp=>by
  have h':=h
  unfold slotsUp at h
  split at h
  ·cases h
  ·rename_i o1 a1 h1
   simp only at h
   split at h
   ·cases h
   ·rename_i hlen
    have hle:=slotsOn_le s f (r.getD k 0) (r.getD (k+1) 0) (needAt n r 0 k) a1 (rel+f.period)
    unfold cellsUp at hp
    rw[h1]at hp
    simp only at hp
    have hp1:∀c∈cellsUp n s f r rel k,p c=true:=fun c hc=>hp c (List.mem_append_left _ hc)
    have ih:=cellsUp_part hl ht h1 hp1
    have e:=onC_part (s:=s) (t:=t) hl ht (by omega) fun c hc=>hp c (List.mem_append_right _ hc)
    conv=>lhs;unfold cellsUp
    conv=>rhs;unfold cellsUp
    rw[slotsUp_part hl ht h1 hp1,h1]
    simp only
    rw[ih,e]
theorem relsC_part (hl:t.len=s.len)(ht:t.cells=s.cells.filter p):∀{k:Nat} {x:Bnd},boundUp n s f r 0 k=some x→(∀c∈relsC n s f r k,p c=true)→relsC n t f r k=relsC n s f r k
 | 0,_,_,_=>rfl
 | k+1,x,h,hp=>by
  cases hb:boundUp n s f r 0 k with
  | none=>simp only[boundUp,hb]at h;cases h
  | some y=>
   cases hr:relR n s f r 0 (f.phase+k*f.period) with
   | none=>rw[boundUp_stop hr]at h;cases h
   | some bl=>
    have ih:=relsC_part hl ht hb fun c hc=>hp c (List.mem_append_left _ hc)
    show relsC n t f r k++relC n t f r _=relsC n s f r k++relC n s f r _
    rw[ih]
    unfold relR slotsW at hr
    cases hu:slotsUp n s f r (f.phase+k*f.period) 0 (r.length-1) with
    | none=>rw[hu]at hr;cases hr
    | some oa=>
     obtain⟨o,a⟩:=oa
     unfold relC
     rw[cellsUp_part hl ht hu fun c hc=>hp c (List.mem_append_right _ hc)]
theorem routeM_part (hl:t.len=s.len)(ho:t.offs=s.offs)(ht:t.cells=s.cells.filter p)(h:(routeM n s f r).2.2.2=0)(hp:∀c∈relsC n s f r (relsN s f),p c=true):routeM n t f r=routeM n s f r∧relsC n t f r (relsN t f)=relsC n s f r (relsN s f):=by
 obtain⟨tl,tof,tc⟩:=t
 simp only at hl ho ht
 subst hl;subst ho;subst ht
 obtain⟨hw,x,hb,hR⟩:=routeM_ok h
 have hok:=wayE_ok hw
 have hway:wayE n ⟨s.len,s.offs,s.cells.filter p⟩ f r=0:=by
  have hf:=formB_filter hok.form p
  unfold wayE at hw ⊢
  rw[hf]
  rw[hok.form]at hw
  exact hw
 unfold boundR at hb
 have hbt:boundR n ⟨s.len,s.offs,s.cells.filter p⟩ f r 0=some x:=by
  unfold boundR
  rw[show relsN ⟨s.len,s.offs,s.cells.filter p⟩ f=relsN s f from rfl]
  exact boundUp_part (s:=s) (t:=⟨s.len,s.offs,s.cells.filter p⟩) rfl rfl hb hp
 refine⟨?_,?_⟩
 ·rw[hR]
  unfold routeM
  rw[if_neg (by simp[hway]),hbt]
 ·rw[show relsN ⟨s.len,s.offs,s.cells.filter p⟩ f=relsN s f from rfl]
  exact relsC_part (s:=s) (t:=⟨s.len,s.offs,s.cells.filter p⟩) rfl rfl hb hp
end
theorem VOk.part {n:Net}{l:List Flow}{s:Sched}(h:VOk n l s)(p:Cell→Bool):(schedE n l ⟨s.len,s.offs,s.cells.filter p⟩).2=0:=by
 have hperm:s.cells.Perm (s.cells.filter p++s.cells.filter fun c=>!p c):=(List.filter_append_perm p s.cells).symm
 have hrest:=rest_left h.net (AllRest.perm (fun c r r'=>cellR2_perm c r r') h.rest hperm)
 have hso:=(h.sorted.filter p)
 refine schedE_of h.n0 h.flows h.size h.per (Nat.le_trans (List.length_filter_le _ _) h.many) (fun i c hc=>?_) hrest
 obtain⟨j,hj⟩:=List.getElem?_of_mem (List.mem_filter.1 (List.mem_of_getElem? hc)).1
 obtain⟨h1,h2,h3,_⟩:=h.cell j c hj
 refine⟨h1,h2,h3,?_⟩
 unfold ordC
 cases i with
 | zero=>rfl
 | succ j=>
  simp only at hc ⊢
  cases hq:(s.cells.filter p)[j]? with
  | none=>rfl
  | some d=>
   refine decide_eq_true ?_
   obtain⟨hi,rfl⟩:=List.getElem?_eq_some_iff.1 hc
   obtain⟨hj,rfl⟩:=List.getElem?_eq_some_iff.1 hq
   exact List.pairwise_iff_getElem.1 hso j (j+1) hj hi (by omega)
theorem trim_law {n:Net}{q:List Req}{s:Sched}(h:(makeM n q s).2.2=0):makeM n q (trimS n q s)=makeM n q s∧trimS n q (trimS n q s)=trimS n q s:=by
 obtain⟨h1,h2,h3,h4⟩:=make_parts h
 have key:∀x∈q,∀r∈x.routes,routeM n (trimS n q s) x.flow r=routeM n s x.flow r∧relsC n (trimS n q s) x.flow r (relsN (trimS n q s) x.flow)=relsC n s x.flow r (relsN s x.flow):=fun x hx r hr=>by
  refine routeM_part (p:=trimB n q s) rfl rfl rfl ((srv_routes h hx).2 r hr) fun c hc=>?_
  unfold trimB
  rw[List.any_eq_true]
  refine⟨x,hx,decide_eq_true ?_⟩
  unfold allC
  rw[List.mem_flatMap]
  exact⟨r,hr,hc⟩
 have hclB:∀x∈q,claimB n (trimS n q s) x=claimB n s x:=fun x hx=>by
  unfold claimB
  rw[Bool.eq_iff_iff,List.all_eq_true,List.all_eq_true]
  refine forall_congr' fun r=>forall_congr' fun hr=>?_
  unfold srvB
  rw[(key x hx r hr).1]
 have hcl:∀x∈q,claimM n (trimS n q s) x=claimM n s x:=fun x hx=>by
  unfold claimM
  rw[hclB x hx]
  split
  ·unfold claimT
   congr 1
   ·exact List.map_congr_left fun r hr=>by rw[(key x hx r hr).1]
   ·exact List.map_congr_left fun r hr=>by rw[(key x hx r hr).1]
   ·exact List.map_congr_left fun r hr=>by rw[(key x hx r hr).1]
  ·rfl
 refine⟨?_,?_⟩
 ·have hv:(schedE n (flowsQ q) (trimS n q s)).2=0:=h2.part _
  rw[h4,make_of h1 hv fun y hy=>by rw[hclB y hy];exact h3 y hy]
  rw[List.map_congr_left hcl]
 ·have hB:trimB n q (trimS n q s)=trimB n q s:=by
   funext c
   unfold trimB
   rw[Bool.eq_iff_iff,List.any_eq_true,List.any_eq_true]
   refine exists_congr fun x=>and_congr_right fun hx=>?_
   rw[decide_eq_true_eq,decide_eq_true_eq]
   unfold allC
   rw[List.mem_flatMap,List.mem_flatMap]
   exact exists_congr fun r=>and_congr_right fun hr=>by rw[(key x hx r hr).2]
  show(⟨s.len,s.offs,(s.cells.filter (trimB n q s)).filter (trimB n q (trimS n q s))⟩:Sched)=⟨s.len,s.offs,s.cells.filter (trimB n q s)⟩
  rw[hB,List.filter_filter]
  simp only[Bool.and_self]
def wholeM (n:Net)(l:List Flow)(s:Sched):Int:=
 if netE n≠0∨(flowsE n.nodes l).2≠0 then 1 else if sizedB s=false then 2 else if l.any (mism s) then 11 else if 512 < s.cells.length then 8 else 0
theorem schedE_whole {n:Net}{l:List Flow}{s:Sched}(h:wholeM n l s≠0):schedE n l s=(-1,wholeM n l s):=by
 unfold wholeM at h ⊢
 unfold schedE
 split
 ·rfl
 rename_i h1;rw[if_neg h1]at h
 split
 ·rfl
 rename_i h2;rw[if_neg h2]at h
 split
 ·rfl
 rename_i h3;rw[if_neg h3]at h
 split
 ·rfl
 rename_i h4;rw[if_neg h4]at h
 exact absurd rfl h
theorem schedE_parts {n:Net}{l:List Flow}{s:Sched}(h:wholeM n l s=0):netE n=0∧(flowsE n.nodes l).2=0∧sizedB s=true∧s.cells.length≤512∧schedE n l s=if (firstAt (cellF n l s) s.cells.length).2≠0 then firstAt (cellF n l s) s.cells.length
 else if (firstAt (twI s.cells) s.cells.length).2≠0 then firstAt (twI s.cells) s.cells.length
 else firstAt (dsI n s.cells) s.cells.length:=by
 unfold wholeM at h
 split at h
 ·cases h
 rename_i h1
 split at h
 ·cases h
 rename_i h2
 split at h
 ·cases h
 rename_i h3
 split at h
 ·cases h
 rename_i h4
 exact⟨by omega,by omega,by simpa using h2,by omega,by unfold schedE;rw[if_neg h1,if_neg h2,if_neg h3,if_neg h4]⟩
theorem once_rest {cs:List Cell}(h:∀j,j < cs.length→twI cs j=0){i:Nat}{c:Cell}(hc:cs[i]? = some c):∀d∈cs.eraseIdx i,d.slot=c.slot→touchB c d=false:=by
 intro d hd hs
 obtain⟨j,hne,hj⟩:=List.mem_eraseIdx_iff_getElem?.1 hd
 have key:∀{a b:Nat} {x y:Cell},a < b→cs[a]? = some x→cs[b]? = some y→x.slot=y.slot→touchB y x=false:=fun {a b x y} hab hx hy hxy=>by
  have h1:=h b (List.getElem?_eq_some_iff.1 hy).1
  have h2:twiceM cs b=false:=by
   unfold twI at h1
   cases ht:twiceM cs b with
   | false=>rfl
   | true=>rw[ht]at h1;simp at h1
  unfold twiceM at h2
  rw[hy]at h2
  simp only at h2
  have h3:=List.any_eq_false.1 h2 a (List.mem_range.2 hab)
  unfold twAt at h3
  rw[hx]at h3
  simpa[hxy] using h3
 rcases Nat.lt_or_gt_of_ne hne with hlt|hgt
 ·exact key hlt hj hc hs
 ·rw[touchB_comm];exact key hgt hc hj hs.symm
theorem share_fault {n:Net}{cs:List Cell}{c:Cell}{i:Nat}(h:cs[i]? = some c)(hg:goodL n c.src c.dst=true)(ht:∀d∈cs.eraseIdx i,d.slot=c.slot→touchB c d=false):faultyM n (shareL cs c) (shareAt cs c i)=disturbB n cs i:=by
 have hp:shareB c c=true:=by simp[shareB]
 obtain⟨e1,e2⟩:=filter_erase (p:=shareB c) h hp
 have hf:faultyM n (shareL cs c) (shareAt cs c i)=faultyC n c ((cs.eraseIdx i).filter (shareB c)):=by
  unfold shareL shareAt
  rw[faultyM_rest e2,e1]
 rw[hf]
 have h1:faultyC n c ((cs.eraseIdx i).filter (shareB c))=false↔disturbB n cs i=false:=by
  rw[faultyC_iff,disturb_iff h]
  constructor
  ·exact fun hh=>hh.2.2
  ·exact fun hh=>⟨hg,fun d hd=>ht d (List.mem_filter.1 hd).1 (by have:=(List.mem_filter.1 hd).2;simp[shareB]at this;exact this.1),hh⟩
 cases ha:faultyC n c ((cs.eraseIdx i).filter (shareB c))<;>cases hb:disturbB n cs i<;>simp_all
theorem findF_ids (l:List Flow)(id:Int):decide (findF l id < 0)=!idsB l id:=by
 unfold idsB
 cases h:l.any fun f=>f.id==id with
 | false=>
  have h1:findF l id=-1:=idxF_none fun j y hj hy=>by
   have:=List.any_eq_false.1 h y (List.mem_of_getElem? hy)
   simpa using this
  rw[h1];rfl
 | true=>
  have h1:¬findF l id < 0:=fun hneg=>by
   obtain⟨f,hf,he⟩:=List.any_eq_true.1 h
   exact findF_neg hneg f hf (by simpa using he)
  rw[decide_eq_false h1];rfl
def shareT (cs:List Cell)(c:Cell)(k:Nat):List Cell:=(cs.take k).filter (shareB c)
theorem shareT_succ {cs:List Cell}{c d:Cell}{k:Nat}(h:cs[k]? = some d):shareT cs c (k+1)=shareT cs c k++if shareB c d=true then [d] else []:=by
 unfold shareT
 rw[take_succ h,List.filter_append]
 congr 1
 simp only[List.filter_cons,List.filter_nil]
theorem shareT_len (cs:List Cell)(c:Cell)(k:Nat):(shareT cs c k).length≤cs.length:=Nat.le_trans (List.length_filter_le _ _) (by rw[List.length_take];omega)
theorem good_nodes {n:Net}(hok:NetOk n){a b:Int}(h:goodL n a b=true):0≤a∧a < 32∧0≤b∧b < 32∧a≠b:=by
 unfold goodL at h
 simp only[Bool.and_eq_true,decide_eq_true_eq]at h
 obtain⟨k,l,e1,e2,e3,e4⟩:=findL_at h.1.1.1
 have hb:=linkR_bd (hok.link k l e2).1
 have hn:=hok.nodes
 rw[←e3,←e4]
 omega
theorem once_apart {cs:List Cell}(h:∀j,j < cs.length→twI cs j=0):ApartS cs:=by
 unfold ApartS
 rw[List.pairwise_iff_getElem]
 intro i j hi hj hij hs
 have h1:=h j hj
 unfold twI twiceM at h1
 rw[List.getElem?_eq_getElem hj]at h1
 simp only at h1
 split at h1
 ·cases h1
 rename_i g
 have g2:=List.any_eq_false.1 (Bool.eq_false_iff.2 g) i (by simpa using hij)
 unfold twAt at g2
 rw[List.getElem?_eq_getElem hi]at g2
 rw[touchB_comm]
 cases ht:touchB cs[j] cs[i] with
 | false=>rfl
 | true=>simp[hs,ht]at g2
theorem share_few {n:Net}(hok:NetOk n){cs:List Cell}(h:∀j,j < cs.length→twI cs j=0)(hg:∀(i:Nat) c,cs[i]? = some c→goodL n c.src c.dst=true)(c:Cell):(shareL cs c).length≤32:=by
 have h1:=slotA_len (once_apart h) (fun d hd=>by
  obtain⟨i,hi⟩:=List.getElem?_of_mem hd
  exact good_nodes hok (hg i d hi)) c.slot
 have h2:(cs.filter (shareB c)).length≤(cs.filter fun d=>d.slot==c.slot).length:=by
  rw[←List.countP_eq_length_filter,←List.countP_eq_length_filter]
  exact List.countP_mono_left fun x _ hx=>by unfold shareB at hx;simp only[Bool.and_eq_true]at hx;exact hx.1
 unfold shareL
 omega
def allK (n:Net)(q:List Req)(len offs:Int):Nat→Sched×List Req×List Int
 | 0=>(⟨len,offs,[]⟩,[],[])
 | k+1=>match q[k]? with
  | none=>allK n q len offs k
  | some x=>if (admM n (allK n q len offs k).2.1 (allK n q len offs k).1 x).2=0 then((admM n (allK n q len offs k).2.1 (allK n q len offs k).1 x).1,(allK n q len offs k).2.1++[x],(allK n q len offs k).2.2++[(k:Int)]) else allK n q len offs k
def allAd (n:Net)(q:List Req)(len offs:Int):Sched×List Int×Int:=
 if (reqE n q).2≠0 then(⟨0,0,[]⟩,[],1) else if sizedB ⟨len,offs,[]⟩=false then(⟨0,0,[]⟩,[],2) else if (q.any fun x=>len % x.flow.period != 0)=true then(⟨0,0,[]⟩,[],11) else((allK n q len offs q.length).1,(allK n q len offs q.length).2.2,0)
section
variable {n:Net} {q:List Req} {len offs:Int} {k:Nat}
theorem allK_yes {x:Req}(hx:q[k]? = some x)(h:(admM n (allK n q len offs k).2.1 (allK n q len offs k).1 x).2=0):allK n q len offs (k+1)=((admM n (allK n q len offs k).2.1 (allK n q len offs k).1 x).1,(allK n q len offs k).2.1++[x],(allK n q len offs k).2.2++[(k:Int)]):=by
 rw[allK,hx]
 simp only
 rw[if_pos h]
theorem allK_no {x:Req}(hx:q[k]? = some x)(h:(admM n (allK n q len offs k).2.1 (allK n q len offs k).1 x).2≠0):allK n q len offs (k+1)=allK n q len offs k:=by
 rw[allK,hx]
 simp only
 rw[if_neg h]
theorem admM_few (n:Net)(q:List Req)(s:Sched)(x:Req):(admM n q s x).1.cells.length≤512:=by
 unfold admM
 split
 ·simp
 split
 ·simp
 split
 ·simp
 split
 ·simp
 split
 ·simp
 split
 ·simp
 ·simp only;omega
theorem allK_ok (n:Net)(q:List Req)(len offs:Int):∀k:Nat,(allK n q len offs k).1.cells.length≤512∧(allK n q len offs k).2.1.length≤k∧(∀y∈(allK n q len offs k).2.1,y∈q)∧(allK n q len offs k).2.2.length=(allK n q len offs k).2.1.length
 | 0=>by simp[allK]
 | k+1=>by
  obtain⟨h1,h2,h3,h4⟩:=allK_ok n q len offs k
  cases hx:q[k]? with
  | none=>
   have e:allK n q len offs (k+1)=allK n q len offs k:=by rw[allK,hx]
   rw[e]
   exact⟨h1,by omega,h3,h4⟩
  | some x=>
   by_cases h:(admM n (allK n q len offs k).2.1 (allK n q len offs k).1 x).2=0
   ·rw[allK_yes hx h]
    refine⟨admM_few ..,by simp only[List.length_append,List.length_singleton];omega,fun y hy=>?_,by simp only[List.length_append,List.length_singleton];omega⟩
    rcases List.mem_append.1 hy with hy|hy
    ·exact h3 y hy
    ·rw[List.mem_singleton.1 hy];exact List.mem_of_getElem? hx
   ·rw[allK_no hx h]
    exact⟨h1,by omega,h3,h4⟩
end
end HM
