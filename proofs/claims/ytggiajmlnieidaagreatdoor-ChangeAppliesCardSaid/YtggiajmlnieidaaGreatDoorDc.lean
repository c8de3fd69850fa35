/- Further plain words. -/
import Derived.Test.YtggiajmlnieidaaGreatDoorDb
import Derived.Test.YtggiajmlnieidaaGreatDoorFc
import Derived.Test.YtggiajmlnieidaaGreatDoorFh
import Derived.Test.YtggiajmlnieidaaGreatDoorDa
namespace HM
open Go Go.RowKit
structure Brc where
 flow:Int
 frame:Int
 src:Int
 dst:Int
 slots:List Int
 deriving DecidableEq
def Brc.key (b:Brc):List Int:=[b.flow,b.frame,b.src,b.dst]
def Brc.of (k:List Int)(s:List Int):Brc:=⟨k.getD 0 0,k.getD 1 0,k.getD 2 0,k.getD 3 0,s⟩
def Att.key (a:Att):List Int:=[a.cell.flow,a.frame,a.cell.src,a.cell.dst]
theorem of_key (a:Att)(s:List Int):(Brc.of a.key s).key=a.key:=rfl
theorem of_self (b:Brc):Brc.of b.key b.slots=b:=rfl
theorem FitF.nil (l:Frs):FitF l []:=by unfold FitF;trivial
def brS (k:List Int)(loss:Int)(st:List Int×Option (List Int))(a:Att):List Int×Option (List Int):=
 if a.key=k∧st.2=none then(if a.out=1 then([],none) else(st.1++[a.slot],if loss < (st.1.length+1:Nat) then some (st.1++[a.slot]) else none)) else st
def brk (k:List Int)(loss:Int)(ats:List Att):List Int×Option (List Int):=ats.foldl (brS k loss) ([],none)
theorem brk_snoc (k:List Int)(loss:Int)(ats:List Att)(a:Att):brk k loss (ats++[a])=brS k loss (brk k loss ats) a:=by simp[brk]
def linkK (n:Net)(k:List Int):Int:=findL n (k.getD 2 0) (k.getD 3 0)
def lossK (n:Net)(k:List Int):Int:=lossL n (k.getD 2 0) (k.getD 3 0)
theorem brS_done {k:List Int}{loss:Int}{st:List Int×Option (List Int)}{a:Att}(h:st.2≠none):brS k loss st a=st:=by rw[brS,if_neg (fun hh=>h hh.2)]
def laterB (b x:Brc):Bool:=decide (cmpL b.key x.key < 0)
def insBr (b:Brc)(l:List Brc):List Brc:=(l.reverse.dropWhile (laterB b)).reverse++b :: (l.reverse.takeWhile (laterB b)).reverse
def brcOf (n:Net)(ats:List Att)(i:Nat)(a:Att):Option (List Int):=if ((ats.take i).any fun b=>b.key==a.key)=true∨linkK n a.key < 0 then none else(brk a.key (lossK n a.key) ats).2
def refB (n:Net)(ats:List Att):Nat→List Brc
 | 0=>[]
 | i+1=>match ats[i]? with
  | none=>refB n ats i
  | some a=>match brcOf n ats i a with
   | none=>refB n ats i
   | some s=>insBr (Brc.of a.key s) (refB n ats i)
theorem insBr_mem {b:Brc}{l:List Brc}{x:Brc}:x∈insBr b l↔x∈l∨x=b:=by
 have e2:=List.takeWhile_append_dropWhile (p:=laterB b) (l:=l.reverse)
 have e3:x∈l↔x∈l.reverse.takeWhile (laterB b)∨x∈l.reverse.dropWhile (laterB b):=by rw[←List.mem_append,e2,List.mem_reverse]
 unfold insBr
 rw[e3]
 simp only[List.mem_append,List.mem_reverse,List.mem_cons]
 constructor
 ·rintro (h|h|h)
  ·exact .inl (.inr h)
  ·exact .inr h
  ·exact .inl (.inl h)
 ·rintro ((h|h)|h)
  ·exact .inr (.inr h)
  ·exact .inl h
  ·exact .inr (.inl h)
def IsB (n:Net)(ats:List Att)(m:List Att)(x:Brc):Prop:=(∃a∈m,a.key=x.key)∧0≤linkK n x.key∧(brk x.key (lossK n x.key) ats).2=some x.slots
theorem refB_mem {n:Net}{ats:List Att}:∀{i:Nat},i≤ats.length→∀{x:Brc},x∈refB n ats i↔IsB n ats (ats.take i) x
 | 0,_,x=>by simp[refB,IsB]
 | i+1,hi,x=>by
  have ih:=fun x=>refB_mem (n:=n) (ats:=ats) (i:=i) (by omega) (x:=x)
  obtain⟨a,ha⟩:∃a,ats[i]? = some a:=⟨_,List.getElem?_eq_getElem (by omega)⟩
  have ht:=take_succ ha
  simp only[refB,ha]
  have hold:IsB n ats (ats.take i) x→IsB n ats (ats.take (i+1)) x:=fun⟨⟨y,hy,e⟩,h2,h3⟩=>⟨⟨y,by rw[ht];simp[hy],e⟩,h2,h3⟩
  unfold brcOf
  by_cases hc:((ats.take i).any fun b=>b.key==a.key)=true∨linkK n a.key < 0
  ·rw[if_pos hc]
   simp only
   rw[ih x]
   refine⟨hold,fun⟨⟨y,hy,e⟩,h2,h3⟩=>⟨?_,h2,h3⟩⟩
   rw[ht]at hy
   rcases List.mem_append.1 hy with hy|hy
   ·exact⟨y,hy,e⟩
   ·simp at hy;subst hy
    rcases hc with hc|hc
    ·obtain⟨z,hz,ez⟩:=List.any_eq_true.1 hc
     exact⟨z,hz,by rw[←e];simpa using ez⟩
    ·rw[e]at hc;omega
  ·rw[if_neg hc]
   cases hb:(brk a.key (lossK n a.key) ats).2 with
   | none=>
    simp only
    rw[ih x]
    refine⟨hold,fun⟨⟨y,hy,e⟩,h2,h3⟩=>⟨?_,h2,h3⟩⟩
    rw[ht]at hy
    rcases List.mem_append.1 hy with hy|hy
    ·exact⟨y,hy,e⟩
    ·simp at hy;subst hy
     rw[←e,hb]at h3;cases h3
   | some s=>
    simp only
    rw[insBr_mem,ih x]
    constructor
    ·rintro (h|rfl)
     ·exact hold h
     ·refine⟨⟨a,by rw[ht];simp,rfl⟩,?_,hb⟩
      rw[of_key]
      rcases Int.lt_or_le (linkK n a.key) 0 with hh|hh
      ·exact absurd (.inr hh) hc
      ·exact hh
    ·rintro⟨⟨y,hy,e⟩,h2,h3⟩
     rw[ht]at hy
     rcases List.mem_append.1 hy with hy|hy
     ·exact .inl ⟨⟨y,hy,e⟩,h2,h3⟩
     ·simp at hy;subst hy
      right
      rw[←e,hb]at h3
      injection h3 with h3
      rw[h3,e,of_self]
theorem nodup_len {l:List Nat}{n:Nat}(h:l.Nodup)(hl:∀i∈l,i < n):l.length≤n:=by
 have hp:l.Perm ((List.range n).filter fun i=>decide (i∈l)):=(List.perm_ext_iff_of_nodup h (List.nodup_range.filter _)).2 fun i=>by
  simp only[List.mem_filter,List.mem_range,decide_eq_true_eq]
  exact⟨fun hi=>⟨hl i hi,hi⟩,fun hi=>hi.2⟩
 rw[hp.length_eq]
 exact Nat.le_trans (List.length_filter_le _ _) (by simp)
mutual
theorem AV.ren_fz (π:Nat→Nat):∀(e:AV) {e':AV},fz e=some e'→e.ren π=e
 | .fn f caps,_,h=>by
  simp only[fz,Option.map_eq_some_iff]at h
  obtain⟨cs,h,_⟩:=h
  simp only[AV.ren,rens_fz π caps h]
 | .agg cs,_,h=>by
  simp only[fz,Option.map_eq_some_iff]at h
  obtain⟨cs',h,_⟩:=h
  simp only[AV.ren,rens_fz π cs h]
 | .tup cs,_,h=>by
  simp only[fz,Option.map_eq_some_iff]at h
  obtain⟨cs',h,_⟩:=h
  simp only[AV.ren,rens_fz π cs h]
 | .int _ _,_,_=>rfl
 | .bool _,_,_=>rfl
 | .str _,_,_=>rfl
 | .nils,_,_=>rfl
 | .nilp,_,_=>rfl
 | .nili,_,_=>rfl
 | .nilm,_,_=>rfl
 | .sl _ _,_,_=>rfl
 | .own _ _,_,_=>rfl
 | .cptr _ _,_,_=>rfl
 | .cmp _ _ _,_,_=>rfl
 | .undef,_,_=>rfl
 | .grown _ _,_,h=>by simp[fz]at h
 | .bsl _ _ _ _,_,h=>by simp[fz]at h
 | .vsl _ _ _ _,_,h=>by simp[fz]at h
 | .ptr _ _,_,h=>by simp[fz]at h
 | .yld _,_,h=>by simp[fz]at h
 | .mp _,_,h=>by simp[fz]at h
theorem rens_fz (π:Nat→Nat):∀(es:List AV) {es':List AV},fzs es=some es'→rens π es=es
 | [],_,_=>rfl
 | e :: es,_,h=>by
  simp only[fzs]at h
  split at h
  ·rename_i a b h1 h2
   simp only[rens,AV.ren_fz π e h1,rens_fz π es h2]
  ·cases h
end
def brcsM (n:Net)(r:RunL):List Brc:=if netE n=0 then refB n r.atts r.atts.length else []
theorem brk_stop {k:List Int}{loss:Int}{pre post:List Att}:∀s,(brk k loss pre).2=some s→(brk k loss (pre++post)).2=some s:=by
 induction post generalizing pre with
 | nil=>intro s h;simpa using h
 | cons a l ih=>
  intro s h
  have:=ih (pre:=pre++[a]) s (by rw[brk_snoc,brS_done (by rw[h];simp)];exact h)
  simpa using this
open Go Go.RowKit
def rowS (k:List Int)(row:List Int)(a:Att):List Int:=if a.key=k then(if a.out=1 then [] else row++[a.slot]) else row
def rowF (k:List Int)(ats:List Att):List Int:=ats.foldl (rowS k) []
theorem brk_row {k:List Int}{loss:Int}:∀{ats:List Att},(brk k loss ats).2=none→(brk k loss ats).1=rowF k ats:=by
 intro ats
 suffices ∀(l:List Att) (st:List Int×Option (List Int)) (row:List Int),(st.2=none→st.1=row)→(l.foldl (brS k loss) st).2=none→(l.foldl (brS k loss) st).1=l.foldl (rowS k) row from this ats ([],none) [] (fun _=>rfl)
 intro l
 induction l with
 | nil=>intro st row h h2;exact h h2
 | cons a l ih=>
  intro st row h h2
  rw[List.foldl_cons]at h2 ⊢
  rw[List.foldl_cons]
  refine ih _ _ (fun h3=>?_) h2
  unfold brS at h3 ⊢
  unfold rowS
  split at h3
  ·rename_i hc
   rw[if_pos hc,if_pos hc.1]
   split at h3
   ·rename_i ho;rw[if_pos ho,if_pos ho]
   ·rename_i ho;rw[if_neg ho,if_neg ho,h hc.2]
  ·rename_i hc
   rw[if_neg hc]
   by_cases e:a.key=k
   ·exact absurd ⟨e,h3⟩ hc
   ·rw[if_neg e];exact h h3
open Go Go.RowKit
theorem allS_round (cs:List Cell)(len a:Int):∀d:Nat,allS cs len (a+len) d=(allS cs len a d).map (·+len)
 | 0=>rfl
 | d+1=>by
  simp only[allS,List.map_append,List.map_map]
  rw[allS_round cs len a d]
  congr 1
  have e:(a+len+(d:Int)) % len=(a+d) % len:=by rw[show a+len+(d:Int)=a+d+len by omega,Int.add_emod_right]
  rw[e]
  refine List.map_congr_left fun c _=>?_
  show a+len+(d:Int)=a+d+len
  omega
theorem slotsOn_shift (s:Sched)(f:Flow)(a b:Int)(need:Nat)(at_ stop:Int):slotsOn s f a b need (at_+s.len) (stop+s.len)=(slotsOn s f a b need at_ stop).map (·+s.len):=by
 unfold slotsOn
 rw[show stop+s.len-(at_+s.len)=stop-at_ by omega,allS_round,List.map_take]
theorem nextA_shift (a len:Int)(l:List Int):nextA (a+len) (l.map (·+len))=nextA a l+len:=by
 unfold nextA
 rw[List.getLast?_map]
 cases l.getLast? with
 | none=>rfl
 | some x=>simp only[Option.map_some];omega
theorem slotsUp_shift (n:Net)(s:Sched)(f:Flow)(r:List Int)(rel more:Int):∀k:Nat,slotsUp n s f r (rel+s.len) more k=(slotsUp n s f r rel more k).map fun p=>(p.1.map (·+s.len),p.2+s.len)
 | 0=>rfl
 | k+1=>by
  unfold slotsUp
  rw[slotsUp_shift n s f r rel more k]
  cases slotsUp n s f r rel more k with
  | none=>rfl
  | some p=>
   obtain⟨o,a⟩:=p
   simp only[Option.map_some]
   rw[show rel+s.len+f.period=rel+f.period+s.len by omega,slotsOn_shift,List.length_map]
   split
   ·rfl
   ·simp only[Option.map_some,List.map_append]
    rw[nextA_shift]
theorem relR_shift {n:Net}{s:Sched}{f:Flow}{r:List Int}{more rel:Int}(hne:∀o a,slotsUp n s f r rel more (r.length-1)=some (o,a)→o≠[]):relR n s f r more (rel+s.len)=relR n s f r more rel:=by
 unfold relR slotsW
 rw[slotsUp_shift]
 cases hs:slotsUp n s f r rel more (r.length-1) with
 | none=>rfl
 | some p=>
  obtain⟨o,a⟩:=p
  have h0:=hne o a hs
  simp only[Option.map_some,List.map_map]
  congr 2
  ·rcases List.eq_nil_or_concat o with rfl|⟨o',x,rfl⟩
   ·exact absurd rfl h0
   ·simp;omega
  ·refine List.map_congr_left fun x _=>?_
   show x+s.len-(rel+s.len)=x-rel
   omega
theorem need0_pos {n:Net}{s:Sched}{f:Flow}{r:List Int}(h:WayOk n s f r):0 < needUp n r 0 (r.length-1):=by
 have hl:=h.len
 obtain⟨_,l,_,_,_,_,g1,g2,g3⟩:=h.at (i:=0) (by omega)
 have h1:needUp n r 0 1≤needUp n r 0 (r.length-1):=needUp_mono (by omega)
 have h2:0 < needAt n r 0 0:=by unfold needAt;rw[g3];omega
 have h3:needUp n r 0 1=needAt n r 0 0:=by simp[needUp]
 omega
theorem relR_rounds {n:Net}{s:Sched}{f:Flow}{r:List Int}(hw:WayOk n s f r)(rel:Int):∀m:Nat,relR n s f r 0 (rel+m*s.len)=relR n s f r 0 rel
 | 0=>by simp
 | m+1=>by
  have ih:=relR_rounds hw rel m
  rw[←ih,show rel+((m+1:Nat):Int)*s.len=rel+(m:Int)*s.len+s.len by rw[Int.natCast_add,Int.add_mul];simp;omega]
  refine relR_shift fun o a h e=>?_
  have h1:=(slotsUp_ok (by have:=hw.flow;omega) h).1
  have h2:=need0_pos hw
  subst e
  simp at h1
  omega
theorem bound_all0 {n:Net}{s:Sched}{f:Flow}{r:List Int}{more:Int}:∀{K:Nat} {x:Bnd},boundUp n s f r more K=some x→∀k:Nat,k < K→∃b l,relR n s f r more (f.phase+k*f.period)=some (b,l)∧b≤x.b
 | 0,_,_,k,hk=>by omega
 | K+1,x,h,k,hk=>by
  cases hb:boundUp n s f r more K with
  | none=>rw[boundUp,hb]at h;cases h
  | some y=>
   cases hr:relR n s f r more (f.phase+K*f.period) with
   | none=>rw[boundUp,hb,hr]at h;cases h
   | some z=>
    obtain⟨b,l⟩:=z
    have h2:=boundUp_some hb hr
    rw[h2]at h
    injection h with h
    have hle:y.b≤x.b∧b≤x.b:=by
     split at h
     ·subst h;simp only;omega
     ·subst h;omega
    rcases Nat.lt_succ_iff_lt_or_eq.1 hk with hlt|rfl
    ·obtain⟨b',l',h3,h4⟩:=bound_all0 hb k hlt
     exact⟨b',l',h3,by omega⟩
    ·exact⟨b,l,hr,hle.2⟩
theorem lat_some {n:Net}{s:Sched}{f:Flow}{r:List Int}(hw:WayOk n s f r){B:Bnd}(hb:boundR n s f r 0=some B)(k:Nat):∃b l,relR n s f r 0 (f.phase+k*f.period)=some (b,l)∧b≤B.b:=by
 have hf:=hw.flow
 obtain⟨hsz,_,_⟩:=form_all hw.form
 have hsb:=sized_bd hsz
 obtain⟨K,hK⟩:=Int.dvd_of_emod_eq_zero hw.per
 have hK1:1≤K:=by
  rcases Int.lt_or_le K 1 with h|h
  ·have:f.period*K≤f.period*0:=Int.mul_le_mul_of_nonneg_left (by omega) (by omega)
   omega
  ·exact h
 obtain⟨M,rfl⟩:∃M:Nat,K=M:=⟨K.toNat,by omega⟩
 have hdm:=Nat.div_add_mod k M
 have hj:k % M < M:=Nat.mod_lt _ (by omega)
 obtain⟨j,hjd⟩:∃j,j=k % M:=⟨_,rfl⟩
 obtain⟨m,hmd⟩:∃m,m=k / M:=⟨_,rfl⟩
 rw[←hjd]at hj hdm
 rw[←hmd]at hdm
 have he:f.phase+(k:Int)*f.period=f.phase+(j:Int)*f.period+(m:Int)*s.len:=by
  rw[←hdm,hK,Int.natCast_add,Int.natCast_mul,Int.add_mul]
  have:(M:Int)*m*f.period=m*(f.period*M):=by ac_rfl
  omega
 rw[he,relR_rounds hw]
 have hjp:((j:Int)+1)*f.period≤M*f.period:=Int.mul_le_mul_of_nonneg_right (by omega) (by omega)
 have hjs:f.phase+(j:Int)*f.period < s.len:=by
  rw[hK,Int.mul_comm f.period]
  rw[Int.add_mul]at hjp
  omega
 exact bound_all0 hb j ((relsN_lt (by omega)).2 hjs)
open Go Go.RowKit
theorem allS_plus (cs:List Cell)(len a:Int)(d:Nat):∀e:Nat,allS cs len a (d+e)=allS cs len a d++allS cs len (a+d) e
 | 0=>by simp[allS]
 | e+1=>by
  rw[show d+(e+1)=d+e+1 from rfl]
  simp only[allS]
  rw[allS_plus cs len a d e,List.append_assoc,show a+((d+e:Nat):Int)=a+(d:Int)+(e:Int) by omega]
theorem fm_count {α β:Type}{g:α→Option β}{p:β→Bool}{q:α→Bool}:∀{l:List α},(∀c∈l,q c=true→∃y,g c=some y∧p y=true)→(l.filter q).length≤(l.filterMap g).countP p
 | [],_=>by simp
 | c :: l,h=>by
  have ih:=fm_count (l:=l) (g:=g) (p:=p) (q:=q) fun c hc=>h c (List.mem_cons_of_mem _ hc)
  rw[List.filterMap_cons]
  by_cases hq:q c=true
  ·obtain⟨y,h1,h2⟩:=h c (List.mem_cons_self ..) hq
   rw[List.filter_cons,if_pos hq,h1]
   simp only[List.length_cons,List.countP_cons,h2,if_true]
   omega
  ·rw[List.filter_cons,if_neg hq]
   cases hg:g c with
   | none=>exact ih
   | some y=>simp only[List.countP_cons];omega
def keyK (K:List Int)(a:Att):Bool:=a.key==K
theorem gens_count {s:Sched}{f:Flow}(hfm:formB s=true)(x:List Rule){N k A:Nat}{a b:Int}:∀d:Nat,A+d≤N →
  (∀t:Nat,A≤t→t < A+d→∀c∈cellsL s f a b,genB [f] (playR [f] (fun _=>s) x N).atts (t:Nat) c=some (((t:Nat):Int),((k:Nat):Int),c)) →
  (allS (cellsL s f a b) s.len A d).length≤(playR [f] (fun _=>s) x (A+d)).atts.countP (keyK [f.id,(k:Nat),a,b])
 | 0,_,_=>by simp[allS]
 | d+1,hN,hg=>by
  have ih:=gens_count hfm x (N:=N) (k:=k) (A:=A) (a:=a) (b:=b) d (by omega) fun t h1 h2=>hg t h1 (by omega)
  obtain⟨late,e1,_,e3⟩:=slotR_gen [f] s x (playR [f] (fun _=>s) x (A+d)) ((A+d:Nat):Int)
  obtain⟨l6,h6,h7⟩:=playR_late [f] (fun _=>s) x (A+d) (N-(A+d))
  rw[show A+d+(N-(A+d))=N by omega]at h6
  have e4:(playR [f] (fun _=>s) x (A+(d+1))).atts=(playR [f] (fun _=>s) x (A+d)).atts++late:=e1
  rw[e4,List.countP_append,allS,List.length_append,List.length_map]
  have h8:late.countP (keyK [f.id,(k:Nat),a,b])=(late.map keyA).countP (fun p:Int×Int×Cell=>[p.2.2.flow,p.2.1,p.2.2.src,p.2.2.dst]==[f.id,(k:Nat),a,b]):=by rw[List.countP_map];rfl
  rw[h8,e3]
  have h9:((cellsL s f a b).filter fun c=>c.slot==((A:Int)+(d:Nat)) % s.len).length=((atM s ((A+d:Nat):Int)).filter fun c=>!offL f.id a b c).length:=by
   unfold atM cellsL
   rw[if_neg (by rw[hfm];intro h;rcases h with h|h<;>first|cases h|omega),List.filter_filter,List.filter_filter,Int.natCast_add]
   congr 1
   refine List.filter_congr fun c _=>?_
   rw[Bool.and_comm]
  rw[h9]
  refine Nat.add_le_add ih (fm_count fun c hc hq=>?_)
  have hc1:c∈cellsL s f a b:=by
   unfold atM at hc
   split at hc
   ·cases hc
   ·exact List.mem_filter.2 ⟨(List.mem_filter.1 hc).1,hq⟩
  have h10:=hg (A+d) (by omega) (by omega) c hc1
  rw[h6,genB_late [f] h7]at h10
  refine⟨_,h10,?_⟩
  unfold offL at hq
  simp only[Bool.not_or,Bool.and_eq_true,Bool.not_eq_true',bne_eq_false_iff_eq]at hq
  simp only[beq_iff_eq,List.cons.injEq,and_true,true_and]
  exact⟨hq.1.1,hq.1.2,hq.2⟩
theorem rowF_count {K:List Int}{ats:List Att}(h:∀a∈ats,a.key=K→a.out≠1):(rowF K ats).length=ats.countP (keyK K):=by
 suffices ∀(l:List Att) (row:List Int),(∀a∈l,a.key=K→a.out≠1)→(l.foldl (rowS K) row).length=row.length+l.countP (keyK K) by simpa[rowF] using this ats [] h
 intro l
 induction l with
 | nil=>intro row _;simp
 | cons a l ih=>
  intro row h
  rw[List.foldl_cons,ih _ fun b hb=>h b (List.mem_cons_of_mem _ hb),List.countP_cons]
  unfold rowS
  by_cases e:a.key=K
  ·have e2:keyK K a=true:=by unfold keyK;rw[e];exact beq_self_eq_true K
   rw[if_pos e,if_neg (h a (List.mem_cons_self ..) e),List.length_append,List.length_singleton,if_pos e2];omega
  ·have e2:¬keyK K a=true:=by unfold keyK;simpa using e
   rw[if_neg e,if_neg e2];omega
theorem brk_none_len {K:List Int}{loss:Int}(h0:0≤loss){ats:List Att}(h:(brk K loss ats).2=none):((brk K loss ats).1.length:Int)≤loss:=by
 suffices ∀(l:List Att) (st:List Int×Option (List Int)),(st.2=none→(st.1.length:Int)≤loss)→(l.foldl (brS K loss) st).2=none→((l.foldl (brS K loss) st).1.length:Int)≤loss from this ats ([],none) (fun _=>by simpa using h0) h
 intro l
 induction l with
 | nil=>intro st h1 h2;exact h1 h2
 | cons a l ih=>
  intro st h1 h2
  rw[List.foldl_cons]at h2 ⊢
  refine ih _ (fun h3=>?_) h2
  unfold brS at h3 ⊢
  split at h3
  ·rename_i hc
   rw[if_pos hc]
   split at h3
   ·rename_i ho;rw[if_pos ho];simpa using h0
   ·rename_i ho
    rw[if_neg ho]
    simp only at h3 ⊢
    split at h3
    ·cases h3
    ·rename_i hl;rw[List.length_append,List.length_singleton];omega
  ·rename_i hc
   rw[if_neg hc];exact h1 h3
theorem curM_of {f:Flow}{k t:Int}(hfl:flowE 32 f=0)(hk:0≤k)(h1:f.phase+k*f.period≤t)(h2:t < f.phase+k*f.period+f.period)(h3:t≤1099511627776):curM f t=(k,true):=by
 have hf:=flowE_ok hfl
 have h4:0≤k*f.period:=Int.mul_nonneg hk (by omega)
 unfold curM
 rw[if_neg (by intro h;rcases h with h|h|h<;>first|exact h hfl|omega)]
 have e:t-f.phase=(t-f.phase-k*f.period)+k*f.period:=by omega
 rw[e,Int.add_mul_ediv_right _ _ (by omega),Int.ediv_eq_zero_of_lt (by omega) (by omega),Int.zero_add]
theorem slotsOn_count {s:Sched}{f:Flow}{a b:Int}{need:Nat}{at_ stop L:Int}(h:(slotsOn s f a b need at_ stop).getLast? = some L)(hl:need≤(slotsOn s f a b need at_ stop).length):need≤(allS (cellsL s f a b) s.len at_ (L+1-at_).toNat).length:=by
 have hL:=slotsOn_mem (List.mem_of_getLast? h)
 obtain⟨e,he⟩:∃e,(stop-at_).toNat=(L+1-at_).toNat+e:=⟨(stop-at_).toNat-(L+1-at_).toNat,by omega⟩
 unfold slotsOn at h hl
 rw[he,allS_plus]at h hl
 apply Decidable.byContradiction
 intro hn
 rw[List.take_append]at h hl
 rw[List.take_of_length_le (by omega)]at h hl
 rw[List.length_append]at hl
 rw[List.getLast?_append]at h
 have hne:(List.take (need-(allS (cellsL s f a b) s.len at_ (L+1-at_).toNat).length) (allS (cellsL s f a b) s.len (at_+((L+1-at_).toNat:Nat)) e))≠[]:=by
  intro h0;rw[h0]at hl;simp at hl;omega
 obtain⟨y,hy⟩:∃y,(List.take (need-(allS (cellsL s f a b) s.len at_ (L+1-at_).toNat).length) (allS (cellsL s f a b) s.len (at_+((L+1-at_).toNat:Nat)) e)).getLast? = some y:=⟨_,List.getLast?_eq_some_getLast hne⟩
 rw[hy]at h
 simp only[Option.some_or,Option.some.injEq]at h
 have:=allS_mem (List.mem_of_mem_take (List.mem_of_getLast? hy))
 omega
open Go Go.RowKit
theorem dup_ne {r:List Int}(hd:∀i,i < r.length→dupAt r i=false){i j:Nat}(hij:i < j)(hj:j < r.length):r.getD i 0≠r.getD j 0:=by
 intro e
 have h:=hd j hj
 have hi:i < r.length:=by omega
 rw[List.getD_eq_getElem?_getD,List.getD_eq_getElem?_getD,List.getElem?_eq_getElem hi,List.getElem?_eq_getElem hj]at e
 simp only[Option.getD_some]at e
 unfold dupAt at h
 rw[List.getElem?_eq_getElem hj]at h
 simp only at h
 rw[List.any_eq_false]at h
 exact h (r[i]) (List.mem_take_iff_getElem.2 ⟨i,by omega,rfl⟩) (by simpa using e)
def unbroken (n:Net)(f:Flow)(r:List Int)(R:RunL)(k:Int):Prop:=∀i,i+1 < r.length→∀b∈brcsM n R,b.key≠[f.id,k,r.getD i 0,r.getD (i+1) 0]
theorem holdsR_mono {f:Flow}{R:List Att}{a k t u:Int}(h:holdsR f R a k t=true)(htu:t≤u):holdsR f R a k u=true:=by
 unfold holdsR at h ⊢
 simp only[Bool.or_eq_true,List.any_eq_true,Bool.and_eq_true,decide_eq_true_eq]at h ⊢
 rcases h with h|⟨b,h1,h2,h3⟩
 ·exact .inl h
 ·exact .inr ⟨b,h1,h2,by omega⟩
theorem hop {n:Net}{s:Sched}{f:Flow}{r:List Int}(h0:netE n=0)(hw:WayOk n s f r)(hfl:flowE 32 f=0)(x:List Rule){N k:Nat}(hbig:f.phase+(k:Nat)*f.period+f.period≤1099511627776)
  (hnb:unbroken n f r (playR [f] (fun _=>s) x N) (k:Nat)):∀(i:Nat) (o:List Int) (a:Int),i+1≤r.length→slotsUp n s f r (f.phase+(k:Nat)*f.period) 0 i=some (o,a)→(∀y∈o,y < (N:Nat))→holdsR f (playR [f] (fun _=>s) x N).atts (r.getD i 0) (k:Nat) a=true
 | 0,o,a,_,_,_=>by unfold holdsR;rw[hw.ends.1];simp
 | i+1,o,a,hi,hs,hN=>by
  have hf:=hw.flow
  have hk0:0≤((k:Nat):Int)*f.period:=Int.mul_nonneg (by omega) (by omega)
  unfold slotsUp at hs
  split at hs
  ·cases hs
  rename_i o' a' h'
  simp only at hs
  split at hs
  ·cases hs
  rename_i hlen
  injection hs with hs;injection hs with e1 e2
  subst e1
  have ih:=hop h0 hw hfl x hbig hnb i o' a' (by omega) h' fun y hy=>hN y (List.mem_append_left _ hy)
  obtain⟨m,l,g1,g2,g3,g4,g5,g6,g7⟩:=hw.at (i:=i) (by omega)
  have hneed:((needAt n r 0 i:Nat):Int)=l.loss+1:=by unfold needAt;rw[g7];omega
  obtain⟨h,hh⟩:∃h,h=slotsOn s f (r.getD i 0) (r.getD (i+1) 0) (needAt n r 0 i) a' (f.phase+(k:Nat)*f.period+f.period):=⟨_,rfl⟩
  rw[←hh]at e2 hlen hN
  have hne:h≠[]:=by intro e;rw[e]at hlen;simp at hlen;omega
  obtain⟨L,hL⟩:∃L,h.getLast? = some L:=⟨_,List.getLast?_eq_some_getLast hne⟩
  have hLN:=hN L (List.mem_append_right _ (List.mem_of_getLast? hL))
  have ha:a=L+1:=by rw[←e2];unfold nextA;rw[hL]
  obtain⟨_,ha',_,_⟩:=slotsUp_ok (by omega) h'
  have hLm:=slotsOn_mem (hh▸List.mem_of_getLast? hL)
  have hcnt:=slotsOn_count (hh▸hL) (by rw[←hh];omega)
  apply Decidable.byContradiction
  intro hno
  have hno2:∀b∈(playR [f] (fun _=>s) x N).atts,gotA f.id (k:Nat) (r.getD (i+1) 0) b=true→¬b.slot < a:=fun b hb hg hs=>hno (by
   unfold holdsR
   simp only[Bool.or_eq_true,List.any_eq_true,Bool.and_eq_true,decide_eq_true_eq]
   exact .inr ⟨b,hb,hg,hs⟩)
  obtain⟨A,rfl⟩:∃A:Nat,a'=A:=⟨a'.toNat,by omega⟩
  obtain⟨d,hd⟩:∃d,d=(L+1-(A:Nat)).toNat:=⟨_,rfl⟩
  rw[←hd]at hcnt
  have hAd:((A+d:Nat):Int)=L+1:=by omega
  have hgen:=gens_count hw.form x (N:=N) (k:=k) (A:=A) (a:=r.getD i 0) (b:=r.getD (i+1) 0) d (by omega) fun t h1 h2 c hc=>by
   have hc2:=(List.mem_filter.1 hc).2
   unfold offL at hc2
   simp only[Bool.not_or,Bool.and_eq_true,Bool.not_eq_true',bne_eq_false_iff_eq]at hc2
   have hcm:=curM_of (k:=(k:Nat)) (t:=(t:Nat)) hfl (by omega) (by omega) (by omega) (by omega)
   unfold genB
   have hff:findF [f] c.flow=0:=by rw[findF_one,if_pos hc2.1.1.symm]
   rw[hff,if_neg (by omega)]
   simp only[Int.toNat_zero,List.getElem?_cons_zero,hcm]
   rw[if_neg ?_]
   intro hor
   rcases hor with hor|hor|hor|hor
   ·cases hor
   ·rw[hc2.1.2,←hw.ends.2]at hor
    exact dup_ne hw.dup (by omega) (by omega) hor
   ·rw[hc2.1.2,holdsR_mono ih (by omega)]at hor;cases hor
   ·unfold ackedR at hor
    simp only[List.any_eq_true,Bool.and_eq_true,decide_eq_true_eq,beq_iff_eq]at hor
    obtain⟨b,hb,⟨hb1,hb2⟩,hb3⟩:=hor
    refine hno2 b hb ?_ (by omega)
    unfold onA at hb1
    simp only[Bool.and_eq_true,beq_iff_eq]at hb1
    unfold gotA
    simp only[Bool.and_eq_true,beq_iff_eq,bne_iff_ne]
    exact⟨⟨⟨hb1.1.1.1.trans hc2.1.1,hb1.1.1.2⟩,hb1.2.trans hc2.2⟩,by omega⟩
  obtain⟨K,hK⟩:∃K:List Int,K=[f.id,(k:Nat),r.getD i 0,r.getD (i+1) 0]:=⟨_,rfl⟩
  rw[←hK]at hgen
  obtain⟨l6,h6,h7⟩:=playR_late [f] (fun _=>s) x (A+d) (N-(A+d))
  rw[show A+d+(N-(A+d))=N by omega]at h6
  have hnack:∀b∈(playR [f] (fun _=>s) x (A+d)).atts,b.key=K→b.out≠1:=fun b hb hbk ho=>by
   have hs:=playR_slots [f] (fun _=>s) x (A+d) b hb
   refine hno2 b (h6▸List.mem_append_left _ hb) ?_ (by omega)
   rw[hK]at hbk
   unfold Att.key at hbk
   injection hbk with q1 hbk;injection hbk with q2 hbk;injection hbk with q3 hbk;injection hbk with q4 hbk
   unfold gotA
   simp only[Bool.and_eq_true,beq_iff_eq,bne_iff_ne]
   exact⟨⟨⟨q1,q2⟩,q4⟩,by omega⟩
  have hrow:=rowF_count hnack
  cases hbk:(brk K l.loss (playR [f] (fun _=>s) x (A+d)).atts).2 with
  | none=>
   have q1:=brk_none_len g5 hbk
   rw[brk_row hbk]at q1
   omega
  | some sl=>
   have q1:=brk_stop (post:=l6) sl hbk
   rw[←h6]at q1
   have hpos:0 < (playR [f] (fun _=>s) x (A+d)).atts.countP (keyK K):=by omega
   obtain⟨b,hb,hbk2⟩:=List.countP_pos_iff.1 hpos
   have hmem:(Brc.of K sl)∈brcsM n (playR [f] (fun _=>s) x N):=by
    unfold brcsM
    rw[if_pos h0,refB_mem (Nat.le_refl _),List.take_length]
    have hkk:(Brc.of K sl).key=K:=by rw[hK];rfl
    refine⟨⟨b,h6▸List.mem_append_left _ hb,by rw[hkk];exact eq_of_beq hbk2⟩,?_,?_⟩
    ·rw[hkk,hK]
     show 0≤findL n (r.getD i 0) (r.getD (i+1) 0)
     omega
    ·rw[hkk]
     have hls:lossK n K=l.loss:=by
      rw[hK]
      show lossL n (r.getD i 0) (r.getD (i+1) 0)=l.loss
      rw[←g3,←g4,link_loss hw.net g2]
     rw[hls]
     exact q1
   exact hnb i (by omega) _ hmem (by rw[hK];rfl)
open Go Go.RowKit
theorem relR_range {n:Net}{s:Sched}{f:Flow}{r:List Int}(hw:WayOk n s f r){rel b:Int}{l:List Int}(h:relR n s f r 0 rel=some (b,l)):1≤b∧b≤f.period:=by
 have hf:=hw.flow
 have hl:=hw.len
 unfold relR slotsW at h
 cases hs:slotsUp n s f r rel 0 (r.length-1) with
 | none=>rw[hs]at h;cases h
 | some p=>
  obtain⟨o,a⟩:=p
  rw[hs]at h
  simp only[Option.map_some,Option.some.injEq,Prod.mk.injEq]at h
  obtain⟨_,h2,h3,h4⟩:=slotsUp_ok (by omega) hs
  obtain⟨e,he⟩:∃e,r.length-1=e+1:=⟨r.length-2,by omega⟩
  have hlast:o.getLast? = some (a-1):=by
   obtain⟨m,l,g1,g2,g3,g4,g5,g6,g7⟩:=hw.at (i:=e) (by omega)
   rw[he]at hs
   exact slotsUp_last (by unfold needAt;rw[g7];omega) hs
  have hld:o.getLastD 0=a-1:=by rw[List.getLastD_eq_getLast?,hlast];rfl
  rw[hld]at h
  have:=h4 _ (List.mem_of_getLast? hlast)
  omega
theorem boundUp_le {n:Net}{s:Sched}{f:Flow}{r:List Int}(hw:WayOk n s f r):∀{K:Nat} {x:Bnd},boundUp n s f r 0 K=some x→x.b≤f.period
 | 0,x,h=>by
  have hf:=hw.flow
  simp only[boundUp,Option.some.injEq]at h
  subst h;simp only;omega
 | K+1,x,h=>by
  cases hb:boundUp n s f r 0 K with
  | none=>rw[boundUp,hb]at h;cases h
  | some y=>
   cases hr:relR n s f r 0 (f.phase+K*f.period) with
   | none=>rw[boundUp,hb,hr]at h;cases h
   | some z=>
    obtain⟨b,l⟩:=z
    have h2:=boundUp_some hb hr
    rw[h2]at h
    injection h with h
    have h3:=boundUp_le hw hb
    have h4:=relR_range hw hr
    split at h
    ·subst h;exact h4.2
    ·subst h;exact h3
theorem bound_range {n:Net}{s:Sched}{f:Flow}{r:List Int}(hw:WayOk n s f r){B:Bnd}(hb:boundR n s f r 0=some B):1≤B.b∧B.b≤f.period:=by
 obtain⟨b,l,h1,h2⟩:=lat_some hw hb 0
 have:=relR_range hw h1
 exact⟨by omega,boundUp_le hw hb⟩
open Go Go.RowKit
open Go Go.RowKit
open Go Go.RowKit
open Go Go.RowKit
open Go Go.RowKit
open Go Go.RowKit
open Go Go.RowKit
open Go Go.RowKit
open Go Go.RowKit
section
variable (tg:Nat→Nat→Bool)
end
open Go Go.RowKit
open Go Go.RowKit
open Go Go.RowKit
theorem filter_succ {α:Type}(p:α→Bool){l:List α}{k:Nat}{x:α}(h:l[k]? = some x):(l.take (k+1)).filter p=if p x then(l.take k).filter p++[x] else(l.take k).filter p:=by
 rw[take_succ h,List.filter_append]
 split
 ·rename_i hp;rw[List.filter_cons_of_pos hp];rfl
 ·rename_i hp;rw[List.filter_cons_of_neg hp,List.filter_nil,List.append_nil]
open Go Go.RowKit
theorem flowsE_per {nodes:Int}{l:List Flow}(h:(flowsE nodes l).2=0):∀f∈l,1≤f.period∧f.period≤512:=by
 intro f hf
 obtain⟨k,hk⟩:=List.getElem?_of_mem hf
 have hkl:=(List.getElem?_eq_some_iff.1 hk).1
 unfold flowsE at h
 split at h
 ·cases h
 split at h
 ·cases h
 have h3:=firstAt_ok.1 h k hkl
 unfold flowAt at h3
 rw[hk]at h3
 simp only at h3
 have hfx:flowE nodes f=0:=by
  split at h3
  ·rename_i hh;exact absurd h3 hh
  ·omega
 have:=flowE_ok hfx
 omega
end HM
