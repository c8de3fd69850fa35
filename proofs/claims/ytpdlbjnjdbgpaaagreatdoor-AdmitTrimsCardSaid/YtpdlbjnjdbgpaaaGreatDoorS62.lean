/- The cells that count: the program, as far as the order of an assignment. -/
import Derived.Test.YtpdlbjnjdbgpaaaGreatDoorS53
import Derived.Test.YtpdlbjnjdbgpaaaGreatDoorDc
import Derived.Test.YtpdlbjnjdbgpaaaGreatDoorFh
set_option maxHeartbeats 64000000
set_option maxRecDepth 100000
namespace HM
open Go Go.RowKit Go.Proofs
theorem SeesO.of_eq {o o':Ob}(h:o=o'):SeesO o o':=h▸SeesO.rfl' o
def keysOf (C:List Cell):List (List Int):=C.foldl (fun ks c=>setKs ks c.nums) []
def mapO (C:List Cell):Ob:=.map (some 5) (keysOf C) (List.replicate (keysOf C).length (.bool true))
theorem keysOf_snoc (C:List Cell)(c:Cell):keysOf (C++[c])=setKs (keysOf C) c.nums:=by simp[keysOf]
theorem keysOf_add (A T:List Cell)(c:Cell):setKs (keysOf (A++T)) c.nums=keysOf (A++(T++[c])):=by rw[←List.append_assoc,keysOf_snoc]
theorem vals_snoc (C:List Cell)(c:Cell):setVs (keysOf C) (List.replicate (keysOf C).length (.bool true)) c.nums (.bool true)=List.replicate (keysOf (C++[c])).length (.bool true):=by
 rw[keysOf_snoc]
 unfold setVs setKs
 cases h:posOf (keysOf C) c.nums with
 | none=>simp[List.replicate_succ']
 | some i=>
  simp only
  apply List.ext_getElem?
  intro j
  rw[List.getElem?_set]
  split
  ·rename_i e
   subst e
   simp only[List.length_replicate,List.getElem?_replicate]
  ·rfl
theorem vals_add (A T:List Cell)(c:Cell):setVs (keysOf (A++T)) (List.replicate (keysOf (A++T)).length (.bool true)) c.nums (.bool true)=List.replicate (keysOf (A++(T++[c]))).length (.bool true):=by rw[←List.append_assoc,vals_snoc]
theorem okk_mapO (k m:Nat)(C:List Cell):Ob.okk k m (mapO C):=by
 show okks k m _
 rw[okks_mem]
 intro e he
 rw[List.eq_of_mem_replicate he]
 trivial
theorem mem_setKs {ks:List (List Int)}{x y:List Int}:y∈setKs ks x↔y∈ks∨y=x:=by
 unfold setKs
 cases h:posOf ks x with
 | none=>simp
 | some i=>
  simp only
  constructor
  ·exact .inl
  ·rintro (h1|rfl)
   ·exact h1
   ·exact List.mem_of_getElem? (posOf_some h)
theorem nums_inj {c d:Cell}(h:c.nums=d.nums):c=d:=by
 cases c;cases d
 simp only[Cell.nums,List.cons.injEq,and_true]at h
 obtain⟨h1,h2,h3,h4,h5⟩:=h
 subst h1;subst h2;subst h3;subst h4;subst h5
 rfl
theorem mem_keysOf:∀(C:List Cell) (c:Cell),c.nums∈keysOf C↔c∈C:=by
 intro C
 have:∀(C:List Cell) (ks:List (List Int)) (c:Cell),c.nums∈C.foldl (fun ks c=>setKs ks c.nums) ks↔c.nums∈ks∨c∈C:=by
  intro C
  induction C with
  | nil=>intro ks c;simp
  | cons d C ih=>
   intro ks c
   rw[List.foldl_cons,ih,mem_setKs,List.mem_cons]
   constructor
   ·rintro ((h|h)|h)
    ·exact .inl h
    ·exact .inr (.inl (nums_inj h))
    ·exact .inr (.inr h)
   ·rintro (h|rfl|h)
    ·exact .inl (.inl h)
    ·exact .inl (.inr rfl)
    ·exact .inr h
 intro c
 rw[keysOf,this]
 simp
theorem keysOf_assoc (C:List Cell)(c:Cell):assoc (keysOf C) (List.replicate (keysOf C).length (.bool true)) c.nums=if c∈C then some (.bool true) else none:=by
 unfold assoc
 cases h:posOf (keysOf C) c.nums with
 | none=>
  have:=posOf_none.1 h
  rw[mem_keysOf]at this
  rw[if_neg this];rfl
 | some i=>
  have h1:=posOf_some h
  have h2:=List.mem_of_getElem? h1
  rw[mem_keysOf]at h2
  rw[if_pos h2]
  simp[(List.getElem?_eq_some_iff.1 h1).1]
theorem fzN {S:St}{v:AV}{l:List AV}(h:fzb S v=some (.sl false l)):fzb S (.tup [v,.int .i64 0])=some (.tup [.sl false l,.int .i64 0]):=by simp[fzb,fzbs,h]
def tE (cs:List Cell)(len a:Int)(need d j:Nat):List (Cell×Int):=(evC cs len a d++((cs.take j).filter fun c=>c.slot==(a+d) % len).map fun c=>(c,a+(d:Int))).take need
def tC (cs:List Cell)(len a:Int)(need d j:Nat):List Cell:=(tE cs len a need d j).map (·.1)
theorem tE_snd (cs:List Cell)(len a:Int)(need d j:Nat):(tE cs len a need d j).map (·.2)=tS cs len a need d j:=by
 simp[tE,tS,partS,List.map_take,evC_snd,Function.comp_def]
theorem tC_len (cs:List Cell)(len a:Int)(need d j:Nat):(tC cs len a need d j).length=(tS cs len a need d j).length:=by rw[←tE_snd,tC,List.length_map,List.length_map]
theorem tE_next (cs:List Cell)(len a:Int)(need d:Nat):tE cs len a need d cs.length=tE cs len a need (d+1) 0:=by simp[tE,evC]
theorem tC_next (cs:List Cell)(len a:Int)(need d:Nat):tC cs len a need d cs.length=tC cs len a need (d+1) 0:=by rw[tC,tC,tE_next]
theorem tC_miss {cs:List Cell}{len a:Int}{need d j:Nat}{c:Cell}(h:cs[j]? = some c)(hm:c.slot≠(a+d) % len):tC cs len a need d (j+1)=tC cs len a need d j:=by
 unfold tC tE
 rw[take_succ h,List.filter_append]
 simp[hm]
theorem tE_hit {cs:List Cell}{len a:Int}{d j:Nat}{c:Cell}(h:cs[j]? = some c)(hm:c.slot=(a+d) % len)(need:Nat):tE cs len a need d (j+1)=((evC cs len a d++((cs.take j).filter fun c=>c.slot==(a+d) % len).map fun c=>(c,a+(d:Int)))++[(c,a+(d:Int))]).take need:=by
 unfold tE
 rw[take_succ h,List.filter_append,List.map_append,List.append_assoc]
 simp[hm]
theorem tC_full {cs:List Cell}{len a:Int}{need d j:Nat}{c:Cell}(h:cs[j]? = some c)(hf:(tC cs len a need d j).length=need):tC cs len a need d (j+1)=tC cs len a need d j:=by
 by_cases hm:c.slot=(a+d) % len
 ·unfold tC at hf ⊢
  rw[tE_hit h hm]
  unfold tE at hf ⊢
  rw[List.length_map,List.length_take]at hf
  rw[take_prefix (by omega)]
 ·exact tC_miss h hm
theorem tC_hit {cs:List Cell}{len a:Int}{need d j:Nat}{c:Cell}(h:cs[j]? = some c)(hm:c.slot=(a+d) % len)(hf:(tC cs len a need d j).length < need):tC cs len a need d (j+1)=tC cs len a need d j++[c]:=by
 unfold tC at hf ⊢
 rw[tE_hit h hm]
 unfold tE at hf ⊢
 generalize evC cs len a d++((cs.take j).filter fun c=>c.slot==(a+d) % len).map (fun c=>(c,a+(d:Int)))=X at hf ⊢
 rw[List.length_map,List.length_take]at hf
 have h1:(X++[(c,a+(d:Int))]).take need=X++[(c,a+(d:Int))]:=List.take_of_length_le (by rw[List.length_append,List.length_singleton];omega)
 have h2:X.take need=X:=List.take_of_length_le (by omega)
 rw[h1,h2,List.map_append]
 rfl
theorem evC_prefix (cs:List Cell)(len a:Int){d e:Nat}(h:d≤e):∃t,evC cs len a e=evC cs len a d++t:=by
 induction e with
 | zero=>exact⟨[],by
             have:d=0:=by omega
             subst this;simp⟩
 | succ e ih=>
  rcases Nat.lt_or_ge d (e+1) with hlt|hge
  ·obtain⟨t,ht⟩:=ih (by omega)
   exact⟨t++_,by rw[evC,ht,List.append_assoc]⟩
  ·have:d=e+1:=by omega
   subst this;exact⟨[],by simp⟩
theorem tC_done {s:Sched}{f:Flow}{a stop x y x' y':Int}{cs:List Cell}{need need' d:Nat}(hcs:cs=cellsL s f x y)(hnd:need=need')(hd:d≤(stop-a).toNat)(hful:(tC cs s.len a need d 0).length=need)(e3:x=x')(e4:y=y'):onC s f x' y' need' a stop=tC cs s.len a need d 0:=by
 subst hcs;subst hnd;subst e3;subst e4
 unfold onC tC tE at *
 obtain⟨t,ht⟩:=evC_prefix (cellsL s f x y) s.len a hd
 simp only[List.take_zero,List.filter_nil,List.map_nil,List.append_nil,List.length_map,List.length_take]at hful ⊢
 rw[ht,take_prefix (by omega)]
theorem cellsUp_step {n:Net}{s:Sched}{f:Flow}{r:List Int}{rel more:Int}{k:Nat}{o:List Int}{a:Int}{t:List Cell}(h:slotsUp n s f r rel more k=some (o,a))(hz:more=0)(ht:onC s f (r.getD k 0) (r.getD (k+1) 0) (needAt n r more k) a (rel+f.period)=t):cellsUp n s f r rel (k+1)=cellsUp n s f r rel k++t:=by
 subst hz
 simp only[cellsUp,h,ht]
theorem relsC_at {n:Net}{s:Sched}{f:Flow}{r:List Int}{x:Bnd}:∀{K k:Nat},boundUp n s f r 0 K=some x→k < K→slotsUp n s f r (f.phase+k*f.period) 0 (r.length-1)≠none
 | 0,_,_,h=>by omega
 | K+1,k,hb,hk=>by
  cases hy:boundUp n s f r 0 K with
  | none=>simp only[boundUp,hy]at hb;cases hb
  | some y=>
   rcases Nat.lt_succ_iff_lt_or_eq.1 hk with hk|rfl
   ·exact relsC_at hy hk
   ·intro hn
    have:relR n s f r 0 (f.phase+k*f.period)=none:=by unfold relR slotsW;rw[hn];rfl
    rw[boundUp_stop this]at hb;cases hb
def cUp (n:Net)(s:Sched)(f:Flow)(l:List (List Int))(k:Nat):List Cell:=(l.take k).flatMap fun r=>relsC n s f r (relsN s f)
theorem cUp_step {n:Net}{s:Sched}{f:Flow}{l:List (List Int)}{k:Nat}{r:List Int}(h:l[k]? = some r):cUp n s f l (k+1)=cUp n s f l k++relsC n s f r (relsN s f):=by
 unfold cUp
 rw[take_succ h,List.flatMap_append]
 simp
theorem needL_eq (n:Net)(s:Sched)(f:Flow)(l:List (List Int)):AV.tup [.sl false ((s.cells.filter fun x=>!(!decide (x∈cUp n s f l l.length))).map Cell.av),.int .i64 0] = .tup [encCells (needL n s f l),.int .i64 0]:=by
 unfold needL allC cUp
 rw[List.take_length]
 simp only[Bool.not_not]
 rfl
theorem badR_at {n:Net}{s:Sched}{f:Flow}:∀{l:List (List Int)} {k:Nat} {r:List Int},l[k]? = some r→(∀(j:Nat) (x:List Int),j < k→l[j]? = some x→(routeM n s f x).2.2.2=0)→(routeM n s f r).2.2.2≠0→badR n s f l=(routeM n s f r).2.2.2
 | [],_,_,h,_,_=>by simp at h
 | a :: l,0,r,h,_,hr=>by
  simp at h;subst h
  rw[badR,if_pos hr]
 | a :: l,k+1,r,h,hb,hr=>by
  rw[badR,if_neg (by simpa using hb 0 a (by omega) rfl)]
  exact badR_at (by simpa using h) (fun j x hj hx=>hb (j+1) x (by omega) (by simpa using hx)) hr
theorem badR_zero {n:Net}{s:Sched}{f:Flow}:∀{l:List (List Int)},(∀(j:Nat) (x:List Int),l[j]? = some x→(routeM n s f x).2.2.2=0)→badR n s f l=0
 | [],_=>rfl
 | a :: l,hb=>by
  rw[badR,if_neg (by simpa using hb 0 a rfl)]
  exact badR_zero fun j x hx=>hb (j+1) x (by simpa using hx)
theorem fzs_bools:∀n:Nat,fzs (List.replicate n (.bool true))=some (List.replicate n (.bool true))
 | 0=>rfl
 | n+1=>by simp[List.replicate_succ,fzs,fz,fzs_bools n]
theorem c_need1 (L:World→Prop)(C:List Cell)(c:Cell):PCall Tryz.prog L 57 [c.av,.cptr (.agg [.cmp (some 5) (keysOf C) (List.replicate (keysOf C).length (.bool true))]) 0] (.bool (!decide (c∈C))):=by
 refine PCall.intro mixed [] (nt:=8) Tryz.func57 rfl rfl (by simp) ?_
 refine Wk ?_
 rw[show assoc (keysOf C) (List.replicate (keysOf C).length (.bool true)) [c.slot,c.off,c.src,c.dst,c.flow] = _ from keysOf_assoc C c]
 by_cases h:c∈C
 ·rw[if_pos h]
  refine Wk ?_
  exact resP.mk rfl (Sees.bool (by simp[h]))
 ·rw[if_neg h]
  refine Wk ?_
  exact resP.mk rfl (Sees.bool (by simp[h]))
def nSl (w:Way)(l:List (List Int))(rel:Int)(k:Nat):List (Nat×AV):=[(3,encRows l),(4,.cptr w.n.av 0),(5,.cptr w.s.av 0),(6,.cptr w.f.av 0),(10,.ptr 4 0),(17,.ptr 5 0),(18,.int .i64 rel),(24,encRows l),(25,.int .i64 l.length),(26,.int .i64 k),(60,.fn 108 [.cptr (.agg [.int .i64 rel]) 0,.cptr w.av 0])]
def nSl2 (w:Way)(rel:Int)(x y:Nat):List (Nat×AV):=[(1,.cptr (.agg [.int .i64 rel]) 0),(2,.cptr w.av 0),(3,.ptr 7 0),(4,.ptr x 0),(5,.ptr y 0),(19,.fn 164 [.cptr w.av 0])]
def nBx (w:Way)(rel:Int)(C:List Cell)(L1:LoopA)(a:Int):List Ob:=[.dead,.dead,.dead,mapO C,.cells [.mp 3] 103,.cells w.cs 107,.loop L1,.cells [.yld 6] 156,.cells [.int .i64 a] 3,.cells [.int .i64 (rel+w.f.period)] 3]
def nBx' (w:Way)(rel:Int)(C:List Cell)(L1:LoopA)(a:Int):List Ob:=[.dead,.dead,.dead,mapO C,.cells [.mp 3] 103,.cells w.cs 107,.loop L1,.cells [.yld 6] 156,.cells [.int .i64 (rel+w.f.period)] 3,.cells [.int .i64 a] 3]
def needHalf (n:Net)(s:Sched)(f:Flow)(l:List (List Int))(hn:n.small)(hc:s.cells.length≤281474976710656)(hr:∀r∈l,r.length≤281474976710656)(hl:l.length≤281474976710656) :
  {p:Prop×Prop // (Unit→p.1)→(Unit→p.2)→PCall Tryz.prog LW 23 [n.av,s.av,f.av,encRows l] (.tup [encCells (needM n s f l).1,.int .i64 (needM n s f l).2])}:=by
 refine⟨(?p,?q),fun H1 H2=>?main⟩
 case main=>
  refine PCall.intro mixed [1] (nt:=71) Tryz.func23 rfl rfl (by simp) ?_
  refine Wk ?_
  refine SeqK.sem mixed [] ?_
  refine Wk ?_
  refine SemK.freezeB 0 rfl rfl ?_
  refine SemK.freezeB 1 rfl rfl ?_
  refine SemK.freezeB 2 rfl rfl ?_
  refine twC_sound (ct:=[18]) mixed _ _ _ _ ?_
  refine Wk ?_
  refine BrK.mk (fun h0=>?_) (fun h0=>?_)<;>(try rw[h0])
  ·have h0':l.length=0:=by simpa using h0
   refine Wk ?_
   exact resP.mk rfl (Sees.of_eq (by rw[needM,if_pos h0'];rfl))
  have h0':¬l.length=0:=by simpa using h0
  refine Wk ?_
  refine SeqK.sem mixed [] ?_
  refine Wk ?_
  refine LoopK.run mixed [] (fun k:Nat=>k≤l.length∧∀j x,j < k→l[j]? = some x→(routeM n s f x).2.2.2=0) (fun k=>[(3,encRows l),(4,.cptr n.av 0),(5,.cptr s.av 0),(6,.cptr f.av 0),(10,.ptr 4 0),(24,encRows l),(25,.int .i64 l.length),(26,.int .i64 k)]) (fun k=>⟨[.dead,.dead,.dead,mapO (cUp n s f l k),.cells [.mp 3] 103],[],0,0,fun _=>0⟩) (fun k=>l.length-k) 0 ⟨by simp,by simp⟩ ?_ ?_
  ·refine fN ?_<;>repeat' (first|exact fQ|refine And.intro ?_ ?_|exact okk_mapO _ _ _|exact SeesL.rfl' _|exact SeesO.rfl' _|exact Sees.int (by simp))
  rintro k ⟨hk,hinv⟩
  refine Wk ?_
  refine BrK.mk (fun h1=>?_) (fun h1=>?_)<;>(try rw[h1])
  ·have hlt:k < l.length:=by simpa using h1
   obtain⟨r,hgr⟩:=getLt hlt
   have hmr:=getMap (f:=encIs) hgr
   have hrm:=hr r (List.mem_of_getElem? hgr)
   repeat((conv=>whnf);first|refine sJ ?_|refine aI (by first|exact inbMap hlt|kernel_rfl) ?_|rw[hmr])
   try(conv=>whnf)
   refine cD (c_BRoute n s f r hn hc hrm) ?_
   refine Wk ?_
   refine BrK.mk (fun h2=>?_) (fun h2=>?_)<;>(try rw[h2])
   ·have hw:(routeM n s f r).2.2.2≠0:=by simpa using h2
    have hfw:=badR_at hgr hinv hw
    refine Wk ?_
    exact resP.mk rfl (Sees.of_eq (by rw[needM,if_neg h0',if_pos (by rw[hfw];exact hw),hfw];rfl))
   ·have hw:(routeM n s f r).2.2.2=0:=by simpa using h2
    obtain⟨hw0,x,hb,hR⟩:=routeM_ok hw
    have hok:=wayE_ok hw0
    have hnet:=wayE_net hw0
    have hlen:=hok.len
    have hfl:=hok.flow
    obtain⟨hsz,hcl,hfm⟩:=form_all hok.form
    have hsb:=sized_bd hsz
    clear hR
    refine Wk ?_
    refine LoopK.run mixed [] (fun j:Nat=>j≤relsN s f) (fun j=>[(3,encRows l),(4,.cptr n.av 0),(5,.cptr s.av 0),(6,.cptr f.av 0),(10,.ptr 4 0),(17,.ptr 5 0),(18,.int .i64 (f.phase+j*f.period)),(24,encRows l),(25,.int .i64 l.length),(26,.int .i64 k)]) (fun j=>⟨[.dead,.dead,.dead,mapO (cUp n s f l k++relsC n s f r j),.cells [.mp 3] 103,.cells (Way.cs ⟨n,s,f,r,0⟩) 107],[],0,0,fun _=>0⟩) (fun j=>relsN s f-j) 0 (by omega) ?_ ?_
    ·refine fN ?_<;>repeat' (first|exact fQ|refine And.intro ?_ ?_|exact okk_mapO _ _ _|(rw[show relsC n s f r 0=[] from rfl,List.append_nil])|exact SeesL.of_eq (by rw[show relsC n s f r 0=[] from rfl,List.append_nil])|exact SeesL.rfl' _|exact SeesO.rfl' _|exact Sees.int (by simp))
    rintro j hj
    refine Wk ?_
    refine BrK.mk (fun h3=>?_) (fun h3=>?_)<;>(try rw[h3])
    ·have hjl:j < relsN s f:=(relsN_lt (by omega)).2 (by simpa using h3)
     have hrb:f.phase+j*f.period < s.len:=(relsN_lt (by omega)).1 hjl
     have hmul:0≤(j:Int)*f.period:=Int.mul_nonneg (by omega) (by omega)
     have hsome:=relsC_at hb hjl
     obtain⟨rel,hrel⟩:∃rel,rel=f.phase+(j:Int)*f.period:=⟨_,rfl⟩
     obtain⟨C,hC⟩:∃C,C=cUp n s f l k++relsC n s f r j:=⟨_,rfl⟩
     have hwp:IntKind.i64.wrap (rel+f.period)=rel+f.period:=w64 (by omega) (by omega)
     rw[←hrel]at hsome hrb ⊢
     rw[←hC]
     refine Wk ?_
     refine cD (c_wcounts ⟨n,s,f,r,0⟩ rel) ?_
     refine Wk ?_
     refine RangeK.weak (l:=nSl ⟨n,s,f,r,0⟩ l rel k) (S1:=⟨[.dead,.dead,.dead,mapO C,.cells [.mp 3] 103,.cells (Way.cs ⟨n,s,f,r,0⟩) 107],[],0,0,fun _=>0⟩) ?_ ?_
     ·refine fN ?_<;>repeat' (first|exact fQ|refine And.intro ?_ ?_|exact okk_mapO _ _ _|exact SeesL.rfl' _|exact SeesO.rfl' _)
     refine RangeK.named rfl rfl fun L1 hL1=>?_
     have hok1:∀k' m,6≤k'→Ob.okk k' m (.loop L1):=fun k' m hk'=>loop_okk (l:=nSl ⟨n,s,f,r,0⟩ l rel k) (by rw[hL1]) ⟨trivial,trivial,trivial,trivial,(show 4 < k' by omega),(show 5 < k' by omega),trivial,trivial,trivial,trivial,⟨trivial,trivial,trivial⟩,trivial⟩
     refine ICall.intro mixed [2] (nt:=63) Tryz.func108 rfl rfl (by simp) ?_
     refine Wk ?_
     refine SeqK.cutE mixed [] (fun b:Bool=>[(1,.cptr (.agg [.int .i64 rel]) 0),(2,.cptr (Way.av ⟨n,s,f,r,0⟩) 0),(3,.ptr 7 0),(4,.ptr (bif b then 8 else 9) 0),(5,.ptr (bif b then 9 else 8) 0)]) (fun b=>⟨bif b then nBx ⟨n,s,f,r,0⟩ rel C L1 rel else nBx' ⟨n,s,f,r,0⟩ rel C L1 rel,[],7,0,fun _=>0⟩) (SemK.regionStil mixed [0,1,2,3,4,5] 4 rfl rfl (by decide) rfl ?_) ?_
     ·iterate 6
       conv=>whnf
       apply exV
       ·intro S K' hh
        refine Wk ?_
        exact hh
      repeat' ((conv=>whnf);first|exact trivial|refine sI ?_|refine And.intro ?_ ?_ )
      all_goals(conv=>whnf)
      ·refine⟨true,?_⟩
       refine fN ?_<;>repeat' (first|exact fQ|refine And.intro ?_ ?_|exact hok1 _ _ (le_b rfl)|exact okk_mapO _ _ _|exact SeesL.rfl' _|exact SeesO.rfl' _|exact Sees.int hwp)
      ·refine⟨false,?_⟩
       refine fN ?_<;>repeat' (first|exact fQ|refine And.intro ?_ ?_|exact hok1 _ _ (le_b rfl)|exact okk_mapO _ _ _|exact SeesL.rfl' _|exact SeesO.rfl' _|exact Sees.int hwp)
     clear hok1 hwp hmul hsb hfm hcl hsz hfl hlen hmr h3 h2 h1 h0 hw hinv
     rintro (_|_)
     ·revert k r j rel C L1 x
      exact H1 ()
     ·revert k r j rel C L1 x
      exact H2 ()
    ·have hjl:j=relsN s f:=by
      have:¬j < relsN s f:=fun hh=>by
       have:=(relsN_lt (by omega)).1 hh
       simp at h3;omega
      omega
     subst hjl
     rw[←cUp_step hgr]
     refine Wk ?_
     refine⟨k+1,⟨by omega,fun i y hi hy=>?_⟩,by omega,?_⟩
     ·rcases Nat.lt_succ_iff_lt_or_eq.1 hi with hi|rfl
      ·exact hinv i y hi hy
      ·rw[hgr]at hy;injection hy with hy;subst hy;exact hw
     ·refine fN ?_<;>repeat' (first|exact fQ|refine And.intro ?_ ?_|exact okk_mapO _ _ _|exact SeesL.rfl' _|exact SeesO.rfl' _|exact Sees.int (succI hlt (by omega)))
  ·have hkl:k=l.length:=by simp at h1;omega
   subst hkl
   have hz:badR n s f l=0:=badR_zero fun j x hx=>hinv j x (List.getElem?_eq_some_iff.1 hx).1 hx
   have hM:needM n s f l=(needL n s f l,0):=by rw[needM,if_neg h0',if_neg (by simp[hz])]
   have hne:s.cells≠[]:=fun hh=>by
    have:=(needs_law hM).2.1
    apply this
    unfold needL
    rw[hh];rfl
   have hcl:s.cells.length≤512:=by
    obtain⟨r,hr0⟩:=getLt (l:=l) (k:=0) (by omega)
    have:=routeM_ok (hinv 0 r (by omega) hr0)
    exact(form_all (wayE_ok this.1).form).2.1
   rw[hM]
   refine Wk ?_
   refine SemK.freezeM 3 rfl (fzs_bools _) ?_
   refine SemK.freezeB 4 rfl rfl ?_
   refine SemK.weak (l:=[(5,.cptr s.av 0),(10,.cptr (.agg [.cmp (some 5) (keysOf (cUp n s f l l.length)) (List.replicate (keysOf (cUp n s f l l.length)).length (.bool true))]) 0)]) (S1:=⟨[.dead,.dead],[],0,0,fun _=>0⟩) ?_ ?_
   ·refine fN ?_<;>repeat' (first|exact fQ|refine And.intro ?_ ?_ )
   refine twC_sound (ct:=[]) mixed _ _ _ _ ?_
   refine Wk ?_
   refine CallK.fresh rfl (c_CloneCell LW s.cells hne (by omega)) (by rfl) (cellOk.els _) (cellOk.scal (fun _=>rfl) _) (fun h=>absurd (by simpa using h) hne) (fun d=>?_)
   refine Wk ?_
   rw[List.length_map]
   refine CallK.inl rfl (i_DeleteCell LW .dead .dead 0 0 _ s.cells (fun c=>!decide (c∈cUp n s f l l.length)) _ [.cptr (.agg [.cmp (some 5) (keysOf (cUp n s f l l.length)) (List.replicate (keysOf (cUp n s f l l.length)).length (.bool true))]) 0] [.cptr (.agg [.cmp (some 5) (keysOf (cUp n s f l l.length)) (List.replicate (keysOf (cUp n s f l l.length)).length (.bool true))]) 0] d (by omega) rfl rfl ⟨trivial,trivial,trivial,trivial⟩ (fun _ _ _ _=>rfl) (fun c _=>c_need1 LW _ c) fun ex=>?_)
   refine Wk ?_
   exact resP.mk (fzN (cellOk.fzb rfl rfl)) (Sees.of_eq (needL_eq n s f l))
theorem needFirst (n:Net)(s:Sched)(f:Flow)(l:List (List Int))(hn:n.small)(hc:s.cells.length≤281474976710656)(hr:∀r∈l,r.length≤281474976710656)(hl:l.length≤281474976710656):(needHalf n s f l hn hc hr hl).1.1:=by
 conv=>whnf
 intro kk hkk hkl r hgr hrm hw0 x hb h jj hjj hjl rel hrb hsome hrel C hC L1 hL1
 obtain⟨w,rfl,rfl,rfl,rfl,hmz⟩:∃w:Way,n=w.n∧s=w.s∧f=w.f∧r=w.r∧w.more=0:=⟨⟨n,s,f,r,0⟩,rfl,rfl,rfl,rfl,rfl⟩
 have hW:(⟨w.n,w.s,w.f,w.r,0⟩:Way)=w:=by cases w;simp at hmz;subst hmz;rfl
 rw[hW]at hL1 ⊢
 have h0:=wayE_net hw0
 have hlen:=h.len
 have hfl:=h.flow
 obtain⟨hsz,hcl,hfm⟩:=form_all h.form
 have hsb:=sized_bd hsz
 have hmul:0≤(jj:Int)*w.f.period:=Int.mul_nonneg (by omega) (by omega)
 have hr0:0≤rel:=by omega
 have hr1:rel≤1048576:=by omega
 have hm0:0≤w.more:=by omega
 have hm1:w.more≤8:=by omega
 have hwp:IntKind.i64.wrap (rel+w.f.period)=rel+w.f.period:=w64 (by omega) (by omega)
 have hw2:IntKind.i64.wrap (rel+w.f.period)=w.f.phase+((jj+1:Nat):Int)*w.f.period:=by rw[hwp,hrel,Int.natCast_add,Int.add_mul];omega
 have hok1:∀k m,6≤k→Ob.okk k m (.loop L1):=fun k m hk=>loop_okk (l:=nSl w l rel kk) (by rw[hL1]) ⟨trivial,trivial,trivial,trivial,(show 4 < k by omega),(show 5 < k by omega),trivial,trivial,trivial,trivial,⟨trivial,trivial,trivial⟩,trivial⟩
 refine Wk ?_
 refine cD (c_wlinks w) ?_
 refine Wk ?_
 refine RangeK.weak (l:=nSl2 w rel 9 8) (S1:=⟨nBx' w rel C L1 rel,[],7,0,fun _=>0⟩) ?_ ?_
 ·refine fN ?_<;>repeat' (first|exact fQ|refine And.intro ?_ ?_|exact hok1 _ _ (le_b rfl)|exact okk_mapO _ _ _|exact SeesL.rfl' _|exact SeesO.rfl' _)
 refine RangeK.named rfl rfl fun L2 hL2=>?_
 have hok2:∀k m,10≤k→Ob.okk k m (.loop L2):=fun k m hk=>loop_okk (l:=nSl2 w rel 9 8) (by rw[hL2]) ⟨trivial,trivial,(show 7 < k by omega),(show 9 < k by omega),(show 8 < k by omega),⟨trivial,trivial⟩,trivial⟩
 refine ICall.intro mixed [] (nt:=41) Tryz.func164 rfl rfl (by simp) ?_
 refine Wk ?_
 refine LoopK.run mixed [] (fun q:Nat×List Int×Int=>q.1+1≤w.r.length∧slotsUp w.n w.s w.f w.r rel w.more q.1=some (q.2.1,q.2.2)) (fun q=>[(0,.yld 10),(1,.cptr w.av 0),(3,.int .i64 (q.1+1:Nat))]) (fun q=>⟨nBx' w rel (C++cellsUp w.n w.s w.f w.r rel q.1) L1 q.2.2++[.loop L2],[],11,0,fun _=>0⟩) (fun q=>w.r.length-q.1) (0,[],rel) ⟨by simp;omega,rfl⟩ ?_ ?_
 ·refine fN ?_<;>repeat' (first|exact fQ|refine And.intro ?_ ?_|exact hok1 _ _ (le_b rfl)|exact hok2 _ _ (le_b rfl)|exact okk_mapO _ _ _|exact SeesL.rfl' _|exact SeesO.rfl' _|(rw[show cellsUp w.n w.s w.f w.r rel 0=[] from rfl,List.append_nil])|exact SeesL.of_eq (by rw[show cellsUp w.n w.s w.f w.r rel 0=[] from rfl,List.append_nil]))
 rintro⟨k,o,a⟩ ⟨hk,hup⟩
 simp only at hk hup
 obtain⟨u1,u2,u3,u4⟩:=slotsUp_ok (by omega) hup
 refine Wk ?_
 refine BrK.mk (fun hb=>?_) (fun hb=>?_)<;>try rw[hb]
 ·have hlt:k+1 < w.r.length:=lenLt hb
  obtain⟨y,hgy⟩:=getLt hlt
  have hmy:=getMap (f:=encI) hgy
  obtain⟨x,hgx⟩:=getLt (l:=w.r) (k:=k) (by omega)
  have hmx:=getMap (f:=encI) hgx
  have hxd:w.r.getD k 0=x:=by rw[List.getD_eq_getElem?_getD,hgx];rfl
  have hyd:w.r.getD (k+1) 0=y:=by rw[List.getD_eq_getElem?_getD,hgy];rfl
  have hw:IntKind.i64.wrap (((k+1:Nat):Int)-1)=(k:Int):=by rw[w64]<;>omega
  obtain⟨i,l,e1,e2,e3,e4,e5,e6,e7⟩:=h.at hlt
  rw[hxd,hyd]at e1
  have hidx:indexN w.n x y=(i:Int):=by rw[indexN,if_pos h0,e1]
  have hml:=getMap (f:=Link.av) e2
  have hil:=(List.getElem?_eq_some_iff.1 e2).1
  have hnu:=h.need hm0 hm1 (k:=k) (by omega)
  have hloss:IntKind.i64.wrap (l.loss+w.more)=l.loss+w.more:=w64 (by omega) (by omega)
  have hneed:IntKind.i64.wrap (l.loss+w.more+1)=(needAt w.n w.r w.more k:Int):=by rw[w64 (by omega) (by omega),needAt,e7];omega
  have hnle:needAt w.n w.r w.more k≤16:=by unfold needAt;rw[e7];omega
  repeat((conv=>whnf);first|refine sJ ?_|refine aI (by first|exact inbMap hlt|(rw[hw];exact inbMap (by omega))|kernel_rfl) ?_|rw[hw]|rw[hmx]|rw[hmy])
  try(conv=>whnf)
  refine cD (c_index LW w.n hn x y) ?_
  rw[hidx]
  repeat((conv=>whnf);first|refine sJ ?_|refine aI (by first|exact inbMap hil|kernel_rfl) ?_|rw[hml])
  try(conv=>whnf)
  rw[hloss]
  refine CallK.round mixed [] hL2 rfl rfl rfl ?_
  clear hL2
  refine Wk ?_
  rw[hneed]
  refine cD (c_wcells LW w ⟨l.src,l.dst,l.loss+w.more⟩ (by omega)) ?_
  obtain⟨cs,hcs⟩:∃cs,cs=cellsL w.s w.f l.src l.dst:=⟨_,rfl⟩
  obtain⟨need,hnd⟩:∃need,need=needAt w.n w.r w.more k:=⟨_,rfl⟩
  have hcsl:cs.length≤512:=by rw[hcs];exact Nat.le_trans (List.length_filter_le _ _) hcl
  have hon:∀t,(allS cs w.s.len a (rel+w.f.period-a).toNat).take need=t→slotsOn w.s w.f (w.r.getD k 0) (w.r.getD (k+1) 0) (needAt w.n w.r w.more k) a (rel+w.f.period)=t:=fun t ht=>by rw[slotsOn,←e3,←e4,←ht,hcs,hnd]
  rw[show cellsL w.s w.f (Link.mk l.src l.dst (l.loss+w.more)).src (Link.mk l.src l.dst (l.loss+w.more)).dst=cs from hcs.symm,←hnd]
  rw[←hnd]at hnle
  refine Wk ?_
  have ht0:tS cs w.s.len a need 0 0=[]:=by rw[tS,partS_zero];simp[allS]
  have htc0:tC cs w.s.len a need 0 0=[]:=by simp[tC,tE,evC]
  refine LoopK.run mixed [] (fun d:Nat=>a+d≤rel+w.f.period) (fun d=>[(1,.cptr (.agg [.int .i64 rel]) 0),(2,.cptr w.av 0),(3,.ptr 7 0),(4,.ptr 9 0),(5,.ptr 8 0),(7,.int .i64 (need-(tS cs w.s.len a need d 0).length:Nat)),(8,encCells cs),(9,.int .i64 (a+d))]) (fun d=>⟨nBx' w rel (C++cellsUp w.n w.s w.f w.r rel k++tC cs w.s.len a need d 0) L1 (nextA a (tS cs w.s.len a need d 0))++[.loop {L2 with st:=.busy},.cells [.int .i64 l.src,.int .i64 l.dst,.int .i64 (l.loss+w.more)] 53],[],12,0,fun _=>0⟩) (fun d=>(rel+w.f.period-a).toNat-d) 0 (by omega) ?_ ?_
  ·refine fN ?_<;>repeat' (first|exact fQ|refine And.intro ?_ ?_|exact hok1 _ _ (le_b rfl)|exact hok2 _ _ (le_b rfl)|exact okk_mapO _ _ _|exact SeesL.rfl' _|exact SeesO.rfl' _|(rw[htc0,List.append_nil])|exact SeesL.of_eq (by rw[htc0,List.append_nil])|exact Sees.int (by first|(rw[ht0];rfl)|(rw[ht0];simp;done)|(simp;done)))
  rintro d hd
  have htl:=tS_le cs w.s.len a need d 0
  refine Wk ?_
  refine BrK.mk (fun f1=>?_) (fun f1=>?_)<;>(try rw[f1])
  ·have hlt1:(tS cs w.s.len a need d 0).length < need:=by simp at f1;omega
   refine Wk ?_
   refine BrK.mk (fun f2=>?_) (fun f2=>?_)<;>(try rw[f2])
   ·have hd2:d=(rel+w.f.period-a).toNat:=by simp at f2;omega
    have hstop:=slotsUp_stop hup (hon (tS cs w.s.len a need d 0) (by rw[tS,partS_zero,hd2])) (by rw[←hnd];exact hlt1)
    exact absurd (slotsUp_none (by rw[←hmz];exact hstop) (by omega:k+1≤w.r.length-1)) hsome
   ·have hd2:a+d < rel+w.f.period:=by simp at f2;omega
    refine Wk ?_
    refine LoopK.run mixed [] (fun j:Nat=>j≤cs.length) (fun j=>[(1,.cptr (.agg [.int .i64 rel]) 0),(2,.cptr w.av 0),(3,.ptr 7 0),(4,.ptr 9 0),(5,.ptr 8 0),(7,.int .i64 (need-(tS cs w.s.len a need d j).length:Nat)),(8,encCells cs),(9,.int .i64 (a+d)),(35,encCells cs),(36,.int .i64 cs.length),(37,.int .i64 j)]) (fun j=>⟨nBx' w rel (C++cellsUp w.n w.s w.f w.r rel k++tC cs w.s.len a need d j) L1 (nextA a (tS cs w.s.len a need d j))++[.loop {L2 with st:=.busy},.cells [.int .i64 l.src,.int .i64 l.dst,.int .i64 (l.loss+w.more)] 53],[],12,0,fun _=>0⟩) (fun j=>cs.length-j) 0 (by omega) ?_ ?_
    ·refine fN ?_<;>repeat' (first|exact fQ|refine And.intro ?_ ?_|exact hok1 _ _ (le_b rfl)|exact hok2 _ _ (le_b rfl)|exact okk_mapO _ _ _|exact SeesL.rfl' _|exact SeesO.rfl' _|exact Sees.int (by simp))
    rintro j hj
    have htl:=tS_le cs w.s.len a need d j
    refine Wk ?_
    refine BrK.mk (fun g1=>?_) (fun g1=>?_)<;>(try rw[g1])
    ·have hjt:j < cs.length:=by simpa using g1
     obtain⟨c,hgc⟩:=getLt hjt
     have hmc:=getMap (f:=Cell.av) hgc
     repeat((conv=>whnf);first|refine sJ ?_|refine aI (by first|exact inbMap hjt|exact(show w.s.len≠0 by omega)|kernel_rfl) ?_|rw[hmc])
     try(conv=>whnf)
     rw[tmod_eq (by omega)]
     refine BrK.mk (fun g2=>?_) (fun g2=>?_)<;>(try rw[g2])
     ·have hT:=tS_miss (need:=need) hgc (by simpa using g2:c.slot≠(a+d) % w.s.len)
      have hTC:=tC_miss (need:=need) hgc (by simpa using g2:c.slot≠(a+d) % w.s.len)
      refine Wk ?_
      refine⟨j+1,by omega,by omega,?_⟩
      rw[hT,hTC]
      refine fN ?_<;>repeat' (first|exact fQ|refine And.intro ?_ ?_|exact hok1 _ _ (le_b rfl)|exact hok2 _ _ (le_b rfl)|exact okk_mapO _ _ _|exact SeesL.rfl' _|exact SeesO.rfl' _|exact Sees.int (succI hjt (by omega)))
     ·have hsl:c.slot=(a+d) % w.s.len:=by simpa using g2
      refine Wk ?_
      refine BrK.mk (fun g3=>?_) (fun g3=>?_)<;>(try rw[g3])
      ·have g3':((need-(tS cs w.s.len a need d j).length:Nat):Int)=0:=by simpa only[beq_iff_eq] using g3
       have hT:=tS_full (len:=w.s.len) (a:=a) (d:=d) (need:=need) hgc (by omega)
       have hTC:=tC_full (len:=w.s.len) (a:=a) (d:=d) (need:=need) hgc (by rw[tC_len];omega)
       refine Wk ?_
       refine⟨j+1,by omega,by omega,?_⟩
       rw[hT,hTC]
       refine fN ?_<;>repeat' (first|exact fQ|refine And.intro ?_ ?_|exact hok1 _ _ (le_b rfl)|exact hok2 _ _ (le_b rfl)|exact okk_mapO _ _ _|exact SeesL.rfl' _|exact SeesO.rfl' _|exact Sees.int (succI hjt (by omega)))
      ·have g3':((need-(tS cs w.s.len a need d j).length:Nat):Int)≠0:=by simpa only[beq_eq_false_iff_ne] using g3
       have hlt2:(tS cs w.s.len a need d j).length < need:=by omega
       have hT:=tS_hit (need:=need) hgc hsl hlt2
       have hTC:=tC_hit (need:=need) hgc hsl (by rw[tC_len];exact hlt2)
       have hnx:=nextA_snoc a (a+d) (tS cs w.s.len a need d j)
       refine Wk ?_
       refine CallK.round mixed [] hL1 rfl rfl rfl ?_
       clear hL1
       repeat((conv=>whnf);first|refine sT ?_ )
       try(conv=>whnf)
       refine⟨j+1,by omega,by omega,?_⟩
       rw[hT,hTC]
       refine fN ?_<;>repeat' (first|exact fQ|refine And.intro ?_ ?_|exact hok1 _ _ (le_b rfl)|exact hok2 _ _ (le_b rfl)|exact okk_mapO _ _ _|exact SeesL.rfl' _|exact SeesO.rfl' _|exact Sees.int (succI hjt (by omega))|exact keysOf_add _ _ _|exact SeesL.of_eq (vals_add _ _ _)|exact Sees.int (by rw[hnx,w64]<;>omega)|exact Sees.int (by rw[w64 (by omega) (by omega),List.length_append,List.length_singleton];omega))
    ·have hjn:j=cs.length:=by simp at g1;omega
     subst hjn
     refine Wk ?_
     refine⟨d+1,by omega,by omega,?_⟩
     rw[←tS_next,←tC_next]
     refine fN ?_<;>repeat' (first|exact fQ|refine And.intro ?_ ?_|exact hok1 _ _ (le_b rfl)|exact hok2 _ _ (le_b rfl)|exact okk_mapO _ _ _|exact SeesL.rfl' _|exact SeesO.rfl' _|exact Sees.int (by rw[w64]<;>omega))
  ·have hful:(tS cs w.s.len a need d 0).length=need:=by simp at f1;omega
   have hstep:=slotsUp_step hup (hon _ (tS_done (e:=(rel+w.f.period-a).toNat) (by omega) hful)) (by rw[hful,hnd])
   have hcell:=cellsUp_step hup hmz (tC_done (d:=d) (stop:=rel+w.f.period) hcs hnd (by omega) (by rw[tC_len];exact hful) e3 e4)
   refine Wk ?_
   refine⟨(k+1,o++tS cs w.s.len a need d 0,nextA a (tS cs w.s.len a need d 0)),⟨by simp only;omega,hstep⟩,by simp only;omega,?_⟩
   refine fN ?_<;>repeat' (first|exact fQ|refine And.intro ?_ ?_|exact hok1 _ _ (le_b rfl)|exact hok2 _ _ (le_b rfl)|exact okk_mapO _ _ _|exact SeesL.rfl' _|exact SeesO.rfl' _|(rw[hcell,List.append_assoc])|exact SeesL.of_eq (by rw[hcell,List.append_assoc])|exact Sees.int (succI hlt (by omega)))
 ·have hk':k=w.r.length-1:=by have:=lenGe hb;omega
  subst hk'
  refine Wk ?_
  rw[show L2.st=.ready from by rw[hL2],show L2.pend=none from by rw[hL2]]
  clear hL2
  refine Wk ?_
  rw[show L1.st=.ready from by rw[hL1],show L1.pend=none from by rw[hL1]]
  clear hL1
  refine Wk ?_
  refine⟨jj+1,by omega,by omega,?_⟩
  refine fN ?_<;>repeat' (first|exact fQ|refine And.intro ?_ ?_|exact okk_mapO _ _ _|(rw[hC,hrel,List.append_assoc];rfl)|exact SeesL.of_eq (by rw[hC,hrel,List.append_assoc];rfl)|exact SeesL.rfl' _|exact SeesO.rfl' _|exact Sees.int hw2)
end HM
