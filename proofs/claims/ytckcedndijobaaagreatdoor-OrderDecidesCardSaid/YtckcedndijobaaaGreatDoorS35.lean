/- Which slots count: the program. -/
import Derived.Test.YtckcedndijobaaaGreatDoorS34
import Derived.Test.YtckcedndijobaaaGreatDoorFh
set_option maxRecDepth 100000
namespace HM
open Go Go.RowKit Go.Proofs
theorem c_needed (w:Way)(hn:w.n.small)(h:WayOk w.n w.s w.f w.r)(h0:netE w.n=0)(hm0:0≤w.more)(hm1:w.more≤8):PCall Tryz.prog LW 256 [w.av] (.int .i64 (needUp w.n w.r w.more (w.r.length-1))):=by
 have hlen:=h.len
 refine PCall.intro mixed [] (nt:=14) Tryz.func256 rfl rfl (by simp) ?_
 refine Wk ?_
 refine cD (c_wlinks w) ?_
 refine Wk ?_
 refine RangeK.weak (l:=[(1,.ptr 0 0),(3,.ptr 1 0),(6,.fn 298 [.cptr w.av 0])]) (S1:=⟨[.cells w.cs 191,.cells [.int .i64 0] 3],[],0,0,fun _=>0⟩) ?_ ?_
 ·refine fN ?_<;>repeat' (first|exact fQ|refine And.intro ?_ ?_ )
 refine RangeK.named rfl rfl fun Lp hLp=>?_
 have hok:∀k m,2≤k→Ob.okk k m (.loop Lp):=fun k m hk=>loop_okk (l:=[(1,.ptr 0 0),(3,.ptr 1 0),(6,.fn 298 [.cptr w.av 0])]) (by rw[hLp]) (by simp[okL,AV.okk,okks];omega)
 refine ICall.intro mixed [] (nt:=41) Tryz.func298 rfl rfl (by simp) ?_
 refine Wk ?_
 refine LoopK.run mixed [] (fun (k:Nat)=>k+1≤w.r.length) (fun k=>[(0,.yld 2),(1,.cptr w.av 0),(3,.int .i64 (k+1:Nat))]) (fun k=>⟨[.cells w.cs 191,.cells [.int .i64 (needUp w.n w.r w.more k)] 3,.loop Lp],[],3,0,fun _=>0⟩) (fun k=>w.r.length-k) 0 (by omega) ?_ ?_
 ·refine fN ?_<;>repeat' (first|exact fQ|refine And.intro ?_ ?_|exact hok _ _ (le_b rfl))
 rintro k hk
 refine Wk ?_
 refine BrK.mk (fun hb=>?_) (fun hb=>?_)<;>try rw[hb]
 ·have hlt:k+1 < w.r.length:=lenLt hb
  obtain⟨y,hgy⟩:=getLt hlt
  have hmy:=getMap (f:=encI) hgy
  obtain⟨x,hgx⟩:=getLt (l:=w.r) (k:=k) (by omega)
  have hmx:=getMap (f:=encI) hgx
  have hxd:w.r.getD k 0=x:=by rw[List.getD_eq_getElem?_getD,hgx];rfl
  have hyd:w.r.getD (k+1) 0=y:=by rw[List.getD_eq_getElem?_getD,hgy];rfl
  have hw:IntKind.i64.wrap (((k+1:Nat):Int)-1)=(k:Int):=by rw[w64]<;>omega
  obtain⟨i,l,e1,e2,e3,e4,e5,e6,e7⟩:=h.at hlt
  rw[hxd,hyd]at e1
  have hidx:indexN w.n x y=(i:Int):=by rw[indexN,if_pos h0,e1]
  have hml:=getMap (f:=Link.av) e2
  have hil:=(List.getElem?_eq_some_iff.1 e2).1
  have hnu:=h.need hm0 hm1 (k:=k) (by omega)
  repeat((conv=>whnf);first|refine sJ ?_|refine aI (by first|exact inbMap hlt|(rw[hw];exact inbMap (by omega))|kernel_rfl) ?_|rw[hw]|rw[hmx]|rw[hmy])
  try(conv=>whnf)
  refine cD (c_index LW w.n hn x y) ?_
  rw[hidx]
  repeat((conv=>whnf);first|refine sJ ?_|refine aI (by first|exact inbMap hil|kernel_rfl) ?_|rw[hml])
  try(conv=>whnf)
  refine CallK.round mixed [] hLp rfl rfl rfl ?_
  clear hLp
  refine Wk ?_
  refine⟨k+1,by omega,by omega,?_⟩
  have hv:IntKind.i64.wrap ((needUp w.n w.r w.more k:Int)+IntKind.i64.wrap (IntKind.i64.wrap (l.loss+w.more)+1))=(needUp w.n w.r w.more (k+1):Nat):=by
   rw[w64 (x:=l.loss+w.more) (by omega) (by omega),w64 (x:=l.loss+w.more+1) (by omega) (by omega),w64 (by omega) (by omega),needUp,needAt,e7];omega
  refine fN ?_<;>repeat' (first|exact fQ|refine And.intro ?_ ?_|exact hok _ _ (le_b rfl)|exact Sees.int (succI hlt (by omega))|exact Sees.int hv)
 ·have hk':k=w.r.length-1:=by have:=lenGe hb;omega
  subst hk'
  refine Wk ?_
  rw[show Lp.st=.ready from by rw[hLp],show Lp.pend=none from by rw[hLp]]
  refine Wk ?_
  exact resP.mk rfl (Sees.int rfl)
theorem exI {α:Type}{A B:α→Prop}{v:α}(h1:A v)(h2:B v):∃v,A v∧B v:=⟨v,h1,h2⟩
def relAV:Option (Int×List Int)→AV
 | none=>.tup [.int .i64 0,.sl false [],.bool false]
 | some (b,l)=>.tup [.int .i64 b,encIs l,.bool true]
def rSl (w:Way)(rel:Int):List (Nat×AV):=[(2,.ptr 0 0),(3,.ptr 1 0),(7,.ptr 2 0),(12,.fn 277 [.cptr (.agg [.int .i64 rel]) 0,.cptr w.av 0])]
def rSl2 (w:Way)(rel:Int)(x y:Nat):List (Nat×AV):=[(1,.cptr (.agg [.int .i64 rel]) 0),(2,.cptr w.av 0),(3,.ptr 4 0),(4,.ptr x 0),(5,.ptr y 0),(19,.fn 298 [.cptr w.av 0])]
def rBx (w:Way)(rel:Int)(o:List Int)(L1:LoopA)(a:Int):List Ob:=[.cells w.cs 191,.cells [.int .i64 rel] 3,.cells [.own (o.map encI) 0] 34,.loop L1,.cells [.yld 3] 308,.cells [.int .i64 a] 3,.cells [.int .i64 (rel+w.f.period)] 3]
def rBx' (w:Way)(rel:Int)(o:List Int)(L1:LoopA)(a:Int):List Ob:=[.cells w.cs 191,.cells [.int .i64 rel] 3,.cells [.own (o.map encI) 0] 34,.loop L1,.cells [.yld 3] 308,.cells [.int .i64 (rel+w.f.period)] 3,.cells [.int .i64 a] 3]
def tS (cs:List Cell)(len a:Int)(need d j:Nat):List Int:=(partS cs len a d j).take need
theorem tS_next (cs:List Cell)(len a:Int)(need d:Nat):tS cs len a need d cs.length=tS cs len a need (d+1) 0:=by rw[tS,tS,partS_all,partS_zero]
theorem tS_le (cs:List Cell)(len a:Int)(need d j:Nat):(tS cs len a need d j).length≤need:=by unfold tS;rw[List.length_take];omega
theorem tS_miss {cs:List Cell}{len a:Int}{need d j:Nat}{c:Cell}(h:cs[j]? = some c)(hm:c.slot≠(a+d) % len):tS cs len a need d (j+1)=tS cs len a need d j:=by rw[tS,tS,partS_miss h hm]
theorem tS_full {cs:List Cell}{len a:Int}{need d j:Nat}{c:Cell}(h:cs[j]? = some c)(hf:(tS cs len a need d j).length=need):tS cs len a need d (j+1)=tS cs len a need d j:=by
 by_cases hm:c.slot=(a+d) % len
 ·unfold tS at hf ⊢
  rw[List.length_take]at hf
  rw[partS_hit h hm,take_prefix (by omega)]
 ·exact tS_miss h hm
theorem tS_hit {cs:List Cell}{len a:Int}{need d j:Nat}{c:Cell}(h:cs[j]? = some c)(hm:c.slot=(a+d) % len)(hf:(tS cs len a need d j).length < need):tS cs len a need d (j+1)=tS cs len a need d j++[a+(d:Int)]:=by
 unfold tS at hf ⊢
 rw[List.length_take]at hf
 rw[partS_hit h hm,List.take_of_length_le (by simp;omega),List.take_of_length_le (by omega)]
theorem tS_done {cs:List Cell}{len a:Int}{need d e:Nat}(h:d≤e)(hf:(tS cs len a need d 0).length=need):(allS cs len a e).take need=tS cs len a need d 0:=by
 obtain⟨t,ht⟩:=allS_prefix cs len a h
 unfold tS at hf ⊢
 rw[partS_zero]at hf ⊢
 rw[List.length_take]at hf
 rw[ht,take_prefix (by omega)]
theorem nextA_snoc (a x:Int)(l:List Int):nextA a (l++[x])=x+1:=by simp[nextA]
theorem slotsUp_step {n:Net}{s:Sched}{f:Flow}{r:List Int}{rel more:Int}{k:Nat}{o:List Int}{a:Int}(h:slotsUp n s f r rel more k=some (o,a)){t:List Int}(ht:slotsOn s f (r.getD k 0) (r.getD (k+1) 0) (needAt n r more k) a (rel+f.period)=t)(hl:t.length=needAt n r more k):slotsUp n s f r rel more (k+1)=some (o++t,nextA a t):=by
 simp only[slotsUp,h,ht,hl,Nat.lt_irrefl,if_false]
theorem slotsUp_stop {n:Net}{s:Sched}{f:Flow}{r:List Int}{rel more:Int}{k:Nat}{o:List Int}{a:Int}(h:slotsUp n s f r rel more k=some (o,a)){t:List Int}(ht:slotsOn s f (r.getD k 0) (r.getD (k+1) 0) (needAt n r more k) a (rel+f.period)=t)(hl:t.length < needAt n r more k):slotsUp n s f r rel more (k+1)=none:=by
 simp only[slotsUp,h,ht,hl,if_true]
theorem needUp_pos {w:Way}(h:WayOk w.n w.s w.f w.r)(h0:0≤w.more):0 < needUp w.n w.r w.more (w.r.length-1):=by
 have hl:=h.len
 obtain⟨_,l,_,_,_,_,g1,g2,g3⟩:=h.at (i:=0) (by omega)
 have h1:needUp w.n w.r w.more 1≤needUp w.n w.r w.more (w.r.length-1):=needUp_mono (by omega)
 have h2:0 < needAt w.n w.r w.more 0:=by unfold needAt;rw[g3];omega
 have h3:needUp w.n w.r w.more 1=needAt w.n w.r w.more 0:=by simp[needUp]
 omega
def relHalf (w:Way)(rel:Int)(h:WayOk w.n w.s w.f w.r)(hr0:0≤rel)(hr1:rel≤1048576) :
  {p:Prop×Prop // (Unit→p.1)→(Unit→p.2)→PCall Tryz.prog LW 210 [w.av,.int .i64 rel] (relAV (relR w.n w.s w.f w.r w.more rel))}:=by
 refine⟨(?p,?q),fun H1 H2=>?main⟩
 case main=>
  have hlen:=h.len
  have hfl:=h.flow
  have hwp:IntKind.i64.wrap (rel+w.f.period)=rel+w.f.period:=w64 (by omega) (by omega)
  obtain⟨hsz,hcl,hfm⟩:=form_all h.form
  have hsb:=sized_bd hsz
  refine PCall.intro mixed [] (nt:=34) Tryz.func210 rfl rfl (by simp) ?_
  refine Wk ?_
  refine cD (c_wcounts w rel) ?_
  refine Wk ?_
  refine RangeK.bornB 2 1 3 _ rfl ?_
  refine RangeK.weak (l:=rSl w rel) (S1:=⟨[.cells w.cs 191,.cells [.int .i64 rel] 3,.cells [.own [] 0] 34],[(0,1)],0,0,fun _=>3⟩) ?_ ?_
  ·refine fN ?_<;>repeat' (first|exact fQ|refine And.intro ?_ ?_ )
  refine RangeK.named rfl rfl fun L1 hL1=>?_
  have hok1:∀k m,3≤k→Ob.okk k m (.loop L1):=fun k m hk=>loop_okk (l:=rSl w rel) (by rw[hL1]) (by simp[rSl,okL,AV.okk,okks];omega)
  refine ICall.intro mixed [2] (nt:=63) Tryz.func277 rfl rfl (by simp) ?_
  refine Wk ?_
  refine SeqK.cutE mixed [] (fun b:Bool=>[(1,.cptr (.agg [.int .i64 rel]) 0),(2,.cptr w.av 0),(3,.ptr 4 0),(4,.ptr (bif b then 5 else 6) 0),(5,.ptr (bif b then 6 else 5) 0)]) (fun b=>⟨bif b then rBx w rel [] L1 rel else rBx' w rel [] L1 rel,[(0,1)],4,1,fun _=>3⟩) (SemK.regionStil mixed [0,1,2,3,4,5] 4 rfl rfl (by decide) rfl ?_) ?_
  ·iterate 6
    conv=>whnf
    apply exI
    ·intro S K' hh
     refine Wk ?_
     exact hh
   repeat' ((conv=>whnf);first|exact trivial|refine sI ?_|refine And.intro ?_ ?_ )
   all_goals(conv=>whnf)
   ·refine⟨true,?_⟩
    refine fN ?_<;>repeat' (first|exact fQ|refine And.intro ?_ ?_|exact hok1 _ _ (le_b rfl)|exact SeesO.rfl' _|exact Sees.int hwp)
   ·refine⟨false,?_⟩
    refine fN ?_<;>repeat' (first|exact fQ|refine And.intro ?_ ?_|exact hok1 _ _ (le_b rfl)|exact SeesO.rfl' _|exact Sees.int hwp)
  rintro (_|_)
  ·clear hok1
   revert hL1
   revert L1
   exact H1 ()
  ·clear hok1
   revert hL1
   revert L1
   exact H2 ()
end HM
