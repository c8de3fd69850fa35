/- Which slots count: the program. -/
import Derived.Test.YtggiajmlnieidaaGreatDoorS33
import Derived.Test.YtggiajmlnieidaaGreatDoorFh
set_option maxRecDepth 100000
namespace HM
open Go Go.RowKit Go.Proofs
theorem XM (w:JU)(hn:w.n.small)(h:xS w.n w.s w.f w.r)(h0:yS w.n=0)(hm0:0≤w.more)(hm1:w.more≤8):zb Tryz.prog LW 269 [w.av] (.int .i64 (yA w.n w.r w.more (w.r.length-1))):=by
 have hlen:=h.len
 refine zb.intro mixed [] (nt:=14) Tryz.func269 rfl rfl (by simp) ?_
 refine Wk ?_
 refine cD (Q3 w) ?_
 refine Wk ?_
 refine yW.weak (l:=[(1,.ptr 0 0),(3,.ptr 1 0),(6,.fn 295 [.cptr w.av 0])]) (S1:=⟨[.cells w.cs 210,.cells [.int .i64 0] 3],[],0,0,fun _=>0⟩) ?_ ?_
 ·refine fN ?_<;>repeat' (first|exact fQ|refine And.intro ?_ ?_ )
 refine yW.Jx rfl rfl fun Lp hLp=>?_
 have hok:∀k m,2≤k→Ob.okk k m (.loop Lp):=fun k m hk=>vp (l:=[(1,.ptr 0 0),(3,.ptr 1 0),(6,.fn 295 [.cptr w.av 0])]) (by rw[hLp]) (by simp[okL,AV.okk,wr];omega)
 refine zQ.intro mixed [] (nt:=41) Tryz.func295 rfl rfl (by simp) ?_
 refine Wk ?_
 refine zt.run mixed [] (fun (k:Nat)=>k+1≤w.r.length) (fun k=>[(0,.yld 2),(1,.cptr w.av 0),(3,.int .i64 (k+1:Nat))]) (fun k=>⟨[.cells w.cs 210,.cells [.int .i64 (yA w.n w.r w.more k)] 3,.loop Lp],[],3,0,fun _=>0⟩) (fun k=>w.r.length-k) 0 (by omega) ?_ ?_
 ·refine fN ?_<;>repeat' (first|exact fQ|refine And.intro ?_ ?_|exact hok _ _ (y6 rfl))
 rintro k hk
 refine Wk ?_
 refine zx.mk (fun hb=>?_) (fun hb=>?_)<;>try rw[hb]
 ·have hlt:k+1 < w.r.length:=zgN hb
  obtain⟨y,hgy⟩:=zr hlt
  have hmy:=zk (f:=zM) hgy
  obtain⟨x,hgx⟩:=zr (l:=w.r) (k:=k) (by omega)
  have hmx:=zk (f:=zM) hgx
  have hxd:w.r.getD k 0=x:=by rw[List.getD_eq_getElem?_getD,hgx];rfl
  have hyd:w.r.getD (k+1) 0=y:=by rw[List.getD_eq_getElem?_getD,hgy];rfl
  have hw:IntKind.i64.wrap (((k+1:Nat):Int)-1)=(k:Int):=by rw[xw]<;>omega
  obtain⟨i,l,e1,e2,e3,e4,e5,e6,e7⟩:=h.at hlt
  rw[hxd,hyd]at e1
  have hidx:wb w.n x y=(i:Int):=by rw[wb,if_pos h0,e1]
  have hml:=zk (f:=yX.av) e2
  have hil:=(List.getElem?_eq_some_iff.1 e2).1
  have hnu:=h.need hm0 hm1 (k:=k) (by omega)
  repeat((conv=>whnf);first|refine sJ ?_|refine aI (by first|exact zh hlt|(rw[hw];exact zh (by omega))|kernel_rfl) ?_|rw[hw]|rw[hmx]|rw[hmy])
  try(conv=>whnf)
  refine cD (jn LW w.n hn x y) ?_
  rw[hidx]
  repeat((conv=>whnf);first|refine sJ ?_|refine aI (by first|exact zh hil|kernel_rfl) ?_|rw[hml])
  try(conv=>whnf)
  refine zo.round mixed [] hLp rfl rfl rfl ?_
  clear hLp
  refine Wk ?_
  refine⟨k+1,by omega,by omega,?_⟩
  have hv:IntKind.i64.wrap ((yA w.n w.r w.more k:Int)+IntKind.i64.wrap (IntKind.i64.wrap (l.loss+w.more)+1))=(yA w.n w.r w.more (k+1):Nat):=by
   rw[xw (x:=l.loss+w.more) (by omega) (by omega),xw (x:=l.loss+w.more+1) (by omega) (by omega),xw (by omega) (by omega),yA,yk,e7];omega
  refine fN ?_<;>repeat' (first|exact fQ|refine And.intro ?_ ?_|exact hok _ _ (y6 rfl)|exact za.int (zu hlt (by omega))|exact za.int hv)
 ·have hk':k=w.r.length-1:=by have:=zgP hb;omega
  subst hk'
  refine Wk ?_
  rw[show Lp.st=.ready from by rw[hLp],show Lp.pend=none from by rw[hLp]]
  refine Wk ?_
  exact ze.mk rfl (za.int rfl)
theorem exI {α:Type}{A B:α→Prop}{v:α}(h1:A v)(h2:B v):∃v,A v∧B v:=⟨v,h1,h2⟩
def zjs:Option (Int×List Int)→AV
 | none=>.tup [.int .i64 0,.sl false [],.bool false]
 | some (b,l)=>.tup [.int .i64 b,zp l,.bool true]
def rSl (w:JU)(rel:Int):List (Nat×AV):=[(2,.ptr 0 0),(3,.ptr 1 0),(7,.ptr 2 0),(12,.fn 287 [.cptr (.agg [.int .i64 rel]) 0,.cptr w.av 0])]
def ze9 (w:JU)(rel:Int)(x y:Nat):List (Nat×AV):=[(1,.cptr (.agg [.int .i64 rel]) 0),(2,.cptr w.av 0),(3,.ptr 4 0),(4,.ptr x 0),(5,.ptr y 0),(19,.fn 295 [.cptr w.av 0])]
def rBx (w:JU)(rel:Int)(o:List Int)(L1:j4)(a:Int):List Ob:=[.cells w.cs 210,.cells [.int .i64 rel] 3,.cells [.own (o.map zM) 0] 24,.loop L1,.cells [.yld 3] 320,.cells [.int .i64 a] 3,.cells [.int .i64 (rel+w.f.period)] 3]
def zgD (w:JU)(rel:Int)(o:List Int)(L1:j4)(a:Int):List Ob:=[.cells w.cs 210,.cells [.int .i64 rel] 3,.cells [.own (o.map zM) 0] 24,.loop L1,.cells [.yld 3] 320,.cells [.int .i64 (rel+w.f.period)] 3,.cells [.int .i64 a] 3]
def tS (cs:List zg)(len a:Int)(need d j:Nat):List Int:=(Zl cs len a d j).take need
theorem zdX (cs:List zg)(len a:Int)(need d:Nat):tS cs len a need d cs.length=tS cs len a need (d+1) 0:=by rw[tS,tS,zfc,vF]
theorem zdY (cs:List zg)(len a:Int)(need d j:Nat):(tS cs len a need d j).length≤need:=by unfold tS;rw[List.length_take];omega
theorem K0 {cs:List zg}{len a:Int}{need d j:Nat}{c:zg}(h:cs[j]? = some c)(hm:c.slot≠(a+d) % len):tS cs len a need d (j+1)=tS cs len a need d j:=by rw[tS,tS,zde h hm]
theorem zdZ {cs:List zg}{len a:Int}{need d j:Nat}{c:zg}(h:cs[j]? = some c)(hf:(tS cs len a need d j).length=need):tS cs len a need d (j+1)=tS cs len a need d j:=by
 by_cases hm:c.slot=(a+d) % len
 ·unfold tS at hf ⊢
  rw[List.length_take]at hf
  rw[Kd h hm,WR (by omega)]
 ·exact K0 h hm
theorem zgn {cs:List zg}{len a:Int}{need d j:Nat}{c:zg}(h:cs[j]? = some c)(hm:c.slot=(a+d) % len)(hf:(tS cs len a need d j).length < need):tS cs len a need d (j+1)=tS cs len a need d j++[a+(d:Int)]:=by
 unfold tS at hf ⊢
 rw[List.length_take]at hf
 rw[Kd h hm,List.take_of_length_le (by simp;omega),List.take_of_length_le (by omega)]
theorem zd0 {cs:List zg}{len a:Int}{need d e:Nat}(h:d≤e)(hf:(tS cs len a need d 0).length=need):(xV cs len a e).take need=tS cs len a need d 0:=by
 obtain⟨t,ht⟩:=zcQ cs len a h
 unfold tS at hf ⊢
 rw[vF]at hf ⊢
 rw[List.length_take]at hf
 rw[ht,WR (by omega)]
theorem Qa (a x:Int)(l:List Int):vn a (l++[x])=x+1:=by simp[vn]
theorem Xc {n:zF}{s:zc}{f:zf}{r:List Int}{rel more:Int}{k:Nat}{o:List Int}{a:Int}(h:yb n s f r rel more k=some (o,a)){t:List Int}(ht:yZ s f (r.getD k 0) (r.getD (k+1) 0) (yk n r more k) a (rel+f.period)=t)(hl:t.length=yk n r more k):yb n s f r rel more (k+1)=some (o++t,vn a t):=by
 simp only[yb,h,ht,hl,Nat.lt_irrefl,if_false]
theorem Xb {n:zF}{s:zc}{f:zf}{r:List Int}{rel more:Int}{k:Nat}{o:List Int}{a:Int}(h:yb n s f r rel more k=some (o,a)){t:List Int}(ht:yZ s f (r.getD k 0) (r.getD (k+1) 0) (yk n r more k) a (rel+f.period)=t)(hl:t.length < yk n r more k):yb n s f r rel more (k+1)=none:=by
 simp only[yb,h,ht,hl,if_true]
theorem Qb {w:JU}(h:xS w.n w.s w.f w.r)(h0:0≤w.more):0 < yA w.n w.r w.more (w.r.length-1):=by
 have hl:=h.len
 obtain⟨_,l,_,_,_,_,g1,g2,g3⟩:=h.at (i:=0) (by omega)
 have h1:yA w.n w.r w.more 1≤yA w.n w.r w.more (w.r.length-1):=jk (by omega)
 have h2:0 < yk w.n w.r w.more 0:=by unfold yk;rw[g3];omega
 have h3:yA w.n w.r w.more 1=yk w.n w.r w.more 0:=by simp[yA]
 omega
def zaa (w:JU)(rel:Int)(h:xS w.n w.s w.f w.r)(hr0:0≤rel)(hr1:rel≤1048576) :
  {p:Prop×Prop // (Unit→p.1)→(Unit→p.2)→zb Tryz.prog LW 227 [w.av,.int .i64 rel] (zjs (vD w.n w.s w.f w.r w.more rel))}:=by
 refine⟨(?p,?q),fun H1 H2=>?main⟩
 case main=>
  have hlen:=h.len
  have hfl:=h.flow
  have hwp:IntKind.i64.wrap (rel+w.f.period)=rel+w.f.period:=xw (by omega) (by omega)
  obtain⟨hsz,hcl,hfm⟩:=xC h.form
  have hsb:=vj hsz
  refine zb.intro mixed [] (nt:=34) Tryz.func227 rfl rfl (by simp) ?_
  refine Wk ?_
  refine cD (zfL w rel) ?_
  refine Wk ?_
  refine yW.zc0 2 1 3 _ rfl ?_
  refine yW.weak (l:=rSl w rel) (S1:=⟨[.cells w.cs 210,.cells [.int .i64 rel] 3,.cells [.own [] 0] 24],[(0,1)],0,0,fun _=>3⟩) ?_ ?_
  ·refine fN ?_<;>repeat' (first|exact fQ|refine And.intro ?_ ?_ )
  refine yW.Jx rfl rfl fun L1 hL1=>?_
  have hok1:∀k m,3≤k→Ob.okk k m (.loop L1):=fun k m hk=>vp (l:=rSl w rel) (by rw[hL1]) (by simp[rSl,okL,AV.okk,wr];omega)
  refine zQ.intro mixed [2] (nt:=63) Tryz.func287 rfl rfl (by simp) ?_
  refine Wk ?_
  refine yF.cutE mixed [] (fun b:Bool=>[(1,.cptr (.agg [.int .i64 rel]) 0),(2,.cptr w.av 0),(3,.ptr 4 0),(4,.ptr (bif b then 5 else 6) 0),(5,.ptr (bif b then 6 else 5) 0)]) (fun b=>⟨bif b then rBx w rel [] L1 rel else zgD w rel [] L1 rel,[(0,1)],4,1,fun _=>3⟩) (zW.YZ mixed [0,1,2,3,4,5] 4 rfl rfl (by decide) rfl ?_) ?_
  ·iterate 6
    conv=>whnf
    apply exI
    ·intro S K' hh
     refine Wk ?_
     exact hh
   repeat' ((conv=>whnf);first|exact trivial|refine sI ?_|refine And.intro ?_ ?_ )
   all_goals(conv=>whnf)
   ·refine⟨true,?_⟩
    refine fN ?_<;>repeat' (first|exact fQ|refine And.intro ?_ ?_|exact hok1 _ _ (y6 rfl)|exact yh.zj _|exact za.int hwp)
   ·refine⟨false,?_⟩
    refine fN ?_<;>repeat' (first|exact fQ|refine And.intro ?_ ?_|exact hok1 _ _ (y6 rfl)|exact yh.zj _|exact za.int hwp)
  rintro (_|_)
  ·clear hok1
   revert hL1
   revert L1
   exact H1 ()
  ·clear hok1
   revert hL1
   revert L1
   exact H2 ()
end HM
