/- Schedules: their forms. -/
import Derived.Test.YtggiajmlnieidaaGreatDoorProg
import Derived.Test.YtggiajmlnieidaaGreatDoorDa
import Derived.KernelRfl
import Derived.Test.YtggiajmlnieidaaGreatDoorSh
import Derived.Lib.ItoaLen
import Derived.Lib.AppendIntMem
import Derived.Test.YtggiajmlnieidaaGreatDoorRows
import Derived.Test.YtggiajmlnieidaaGreatDoorTie
import Derived.Test.YtggiajmlnieidaaGreatDoorCards
import Derived.ProofKit
import Derived.LaidMore
import Derived.OpenShut
import Derived.Stop.Joined
import Derived.SevenTiedAt
import Derived.Lib.LaidTab
import Derived.Test.YtggiajmlnieidaaGreatDoorDb
set_option maxRecDepth 100000
namespace HM
open Go Go.RowKit Go.Proofs
variable (L:World→Prop)
theorem mixed:Tryz.prog.follows .mixedOrders=true:=by kernel_rfl
theorem c_inside (x n:Int):zb Tryz.prog L 186 [.int .i64 x,.int .i64 n] (.bool (yE x n)):=by
 refine zb.intro mixed [] (nt:=12) Tryz.func186 rfl rfl (by simp) ?_
 repeat' ((conv=>whnf);first|refine sI ?_  | (refine zx.mk (fun hb=>?_) (fun hb=>?_)<;>try rw[hb]))
 all_goals try(conv=>whnf)
 all_goals exact ze.mk rfl (za.of_eq (by first|(simp_all[yE];done)|(simp_all[yE];omega)))
theorem c_sized (s:zc):zb Tryz.prog L 72 [s.av] (.bool (wA s)):=by
 refine zb.intro mixed [] (nt:=21) Tryz.func72 rfl rfl (by simp) ?_
 repeat' ((conv=>whnf);first|refine sI ?_  | (refine zx.mk (fun hb=>?_) (fun hb=>?_)<;>try rw[hb]))
 all_goals try(conv=>whnf)
 all_goals exact ze.mk rfl (za.of_eq (by first|(simp_all[wA];done)|(simp_all[wA];omega)))
theorem c_placed (s:zc)(c:zg):zb Tryz.prog L 137 [s.av,c.av] (.bool (wy s c)):=by
 refine zb.intro mixed [] (nt:=17) Tryz.func137 rfl rfl (by simp) ?_
 repeat' ((conv=>whnf);first|refine sI ?_  | (refine zx.mk (fun hb=>?_) (fun hb=>?_)<;>try rw[hb]))
 all_goals try(conv=>whnf)
 refine cD (c_inside L _ _) ?_
 repeat' ((conv=>whnf);first|refine sI ?_  | (refine zx.mk (fun hb=>?_) (fun hb=>?_)<;>try rw[hb]))
 all_goals try(conv=>whnf)
 ·refine cD (c_inside L _ _) ?_
  repeat' ((conv=>whnf);first|refine sI ?_  | (refine zx.mk (fun hb=>?_) (fun hb=>?_)<;>try rw[hb]))
  all_goals try(conv=>whnf)
  all_goals exact ze.mk rfl (za.of_eq (by first|(simp_all[wy];done)|(simp_all[wy];omega)))
 all_goals exact ze.mk rfl (za.of_eq (by first|(simp_all[wy];done)|(simp_all[wy];omega)))
theorem c_formed (s:zc)(c:zg):zb Tryz.prog L 142 [s.av,c.av] (.bool (yR s c)):=by
 refine zb.intro mixed [] (nt:=23) Tryz.func142 rfl rfl (by simp) ?_
 repeat' ((conv=>whnf);first|refine sI ?_  | (refine zx.mk (fun hb=>?_) (fun hb=>?_)<;>try rw[hb]))
 all_goals try(conv=>whnf)
 refine cD (c_placed L s c) ?_
 repeat' ((conv=>whnf);first|refine sI ?_  | (refine zx.mk (fun hb=>?_) (fun hb=>?_)<;>try rw[hb]))
 all_goals try(conv=>whnf)
 ·refine cD (c_inside L _ _) ?_
  repeat' ((conv=>whnf);first|refine sI ?_  | (refine zx.mk (fun hb=>?_) (fun hb=>?_)<;>try rw[hb]))
  all_goals try(conv=>whnf)
  ·refine cD (c_inside L _ _) ?_
   repeat' ((conv=>whnf);first|refine sI ?_  | (refine zx.mk (fun hb=>?_) (fun hb=>?_)<;>try rw[hb]))
   all_goals try(conv=>whnf)
   ·refine cD (c_inside L _ _) ?_
    repeat' ((conv=>whnf);first|refine sI ?_  | (refine zx.mk (fun hb=>?_) (fun hb=>?_)<;>try rw[hb]))
    all_goals try(conv=>whnf)
    all_goals exact ze.mk rfl (za.of_eq (by first|(simp_all[yR];done)|(simp_all[yR];omega)))
   all_goals exact ze.mk rfl (za.of_eq (by first|(simp_all[yR];done)|(simp_all[yR];omega)))
  all_goals exact ze.mk rfl (za.of_eq (by first|(simp_all[yR];done)|(simp_all[yR];omega)))
 all_goals exact ze.mk rfl (za.of_eq (by first|(simp_all[yR];done)|(simp_all[yR];omega)))
theorem c_numbers (c:zg):zb Tryz.prog L 189 [c.av] (.agg (c.nums.map zM)):=by
 refine zb.intro mixed [] (nt:=14) Tryz.func189 rfl rfl (by simp) ?_
 repeat' ((conv=>whnf);first|refine sI ?_  | (refine zx.mk (fun hb=>?_) (fun hb=>?_)<;>try rw[hb]))
 all_goals try(conv=>whnf)
 all_goals exact ze.mk rfl (za.of_eq rfl)
variable (L:World→Prop)
theorem c_isNaN (x:Int):zb Tryz.prog L 154 [.int .i64 x] (.bool false):=by
 refine zb.intro mixed [] (nt:=6) Tryz.func154 rfl rfl (by simp) ?_
 repeat' ((conv=>whnf);first|refine sI ?_  | (refine zx.mk (fun hb=>?_) (fun hb=>?_)<;>try rw[hb]))
 all_goals try(conv=>whnf)
 all_goals exact ze.mk rfl (za.of_eq (by first|(simp_all[];done)|(simp_all[];omega)))
theorem c_cmp (x y:Int):zb Tryz.prog L 92 [.int .i64 x,.int .i64 y] (.int .i64 (qy x y)):=by
 refine zb.intro mixed [] (nt:=20) Tryz.func92 rfl rfl (by simp) ?_
 repeat' ((conv=>whnf);first|refine sI ?_  | (refine zx.mk (fun hb=>?_) (fun hb=>?_)<;>try rw[hb]))
 all_goals try(conv=>whnf)
 refine cD (c_isNaN L _) ?_
 repeat' ((conv=>whnf);first|refine sI ?_  | (refine zx.mk (fun hb=>?_) (fun hb=>?_)<;>try rw[hb]))
 all_goals try(conv=>whnf)
 refine cD (c_isNaN L _) ?_
 repeat' ((conv=>whnf);first|refine sI ?_  | (refine zx.mk (fun hb=>?_) (fun hb=>?_)<;>try rw[hb]))
 all_goals try(conv=>whnf)
 all_goals exact ze.mk rfl (za.of_eq (by first|(simp_all[qy];done)|(simp_all[qy];omega)))
theorem c_Compare (xs ys:List Int)(hx:xs.length≤281474976710656)(_hy:ys.length≤281474976710656):zb Tryz.prog L 243 [zp xs,zp ys] (.int .i64 (xt xs ys)):=by
 refine zb.intro mixed [] (nt:=36) Tryz.func243 rfl rfl (by simp) ?_
 repeat' ((conv=>whnf);first|refine sI ?_  | (refine zx.mk (fun hb=>?_) (fun hb=>?_)<;>try rw[hb]))
 all_goals try(conv=>whnf)
 refine zt.run mixed [] (fun (k:Nat)=>k≤xs.length∧k≤ys.length∧xt (xs.drop k) (ys.drop k)=xt xs ys) (fun k=>[(0,zp xs),(1,zp ys),(9,zp xs),(10,.int .i64 xs.length),(11,.int .i64 k)]) (fun k=>St.none) (fun k=>xs.length-k) 0 ⟨by simp,by simp,by simp⟩ ?_ ?_
 ·refine fN ?_<;>repeat' (first|exact fQ|refine And.intro ?_ ?_|exact za.int (by simp))
 rintro k ⟨hk,hk2,hinv⟩
 refine Wk ?_
 refine zx.mk (fun hb=>?_) (fun hb=>?_)<;>try rw[hb]
 ·have hlt:k < xs.length:=by simpa using hb
  obtain⟨x,hgx⟩:=zr hlt
  have hmx:=zk (f:=zM) hgx
  have hdx:=qw hgx
  repeat((conv=>whnf);first|refine sJ ?_|refine aI (by first|exact zh hlt|kernel_rfl) ?_|rw[hmx])
  try(conv=>whnf)
  refine zx.mk (fun hb2=>?_) (fun hb2=>?_)<;>(try rw[hb2])
  ·refine Wk ?_
   have hle:ys.length≤k:=by simpa using hb2
   refine ze.mk rfl (za.int ?_)
   rw[←hinv,hdx,List.drop_of_length_le hle];rfl
  ·have hlt2:k < ys.length:=by simpa using hb2
   obtain⟨y,hgy⟩:=zr hlt2
   have hmy:=zk (f:=zM) hgy
   have hdy:=qw hgy
   repeat((conv=>whnf);first|refine sJ ?_|refine aI (by first|exact zh hlt2|kernel_rfl) ?_|rw[hmy])
   try(conv=>whnf)
   refine cD (c_cmp L _ _) ?_
   rw[hdx,hdy]at hinv
   simp only[xt]at hinv
   repeat' ((conv=>whnf);first|refine sI ?_  | (refine zx.mk (fun hb=>?_) (fun hb=>?_)<;>try rw[hb]))
   all_goals try(conv=>whnf)
   ·refine ze.mk rfl (za.int ?_)
    rw[←hinv,if_neg (by simpa using hb)]
   ·refine⟨k+1,⟨by omega,by omega,?_⟩,by omega,?_⟩
    ·rw[←hinv,if_pos (by simpa using hb)]
    ·refine fN ?_<;>repeat' (first|exact fQ|refine And.intro ?_ ?_|exact za.int (zu hlt hx))
 ·have hk':k=xs.length:=by simp at hb;omega
  subst hk'
  repeat' ((conv=>whnf);first|refine sI ?_  | (refine zx.mk (fun hb=>?_) (fun hb=>?_)<;>try rw[hb]))
  all_goals try(conv=>whnf)
  ·refine ze.mk rfl (za.int ?_)
   have hlt:xs.length < ys.length:=by simpa using hb
   obtain⟨y,hgy⟩:=zr hlt
   rw[←hinv,qw hgy,List.drop_length];rfl
  ·have hle:ys.length=xs.length:=by simp at hb;omega
   refine ze.mk rfl (za.int ?_)
   rw[←hinv,List.drop_length,List.drop_of_length_le (by omega)];rfl
theorem c_order (a b:zg):zb Tryz.prog L 188 [a.av,b.av,.fn 189 []] (.int .i64 (a.cmp b)):=by
 refine zb.intro mixed [] (nt:=18) Tryz.func188 rfl rfl (by simp) ?_
 refine Wk ?_
 refine cD (c_numbers L a) ?_
 refine Wk ?_
 refine cD (c_numbers L b) ?_
 refine Wk ?_
 refine xU.box rfl (c_Compare L a.nums b.nums (by simp[zg.nums]) (by simp[zg.nums])) rfl rfl ?_
 refine Wk ?_
 all_goals exact ze.mk rfl (za.of_eq (by first|(simp_all[zg.cmp];done)|(simp_all[zg.cmp];omega)))
theorem c_compare (a b:zg):zb Tryz.prog L 139 [a.av,b.av] (.int .i64 (a.cmp b)):=by
 refine zb.intro mixed [] (nt:=8) Tryz.func139 rfl rfl (by simp) ?_
 refine Wk ?_
 refine cD (c_order L a b) ?_
 refine Wk ?_
 all_goals exact ze.mk rfl (za.of_eq (by first|(simp_all[];done)|(simp_all[];omega)))
variable (L:World→Prop)
theorem c_form (s:zc):zb Tryz.prog L 78 [s.av] (.bool (yc s)):=by
 refine zb.intro mixed [] (nt:=42) Tryz.func78 rfl rfl (by simp) ?_
 refine Wk ?_
 refine cD (c_sized L s) ?_
 refine Wk ?_
 refine zx.mk (fun h1=>?_) (fun h1=>?_)<;>(try rw[h1])
 ·refine Wk ?_
  exact ze.mk rfl (za.bool (by simp at h1;simp[yc,h1]))
 ·simp at h1
  refine Wk ?_
  refine zx.mk (fun h2=>?_) (fun h2=>?_)<;>(try rw[h2])
  ·refine Wk ?_
   exact ze.mk rfl (za.bool (by
                    have:¬s.cells.length≤512:=by simp at h2;omega
                    simp[yc,h1,this]))
  ·have hl:s.cells.length≤512:=by simp at h2;omega
   refine Wk ?_
   refine zt.run mixed [] (fun (k:Nat)=>k≤s.cells.length∧∀j,j < k→Xr s j=true) (fun k=>[(1,.ptr 0 0),(15,zy s.cells),(16,.int .i64 s.cells.length),(17,.int .i64 k)]) (fun k=>⟨[.cells [.int .i64 s.len,.int .i64 s.offs,zy s.cells] 30],[],0,0,fun _=>0⟩) (fun k=>s.cells.length-k) 0 ⟨by simp,by simp⟩ ?_ ?_
   ·refine fN ?_<;>repeat' (first|exact fQ|refine And.intro ?_ ?_|exact za.int (by simp))
   rintro k ⟨hk,hinv⟩
   refine Wk ?_
   refine zx.mk (fun hb=>?_) (fun hb=>?_)<;>try rw[hb]
   ·have hlt:k < s.cells.length:=by simpa using hb
    obtain⟨c,hgc⟩:=zr hlt
    have hmc:=zk (f:=zg.av) hgc
    repeat((conv=>whnf);first|refine sJ ?_|refine aI (by first|exact zh hlt|kernel_rfl) ?_|rw[hmc])
    try(conv=>whnf)
    refine cD (c_formed L s c) ?_
    refine Wk ?_
    have next:Xr s k=true→∀j,j < k+1→Xr s j=true:=fun hk j hj=>by
     rcases Nat.lt_succ_iff_lt_or_eq.1 hj with h|rfl
     ·exact hinv j h
     ·exact hk
    refine zx.mk (fun h3=>?_) (fun h3=>?_)<;>(try rw[h3])
    ·refine Wk ?_
     exact ze.mk rfl (za.bool (by simp at h3;rw[yc,J7 hlt (by simp[Xr,hgc,h3])];simp))
    ·simp at h3
     refine Wk ?_
     refine zx.mk (fun h4=>?_) (fun h4=>?_)<;>(try rw[h4])
     ·have hpos:0 < k:=by simpa using h4
      obtain⟨j,rfl⟩:∃j,k=j+1:=⟨k-1,by omega⟩
      obtain⟨p,hgp⟩:=zr (l:=s.cells) (k:=j) (by omega)
      have hmp:=zk (f:=zg.av) hgp
      have hw:IntKind.i64.wrap (((j+1:Nat):Int)-1)=(j:Int):=by rw[xw]<;>omega
      repeat((conv=>whnf);first|refine sJ ?_|refine aI (by first|(rw[hw];exact zh (by omega))|kernel_rfl) ?_|rw[hw]|rw[hmp])
      try(conv=>whnf)
      refine cD (c_compare L p c) ?_
      refine Wk ?_
      refine zx.mk (fun h5=>?_) (fun h5=>?_)<;>(try rw[h5])
      ·refine Wk ?_
       exact ze.mk rfl (za.bool (by
        have:¬p.cmp c < 0:=by simpa using h5
        rw[yc,J7 hlt (by simp[Xr,hgc,hgp,this])];simp))
      ·have:p.cmp c < 0:=by simpa using h5
       refine Wk ?_
       refine⟨j+2,⟨by omega,next (by simp[Xr,hgc,hgp,this,h3])⟩,by omega,?_⟩
       refine fN ?_<;>repeat' (first|exact fQ|refine And.intro ?_ ?_|exact za.int (zu hlt (by omega)))
     ·have hz:k=0:=by simp at h4;omega
      subst hz
      refine Wk ?_
      refine⟨1,⟨by omega,next (by simp[Xr,hgc,h3])⟩,by omega,?_⟩
      refine fN ?_<;>repeat' (first|exact fQ|refine And.intro ?_ ?_|exact za.int (zu hlt (by omega)))
   ·have hk':k=s.cells.length:=by simp at hb;omega
    subst hk'
    refine Wk ?_
    exact ze.mk rfl (za.bool (by simp[yc,h1,hl,ZV hinv]))
variable (L:World→Prop)
def LW:World→Prop:=fun w=>Lib.TabIs Tryz.prog w "internal/strconv.uint64pow10" .u64 Lib.pow10Tab
def itoaB (n:Int):ByteArray:=⟨(Lib.itoa n).toArray⟩
theorem itoaB_size (n:Int)(h0:-9223372036854775808≤n)(h1:n≤9223372036854775807):(itoaB n).size≤21:=by
 have:=Lib.itoa_length_le n h0 h1
 simpa[itoaB,ByteArray.size] using this
def I64 (n:Int):Prop:=-9223372036854775808≤n∧n≤9223372036854775807
theorem c_Itoa (n:Int)(h:I64 n):zb Tryz.prog LW 246 [.int .i64 n] (.str (itoaB n)):=by
 refine zb.zhX fun w G vals hL hv=>?_
 obtain⟨v,vs,rfl,hv1,hvs⟩:=hv
 obtain rfl:v=_:=hv1
 obtain rfl:vs=_:=hvs
 exact(Tryz.strconv_Itoa n h.1 h.2 w hL).mono fun e w' ⟨he,k,os,hw⟩=>⟨_,he,by subst hw;exact Lib.below_grow _ w (Nat.le_refl _) k os,fun _ _=>rfl⟩
def lineB (word:ByteArray):List Int→ByteArray
 | []=>word
 | n :: l=>lineB (word++(⟨#[32]⟩++itoaB n)) l
theorem lineB_size:∀(l:List Int) (word:ByteArray),(∀n∈l,I64 n)→(lineB word l).size≤word.size+22*l.length∧word.size≤(lineB word l).size
 | [],_,_=>by simp[lineB]
 | n :: l,word,h=>by
  have h1:=lineB_size l (word++(⟨#[32]⟩++itoaB n)) (fun m hm=>h m (by simp[hm]))
  have h2:=itoaB_size n (h n (by simp)).1 (h n (by simp)).2
  have h3:(⟨#[32]⟩:ByteArray).size=1:=rfl
  simp only[ByteArray.size_append,h3,List.length_cons,lineB]at h1 ⊢
  omega
theorem c_line (word:ByteArray)(l:List Int)(hw:word.size≤1099511627776)(hl:l.length≤1099511627776)(h:∀n∈l,I64 n):zb Tryz.prog LW 197 [.str word,zp l] (.str (lineB word l++⟨#[10]⟩)):=by
 have h1:(⟨#[32]⟩:ByteArray).size=1:=rfl
 have h10:(⟨#[10]⟩:ByteArray).size=1:=rfl
 refine zb.intro mixed [] (nt:=21) Tryz.func197 rfl rfl (by simp) ?_
 refine Wk ?_
 refine zt.run mixed [] (fun s:Nat×ByteArray=>s.1≤l.length∧s.2.size≤word.size+22*s.1∧lineB s.2 (l.drop s.1)=lineB word l) (fun s=>[(0,.str s.2),(7,zp l),(8,.int .i64 l.length),(9,.int .i64 s.1)]) (fun _=>St.none) (fun s=>l.length-s.1) (0,word) ⟨by simp,by simp,by simp⟩ ?_ ?_
 ·refine fN ?_<;>repeat' (first|exact fQ|refine And.intro ?_ ?_|exact za.int (by simp))
 rintro⟨k,t⟩ ⟨hk,ht,hinv⟩
 simp only at hk ht hinv
 refine Wk ?_
 refine zx.mk (fun hb=>?_) (fun hb=>?_)<;>try rw[hb]
 ·have hlt:k < l.length:=by simpa using hb
  obtain⟨x,hgx⟩:=zr hlt
  have hmx:=zk (f:=zM) hgx
  have hx:=h x (List.mem_of_getElem? hgx)
  have hs:=itoaB_size x hx.1 hx.2
  rw[qw hgx]at hinv
  repeat((conv=>whnf);first|refine sJ ?_|refine aI (by first|exact zh hlt|kernel_rfl) ?_|rw[hmx])
  try(conv=>whnf)
  refine cD (c_Itoa x hx) ?_
  repeat((conv=>whnf);first|refine sJ ?_|refine aI (by first|(simp only[ByteArray.size_append,h1];omega)|kernel_rfl) ?_ )
  try(conv=>whnf)
  refine⟨(k+1,t++(⟨#[32]⟩++itoaB x)),⟨by simp;omega,?_,by simpa[lineB] using hinv⟩,by simp;omega,?_⟩
  ·simp only[ByteArray.size_append,h1];omega
  ·refine fN ?_<;>repeat' (first|exact fQ|refine And.intro ?_ ?_|exact za.int (zu hlt (by omega)))
 ·have hk':k=l.length:=by simp at hb;omega
  subst hk'
  have hfin:t=lineB word l:=by rw[←hinv,List.drop_length];rfl
  repeat((conv=>whnf);first|refine sJ ?_|refine aI (by first|(simp only[h10];omega)|kernel_rfl) ?_ )
  try(conv=>whnf)
  exact ze.mk rfl (za.of_eq (by rw[hfin]))
end HM
namespace Go.Proofs.YtggiajmlnieidaaGreatDoor
open Go Go.ChangeShapes Go.WideShapes Go.ChangeAt Go.RowKit HM
theorem own:ownKnob Tryz.prog.godebug=none:=by kernel_rfl
theorem laidOut:laidOutB Tryz.prog=true:=by kernel_rfl
def laid3:List (String×DataW Unit):=[("math/bits.deBruijn32tab",Rows.laid_math_bits_deBruijn32tab),("math/bits.deBruijn64tab",Rows.laid_math_bits_deBruijn64tab),("internal/strconv.uint64pow10",Rows.laid_internal_strconv_uint64pow10)]
theorem door_met (os:Os)(args:Array Value):laidMetH Tryz.prog laid3 ((World.doorLaid Tryz.prog 400 os).forCall (fun _ _=>0) ⟨#[],args,[]⟩).memory:=
 laidMetH_of_parts3 (fuel:=8) (laidMet_of_run' 8 (by kernel_rfl) (by kernel_rfl)) (by kernel_rfl) (by kernel_rfl)
theorem lw_of {W:World}(h:laidMetH Tryz.prog laid3 W):LW W:=by
 rw[MakeChecks.laidMetH_plain _ _ _ (by kernel_rfl)]at h
 obtain⟨ps,⟨g0,t0,cs0,f0,p0,q0,hg0,ht0,hv0,hd0,⟨g1,t1,cs1,f1,p1,q1,hg1,ht1,hv1,hd1,⟨g2,t2,cs2,f2,p2,q2,hg2,ht2,hv2,hd2,_,_⟩,_⟩,_⟩,_,_⟩:=h
 have e0:Tryz.prog.globalNamed "internal/strconv.uint64pow10" = some 0:=by kernel_rfl
 have e1:(Tryz.prog.globals[0]?).map (·.type)=some 335:=by kernel_rfl
 obtain rfl:=Option.some.inj (e0.symm.trans hg2)
 obtain rfl:=Option.some.inj (e1.symm.trans ht2)
 have hc:=Lib.cells_of_tab (zs:=Lib.pow10Tab) (k:=.u64) (t:=335) (e:=265) (n:=20) (by kernel_rfl) (by kernel_rfl) (by kernel_rfl) (by kernel_rfl) hd2
 unfold LW Lib.TabIs
 rw[hv2,←hc]
theorem lw_later {W:World}(h:LW W):∀w',Below W.heap.size W w'→LW w':=fun w' hb=>Lib.tabBelow_of_tabIs h w' hb
section
variable {H:Type} {enc:TypeId×Value→H} {P:Program}
theorem post_of_below {f:Func}{s:ChangeSpec}{apart fresh handsOn again:Bool}{W W':World}{args:Array Value}{v:Value}{ds gs:List (DataW H)}{before pa pv:List MemPlace}
  (hW:DataW.Whole enc P f.params.toList s.vars apart W args.toList ds gs before)
  (hres:∀(b:Nat) (sp:Nat→Bool) (hd:Bool),DataW.TrodAll enc P W' b sp hd f.resultTypes.toList (v.resultList f.resultTypes.size) (s.fn H (ds++gs)).results [])
  (hargs:∀sp:Nat→Bool,(∀p∈before,sp p.block=true)→DataW.TrodAll enc P W' 0 sp true f.params.toList args.toList (s.fn H (ds++gs)).args pa)
  (hvars:∀sp:Nat→Bool,(∀p∈before,sp p.block=true)→DataW.TrodVars enc P W' sp s.vars (s.fn H (ds++gs)).vars pv)
  (hps:before=pa++pv) (hb:Below W.heap.size W W')
  (hok:∀(j:Nat) (t:TypeId) (r:Value),f.resultTypes[j]? = some t→(v.resultList f.resultTypes.size)[j]? = some r→Value.okWide P W' .any 0 t r) :
  s.post enc P f apart fresh handsOn again W args v W':=by
 have hlt:∀p∈before,p.block < W.heap.size:=fun p hp=>hW.lt p hp
 have hold:∀p∈before,(fun b=>decide (b < W.heap.size)) p.block=true:=fun p hp=>by simpa using hlt p hp
 refine⟨ds,gs,before,[],pa,pv,hW,hres _ _ _,hargs _ hold,hvars _ hold,World.keptBut_mono (fun p hp=>⟨hp,?_⟩) (hb.frame (·∈before)),fun _=>?_⟩
 ·rw[hps,List.mem_append]at hp
  exact Or.inr hp
 ·obtain⟨_,_,_,_,_,hz,hn⟩:=hW
  refine⟨hok,_,_,([]++pa)++pv,⟨[]++pa,pv,trodAll_append (hargs _ (fun _ _=>rfl)) (hres _ _ _),hvars _ (fun _ _=>rfl),rfl,?_,?_⟩,?_⟩
  ·intro b off hp
   have hin:MemPlace.cell b off∈before:=by rw[hps];simpa using hp
   rw[hb.frozen (hlt _ hin)]
   exact hz b off hin
  ·intro ha
   have:=hn ha
   rw[hps]at this
   simpa using this
  ·intro p hp _
   rw[hps]
   simpa using hp
end
theorem bool_und:Tryz.prog.underlying 4=some .bool:=by kernel_rfl
theorem ok_int:tI.ok Tryz.prog 3:=(by kernel_rfl:Tryz.prog.underlying 3=some (.int .i64))
set_option maxRecDepth 100000 in
theorem ok_cell:JY.ok Tryz.prog 40:=⟨_,rfl,by kernel_rfl,rfl,by kernel_rfl,ok_int,rfl,by kernel_rfl,ok_int,rfl,by kernel_rfl,ok_int,rfl,by kernel_rfl,ok_int,rfl,by kernel_rfl,ok_int,trivial⟩
theorem ok_cells:(Ty.sl JY).ok Tryz.prog 28:=⟨40,by kernel_rfl,by kernel_rfl,by decide,Nat.le_of_ble_eq_true (by kernel_rfl),ok_cell⟩
set_option maxRecDepth 100000 in
theorem ok_sched:zc3.ok Tryz.prog 30:=⟨_,rfl,by kernel_rfl,rfl,by kernel_rfl,ok_int,rfl,by kernel_rfl,ok_int,rfl,by kernel_rfl,ok_cells,trivial⟩
theorem ok_ints:(Ty.sl tI).ok Tryz.prog 24:=⟨3,by kernel_rfl,by kernel_rfl,by decide,Nat.le_of_ble_eq_true (by kernel_rfl),ok_int⟩
theorem ok_rows:(Ty.sl (.sl tI)).ok Tryz.prog 22:=⟨24,by kernel_rfl,by kernel_rfl,by decide,Nat.le_of_ble_eq_true (by kernel_rfl),ok_ints⟩
theorem ok_route:(Ty.sl tI).ok Tryz.prog 88:=⟨3,by kernel_rfl,by kernel_rfl,by decide,Nat.le_of_ble_eq_true (by kernel_rfl),ok_int⟩
theorem ok_routes:(Ty.sl (.sl tI)).ok Tryz.prog 47:=⟨88,by kernel_rfl,by kernel_rfl,by decide,Nat.le_of_ble_eq_true (by kernel_rfl),ok_route⟩
set_option maxRecDepth 100000 in
theorem ok_link:zbf.ok Tryz.prog 146:=⟨_,rfl,by kernel_rfl,rfl,by kernel_rfl,ok_int,rfl,by kernel_rfl,ok_int,rfl,by kernel_rfl,ok_int,trivial⟩
theorem ok_links:(Ty.sl zbf).ok Tryz.prog 23:=⟨146,by kernel_rfl,by kernel_rfl,by decide,Nat.le_of_ble_eq_true (by kernel_rfl),ok_link⟩
set_option maxRecDepth 100000 in
theorem ok_flow:zgo.ok Tryz.prog 46:=⟨_,rfl,by kernel_rfl,rfl,by kernel_rfl,ok_int,rfl,by kernel_rfl,ok_int,rfl,by kernel_rfl,ok_int,rfl,by kernel_rfl,ok_int,rfl,by kernel_rfl,ok_int,rfl,by kernel_rfl,ok_int,trivial⟩
set_option maxRecDepth 100000 in
theorem ok_net:zjP.ok Tryz.prog 26:=⟨_,rfl,by kernel_rfl,rfl,by kernel_rfl,ok_int,rfl,by kernel_rfl,ok_rows,rfl,by kernel_rfl,ok_int,rfl,by kernel_rfl,ok_int,rfl,by kernel_rfl,ok_links,rfl,by kernel_rfl,ok_ints,trivial⟩
set_option maxRecDepth 100000 in
theorem ok_rule:zbe.ok Tryz.prog 245:=⟨_,rfl,by kernel_rfl,rfl,by kernel_rfl,ok_int,rfl,by kernel_rfl,ok_int,rfl,by kernel_rfl,ok_int,rfl,by kernel_rfl,ok_int,rfl,by kernel_rfl,ok_ints,trivial⟩
theorem ok_script:(Ty.sl zbe).ok Tryz.prog 70:=⟨245,by kernel_rfl,by kernel_rfl,by decide,Nat.le_of_ble_eq_true (by kernel_rfl),ok_rule⟩
set_option maxRecDepth 100000 in
theorem ok_chg:zgp.ok Tryz.prog 42:=⟨_,rfl,by kernel_rfl,rfl,by kernel_rfl,ok_int,rfl,by kernel_rfl,bool_und,rfl,by kernel_rfl,ok_cell,trivial⟩
theorem ok_chgs:(Ty.sl zgp).ok Tryz.prog 31:=⟨42,by kernel_rfl,by kernel_rfl,by decide,Nat.le_of_ble_eq_true (by kernel_rfl),ok_chg⟩
set_option maxRecDepth 100000 in
theorem ok_req:zeT.ok Tryz.prog 49:=⟨_,rfl,by kernel_rfl,rfl,by kernel_rfl,ok_flow,rfl,by kernel_rfl,ok_routes,trivial⟩
theorem ok_reqs:(Ty.sl zeT).ok Tryz.prog 27:=⟨49,by kernel_rfl,by kernel_rfl,by decide,Nat.le_of_ble_eq_true (by kernel_rfl),ok_req⟩
end Go.Proofs.YtggiajmlnieidaaGreatDoor
