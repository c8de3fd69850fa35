/- Schedules: their forms. -/
import Derived.Test.YtckcedndijobaaaGreatDoorProg
import Derived.Test.YtckcedndijobaaaGreatDoorDa
import Derived.KernelRfl
import Derived.Test.YtckcedndijobaaaGreatDoorSh
import Derived.Lib.ItoaLen
import Derived.Lib.AppendIntMem
set_option maxRecDepth 100000
namespace HM
open Go Go.RowKit Go.Proofs
variable (L:World→Prop)
theorem mixed:Tryz.prog.follows .mixedOrders=true:=by kernel_rfl
theorem c_inside (x n:Int):PCall Tryz.prog L 169 [.int .i64 x,.int .i64 n] (.bool (insB x n)):=by
 refine PCall.intro mixed [] (nt:=12) Tryz.func169 rfl rfl (by simp) ?_
 repeat' ((conv=>whnf);first|refine sI ?_  | (refine BrK.mk (fun hb=>?_) (fun hb=>?_)<;>try rw[hb]))
 all_goals try(conv=>whnf)
 all_goals exact resP.mk rfl (Sees.of_eq (by first|(simp_all[insB];done)|(simp_all[insB];omega)))
theorem c_sized (s:Sched):PCall Tryz.prog L 105 [s.av] (.bool (sizedB s)):=by
 refine PCall.intro mixed [] (nt:=21) Tryz.func105 rfl rfl (by simp) ?_
 repeat' ((conv=>whnf);first|refine sI ?_  | (refine BrK.mk (fun hb=>?_) (fun hb=>?_)<;>try rw[hb]))
 all_goals try(conv=>whnf)
 all_goals exact resP.mk rfl (Sees.of_eq (by first|(simp_all[sizedB];done)|(simp_all[sizedB];omega)))
theorem c_placed (s:Sched)(c:Cell):PCall Tryz.prog L 168 [s.av,c.av] (.bool (placedB s c)):=by
 refine PCall.intro mixed [] (nt:=17) Tryz.func168 rfl rfl (by simp) ?_
 repeat' ((conv=>whnf);first|refine sI ?_  | (refine BrK.mk (fun hb=>?_) (fun hb=>?_)<;>try rw[hb]))
 all_goals try(conv=>whnf)
 refine cD (c_inside L _ _) ?_
 repeat' ((conv=>whnf);first|refine sI ?_  | (refine BrK.mk (fun hb=>?_) (fun hb=>?_)<;>try rw[hb]))
 all_goals try(conv=>whnf)
 ·refine cD (c_inside L _ _) ?_
  repeat' ((conv=>whnf);first|refine sI ?_  | (refine BrK.mk (fun hb=>?_) (fun hb=>?_)<;>try rw[hb]))
  all_goals try(conv=>whnf)
  all_goals exact resP.mk rfl (Sees.of_eq (by first|(simp_all[placedB];done)|(simp_all[placedB];omega)))
 all_goals exact resP.mk rfl (Sees.of_eq (by first|(simp_all[placedB];done)|(simp_all[placedB];omega)))
theorem c_formed (s:Sched)(c:Cell):PCall Tryz.prog L 106 [s.av,c.av] (.bool (formedB s c)):=by
 refine PCall.intro mixed [] (nt:=23) Tryz.func106 rfl rfl (by simp) ?_
 repeat' ((conv=>whnf);first|refine sI ?_  | (refine BrK.mk (fun hb=>?_) (fun hb=>?_)<;>try rw[hb]))
 all_goals try(conv=>whnf)
 refine cD (c_placed L s c) ?_
 repeat' ((conv=>whnf);first|refine sI ?_  | (refine BrK.mk (fun hb=>?_) (fun hb=>?_)<;>try rw[hb]))
 all_goals try(conv=>whnf)
 ·refine cD (c_inside L _ _) ?_
  repeat' ((conv=>whnf);first|refine sI ?_  | (refine BrK.mk (fun hb=>?_) (fun hb=>?_)<;>try rw[hb]))
  all_goals try(conv=>whnf)
  ·refine cD (c_inside L _ _) ?_
   repeat' ((conv=>whnf);first|refine sI ?_  | (refine BrK.mk (fun hb=>?_) (fun hb=>?_)<;>try rw[hb]))
   all_goals try(conv=>whnf)
   ·refine cD (c_inside L _ _) ?_
    repeat' ((conv=>whnf);first|refine sI ?_  | (refine BrK.mk (fun hb=>?_) (fun hb=>?_)<;>try rw[hb]))
    all_goals try(conv=>whnf)
    all_goals exact resP.mk rfl (Sees.of_eq (by first|(simp_all[formedB];done)|(simp_all[formedB];omega)))
   all_goals exact resP.mk rfl (Sees.of_eq (by first|(simp_all[formedB];done)|(simp_all[formedB];omega)))
  all_goals exact resP.mk rfl (Sees.of_eq (by first|(simp_all[formedB];done)|(simp_all[formedB];omega)))
 all_goals exact resP.mk rfl (Sees.of_eq (by first|(simp_all[formedB];done)|(simp_all[formedB];omega)))
theorem c_in35 (n lo hi:Int):PCall Tryz.prog L 110 [.int .i64 n,.int .i64 lo,.int .i64 hi] (.bool (inB n lo hi)):=by
 refine PCall.intro mixed [] (nt:=15) Tryz.func110 rfl rfl (by simp) ?_
 repeat' ((conv=>whnf);first|refine sI ?_  | (refine BrK.mk (fun hb=>?_) (fun hb=>?_)<;>try rw[hb]))
 all_goals try(conv=>whnf)
 all_goals exact resP.mk rfl (Sees.of_eq (by first|(simp_all[inB];done)|(simp_all[inB];omega)))
theorem c_numbers (c:Cell):PCall Tryz.prog L 171 [c.av] (.agg (c.nums.map encI)):=by
 refine PCall.intro mixed [] (nt:=14) Tryz.func171 rfl rfl (by simp) ?_
 repeat' ((conv=>whnf);first|refine sI ?_  | (refine BrK.mk (fun hb=>?_) (fun hb=>?_)<;>try rw[hb]))
 all_goals try(conv=>whnf)
 all_goals exact resP.mk rfl (Sees.of_eq rfl)
theorem c_numbers35 (c:Cell):PCall Tryz.prog L 173 [c.av] (encIs c.nums):=by
 refine PCall.intro mixed [] (nt:=14) Tryz.func173 rfl rfl (by simp) ?_
 repeat' ((conv=>whnf);first|refine sI ?_  | (refine BrK.mk (fun hb=>?_) (fun hb=>?_)<;>try rw[hb]))
 all_goals try(conv=>whnf)
 all_goals exact resP.mk rfl (Sees.of_eq rfl)
variable (L:World→Prop)
theorem c_isNaN (x:Int):PCall Tryz.prog L 116 [.int .i64 x] (.bool false):=by
 refine PCall.intro mixed [] (nt:=6) Tryz.func116 rfl rfl (by simp) ?_
 repeat' ((conv=>whnf);first|refine sI ?_  | (refine BrK.mk (fun hb=>?_) (fun hb=>?_)<;>try rw[hb]))
 all_goals try(conv=>whnf)
 all_goals exact resP.mk rfl (Sees.of_eq (by first|(simp_all[];done)|(simp_all[];omega)))
theorem c_cmp (x y:Int):PCall Tryz.prog L 73 [.int .i64 x,.int .i64 y] (.int .i64 (cmpI x y)):=by
 refine PCall.intro mixed [] (nt:=20) Tryz.func73 rfl rfl (by simp) ?_
 repeat' ((conv=>whnf);first|refine sI ?_  | (refine BrK.mk (fun hb=>?_) (fun hb=>?_)<;>try rw[hb]))
 all_goals try(conv=>whnf)
 refine cD (c_isNaN L _) ?_
 repeat' ((conv=>whnf);first|refine sI ?_  | (refine BrK.mk (fun hb=>?_) (fun hb=>?_)<;>try rw[hb]))
 all_goals try(conv=>whnf)
 refine cD (c_isNaN L _) ?_
 repeat' ((conv=>whnf);first|refine sI ?_  | (refine BrK.mk (fun hb=>?_) (fun hb=>?_)<;>try rw[hb]))
 all_goals try(conv=>whnf)
 all_goals exact resP.mk rfl (Sees.of_eq (by first|(simp_all[cmpI];done)|(simp_all[cmpI];omega)))
theorem c_Compare (xs ys:List Int)(hx:xs.length≤281474976710656)(_hy:ys.length≤281474976710656):PCall Tryz.prog L 219 [encIs xs,encIs ys] (.int .i64 (cmpL xs ys)):=by
 refine PCall.intro mixed [] (nt:=36) Tryz.func219 rfl rfl (by simp) ?_
 repeat' ((conv=>whnf);first|refine sI ?_  | (refine BrK.mk (fun hb=>?_) (fun hb=>?_)<;>try rw[hb]))
 all_goals try(conv=>whnf)
 refine LoopK.run mixed [] (fun (k:Nat)=>k≤xs.length∧k≤ys.length∧cmpL (xs.drop k) (ys.drop k)=cmpL xs ys) (fun k=>[(0,encIs xs),(1,encIs ys),(9,encIs xs),(10,.int .i64 xs.length),(11,.int .i64 k)]) (fun k=>St.none) (fun k=>xs.length-k) 0 ⟨by simp,by simp,by simp⟩ ?_ ?_
 ·refine fN ?_<;>repeat' (first|exact fQ|refine And.intro ?_ ?_|exact Sees.int (by simp))
 rintro k ⟨hk,hk2,hinv⟩
 refine Wk ?_
 refine BrK.mk (fun hb=>?_) (fun hb=>?_)<;>try rw[hb]
 ·have hlt:k < xs.length:=by simpa using hb
  obtain⟨x,hgx⟩:=getLt hlt
  have hmx:=getMap (f:=encI) hgx
  have hdx:=dropGet hgx
  repeat((conv=>whnf);first|refine sJ ?_|refine aI (by first|exact inbMap hlt|kernel_rfl) ?_|rw[hmx])
  try(conv=>whnf)
  refine BrK.mk (fun hb2=>?_) (fun hb2=>?_)<;>(try rw[hb2])
  ·refine Wk ?_
   have hle:ys.length≤k:=by simpa using hb2
   refine resP.mk rfl (Sees.int ?_)
   rw[←hinv,hdx,List.drop_of_length_le hle];rfl
  ·have hlt2:k < ys.length:=by simpa using hb2
   obtain⟨y,hgy⟩:=getLt hlt2
   have hmy:=getMap (f:=encI) hgy
   have hdy:=dropGet hgy
   repeat((conv=>whnf);first|refine sJ ?_|refine aI (by first|exact inbMap hlt2|kernel_rfl) ?_|rw[hmy])
   try(conv=>whnf)
   refine cD (c_cmp L _ _) ?_
   rw[hdx,hdy]at hinv
   simp only[cmpL]at hinv
   repeat' ((conv=>whnf);first|refine sI ?_  | (refine BrK.mk (fun hb=>?_) (fun hb=>?_)<;>try rw[hb]))
   all_goals try(conv=>whnf)
   ·refine resP.mk rfl (Sees.int ?_)
    rw[←hinv,if_neg (by simpa using hb)]
   ·refine⟨k+1,⟨by omega,by omega,?_⟩,by omega,?_⟩
    ·rw[←hinv,if_pos (by simpa using hb)]
    ·refine fN ?_<;>repeat' (first|exact fQ|refine And.intro ?_ ?_|exact Sees.int (succI hlt hx))
 ·have hk':k=xs.length:=by simp at hb;omega
  subst hk'
  repeat' ((conv=>whnf);first|refine sI ?_  | (refine BrK.mk (fun hb=>?_) (fun hb=>?_)<;>try rw[hb]))
  all_goals try(conv=>whnf)
  ·refine resP.mk rfl (Sees.int ?_)
   have hlt:xs.length < ys.length:=by simpa using hb
   obtain⟨y,hgy⟩:=getLt hlt
   rw[←hinv,dropGet hgy,List.drop_length];rfl
  ·have hle:ys.length=xs.length:=by simp at hb;omega
   refine resP.mk rfl (Sees.int ?_)
   rw[←hinv,List.drop_length,List.drop_of_length_le (by omega)];rfl
theorem c_order (a b:Cell):PCall Tryz.prog L 170 [a.av,b.av,.fn 171 []] (.int .i64 (a.cmp b)):=by
 refine PCall.intro mixed [] (nt:=18) Tryz.func170 rfl rfl (by simp) ?_
 refine Wk ?_
 refine cD (c_numbers L a) ?_
 refine Wk ?_
 refine cD (c_numbers L b) ?_
 refine Wk ?_
 refine CallP.box rfl (c_Compare L a.nums b.nums (by simp[Cell.nums]) (by simp[Cell.nums])) rfl rfl ?_
 refine Wk ?_
 all_goals exact resP.mk rfl (Sees.of_eq (by first|(simp_all[Cell.cmp];done)|(simp_all[Cell.cmp];omega)))
theorem c_compare (a b:Cell):PCall Tryz.prog L 107 [a.av,b.av] (.int .i64 (a.cmp b)):=by
 refine PCall.intro mixed [] (nt:=8) Tryz.func107 rfl rfl (by simp) ?_
 refine Wk ?_
 refine cD (c_order L a b) ?_
 refine Wk ?_
 all_goals exact resP.mk rfl (Sees.of_eq (by first|(simp_all[];done)|(simp_all[];omega)))
theorem c_right (s:Sched)(c:Cell)(h1:-9223372036854775808 < s.len)(h2:-9223372036854775808 < s.offs)(h3:s.len≤9223372036854775807)(h4:s.offs≤9223372036854775807):PCall Tryz.prog L 111 [s.av,c.av] (.bool (formedB s c)):=by
 refine PCall.intro mixed [] (nt:=34) Tryz.func111 rfl rfl (by simp) ?_
 have e1:IntKind.i64.wrap (s.len-1)=s.len-1:=w64 (by omega) (by omega)
 have e2:IntKind.i64.wrap (s.offs-1)=s.offs-1:=w64 (by omega) (by omega)
 refine Wk ?_
 rw[e1]
 refine cD (c_in35 L _ _ _) ?_
 refine Wk ?_
 refine BrK.mk (fun hb1=>?_) (fun hb1=>?_)<;>(try rw[hb1])
 ·refine Wk ?_
  rw[e2]
  clear e1 e2
  refine cD (c_in35 L _ _ _) ?_
  refine Wk ?_
  refine BrK.mk (fun hb2=>?_) (fun hb2=>?_)<;>(try rw[hb2])
  ·refine Wk ?_
   refine cD (c_in35 L _ _ _) ?_
   refine Wk ?_
   refine BrK.mk (fun hb3=>?_) (fun hb3=>?_)<;>(try rw[hb3])
   ·refine Wk ?_
    refine cD (c_in35 L _ _ _) ?_
    refine Wk ?_
    refine BrK.mk (fun hb4=>?_) (fun hb4=>?_)<;>(try rw[hb4])
    ·refine Wk ?_
     refine cD (c_in35 L _ _ _) ?_
     refine Wk ?_
     all_goals exact resP.mk rfl (Sees.bool (by first|(simp_all[formedB,placedB,inB,insB];done)|(simp_all[formedB,placedB,inB,insB];omega)|(rw[Bool.eq_iff_iff];simp_all[formedB,placedB,inB,insB];done)|(rw[Bool.eq_iff_iff];simp_all[formedB,placedB,inB,insB];omega)))
    refine Wk ?_
    all_goals exact resP.mk rfl (Sees.bool (by first|(simp_all[formedB,placedB,inB,insB];done)|(simp_all[formedB,placedB,inB,insB];omega)|(rw[Bool.eq_iff_iff];simp_all[formedB,placedB,inB,insB];done)|(rw[Bool.eq_iff_iff];simp_all[formedB,placedB,inB,insB];omega)))
   refine Wk ?_
   all_goals exact resP.mk rfl (Sees.bool (by first|(simp_all[formedB,placedB,inB,insB];done)|(simp_all[formedB,placedB,inB,insB];omega)|(rw[Bool.eq_iff_iff];simp_all[formedB,placedB,inB,insB];done)|(rw[Bool.eq_iff_iff];simp_all[formedB,placedB,inB,insB];omega)))
  refine Wk ?_
  all_goals exact resP.mk rfl (Sees.bool (by first|(simp_all[formedB,placedB,inB,insB];done)|(simp_all[formedB,placedB,inB,insB];omega)|(rw[Bool.eq_iff_iff];simp_all[formedB,placedB,inB,insB];done)|(rw[Bool.eq_iff_iff];simp_all[formedB,placedB,inB,insB];omega)))
 refine Wk ?_
 clear e1 e2
 all_goals exact resP.mk rfl (Sees.bool (by first|(simp_all[formedB,placedB,inB,insB];done)|(simp_all[formedB,placedB,inB,insB];omega)|(rw[Bool.eq_iff_iff];simp_all[formedB,placedB,inB,insB];done)|(rw[Bool.eq_iff_iff];simp_all[formedB,placedB,inB,insB];omega)))
variable (L:World→Prop)
theorem c_form (s:Sched):PCall Tryz.prog L 64 [s.av] (.bool (formB s)):=by
 refine PCall.intro mixed [] (nt:=42) Tryz.func64 rfl rfl (by simp) ?_
 refine Wk ?_
 refine cD (c_sized L s) ?_
 refine Wk ?_
 refine BrK.mk (fun h1=>?_) (fun h1=>?_)<;>(try rw[h1])
 ·refine Wk ?_
  exact resP.mk rfl (Sees.bool (by simp at h1;simp[formB,h1]))
 ·simp at h1
  refine Wk ?_
  refine BrK.mk (fun h2=>?_) (fun h2=>?_)<;>(try rw[h2])
  ·refine Wk ?_
   exact resP.mk rfl (Sees.bool (by
                    have:¬s.cells.length≤512:=by simp at h2;omega
                    simp[formB,h1,this]))
  ·have hl:s.cells.length≤512:=by simp at h2;omega
   refine Wk ?_
   refine LoopK.run mixed [] (fun (k:Nat)=>k≤s.cells.length∧∀j,j < k→okAt s j=true) (fun k=>[(1,.ptr 0 0),(15,encCells s.cells),(16,.int .i64 s.cells.length),(17,.int .i64 k)]) (fun k=>⟨[.cells [.int .i64 s.len,.int .i64 s.offs,encCells s.cells] 24],[],0,0,fun _=>0⟩) (fun k=>s.cells.length-k) 0 ⟨by simp,by simp⟩ ?_ ?_
   ·refine fN ?_<;>repeat' (first|exact fQ|refine And.intro ?_ ?_|exact Sees.int (by simp))
   rintro k ⟨hk,hinv⟩
   refine Wk ?_
   refine BrK.mk (fun hb=>?_) (fun hb=>?_)<;>try rw[hb]
   ·have hlt:k < s.cells.length:=by simpa using hb
    obtain⟨c,hgc⟩:=getLt hlt
    have hmc:=getMap (f:=Cell.av) hgc
    repeat((conv=>whnf);first|refine sJ ?_|refine aI (by first|exact inbMap hlt|kernel_rfl) ?_|rw[hmc])
    try(conv=>whnf)
    refine cD (c_formed L s c) ?_
    refine Wk ?_
    have next:okAt s k=true→∀j,j < k+1→okAt s j=true:=fun hk j hj=>by
     rcases Nat.lt_succ_iff_lt_or_eq.1 hj with h|rfl
     ·exact hinv j h
     ·exact hk
    refine BrK.mk (fun h3=>?_) (fun h3=>?_)<;>(try rw[h3])
    ·refine Wk ?_
     exact resP.mk rfl (Sees.bool (by simp at h3;rw[formB,range_not hlt (by simp[okAt,hgc,h3])];simp))
    ·simp at h3
     refine Wk ?_
     refine BrK.mk (fun h4=>?_) (fun h4=>?_)<;>(try rw[h4])
     ·have hpos:0 < k:=by simpa using h4
      obtain⟨j,rfl⟩:∃j,k=j+1:=⟨k-1,by omega⟩
      obtain⟨p,hgp⟩:=getLt (l:=s.cells) (k:=j) (by omega)
      have hmp:=getMap (f:=Cell.av) hgp
      have hw:IntKind.i64.wrap (((j+1:Nat):Int)-1)=(j:Int):=by rw[w64]<;>omega
      repeat((conv=>whnf);first|refine sJ ?_|refine aI (by first|(rw[hw];exact inbMap (by omega))|kernel_rfl) ?_|rw[hw]|rw[hmp])
      try(conv=>whnf)
      refine cD (c_compare L p c) ?_
      refine Wk ?_
      refine BrK.mk (fun h5=>?_) (fun h5=>?_)<;>(try rw[h5])
      ·refine Wk ?_
       exact resP.mk rfl (Sees.bool (by
        have:¬p.cmp c < 0:=by simpa using h5
        rw[formB,range_not hlt (by simp[okAt,hgc,hgp,this])];simp))
      ·have:p.cmp c < 0:=by simpa using h5
       refine Wk ?_
       refine⟨j+2,⟨by omega,next (by simp[okAt,hgc,hgp,this,h3])⟩,by omega,?_⟩
       refine fN ?_<;>repeat' (first|exact fQ|refine And.intro ?_ ?_|exact Sees.int (succI hlt (by omega)))
     ·have hz:k=0:=by simp at h4;omega
      subst hz
      refine Wk ?_
      refine⟨1,⟨by omega,next (by simp[okAt,hgc,h3])⟩,by omega,?_⟩
      refine fN ?_<;>repeat' (first|exact fQ|refine And.intro ?_ ?_|exact Sees.int (succI hlt (by omega)))
   ·have hk':k=s.cells.length:=by simp at hb;omega
    subst hk'
    refine Wk ?_
    exact resP.mk rfl (Sees.bool (by simp[formB,h1,hl,range_all hinv]))
variable (L:World→Prop)
theorem less_cmp:∀(xs ys:List Int),xs.length=ys.length→lessL xs ys=decide (cmpL xs ys < 0)
 | [],[],_=>rfl
 | [],_ :: _,h=>by simp at h
 | _ :: _,[],h=>by simp at h
 | x :: xs,y :: ys,h=>by
  simp only[lessL,cmpL,cmpI]
  by_cases h1:x=y
  ·subst h1;simp[less_cmp xs ys (by simpa using h)]
  ·by_cases h2:x < y
   ·simp[h1,h2]
   ·have h3:y < x:=by omega
    simp[h1,h2,h3]
theorem c_Less (a b:Cell):PCall Tryz.prog L 112 [a.av,b.av] (.bool (decide (a.cmp b < 0))):=by
 have hlen:a.nums.length=b.nums.length:=rfl
 rw[show decide (a.cmp b < 0)=lessL a.nums b.nums from(less_cmp a.nums b.nums rfl).symm]
 refine PCall.intro mixed [] (nt:=36) Tryz.func112 rfl rfl (by simp) ?_
 refine Wk ?_
 refine cD (c_numbers35 L a) ?_
 refine Wk ?_
 refine cD (c_numbers35 L b) ?_
 refine Wk ?_
 refine LoopK.run mixed [] (fun (k:Nat)=>k≤a.nums.length∧lessL (a.nums.drop k) (b.nums.drop k)=lessL a.nums b.nums) (fun k=>[(5,encIs a.nums),(6,encIs b.nums),(7,.int .i64 k)]) (fun k=>St.none) (fun k=>a.nums.length-k) 0 ⟨by simp,by simp⟩ ?_ ?_
 ·refine fN ?_<;>repeat' (first|exact fQ|refine And.intro ?_ ?_ )
 rintro k ⟨hk,hinv⟩
 refine Wk ?_
 refine BrK.mk (fun hb=>?_) (fun hb=>?_)<;>try rw[hb]
 ·have hlt:k < a.nums.length:=lenLt hb
  obtain⟨x,hgx⟩:=getLt hlt
  have hmx:=getMap (f:=encI) hgx
  obtain⟨y,hgy⟩:=getLt (l:=b.nums) (k:=k) hlt
  have hmy:=getMap (f:=encI) hgy
  rw[dropGet hgx,dropGet hgy]at hinv
  simp only[lessL]at hinv
  repeat((conv=>whnf);first|refine sJ ?_|refine aI (by first|exact inbMap hlt|kernel_rfl) ?_|rw[hmx]|rw[hmy])
  try(conv=>whnf)
  refine BrK.mk (fun h2=>?_) (fun h2=>?_)<;>(try rw[h2])
  ·repeat((conv=>whnf);first|refine sJ ?_|refine aI (by first|exact inbMap hlt|kernel_rfl) ?_|rw[hmx]|rw[hmy])
   try(conv=>whnf)
   exact resP.mk rfl (Sees.bool (by rw[←hinv,if_neg (by simpa using h2)]))
  ·refine Wk ?_
   refine⟨k+1,⟨by omega,by rw[←hinv,if_pos (by simpa using h2)]⟩,by omega,?_⟩
   refine fN ?_<;>repeat' (first|exact fQ|refine And.intro ?_ ?_|exact Sees.int (succI hlt (by simp[Cell.nums])))
 ·have hk':=lenGe hb
  refine Wk ?_
  exact resP.mk rfl (Sees.bool (by rw[←hinv,List.drop_of_length_le hk',List.drop_of_length_le (hlen▸hk')];rfl))
theorem c_Formed (s:Sched):PCall Tryz.prog L 66 [s.av] (.bool (formB s)):=by
 refine PCall.intro mixed [] (nt:=54) Tryz.func66 rfl rfl (by simp) ?_
 refine Wk ?_
 refine cD (c_in35 L _ _ _) ?_
 refine Wk ?_
 refine BrK.mk (fun g1=>?_) (fun g1=>?_)<;>(try rw[g1])
 ·refine Wk ?_
  exact resP.mk rfl (Sees.bool (by
   have:sizedB s=false:=by
    cases hs:sizedB s with
    | false=>rfl
    | true=>simp[sizedB]at hs;simp[inB]at g1;omega
   simp[formB,this]))
 refine Wk ?_
 refine cD (c_in35 L _ _ _) ?_
 refine Wk ?_
 refine BrK.mk (fun g2=>?_) (fun g2=>?_)<;>(try rw[g2])
 ·refine Wk ?_
  exact resP.mk rfl (Sees.bool (by
   have:sizedB s=false:=by
    cases hs:sizedB s with
    | false=>rfl
    | true=>simp[sizedB]at hs;simp[inB]at g2;omega
   simp[formB,this]))
 have hz:sizedB s=true:=by simp[inB]at g1 g2;simp[sizedB];omega
 have hzz:1≤s.len∧s.len≤512∧1≤s.offs∧s.offs≤16:=by simp[sizedB]at hz;omega
 have h1:-9223372036854775808 < s.len:=by omega
 have h2:-9223372036854775808 < s.offs:=by omega
 have h3:s.len≤9223372036854775807:=by omega
 have h4:s.offs≤9223372036854775807:=by omega
 refine Wk ?_
 refine BrK.mk (fun g3=>?_) (fun g3=>?_)<;>(try rw[g3])
 ·refine Wk ?_
  exact resP.mk rfl (Sees.bool (by
                   have:¬s.cells.length≤512:=by simp at g3;omega
                   simp[formB,this]))
 have hl:s.cells.length≤512:=by simp at g3;omega
 refine Wk ?_
 refine LoopK.run mixed [] (fun (k:Nat)=>k≤s.cells.length∧∀j,j < k→okAt s j=true) (fun k=>[(1,.ptr 0 0),(3,.int .i64 k)]) (fun k=>⟨[.cells [.int .i64 s.len,.int .i64 s.offs,encCells s.cells] 24],[],0,0,fun _=>0⟩) (fun k=>s.cells.length-k) 0 ⟨by simp,by simp⟩ ?_ ?_
 ·refine fN ?_<;>repeat' (first|exact fQ|refine And.intro ?_ ?_|exact Sees.int (by simp))
 rintro k ⟨hk,hinv⟩
 refine Wk ?_
 refine BrK.mk (fun hb=>?_) (fun hb=>?_)<;>try rw[hb]
 ·have hlt:k < s.cells.length:=lenLt hb
  obtain⟨c,hgc⟩:=getLt hlt
  have hmc:=getMap (f:=Cell.av) hgc
  have next:okAt s k=true→∀j,j < k+1→okAt s j=true:=fun hk j hj=>by
   rcases Nat.lt_succ_iff_lt_or_eq.1 hj with h|rfl
   ·exact hinv j h
   ·exact hk
  repeat((conv=>whnf);first|refine sJ ?_|refine aI (by first|exact inbMap hlt|kernel_rfl) ?_|rw[hmc])
  try(conv=>whnf)
  refine cD (c_right L s c h1 h2 h3 h4) ?_
  refine Wk ?_
  refine BrK.mk (fun h3=>?_) (fun h3=>?_)<;>(try rw[h3])
  ·refine Wk ?_
   exact resP.mk rfl (Sees.bool (by simp at h3;rw[formB,range_not hlt (by simp[okAt,hgc,h3])];simp))
  ·simp at h3
   refine Wk ?_
   refine BrK.mk (fun h4=>?_) (fun h4=>?_)<;>(try rw[h4])
   ·have hpos:0 < k:=by simpa using h4
    obtain⟨j,rfl⟩:∃j,k=j+1:=⟨k-1,by omega⟩
    obtain⟨p,hgp⟩:=getLt (l:=s.cells) (k:=j) (by omega)
    have hmp:=getMap (f:=Cell.av) hgp
    have hw:IntKind.i64.wrap (((j+1:Nat):Int)-1)=(j:Int):=by rw[w64]<;>omega
    repeat((conv=>whnf);first|refine sJ ?_|refine aI (by first|exact inbMap hlt|(rw[hw];exact inbMap (by omega))|kernel_rfl) ?_|rw[hw]|rw[hmp]|rw[hmc])
    try(conv=>whnf)
    refine cD (c_Less L p c) ?_
    refine Wk ?_
    refine BrK.mk (fun h5=>?_) (fun h5=>?_)<;>(try rw[h5])
    ·refine Wk ?_
     exact resP.mk rfl (Sees.bool (by
      have:¬p.cmp c < 0:=by simpa using h5
      rw[formB,range_not hlt (by simp[okAt,hgc,hgp,this])];simp))
    ·have:p.cmp c < 0:=by simpa using h5
     refine Wk ?_
     refine⟨j+2,⟨by omega,next (by simp[okAt,hgc,hgp,this,h3])⟩,by omega,?_⟩
     refine fN ?_<;>repeat' (first|exact fQ|refine And.intro ?_ ?_|exact Sees.int (succI hlt (by omega)))
   ·have hz:k=0:=by simp at h4;omega
    subst hz
    refine Wk ?_
    refine⟨1,⟨by omega,next (by simp[okAt,hgc,h3])⟩,by omega,?_⟩
    refine fN ?_<;>repeat' (first|exact fQ|refine And.intro ?_ ?_|exact Sees.int (succI hlt (by omega)))
 ·have hk':k=s.cells.length:=by have:=lenGe hb;omega
  subst hk'
  refine Wk ?_
  exact resP.mk rfl (Sees.bool (by simp[formB,hz,hl,range_all hinv]))
def LW:World→Prop:=fun w=>Lib.TabIs Tryz.prog w "internal/strconv.uint64pow10" .u64 Lib.pow10Tab
def itoaB (n:Int):ByteArray:=⟨(Lib.itoa n).toArray⟩
theorem itoaB_size (n:Int)(h0:-9223372036854775808≤n)(h1:n≤9223372036854775807):(itoaB n).size≤21:=by
 have:=Lib.itoa_length_le n h0 h1
 simpa[itoaB,ByteArray.size] using this
def I64 (n:Int):Prop:=-9223372036854775808≤n∧n≤9223372036854775807
theorem c_Itoa (n:Int)(h:I64 n):PCall Tryz.prog LW 273 [.int .i64 n] (.str (itoaB n)):=by
 refine PCall.of_calls fun w G vals hL hv=>?_
 obtain⟨v,vs,rfl,hv1,hvs⟩:=hv
 obtain rfl:v=_:=hv1
 obtain rfl:vs=_:=hvs
 exact(Tryz.strconv_Itoa n h.1 h.2 w hL).mono fun e w' ⟨he,k,os,hw⟩=>⟨_,he,by subst hw;exact Lib.below_grow _ w (Nat.le_refl _) k os,fun _ _=>rfl⟩
def lineB (word:ByteArray):List Int→ByteArray
 | []=>word
 | n :: l=>lineB (word++(⟨#[32]⟩++itoaB n)) l
theorem lineB_size:∀(l:List Int) (word:ByteArray),(∀n∈l,I64 n)→(lineB word l).size≤word.size+22*l.length∧word.size≤(lineB word l).size
 | [],_,_=>by simp[lineB]
 | n :: l,word,h=>by
  have h1:=lineB_size l (word++(⟨#[32]⟩++itoaB n)) (fun m hm=>h m (by simp[hm]))
  have h2:=itoaB_size n (h n (by simp)).1 (h n (by simp)).2
  have h3:(⟨#[32]⟩:ByteArray).size=1:=rfl
  simp only[ByteArray.size_append,h3,List.length_cons,lineB]at h1 ⊢
  omega
theorem c_line (word:ByteArray)(l:List Int)(hw:word.size≤1099511627776)(hl:l.length≤1099511627776)(h:∀n∈l,I64 n):PCall Tryz.prog LW 251 [.str word,encIs l] (.str (lineB word l++⟨#[10]⟩)):=by
 have h1:(⟨#[32]⟩:ByteArray).size=1:=rfl
 have h10:(⟨#[10]⟩:ByteArray).size=1:=rfl
 refine PCall.intro mixed [] (nt:=21) Tryz.func251 rfl rfl (by simp) ?_
 refine Wk ?_
 refine LoopK.run mixed [] (fun s:Nat×ByteArray=>s.1≤l.length∧s.2.size≤word.size+22*s.1∧lineB s.2 (l.drop s.1)=lineB word l) (fun s=>[(0,.str s.2),(7,encIs l),(8,.int .i64 l.length),(9,.int .i64 s.1)]) (fun _=>St.none) (fun s=>l.length-s.1) (0,word) ⟨by simp,by simp,by simp⟩ ?_ ?_
 ·refine fN ?_<;>repeat' (first|exact fQ|refine And.intro ?_ ?_|exact Sees.int (by simp))
 rintro⟨k,t⟩ ⟨hk,ht,hinv⟩
 simp only at hk ht hinv
 refine Wk ?_
 refine BrK.mk (fun hb=>?_) (fun hb=>?_)<;>try rw[hb]
 ·have hlt:k < l.length:=by simpa using hb
  obtain⟨x,hgx⟩:=getLt hlt
  have hmx:=getMap (f:=encI) hgx
  have hx:=h x (List.mem_of_getElem? hgx)
  have hs:=itoaB_size x hx.1 hx.2
  rw[dropGet hgx]at hinv
  repeat((conv=>whnf);first|refine sJ ?_|refine aI (by first|exact inbMap hlt|kernel_rfl) ?_|rw[hmx])
  try(conv=>whnf)
  refine cD (c_Itoa x hx) ?_
  repeat((conv=>whnf);first|refine sJ ?_|refine aI (by first|(simp only[ByteArray.size_append,h1];omega)|kernel_rfl) ?_ )
  try(conv=>whnf)
  refine⟨(k+1,t++(⟨#[32]⟩++itoaB x)),⟨by simp;omega,?_,by simpa[lineB] using hinv⟩,by simp;omega,?_⟩
  ·simp only[ByteArray.size_append,h1];omega
  ·refine fN ?_<;>repeat' (first|exact fQ|refine And.intro ?_ ?_|exact Sees.int (succI hlt (by omega)))
 ·have hk':k=l.length:=by simp at hb;omega
  subst hk'
  have hfin:t=lineB word l:=by rw[←hinv,List.drop_length];rfl
  repeat((conv=>whnf);first|refine sJ ?_|refine aI (by first|(simp only[h10];omega)|kernel_rfl) ?_ )
  try(conv=>whnf)
  exact resP.mk rfl (Sees.of_eq (by rw[hfin]))
end HM
