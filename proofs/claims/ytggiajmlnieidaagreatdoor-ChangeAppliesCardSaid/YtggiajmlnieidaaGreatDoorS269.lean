/- Changes: the reference's Check as a whole, and the sizes of the statements. -/
import Derived.Test.YtggiajmlnieidaaGreatDoorS268
set_option maxHeartbeats 64000000
set_option maxRecDepth 100000
namespace HM
open Go Go.RowKit Go.Proofs
def few42 (n:Net)(before after:List Req)(s:Sched)(l:List Chg):Bool:=decide ((before.length:Int)≤3)&&(decide ((after.length:Int)≤3)&&(few38 n before s&&(few38 n after s&&(decide ((s.cells.length:Int)≤24)&&decide ((l.length:Int)≤16)))))
theorem few42_len {n:Net}{before after:List Req}{s:Sched}{l:List Chg}(h:few42 n before after s l=true):before.length≤3∧after.length≤3∧s.cells.length≤24∧l.length≤16:=by
 unfold few42 at h
 simp only[Bool.and_eq_true,decide_eq_true_eq]at h
 omega
section
variable (L:World→Prop)
theorem c_Few42 (n:Net)(hn:n.small)(before after:List Req)(hq1:before.length≤281474976710656)(hq2:after.length≤281474976710656)(hx1:∀x∈before,x.small)(hx2:∀x∈after,x.small)(s:Sched)(l:List Chg):PCall Tryz.prog L 10 [n.av,encReqs before,encReqs after,s.av,encChgs l] (.bool (few42 n before after s l)):=by
 refine PCall.intro mixed [] (nt:=42) Tryz.func10 rfl rfl (by simp) ?_
 have hr:∀b,few42 n before after s l=b→few42 n before after s l=b:=fun _ h=>h
 cases g1:decide ((before.length:Int)≤3) with
 | false=>
  repeat((conv=>whnf);first|refine sT ?_|rw[List.length_map]|rw[g1])
  try(conv=>whnf)
  exact resP.mk rfl (Sees.bool (by unfold few42;rw[g1];rfl))
 | true=>
 cases g2:decide ((after.length:Int)≤3) with
 | false=>
  repeat((conv=>whnf);first|refine sT ?_|rw[List.length_map]|rw[g1]|rw[g2])
  try(conv=>whnf)
  exact resP.mk rfl (Sees.bool (by unfold few42;rw[g1,g2];rfl))
 | true=>
 repeat((conv=>whnf);first|refine sT ?_|rw[List.length_map]|rw[g1]|rw[g2])
 try(conv=>whnf)
 refine cD (c_Few38 L n hn before hq1 hx1 s) ?_
 cases g3:few38 n before s with
 | false=>
  repeat((conv=>whnf);first|refine sT ?_ )
  try(conv=>whnf)
  exact resP.mk rfl (Sees.bool (by unfold few42;rw[g1,g2,g3];rfl))
 | true=>
 repeat((conv=>whnf);first|refine sT ?_ )
 try(conv=>whnf)
 refine cD (c_Few38 L n hn after hq2 hx2 s) ?_
 cases g4:few38 n after s with
 | false=>
  repeat((conv=>whnf);first|refine sT ?_ )
  try(conv=>whnf)
  exact resP.mk rfl (Sees.bool (by unfold few42;rw[g1,g2,g3,g4];rfl))
 | true=>
 cases g5:decide ((s.cells.length:Int)≤24) with
 | false=>
  repeat((conv=>whnf);first|refine sT ?_|rw[List.length_map]|rw[g5])
  try(conv=>whnf)
  exact resP.mk rfl (Sees.bool (by unfold few42;rw[g1,g2,g3,g4,g5];rfl))
 | true=>
 cases g6:decide ((l.length:Int)≤16) with
 | false=>
  repeat((conv=>whnf);first|refine sT ?_|rw[List.length_map]|rw[g5]|rw[g6])
  try(conv=>whnf)
  exact resP.mk rfl (Sees.bool (by unfold few42;rw[g1,g2,g3,g4,g5,g6];rfl))
 | true=>
  repeat((conv=>whnf);first|refine sT ?_|rw[List.length_map]|rw[g5]|rw[g6])
  try(conv=>whnf)
  exact resP.mk rfl (Sees.bool (by unfold few42;rw[g1,g2,g3,g4,g5,g6];rfl))
theorem c_Check42 (n:Net)(hn:n.small)(before after:List Req)(hq1:before.length≤1000)(hq2:after.length≤1000)(hx1:∀x∈before,x.small)(hx2:∀x∈after,x.small)(s:Sched)(hc:s.cells.length≤1048576)(l:List Chg)(hl:l.length≤281474976710656):PCall Tryz.prog L 12 [n.av,encReqs before,encReqs after,s.av,encChgs l] (.tup [.int .i64 (checkC n before after s l).1,.int .i64 (checkC n before after s l).2]):=by
 refine PCall.intro mixed [] (nt:=50) Tryz.func12 rfl rfl (by simp) ?_
 refine Wk ?_
 refine cD (c_Whole42 L n hn before after hq1 hq2 hx1 hx2 s (by omega)) ?_
 by_cases hw:wholeC n before after s≠0
 ·have g:(wholeC n before after s != 0)=true:=by simpa using hw
  repeat((conv=>whnf);first|refine sT ?_|rw[g])
  try(conv=>whnf)
  exact resP.mk rfl (Sees.of_eq (by unfold checkC;rw[if_pos hw]))
 have g:(wholeC n before after s != 0)=false:=by simpa using hw
 have hW:=wholeC_ok (by omega:wholeC n before after s=0)
 by_cases h2:1024 < l.length
 ·have g2:decide ((1024:Int) < (l.length:Int))=true:=decide_eq_true (by omega)
  repeat((conv=>whnf);first|refine sT ?_|rw[List.length_map]|rw[g]|rw[g2])
  try(conv=>whnf)
  exact resP.mk rfl (Sees.of_eq (by unfold checkC;rw[if_neg hw,if_pos h2]))
 have g2:decide ((1024:Int) < (l.length:Int))=false:=decide_eq_false (by omega)
 have hch:checkC n before after s l=if (firstAt (faultC n before after s l) l.length).2≠0 then firstAt (faultC n before after s l) l.length else if endsB n after (afterC s l)=false then(-1,18) else(-1,0):=by unfold checkC;rw[if_neg hw,if_neg h2]
 rw[hch]
 repeat((conv=>whnf);first|refine sT ?_|rw[List.length_map]|rw[g]|rw[g2])
 try(conv=>whnf)
 refine LoopK.run mixed [] (fun (k:Nat)=>k≤l.length∧∀j,j < k→faultC n before after s l j=0) (fun k=>[(1,encReqs before),(2,encReqs after),(4,encChgs l),(5,.ptr 0 0),(8,.ptr 1 0),(13,.int .i64 k)]) (fun k=>⟨kp42 n (afterC s (l.take k)),[],0,0,fun _=>0⟩) (fun k=>l.length-k) 0 ⟨by simp,by simp⟩ ?_ ?_
 ·refine fN ?_<;>repeat' (first|exact fQ|refine And.intro ?_ ?_|exact SeesL.rfl' _)
 rintro k ⟨hk,hinv⟩
 have hcl:=afterC_len s (l.take k)
 have hcl2:(l.take k).length≤1024:=by rw[List.length_take];omega
 have hlen:∀j,j≤k→(afterC s (l.take j)).len=s.len:=fun j=>by
  induction j with
  | zero=>exact fun _=>rfl
  | succ j ih=>
   intro hj
   obtain⟨c,hc⟩:=getLt (l:=l) (k:=j) (by omega)
   have hf:=hinv j (by omega)
   unfold faultC at hf
   rw[hc]at hf
   rw[afterC_snoc hc,chg_len (step_zero.1 hf).2.1,ih (by omega)]
 have hlk:=hlen k (by omega)
 by_cases hkl:k < l.length
 ·obtain⟨c,hgc⟩:=getLt hkl
  have gk:decide ((k:Int) < ((l.map Chg.av).length:Int))=true:=decide_eq_true (by rw[List.length_map];omega)
  have hfk:faultC n before after s l k=stepC n before after (l.take k) (afterC s (l.take k)) c:=by unfold faultC;rw[hgc]
  repeat((conv=>whnf);first|refine sT ?_|rw[gk])
  try(conv=>whnf)
  refine cD (c_step42 L n hn before after hW (afterC s (l.take k)) hlk (by omega) l k c hgc hl) ?_
  rw[←hfk]
  by_cases hf:faultC n before after s l k≠0
  ·have gf:(faultC n before after s l k != 0)=true:=by simpa using hf
   have hfa:=firstAt_hit (f:=faultC n before after s l) (n:=l.length) (k:=k) hinv hf hkl
   repeat((conv=>whnf);first|refine sT ?_|rw[gf])
   try(conv=>whnf)
   exact resP.mk rfl (Sees.of_eq (by rw[hfa,if_pos hf]))
  ·have gf:(faultC n before after s l k != 0)=false:=by simpa using hf
   have hst:stepS (l.take k) (afterC s (l.take k)) c=afterC s (l.take (k+1)):=by
    rw[afterC_snoc hgc]
    unfold stepS
    rw[if_neg]
    rw[hfk]at hf
    have:=(step_zero.1 (by omega:stepC n before after (l.take k) (afterC s (l.take k)) c=0)).1
    omega
   rw[hst]
   repeat((conv=>whnf);first|refine sT ?_|rw[gf])
   try(conv=>whnf)
   refine⟨k+1,⟨by omega,fun j hj=>?_⟩,by omega,?_⟩
   ·rcases Nat.lt_succ_iff_lt_or_eq.1 hj with h|rfl
    ·exact hinv j h
    ·omega
   ·refine fN ?_<;>repeat' (first|exact fQ|refine And.intro ?_ ?_|exact SeesL.rfl' _|exact Sees.int (succI hkl (by omega)))
 have hke:k=l.length:=by omega
 subst hke
 have gk:decide ((l.length:Int) < ((l.map Chg.av).length:Int))=false:=decide_eq_false (by rw[List.length_map];omega)
 have hfa:=firstAt_zero (f:=faultC n before after s l) (n:=l.length) hinv
 rw[hfa,if_neg (by decide)]
 rw[List.take_length]at hlk
 obtain⟨Lf,hv⟩:∃Lf,VOk n Lf (afterC s l):=by
  cases hln:l.length with
  | zero=>
   have:l=[]:=List.length_eq_zero_iff.1 hln
   subst this
   exact⟨_,hW.vok⟩
  | succ k=>
   obtain⟨c,hc⟩:=getLt (l:=l) (k:=k) (by omega)
   have hf:=hinv k (by omega)
   unfold faultC at hf
   rw[hc]at hf
   have:=schedE_ok (step_zero.1 hf).2.2.2.1
   rw[←afterC_snoc hc,List.take_of_length_le (by omega)]at this
   exact⟨_,this⟩
 have hee:=ends_iff hW hlk hv
 have hal:=(reqE_ok hW.ra).2.1
 have hao:=(reqE_ok hW.ra).2.2.1
 rw[List.take_length]
 repeat((conv=>whnf);first|refine sT ?_|rw[gk])
 try(conv=>whnf)
 refine cD (c_Ends42 L n hn.2.2.1 after (afterC s l) (by omega) (fun x hxm=>(reqOk_small (hao x hxm)).1) (fun x hxm r hr=>wayE_ok (way_zero hW.n0 hv.form (hao x hxm) (by rw[hlk];exact hW.pa x hxm) rfl ((hao x hxm).route r hr)))) ?_
 rw[←hee]
 cases he:endsB n after (afterC s l) with
 | false=>
  repeat((conv=>whnf);first|refine sT ?_ )
  try(conv=>whnf)
  exact resP.mk rfl (Sees.of_eq rfl)
 | true=>
  repeat((conv=>whnf);first|refine sT ?_ )
  try(conv=>whnf)
  exact resP.mk rfl (Sees.of_eq rfl)
end
end HM
