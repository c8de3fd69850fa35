/- The example of the laws on changes holds. -/
import Derived.Test.YtggiajmlnieidaaGreatDoorS258
import Derived.Test.YtggiajmlnieidaaGreatDoorFh
import Derived.Test.YtggiajmlnieidaaGreatDoorS251
import Derived.Test.YtggiajmlnieidaaGreatDoorS93
import Derived.Test.YtggiajmlnieidaaGreatDoorS69
import Derived.Test.YtggiajmlnieidaaGreatDoorS114
import Derived.Test.YtggiajmlnieidaaGreatDoorS269
import Derived.Test.YtggiajmlnieidaaGreatDoorS121
set_option maxHeartbeats 64000000
set_option maxRecDepth 100000
namespace HM
open Go Go.RowKit Go.Proofs
theorem n42_small:n42.small:=⟨by decide,by decide,by decide,by decide⟩
theorem q42_small:∀x∈q42,x.small:=fun x hx=>by
 simp only[q42,List.mem_singleton]at hx
 subst hx
 exact⟨by decide,by decide⟩
def nz42:List AV:=[.int .i64 0,.nils,.int .i64 0,.int .i64 0,.nils,.nils]
def sz42:List AV:=[.int .i64 0,.int .i64 0,.nils]
theorem c_example42 (L:World→Prop)(r:Int):PCall Tryz.prog L 45 [.int .i64 r] (.tup [n42.av,encReqs q42,s42.av,encChgs (l42 r)]):=by
 refine PCall.intro mixed [2,3,4] (nt:=37) Tryz.func45 rfl rfl (by simp) ?_
 refine Wk ?_
 refine SeqK.cutS mixed [3,4] [(0,.int .i64 r),(2,.ptr 0 0),(3,.nils),(4,.ptr 1 0),(5,.nils),(6,.ptr 2 0)] ⟨[.cells nz42 26,.cells sz42 30,.cells n42.cs 26],[],0,0,fun _=>0⟩ (twC_sound (ct:=[]) mixed _ _ _ _ ?_) ?_
 ·refine Wk ?_
  refine fN ?_<;>repeat' (first|exact fQ|refine And.intro ?_ ?_|exact Sees.elems rfl)
 refine SeqK.cutS mixed [4] [(0,.int .i64 r),(2,.ptr 0 0),(3,.nils),(4,.ptr 1 0),(5,.nils),(6,.ptr 2 0),(7,encReqs q42)] ⟨[.cells nz42 26,.cells sz42 30,.cells n42.cs 26],[],0,0,fun _=>0⟩ (twC_sound (ct:=[]) mixed _ _ _ _ ?_) ?_
 ·refine Wk ?_
  refine fN ?_<;>repeat' (first|exact fQ|refine And.intro ?_ ?_|exact Sees.elems rfl)
 refine SeqK.cutS mixed [10004] [(0,.int .i64 r),(2,.ptr 0 0),(3,.nils),(4,.ptr 1 0),(5,.nils),(6,.ptr 2 0),(7,encReqs q42),(8,.ptr 3 0)] ⟨[.cells nz42 26,.cells sz42 30,.cells n42.cs 26,.cells [.int .i64 4,.int .i64 1,encCells s42.cells] 30],[],0,0,fun _=>0⟩ (twC_sound (ct:=[]) mixed _ _ _ _ ?_) ?_
 ·refine Wk ?_
  refine fN ?_<;>repeat' (first|exact fQ|refine And.intro ?_ ?_|exact Sees.elems rfl)
 refine Wk ?_
 refine SemK.regionFin mixed (fun X=>X.bx[2]? = some (.cells n42.cs 26)∧X.bx[3]? = some (.cells [.int .i64 4,.int .i64 1,encCells s42.cells] 30)) [0,1,2,3,4,5,6,7,8,9,10,11] 4 rfl rfl (by decide) rfl ⟨rfl,rfl⟩ ?_
 iterate 12
  conv=>whnf
  apply exV
  ·rintro S' K' hI hh
   repeat((conv=>whnf);first|refine sJ ?_|refine aI (by first|exact trivial|exact⟨by decide,by decide⟩|kernel_rfl) ?_|erw [hI.1]|erw [hI.2])
   try(conv=>whnf)
   exact hh
 conv=>whnf
 repeat' ((conv=>whnf);first|exact trivial|refine sJ ?_|refine aI (by first|exact trivial|exact Or.inr ⟨rfl,rfl⟩|exact Or.inl rfl|kernel_rfl) ?_|refine And.intro ?_ ?_ )
 all_goals(conv=>whnf)
 exact resP.mk rfl (Sees.of_eq rfl)
def aw42:List Ob:=[.cells n42.cs 26,.cells [.int .i64 4,.int .i64 1,encCells s42.cells] 30]
theorem c_awake42:PCall Tryz.prog LW 9 [] (.bool true):=by
 refine PCall.intro mixed [2,3,4,5,6,7] (nt:=90) Tryz.func9 rfl rfl (by simp) ?_
 refine Wk ?_
 refine SeqK.cutS mixed [3,4,5,6,7] [(1,.ptr 0 0),(2,encReqs q42),(3,.ptr 1 0),(4,encChgs (l42 14))] ⟨aw42,[],0,0,fun _=>0⟩ (twC_sound (ct:=[]) mixed _ _ _ _ ?_) ?_
 ·refine Wk ?_
  refine cD (c_example42 LW 14) ?_
  refine Wk ?_
  refine fN ?_<;>repeat' (first|exact fQ|refine And.intro ?_ ?_|exact SeesL.rfl' _)
 refine Wk ?_
 refine SeqK.cutS mixed [4,5,6,7] [(1,.ptr 0 0),(2,encReqs q42),(3,.ptr 1 0),(4,encChgs (l42 14)),(5,.int .i64 (-1)),(6,.int .i64 0)] ⟨aw42,[],0,0,fun _=>0⟩ (twC_sound (ct:=[]) mixed _ _ _ _ ?_) ?_
 ·refine Wk ?_
  refine cD (c_CheckC n42 n42_small q42 q42 (by decide) (by decide) q42_small q42_small s42 (by decide) (l42 14) (by simp[l42])) ?_
  rw[e_check42]
  refine Wk ?_
  refine fN ?_<;>repeat' (first|exact fQ|refine And.intro ?_ ?_|exact SeesL.rfl' _)
 refine Wk ?_
 refine SeqK.cutS mixed [5,6,7] [(1,.ptr 0 0),(2,encReqs q42),(3,.ptr 1 0),(4,encChgs (l42 14)),(5,.int .i64 (-1)),(6,.int .i64 0),(7,encChgs (l42 13))] ⟨aw42,[],0,0,fun _=>0⟩ (twC_sound (ct:=[]) mixed _ _ _ _ ?_) ?_
 ·refine Wk ?_
  refine cD (c_example42 LW 13) ?_
  refine Wk ?_
  refine fN ?_<;>repeat' (first|exact fQ|refine And.intro ?_ ?_|exact SeesL.rfl' _)
 refine Wk ?_
 refine SeqK.cutS mixed [6,7] [(2,encReqs q42),(3,.ptr 1 0),(4,encChgs (l42 14)),(5,.int .i64 (-1)),(6,.int .i64 0),(7,encChgs (l42 13)),(8,.int .i64 1),(9,.int .i64 12)] ⟨aw42,[],0,0,fun _=>0⟩ (twC_sound (ct:=[]) mixed _ _ _ _ ?_) ?_
 ·refine Wk ?_
  refine cD (c_CheckC n42 n42_small q42 q42 (by decide) (by decide) q42_small q42_small s42 (by decide) (l42 13) (by simp[l42])) ?_
  rw[e_check42b]
  refine Wk ?_
  refine fN ?_<;>repeat' (first|exact fQ|refine And.intro ?_ ?_|exact SeesL.rfl' _)
 refine Wk ?_
 refine SeqK.cutS mixed [7] [(3,.ptr 1 0),(4,encChgs (l42 14)),(5,.int .i64 (-1)),(6,.int .i64 0),(8,.int .i64 1),(9,.int .i64 12),(10,encChgs (l42 14)),(11,.int .i64 0)] ⟨aw42,[],0,0,fun _=>0⟩ (twC_sound (ct:=[]) mixed _ _ _ _ ?_) ?_
 ·refine Wk ?_
  refine cD (c_Flows38 LW q42 (by decide)) ?_
  refine Wk ?_
  refine cD (c_TimeC (flowsQ q42) (by decide) (l42 13) (by simp[l42]) 10) ?_
  rw[e_time42]
  refine Wk ?_
  refine fN ?_<;>repeat' (first|exact fQ|refine And.intro ?_ ?_|exact SeesL.rfl' _)
 refine Wk ?_
 refine SeqK.cutS mixed [] [(4,encChgs (l42 14)),(5,.int .i64 (-1)),(6,.int .i64 0),(8,.int .i64 1),(9,.int .i64 12),(10,encChgs (l42 14)),(11,.int .i64 0),(12,.ptr 2 0),(13,.int .i64 0)] ⟨aw42++[.cells [.int .i64 4,.int .i64 1,encCells (applyP s42 (l42 14) 12).1.cells] 30],[],0,0,fun _=>0⟩ (twC_sound (ct:=[]) mixed _ _ _ _ ?_) ?_
 ·refine Wk ?_
  refine cD (c_ApplyC s42 (by decide) (l42 14) (by simp[l42]) 12) ?_
  rw[e_apply42.1]
  refine Wk ?_
  refine fN ?_<;>repeat' (first|exact fQ|refine And.intro ?_ ?_|exact SeesL.rfl' _|exact SeesL.of_eq (by decide))
 have hlen:(((applyP s42 (l42 14) 12).1.cells.map Cell.av).length:Int)=2:=by rw[List.length_map,e_apply42.2];rfl
 refine Wk ?_
 refine cD (c_SameChg42 (l42 14) (l42 14) (by simp[l42])) ?_
 have hsm:decide (l42 14=l42 14)=true:=decide_eq_true rfl
 rw[hsm]
 repeat((conv=>whnf);first|refine sT ?_|rw[hlen])
 try(conv=>whnf)
 exact resP.mk rfl (Sees.of_eq rfl)
theorem timeG_len {flows:List Flow}:∀{cs:List Chg} {t:Int} {out o:List Chg},timeG flows t out cs=some o→o.length=out.length+cs.length
 | [],_,out,o,h=>by unfold timeG at h;cases h;simp
 | c :: cs,t,out,o,h=>by
  unfold timeG at h
  split at h
  ·cases h
  ·rw[timeG_len h];simp;omega
theorem timeM_len (flows:List Flow)(l:List Chg)(fr:Int):(timeM flows l fr).1.length≤l.length:=by
 unfold timeM
 split
 ·simp
 split
 ·simp
 split
 ·simp
 split
 ·simp
 ·rename_i o h;rw[timeG_len h];simp
theorem c_ChangeTimes (flows:List Flow)(l:List Chg)(fr:Int)(hfl:flows.length≤281474976710656)(hl:l.length≤281474976710656):PCall Tryz.prog LW 5 [encFlows flows,encChgs l,.int .i64 fr] (.bool true):=by
 refine PCall.intro mixed [] (nt:=71) Tryz.func5 rfl rfl (by simp) ?_
 refine Wk ?_
 refine cD (c_awake42) ?_
 cases g1:decide ((16:Int) < (flows.length:Int)) with
 | true=>
  repeat((conv=>whnf);first|refine sT ?_|rw[List.length_map]|rw[g1])
  try(conv=>whnf)
  exact resP.mk rfl (Sees.bool rfl)
 | false=>
 cases g2:decide ((16:Int) < (l.length:Int)) with
 | true=>
  repeat((conv=>whnf);first|refine sT ?_|rw[List.length_map]|rw[g1]|rw[g2])
  try(conv=>whnf)
  exact resP.mk rfl (Sees.bool rfl)
 | false=>
 simp only[decide_eq_false_iff_not]at g1 g2
 have g1':decide ((16:Int) < (flows.length:Int))=false:=decide_eq_false g1
 have g2':decide ((16:Int) < (l.length:Int))=false:=decide_eq_false g2
 repeat((conv=>whnf);first|refine sT ?_|rw[List.length_map]|rw[g1']|rw[g2'])
 try(conv=>whnf)
 refine cD (c_TimeC flows hfl l hl fr) ?_
 refine Wk ?_
 refine cD (c_Time42 flows hfl l hl fr) ?_
 refine Wk ?_
 refine cD (c_ReverseC flows hfl l (by omega) fr) ?_
 refine Wk ?_
 refine cD (c_Reverse42 flows hfl l (by omega) fr) ?_
 refine Wk ?_
 have hl1:=timeM_len flows l fr
 have hl2:(revM flows l fr).1.length≤l.length:=by
  have:=timeM_len flows (l.reverse.map flip0) fr
  unfold revM
  rw[List.length_map,List.length_reverse]at this
  exact this
 refine cD (c_SameChg42 (timeM flows l fr).1 (timeM flows l fr).1 (by omega)) ?_
 rw[decide_eq_true (rfl:(timeM flows l fr).1=(timeM flows l fr).1)]
 repeat((conv=>whnf);first|refine sT ?_|rw[beq_self_eq_true])
 try(conv=>whnf)
 refine cD (c_SameChg42 (revM flows l fr).1 (revM flows l fr).1 (by omega)) ?_
 rw[decide_eq_true (rfl:(revM flows l fr).1=(revM flows l fr).1)]
 repeat((conv=>whnf);first|refine sT ?_|rw[beq_self_eq_true])
 try(conv=>whnf)
 exact resP.mk rfl (Sees.bool rfl)
theorem applyP_len (s:Sched)(l:List Chg)(t:Int):(applyP s l t).1.cells.length≤s.cells.length+l.length:=by
 unfold applyP
 split
 ·simp
 ·refine Nat.le_trans (afterC_len s _) ?_
  rw[upto_take,List.length_take]
  omega
theorem c_ChangeApplies (s:Sched)(l:List Chg)(t:Int)(hc:s.cells.length≤281474976710656)(hl:l.length≤281474976710656)(h63:t≤9223372036854775807):PCall Tryz.prog LW 6 [s.av,encChgs l,.int .i64 t] (.bool true):=by
 refine PCall.intro mixed [] (nt:=72) Tryz.func6 rfl rfl (by simp) ?_
 refine Wk ?_
 refine cD (c_awake42) ?_
 cases g1:decide ((30:Int) < (s.cells.length:Int)) with
 | true=>
  repeat((conv=>whnf);first|refine sT ?_|rw[List.length_map]|rw[g1])
  try(conv=>whnf)
  exact resP.mk rfl (Sees.bool rfl)
 | false=>
 cases g2:decide ((16:Int) < (l.length:Int)) with
 | true=>
  repeat((conv=>whnf);first|refine sT ?_|rw[List.length_map]|rw[g1]|rw[g2])
  try(conv=>whnf)
  exact resP.mk rfl (Sees.bool rfl)
 | false=>
 simp only[decide_eq_false_iff_not]at g1 g2
 have g1':decide ((30:Int) < (s.cells.length:Int))=false:=decide_eq_false g1
 have g2':decide ((16:Int) < (l.length:Int))=false:=decide_eq_false g2
 have hal:=applyP_len s l t
 repeat((conv=>whnf);first|refine sT ?_|rw[List.length_map]|rw[g1']|rw[g2'])
 try(conv=>whnf)
 refine cD (c_ApplyC s (by omega) l hl t) ?_
 refine Wk ?_
 refine cD (c_Apply42 s l t) ?_
 refine Wk ?_
 refine cD (c_BusyC s (by omega) l hl t h63) ?_
 refine Wk ?_
 refine cD (c_Busy42 s l t h63) ?_
 refine Wk ?_
 refine cD (c_Same35 LW (applyP s l t).1 (by omega)) ?_
 repeat((conv=>whnf);first|refine sT ?_|rw[beq_self_eq_true])
 try(conv=>whnf)
 exact resP.mk rfl (Sees.bool rfl)
theorem c_ChangeChecks (n:Net)(before after:List Req)(s:Sched)(l:List Chg)(hn:n.small)(hq1:before.length≤281474976710656)(hx1:∀x∈before,x.small)(hq2:after.length≤281474976710656)(hx2:∀x∈after,x.small)(hl:l.length≤281474976710656) :
  PCall Tryz.prog LW 3 [n.av,encReqs before,encReqs after,s.av,encChgs l] (.bool true):=by
 refine PCall.intro mixed [] (nt:=50) Tryz.func3 rfl rfl (by simp) ?_
 refine Wk ?_
 refine cD (c_awake42) ?_
 refine Wk ?_
 refine cD (c_Few42 LW n hn before after hq1 hq2 hx1 hx2 s l) ?_
 cases g:few42 n before after s l with
 | false=>
  repeat((conv=>whnf);first|refine sT ?_ )
  try(conv=>whnf)
  exact resP.mk rfl (Sees.bool rfl)
 | true=>
 obtain⟨f1,f2,f3,f4⟩:=few42_len g
 repeat((conv=>whnf);first|refine sT ?_ )
 try(conv=>whnf)
 refine cD (c_CheckC n hn before after (by omega) (by omega) hx1 hx2 s (by omega) l hl) ?_
 repeat((conv=>whnf);first|refine sT ?_ )
 try(conv=>whnf)
 refine cD (c_Check42 LW n hn before after (by omega) (by omega) hx1 hx2 s (by omega) l hl) ?_
 repeat((conv=>whnf);first|refine sT ?_|rw[beq_self_eq_true])
 try(conv=>whnf)
 exact resP.mk rfl (Sees.bool rfl)
end HM
