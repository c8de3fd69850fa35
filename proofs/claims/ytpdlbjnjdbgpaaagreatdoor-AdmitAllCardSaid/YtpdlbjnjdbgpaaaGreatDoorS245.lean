/- All: the reference. -/
import Derived.Test.YtpdlbjnjdbgpaaaGreatDoorS228
import Derived.Test.YtpdlbjnjdbgpaaaGreatDoorDd
import Derived.Test.YtpdlbjnjdbgpaaaGreatDoorFh
import Derived.Test.YtpdlbjnjdbgpaaaGreatDoorS68
import Derived.Test.YtpdlbjnjdbgpaaaGreatDoorS240
import Derived.Test.YtpdlbjnjdbgpaaaGreatDoorS243
import Derived.Test.YtpdlbjnjdbgpaaaGreatDoorS244
import Derived.Test.YtpdlbjnjdbgpaaaGreatDoorS223
import Derived.Test.YtpdlbjnjdbgpaaaGreatDoorS122
set_option maxHeartbeats 64000000
set_option maxRecDepth 100000
namespace HM
open Go Go.RowKit Go.Proofs
section
variable (L:World→Prop)
theorem c_in41 (x lo hi:Int):PCall Tryz.prog L 40 [.int .i64 x,.int .i64 lo,.int .i64 hi] (.bool (inB x lo hi)):=by
 refine PCall.intro mixed [] (nt:=15) Tryz.func40 rfl rfl (by simp) ?_
 repeat' ((conv=>whnf);first|refine sI ?_  | (refine BrK.mk (fun hb=>?_) (fun hb=>?_)<;>try rw[hb]))
 all_goals try(conv=>whnf)
 all_goals exact resP.mk rfl (Sees.of_eq (by first|(simp_all[inB];done)|(simp_all[inB];omega)))
def al41 (s:Sched)(Y:List Req)(O:List Int):St:=⟨[.dead,.cells [.int .i64 0,.int .i64 0,.nils] 30,.cells [.int .i64 s.len,.int .i64 s.offs,encCells s.cells] 30],[(Y.length,7),(O.length,1)],0,0,fun c=>if c=0 then 60 else 3⟩
theorem c_All41 (n:Net)(hn:n.small)(q:List Req)(hq:q.length≤1099511627776)(hx:∀x∈q,x.small)(len offs:Int) :
  PCall Tryz.prog L 13 [n.av,encReqs q,.int .i64 len,.int .i64 offs] (.tup [(allAd n q len offs).1.av,encIs (allAd n q len offs).2.1,.int .i64 (allAd n q len offs).2.2]):=by
 refine PCall.intro mixed [1] (nt:=92) Tryz.func13 rfl rfl (by simp) ?_
 refine Wk ?_
 refine SeqK.sem mixed [] ?_
 refine Wk ?_
 refine SemK.freezeB 0 rfl rfl ?_
 refine twC_sound (ct:=[10016,10018]) mixed _ _ _ _ ?_
 refine Wk ?_
 refine cD (c_Fault38 L n hn q hq hx) ?_
 by_cases h1:(reqE n q).2≠0
 ·have g:((reqE n q).2 != 0)=true:=by simpa using h1
  have e1:allAd n q len offs=(⟨0,0,[]⟩,[],1):=by unfold allAd;rw[if_pos h1]
  rw[e1]
  repeat((conv=>whnf);first|refine sT ?_|rw[g])
  try(conv=>whnf)
  exact resP.mk rfl (Sees.of_eq rfl)
 have g:((reqE n q).2 != 0)=false:=by simpa using h1
 have h1':(reqE n q).2=0:=by omega
 obtain⟨hok,hq16,hreq,hfl⟩:=reqE_ok h1'
 have hbad:sizedB ⟨len,offs,[]⟩=false→allAd n q len offs=(⟨0,0,[]⟩,[],2):=fun h=>by unfold allAd;rw[if_neg h1,if_pos h]
 repeat((conv=>whnf);first|refine sT ?_|rw[g])
 try(conv=>whnf)
 refine cD (c_in41 L len 1 512) ?_
 cases a1:inB len 1 512 with
 | false=>
  rw[hbad (by rw[sized_in];simp[a1])]
  refine Wk ?_
  exact resP.mk rfl (Sees.of_eq rfl)
 | true=>
 refine Wk ?_
 refine cD (c_in41 L offs 1 16) ?_
 cases a2:inB offs 1 16 with
 | false=>
  rw[hbad (by rw[sized_in];simp[a2])]
  refine Wk ?_
  exact resP.mk rfl (Sees.of_eq rfl)
 | true=>
 have hz:sizedB ⟨len,offs,[]⟩=true:=by rw[sized_in];simp[a1,a2]
 have hsb:=sized_bd hz
 dsimp only at hsb
 have hper:∀x∈q,x.flow.period≠0:=fun x hxm=>by have:=flowE_ok (hreq x hxm).flow;omega
 refine Wk ?_
 refine LoopK.run mixed [] (fun (k:Nat)=>k≤q.length∧∀(j:Nat) x,j < k→q[j]? = some x→(len % x.flow.period != 0)=false) (fun k=>[(1,encReqs q),(2,.int .i64 len),(3,.int .i64 offs),(4,.cptr n.av 0),(8,.ptr 1 0),(13,.int .i64 k)]) (fun k=>⟨[.dead,.cells [.int .i64 0,.int .i64 0,.nils] 30],[],0,0,fun _=>0⟩) (fun k=>q.length-k) 0 ⟨by simp,by simp⟩ ?_ ?_
 ·refine fN ?_<;>repeat' (first|exact fQ|refine And.intro ?_ ?_|exact SeesL.rfl' _)
 rintro k ⟨hk,hinv⟩
 by_cases hkt:k < q.length
 ·obtain⟨x,hgx⟩:=getLt hkt
  have hmx:=getMap (f:=Req.av) hgx
  have hxm:=List.mem_of_getElem? hgx
  have gk:decide ((k:Int) < ((q.map Req.av).length:Int))=true:=decide_eq_true (by rw[List.length_map];omega)
  have htm:len.tmod x.flow.period=len % x.flow.period:=tmod_eq (by omega)
  cases h5:(len % x.flow.period != 0) with
  | true=>
   have e1:allAd n q len offs=(⟨0,0,[]⟩,[],11):=by unfold allAd;rw[if_neg h1,if_neg (by simp[hz]),if_pos (List.any_eq_true.2 ⟨x,hxm,h5⟩)]
   rw[e1]
   repeat((conv=>whnf);first|refine sJ ?_|refine aI (by first|exact trivial|exact inbMap hkt|exact hper x hxm|kernel_rfl) ?_|rw[gk]|rw[hmx]|rw[htm]|rw[h5])
   try(conv=>whnf)
   exact resP.mk rfl (Sees.of_eq rfl)
  | false=>
   repeat((conv=>whnf);first|refine sJ ?_|refine aI (by first|exact trivial|exact inbMap hkt|exact hper x hxm|kernel_rfl) ?_|rw[gk]|rw[hmx]|rw[htm]|rw[h5])
   try(conv=>whnf)
   refine⟨k+1,⟨by omega,fun j y hj hy=>?_⟩,by omega,?_⟩
   ·rcases Nat.lt_succ_iff_lt_or_eq.1 hj with h|rfl
    ·exact hinv j y h hy
    ·rw[hgx]at hy;injection hy with hy;subst hy;exact h5
   ·refine fN ?_<;>repeat' (first|exact fQ|refine And.intro ?_ ?_|exact SeesL.rfl' _|exact Sees.int (succI hkt (by omega)))
 have hkn:k=q.length:=by omega
 subst hkn
 have h5:(q.any fun x=>len % x.flow.period != 0)=false:=List.any_eq_false.2 fun x hxm=>by
  obtain⟨j,hj⟩:=List.getElem?_of_mem hxm
  simpa using hinv j x (List.getElem?_eq_some_iff.1 hj).1 hj
 have e1:allAd n q len offs=((allK n q len offs q.length).1,(allK n q len offs q.length).2.2,0):=by unfold allAd;rw[if_neg h1,if_neg (by simp[hz]),if_neg (by simp[h5])]
 rw[e1]
 have gk:decide ((q.length:Int) < ((q.map Req.av).length:Int))=false:=decide_eq_false (by rw[List.length_map];omega)
 repeat((conv=>whnf);first|refine sT ?_|rw[gk])
 try(conv=>whnf)
 refine LoopK.run mixed [10016,10018] (fun k:Nat=>k≤q.length) (fun k=>[(1,encReqs q),(4,.cptr n.av 0),(8,.ptr 1 0),(14,.ptr 2 0),(15,.own ((allK n q len offs k).2.1.map Req.av) 0),(16,.own ((allK n q len offs k).2.2.map encI) 1),(17,.int .i64 k)]) (fun k=>al41 (allK n q len offs k).1 (allK n q len offs k).2.1 (allK n q len offs k).2.2) (fun k=>q.length-k) 0 (by simp) ?_ ?_
 ·refine fN ?_<;>repeat' (first|exact fQ|refine And.intro ?_ ?_|exact SeesL.rfl' _|exact Sees.elems rfl)
 rintro k hk
 obtain⟨o1,o2,o3,o4⟩:=allK_ok n q len offs k
 obtain⟨⟨s1,Y,O⟩,hA⟩:∃A,allK n q len offs k=A:=⟨_,rfl⟩
 have hyes:=fun x (hg:q[k]? = some x)=>allK_yes (n:=n) (len:=len) (offs:=offs) hg
 have hno:=fun x (hg:q[k]? = some x)=>allK_no (n:=n) (len:=len) (offs:=offs) hg
 rw[hA]at o1 o2 o3 o4 hyes hno
 rw[hA]
 dsimp only at o1 o2 o3 o4 hyes hno ⊢
 have hY4:Y.length≤16:=by omega
 by_cases hkt:k < q.length
 rotate_left
 ·have hkn:k=q.length:=by omega
  subst hkn
  rw[hA]
  repeat((conv=>whnf);first|refine sT ?_|rw[gk])
  try(conv=>whnf)
  exact resP.mk rfl (Sees.of_eq rfl)
 obtain⟨x,hgx⟩:=getLt hkt
 have hmx:=getMap (f:=Req.av) hgx
 have hxm:=List.mem_of_getElem? hgx
 have gk2:decide ((k:Int) < ((q.map Req.av).length:Int))=true:=decide_eq_true (by rw[List.length_map];omega)
 have hal:=admM_few n Y s1 x
 replace hyes:=hyes x hgx
 replace hno:=hno x hgx
 have hsmY:∀z∈Y,z.small:=fun z hzm=>hx z (o3 z hzm)
 repeat((conv=>whnf);first|refine sT ?_|rw[gk2])
 try(conv=>whnf)
 refine SemK.regionFin mixed (fun X=>X.bx[2]? = some (.cells [.int .i64 s1.len,.int .i64 s1.offs,encCells s1.cells] 30)) [0,1,2,3,4,5,6,7,8,9,10] 3 rfl rfl (by decide) rfl rfl ?_
 iterate 7
  conv=>whnf
  apply exV
  ·rintro S' K' hI hh
   repeat((conv=>whnf);first|refine sJ ?_|refine aI (by first|exact trivial|exact inbMap hkt|kernel_rfl) ?_|rw[hmx]|erw [hI])
   try(conv=>whnf)
   exact hh
 conv=>whnf
 apply exV
 ·rintro S' K' hI hh
  refine Wk ?_
  refine cD (c_Admit41 L n hn Y (by omega) hsmY s1 (by omega) x (hx x hxm)) ?_
  exact hh
 iterate 3
  conv=>whnf
  apply exV
  ·rintro S' K' hI hh
   refine Wk ?_
   exact hh
 conv=>whnf
 repeat' ((conv=>whnf);first|exact trivial|refine sJ ?_|refine aI (by first|exact trivial|exact Or.inr rfl|exact Or.inl rfl|kernel_rfl) ?_|refine And.intro ?_ ?_ )
 all_goals(conv=>whnf)
 by_cases he:(admM n Y s1 x).2=0
 ·have gE:((admM n Y s1 x).2==0)=true:=by simpa using he
  replace hyes:=hyes he
  repeat((conv=>whnf);first|refine sT ?_|rw[gE])
  try(conv=>whnf)
  refine SemK.regionFin mixed (fun X=>X.bx[3]? = some (.cells (admM n Y s1 x).1.av.cells 30)) [0,1,2,3,4,5,6,8,9,10] 5 rfl rfl (by decide) rfl rfl ?_
  iterate 10
   conv=>whnf
   apply exV
   ·rintro S' K' hI hh
    repeat((conv=>whnf);first|refine sJ ?_|refine aI (by first|exact trivial|exact inbMap hkt|kernel_rfl) ?_|rw[hmx]|erw [hI])
    try(conv=>whnf)
    exact hh
  conv=>whnf
  repeat' ((conv=>whnf);first|exact trivial|refine sJ ?_|refine aI (by first|exact trivial|exact Or.inr rfl|exact Or.inl rfl|exact Els.map (f:=Req.av) (fun x=>⟨rfl,rfl⟩)|exact Els.map (f:=encI) (fun x=>⟨rfl,rfl⟩)|exact(show _*72≤_ by simp only[List.length_map,List.length_cons,List.length_nil];omega)|exact(show _*8≤_ by simp only[List.length_map,List.length_cons,List.length_nil];omega)|exact(by simp only[List.length_map,List.length_cons,List.length_nil,maxLen];omega)|exact(show some (_,_)=some (_,_) by simp only[List.length_map])|kernel_rfl) ?_|refine And.intro ?_ ?_ )
  all_goals(conv=>whnf)
  all_goals refine⟨k+1,by omega,by omega,?_⟩
  all_goals rw[hyes]
  all_goals refine fN ?_<;>repeat' (first|exact fQ|refine And.intro ?_ ?_|exact SeesL.rfl' _|exact Sees.int (succI hkt (by omega))|exact Sees.own (by simp only[List.map_append,List.map_cons,List.map_nil];rfl)|(show(_,_)=(_,_);exact Prod.ext (by simp only[List.length_append,List.length_map,List.length_cons,List.length_nil]<;>omega) rfl))
 ·have gE:((admM n Y s1 x).2==0)=false:=by simpa using he
  replace hno:=hno he
  repeat((conv=>whnf);first|refine sT ?_|rw[gE])
  try(conv=>whnf)
  refine⟨k+1,by omega,by omega,?_⟩
  rw[hno]
  refine fN ?_<;>repeat' (first|exact fQ|refine And.intro ?_ ?_|exact SeesL.rfl' _|exact Sees.int (succI hkt (by omega)))
end
theorem c_EqOut (L:World→Prop)(a:List Int)(ha:a.length≤281474976710656):PCall Tryz.prog L 15 [encIs a,encIs a] (.bool true):=by
 refine PCall.intro mixed [] (nt:=26) Tryz.func15 rfl rfl (by simp) ?_
 have h1:(((a.map encI).length:Int) != ((a.map encI).length:Int))=false:=by simp
 repeat((conv=>whnf);first|refine sT ?_|rw[h1])
 try(conv=>whnf)
 refine LoopK.run mixed [] (fun (k:Nat)=>k≤a.length) (fun k=>[(0,encIs a),(1,encIs a),(12,.int .i64 a.length),(13,.int .i64 k)]) (fun k=>St.none) (fun k=>a.length-k) 0 (by omega) ?_ ?_
 ·refine fN ?_<;>repeat' (first|exact fQ|refine And.intro ?_ ?_|exact Sees.int (by simp))
 rintro k hk
 by_cases hkt:k < a.length
 ·obtain⟨x,hgx⟩:=getLt hkt
  have hmx:=getMap (f:=encI) hgx
  have g1:decide ((k:Int) < (a.length:Int))=true:=decide_eq_true (by omega)
  have g2:(x != x)=false:=by simp
  repeat((conv=>whnf);first|refine sJ ?_|refine aI (by first|exact trivial|exact inbMap hkt|kernel_rfl) ?_|rw[g1]|rw[hmx]|rw[g2])
  try(conv=>whnf)
  refine⟨k+1,by omega,by omega,?_⟩
  refine fN ?_<;>repeat' (first|exact fQ|refine And.intro ?_ ?_|exact Sees.int (succI hkt (by omega)))
 ·have hkn:k=a.length:=by omega
  subst hkn
  have g1:decide ((a.length:Int) < (a.length:Int))=false:=decide_eq_false (by omega)
  repeat((conv=>whnf);first|refine sT ?_|rw[g1])
  try(conv=>whnf)
  exact resP.mk rfl (Sees.bool rfl)
theorem trimM_len {n:Net}{q:List Req}{s:Sched}{m:Nat}(h:s.cells.length≤m):(trimM n q s).1.cells.length≤m:=by
 unfold trimM
 split
 ·simp
 ·exact Nat.le_trans (List.length_filter_le _ _) h
theorem allAd_len (n:Net)(q:List Req)(len offs:Int):(allAd n q len offs).1.cells.length≤512∧(allAd n q len offs).2.1.length≤q.length:=by
 obtain⟨h1,h2,_,h4⟩:=allK_ok n q len offs q.length
 unfold allAd
 split
 ·simp
 split
 ·simp
 split
 ·simp
 ·exact⟨h1,by show(allK n q len offs q.length).2.2.length≤_;omega⟩
theorem c_AdmitAll (n:Net)(q:List Req)(s:Sched)(len offs:Int)(hn:n.small)(hq:q.length≤281474976710656)(hx:∀x∈q,x.small)(hc:s.cells.length≤281474976710656) :
  PCall Tryz.prog LW 4 [n.av,encReqs q,s.av,.int .i64 len,.int .i64 offs] (.bool true):=by
 refine PCall.intro mixed [] (nt:=91) Tryz.func4 rfl rfl (by simp) ?_
 refine Wk ?_
 refine cD (c_awake41) ?_
 refine Wk ?_
 refine cD (c_Few38 LW n hn q hq hx s) ?_
 cases g1:few38 n q s with
 | false=>
  refine Wk ?_
  exact resP.mk rfl (Sees.bool rfl)
 | true=>
 obtain⟨hq4,hs30⟩:=few38_len g1
 have hal:=allAd_len n q len offs
 have htl:=trimM_len (n:=n) (q:=q) hs30
 have hgo:decide (30 < len)=false∨(decide (30 < len)=true∧decide (len≤512)=false)∨(decide (30 < len)=true∧decide (len≤512)=true):=by
  cases decide (30 < len)<;>cases decide (len≤512)<;>simp
 rcases hgo with g3|⟨g3,g4⟩|⟨g3,g4⟩
 rotate_right
 ·repeat((conv=>whnf);first|refine sT ?_|rw[g3]|rw[g4])
  try(conv=>whnf)
  exact resP.mk rfl (Sees.bool rfl)
 all_goals
  repeat((conv=>whnf);first|refine sT ?_|rw[g3]|rw[g4])
  try(conv=>whnf)
  refine cD (c_All n hn q (by omega) hx len offs) ?_
  refine Wk ?_
  refine cD (c_All41 LW n hn q (by omega) hx len offs) ?_
  refine Wk ?_
  refine cD (c_Trim n hn q (by omega) hx s hc) ?_
  refine Wk ?_
  refine cD (c_Trim41 LW n hn q (by omega) hx s hc) ?_
  refine Wk ?_
  refine cD (c_Same35 LW (allAd n q len offs).1 (by omega)) ?_
  refine Wk ?_
  refine cD (c_EqOut LW (allAd n q len offs).2.1 (by omega)) ?_
  repeat((conv=>whnf);first|refine sT ?_|rw[beq_self_eq_true])
  try(conv=>whnf)
  refine cD (c_Same35 LW (trimM n q s).1 (by omega)) ?_
  repeat((conv=>whnf);first|refine sT ?_|rw[beq_self_eq_true])
  try(conv=>whnf)
  exact resP.mk rfl (Sees.bool rfl)
end HM
