/- All: the program. -/
import Derived.Test.YtpdlbjnjdbgpaaaGreatDoorS220
import Derived.Test.YtpdlbjnjdbgpaaaGreatDoorDd
import Derived.Test.YtpdlbjnjdbgpaaaGreatDoorFh
import Derived.Test.YtpdlbjnjdbgpaaaGreatDoorS30
set_option maxHeartbeats 64000000
set_option maxRecDepth 100000
namespace HM
open Go Go.RowKit Go.Proofs
theorem net_req {n:Net}{q:List Req}(h:netE n≠0):(reqE n q).2≠0:=by
 unfold reqE
 rw[if_pos h]
 decide
section
variable (L:World→Prop)
theorem c_all1 (x:Req)(len:Int)(hl:0≤len)(hp:x.flow.period≠0):PCall Tryz.prog L 38 [x.av,.cptr (.agg [.int .i64 len]) 0] (.bool (len % x.flow.period != 0)):=by
 refine PCall.intro mixed [] (nt:=10) Tryz.func38 rfl rfl (by simp) ?_
 have htm:len.tmod x.flow.period=len % x.flow.period:=tmod_eq hl
 repeat((conv=>whnf);first|refine sJ ?_|refine aI (by first|exact hp|kernel_rfl) ?_|rw[htm])
 try(conv=>whnf)
 exact resP.mk rfl (Sees.bool rfl)
end
def alS (s:Sched)(O:List Int):List Req→St
 | []=>⟨[.dead,.dead,.cells [.int .i64 0,.int .i64 0,.nils] 30,.cells [.int .i64 s.len,.int .i64 s.offs,encCells s.cells] 30],[],0,0,fun _=>0⟩
 | y :: ys=>⟨[.dead,.dead,.cells [.int .i64 0,.int .i64 0,.nils] 30,.cells [.int .i64 s.len,.int .i64 s.offs,encCells s.cells] 30],[((y :: ys).length,7),(O.length,1)],0,0,fun c=>if c=0 then 60 else 3⟩
def alI:List Req→AV
 | []=>.nils
 | y :: ys=>.own ((y :: ys).map Req.av) 0
def alO (O:List Int):List Req→AV
 | []=>.nils
 | _ :: _=>.own (O.map encI) 1
theorem c_All (n:Net)(hn:n.small)(q:List Req)(hq:q.length≤1099511627776)(hx:∀x∈q,x.small)(len offs:Int) :
  PCall Tryz.prog LW 12 [n.av,encReqs q,.int .i64 len,.int .i64 offs] (.tup [(allAd n q len offs).1.av,encIs (allAd n q len offs).2.1,.int .i64 (allAd n q len offs).2.2]):=by
 refine PCall.intro mixed [1] (nt:=81) Tryz.func12 rfl rfl (by simp) ?_
 refine Wk ?_
 refine SeqK.sem mixed [] ?_
 refine Wk ?_
 refine SemK.freezeB 0 rfl rfl ?_
 refine SemK.freezeB 1 rfl rfl ?_
 refine twC_sound (ct:=[10015]) mixed _ _ _ _ ?_
 refine Wk ?_
 refine cD (c_netCheck LW n hn) ?_
 by_cases h0:netE n≠0
 ·have g:(netE n != 0)=true:=by simpa using h0
  have e1:allAd n q len offs=(⟨0,0,[]⟩,[],1):=by unfold allAd;rw[if_pos (net_req h0)]
  rw[e1]
  repeat((conv=>whnf);first|refine sT ?_|rw[g])
  try(conv=>whnf)
  exact resP.mk rfl (Sees.of_eq rfl)
 have g0:(netE n != 0)=false:=by simpa using h0
 have h0':netE n=0:=by omega
 repeat((conv=>whnf);first|refine sT ?_|rw[g0])
 try(conv=>whnf)
 refine cD (c_faultyA n hn h0' q hq hx) ?_
 by_cases h1:(reqE n q).2≠0
 ·have e1:allAd n q len offs=(⟨0,0,[]⟩,[],1):=by unfold allAd;rw[if_pos h1]
  rw[e1,decide_eq_true h1]
  refine Wk ?_
  exact resP.mk rfl (Sees.of_eq rfl)
 rw[decide_eq_false h1]
 have h1':(reqE n q).2=0:=by omega
 obtain⟨hok,hq16,hreq,hfl⟩:=reqE_ok h1'
 have hbad:sizedB ⟨len,offs,[]⟩=false→allAd n q len offs=(⟨0,0,[]⟩,[],2):=fun h=>by unfold allAd;rw[if_neg h1,if_pos h]
 by_cases a1:len < 1
 ·have g1:decide (len < 1)=true:=decide_eq_true a1
  rw[hbad (by unfold sizedB;simp;omega)]
  repeat((conv=>whnf);first|refine sT ?_|rw[g1])
  try(conv=>whnf)
  exact resP.mk rfl (Sees.of_eq rfl)
 have g1:decide (len < 1)=false:=decide_eq_false a1
 by_cases a2:512 < len
 ·have g2:decide (512 < len)=true:=decide_eq_true a2
  rw[hbad (by unfold sizedB;simp;omega)]
  repeat((conv=>whnf);first|refine sT ?_|rw[g1]|rw[g2])
  try(conv=>whnf)
  exact resP.mk rfl (Sees.of_eq rfl)
 have g2:decide (512 < len)=false:=decide_eq_false a2
 by_cases a3:offs < 1
 ·have g3:decide (offs < 1)=true:=decide_eq_true a3
  rw[hbad (by unfold sizedB;simp;omega)]
  repeat((conv=>whnf);first|refine sT ?_|rw[g1]|rw[g2]|rw[g3])
  try(conv=>whnf)
  exact resP.mk rfl (Sees.of_eq rfl)
 have g3:decide (offs < 1)=false:=decide_eq_false a3
 by_cases a4:16 < offs
 ·have g4:decide (16 < offs)=true:=decide_eq_true a4
  rw[hbad (by unfold sizedB;simp;omega)]
  repeat((conv=>whnf);first|refine sT ?_|rw[g1]|rw[g2]|rw[g3]|rw[g4])
  try(conv=>whnf)
  exact resP.mk rfl (Sees.of_eq rfl)
 have g4:decide (16 < offs)=false:=decide_eq_false a4
 have hz:sizedB ⟨len,offs,[]⟩=true:=by unfold sizedB;simp;omega
 repeat((conv=>whnf);first|refine sT ?_|rw[g1]|rw[g2]|rw[g3]|rw[g4])
 try(conv=>whnf)
 have hper:∀x∈q,x.flow.period≠0:=fun x hxm=>by have:=flowE_ok (hreq x hxm).flow;omega
 refine CallK.data rfl (c_ContainsFuncReqA LW q (fun x=>len % x.flow.period != 0) 38 [.cptr (.agg [.int .i64 len]) 0] (by omega) rfl rfl (fun x hxm=>c_all1 LW x len (by omega) (hper x hxm))) rfl ?_
 cases h5:(q.any fun x=>len % x.flow.period != 0) with
 | true=>
  have e1:allAd n q len offs=(⟨0,0,[]⟩,[],11):=by unfold allAd;rw[if_neg h1,if_neg (by simp[hz]),if_pos h5]
  rw[e1]
  refine Wk ?_
  exact resP.mk rfl (Sees.of_eq rfl)
 | false=>
 have e1:allAd n q len offs=((allK n q len offs q.length).1,(allK n q len offs q.length).2.2,0):=by unfold allAd;rw[if_neg h1,if_neg (by simp[hz]),if_neg (by simp[h5])]
 rw[e1]
 refine Wk ?_
 refine LoopK.run mixed [10015] (fun k:Nat=>k≤q.length) (fun k=>[(4,.cptr n.av 0),(8,.ptr 2 0),(11,.ptr 3 0),(12,alI (allK n q len offs k).2.1),(13,alO (allK n q len offs k).2.2 (allK n q len offs k).2.1),(52,encReqs q),(53,.int .i64 q.length),(54,.int .i64 k)]) (fun k=>alS (allK n q len offs k).1 (allK n q len offs k).2.2 (allK n q len offs k).2.1) (fun k=>q.length-k) 0 (by simp) ?_ ?_
 ·refine fN ?_<;>repeat' (first|exact fQ|refine And.intro ?_ ?_|exact SeesL.rfl' _|exact Sees.int (by simp)|exact Sees.elems rfl)
 rintro k hk
 obtain⟨o1,o2,o3,o4⟩:=allK_ok n q len offs k
 obtain⟨⟨s1,Y,O⟩,hA⟩:∃A,allK n q len offs k=A:=⟨_,rfl⟩
 have hyes:=fun x (hg:q[k]? = some x)=>allK_yes (n:=n) (len:=len) (offs:=offs) hg
 have hno:=fun x (hg:q[k]? = some x)=>allK_no (n:=n) (len:=len) (offs:=offs) hg
 rw[hA]at o1 o2 o3 o4 hyes hno
 rw[hA]
 dsimp only at o1 o2 o3 o4 hyes hno ⊢
 have hY4:Y.length≤16:=by omega
 by_cases hkt:k < q.length
 rotate_left
 ·have hkn:k=q.length:=by omega
  subst hkn
  have gk:decide ((q.length:Int) < (q.length:Int))=false:=decide_eq_false (by omega)
  rw[hA]
  cases Y with
  | nil=>
   obtain rfl:O=[]:=List.length_eq_zero_iff.1 (by simpa using o4)
   repeat((conv=>whnf);first|refine sT ?_|rw[gk])
   try(conv=>whnf)
   exact resP.mk rfl (Sees.tup ⟨Sees.of_eq rfl,Sees.elems rfl,Sees.of_eq rfl,trivial⟩)
  | cons y ys=>
   repeat((conv=>whnf);first|refine sT ?_|rw[gk])
   try(conv=>whnf)
   exact resP.mk rfl (Sees.of_eq rfl)
 obtain⟨x,hgx⟩:=getLt hkt
 have hmx:=getMap (f:=Req.av) hgx
 have hxm:=List.mem_of_getElem? hgx
 have gk:decide ((k:Int) < (q.length:Int))=true:=decide_eq_true (by omega)
 have hal:=admM_few n Y s1 x
 replace hyes:=hyes x hgx
 replace hno:=hno x hgx
 cases Y with
 | nil=>
  obtain rfl:O=[]:=List.length_eq_zero_iff.1 (by simpa using o4)
  repeat((conv=>whnf);first|refine sJ ?_|refine aI (by first|exact trivial|exact inbMap hkt|kernel_rfl) ?_|rw[gk]|rw[hmx])
  try(conv=>whnf)
  refine cD (c_Admit n hn [] (by simp) (by simp) s1 (by omega) x (hx x hxm)) ?_
  by_cases he:(admM n [] s1 x).2=0
  ·have gE:((admM n [] s1 x).2 != 0)=false:=by simpa using he
   replace hyes:=hyes he
   repeat((conv=>whnf);first|refine sT ?_|rw[gE])
   try(conv=>whnf)
   refine SemK.regionFin mixed (fun X=>X.bx[4]? = some (.cells x.av.cells 60)∧X.bx[5]? = some (.cells (admM n [] s1 x).1.av.cells 30)) [0,1,2,3,5,6,7] 5 rfl rfl (by decide) rfl ⟨rfl,rfl⟩ ?_
   iterate 7
    conv=>whnf
    apply exV
    ·rintro S' K' hI hh
     repeat((conv=>whnf);first|refine sT ?_|erw [hI.1]|erw [hI.2])
     try(conv=>whnf)
     exact hh
   conv=>whnf
   repeat' ((conv=>whnf);first|exact trivial|refine sJ ?_|refine aI (by first|exact trivial|exact Or.inr ⟨rfl,rfl⟩|exact Or.inl rfl|exact Els.map (f:=Req.av) (fun x=>⟨rfl,rfl⟩)|exact Els.map (f:=encI) (fun x=>⟨rfl,rfl⟩)|exact(show _*72≤_ by simp only[List.length_nil]at *;omega)|exact(show _*8≤_ by simp only[List.length_nil]at *;omega)|exact(by simp only[List.length_nil]at *;omega)|exact(by simp;rfl)|kernel_rfl) ?_|refine And.intro ?_ ?_ )
   all_goals(conv=>whnf)
   all_goals refine⟨k+1,by omega,by omega,?_⟩
   all_goals rw[hyes]
   all_goals refine fN ?_<;>repeat' (first|exact fQ|refine And.intro ?_ ?_|exact SeesL.rfl' _|exact Sees.int (succI hkt (by omega))|exact Sees.own rfl)
  ·have gE:((admM n [] s1 x).2 != 0)=true:=by simpa using he
   replace hno:=hno he
   repeat((conv=>whnf);first|refine sT ?_|rw[gE])
   try(conv=>whnf)
   refine⟨k+1,by omega,by omega,?_⟩
   rw[hno]
   refine fN ?_<;>repeat' (first|exact fQ|refine And.intro ?_ ?_|exact SeesL.rfl' _|exact Sees.int (succI hkt (by omega)))
 | cons y ys=>
  have hsmY:∀z∈y :: ys,z.small:=fun z hzm=>hx z (o3 z hzm)
  have hO:O.length=(y :: ys).length:=o4
  repeat((conv=>whnf);first|refine sJ ?_|refine aI (by first|exact trivial|exact inbMap hkt|kernel_rfl) ?_|rw[gk]|rw[hmx])
  try(conv=>whnf)
  refine cD (c_Admit n hn (y :: ys) (by omega) hsmY s1 (by omega) x (hx x hxm)) ?_
  by_cases he:(admM n (y :: ys) s1 x).2=0
  ·have gE:((admM n (y :: ys) s1 x).2 != 0)=false:=by simpa using he
   replace hyes:=hyes he
   rw[List.cons_append]at hyes
   repeat((conv=>whnf);first|refine sT ?_|rw[gE])
   try(conv=>whnf)
   refine SemK.regionFin mixed (fun X=>X.bx[4]? = some (.cells x.av.cells 60)∧X.bx[5]? = some (.cells (admM n (y :: ys) s1 x).1.av.cells 30)) [0,1,2,3,5,6,7] 5 rfl rfl (by decide) rfl ⟨rfl,rfl⟩ ?_
   iterate 7
    conv=>whnf
    apply exV
    ·rintro S' K' hI hh
     repeat((conv=>whnf);first|refine sT ?_|erw [hI.1]|erw [hI.2])
     try(conv=>whnf)
     exact hh
   conv=>whnf
   repeat' ((conv=>whnf);first|exact trivial|refine sJ ?_|refine aI (by first|exact trivial|exact Or.inr ⟨rfl,rfl⟩|exact Or.inl rfl|exact Els.map (f:=Req.av) (fun x=>⟨rfl,rfl⟩)|exact Els.map (f:=encI) (fun x=>⟨rfl,rfl⟩)|exact(show _*72≤_ by simp only[List.length_map,List.length_cons,List.length_nil]at *;omega)|exact(show _*8≤_ by simp only[List.length_map,List.length_cons,List.length_nil]at *;omega)|exact(by simp only[List.length_map,List.length_cons,List.length_nil,maxLen]at *;omega)|exact(by simp only[List.length_map];rfl)|kernel_rfl) ?_|refine And.intro ?_ ?_ )
   all_goals(conv=>whnf)
   all_goals refine⟨k+1,by omega,by omega,?_⟩
   all_goals rw[hyes]
   all_goals refine fN ?_<;>repeat' (first|exact fQ|refine And.intro ?_ ?_|exact SeesL.rfl' _|exact Sees.int (succI hkt (by omega))|exact Sees.own (by simp only[List.map_append,List.map_cons,List.map_nil];rfl)|(show(_,_)=(_,_);exact Prod.ext (by simp only[List.length_append,List.length_map,List.length_cons,List.length_nil]<;>omega) rfl))
  ·have gE:((admM n (y :: ys) s1 x).2 != 0)=true:=by simpa using he
   replace hno:=hno he
   repeat((conv=>whnf);first|refine sT ?_|rw[gE])
   try(conv=>whnf)
   refine⟨k+1,by omega,by omega,?_⟩
   rw[hno]
   refine fN ?_<;>repeat' (first|exact fQ|refine And.intro ?_ ?_|exact SeesL.rfl' _|exact Sees.int (succI hkt (by omega)))
end HM
