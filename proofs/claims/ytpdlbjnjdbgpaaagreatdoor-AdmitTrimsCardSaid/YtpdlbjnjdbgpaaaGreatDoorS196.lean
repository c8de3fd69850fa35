/- Is this cell one of these. -/
import Derived.Test.YtpdlbjnjdbgpaaaGreatDoorS6
import Derived.Test.YtpdlbjnjdbgpaaaGreatDoorS122
import Derived.Test.YtpdlbjnjdbgpaaaGreatDoorS1
import Derived.Test.YtpdlbjnjdbgpaaaGreatDoorDc
import Derived.Test.YtpdlbjnjdbgpaaaGreatDoorS240
import Derived.Test.YtpdlbjnjdbgpaaaGreatDoorS223
set_option maxHeartbeats 64000000
set_option maxRecDepth 100000
namespace HM
open Go Go.RowKit Go.Proofs
section
variable (L:World→Prop)
theorem c_IndexCl (l:List Cell)(x:Cell)(hl:l.length≤281474976710656):PCall Tryz.prog L 133 [.sl false (l.map Cell.av),Cell.av x] (.int .i64 (idxF (fun y=>decide (x=y)) l)):=by
 refine PCall.intro mixed [] (nt:=19) Tryz.func133 rfl rfl (by simp) ?_
 refine Wk ?_
 refine LoopK.run mixed [] (fun (k:Nat)=>k≤l.length∧∀j y,j < k→l[j]? = some y→decide (x=y)=false) (fun k=>[(0,.sl false (l.map Cell.av)),(3,.ptr 0 0),(7,.int .i64 l.length),(8,.int .i64 k)]) (fun k=>⟨[.cells [.int .i64 x.slot,.int .i64 x.off,.int .i64 x.src,.int .i64 x.dst,.int .i64 x.flow] 63],[],0,0,fun _=>0⟩) (fun k=>l.length-k) 0 ⟨by simp,by simp⟩ ?_ ?_
 ·refine fN ?_<;>repeat' (first|exact fQ|refine And.intro ?_ ?_|exact Sees.int (by simp)|exact SeesL.rfl' _)
 rintro k ⟨hk,hinv⟩
 refine Wk ?_
 refine BrK.mk (fun hb=>?_) (fun hb=>?_)<;>try rw[hb]
 ·have hlt:k < l.length:=by simpa using hb
  obtain⟨y,hgx⟩:=getLt hlt
  have hmx:=getMap (f:=Cell.av) hgx
  repeat((conv=>whnf);first|refine sJ ?_|refine aI (by first|exact inbMap hlt|kernel_rfl) ?_|rw[hmx])
  try(conv=>whnf)
  have hdec:(x.slot==y.slot&&(x.off==y.off&&(x.src==y.src&&(x.dst==y.dst&&(x.flow==y.flow&&true)))))=decide (x=y):=by
   rw[Bool.eq_iff_iff]
   simp only[Bool.and_eq_true,beq_iff_eq,and_true,decide_eq_true_eq]
   constructor
   ·rintro⟨h1,h2,h3,h4,h5⟩
    cases x;cases y
    simp only at h1 h2 h3 h4 h5
    subst h1;subst h2;subst h3;subst h4;subst h5;rfl
   ·rintro rfl;exact⟨rfl,rfl,rfl,rfl,rfl⟩
  refine BrK.mk (fun h2=>?_) (fun h2=>?_)<;>(try rw[h2])
  ·have h2':decide (x=y)=true:=by rw[←hdec];exact h2
   refine Wk ?_
   exact resP.mk rfl (Sees.int (idxF_some hlt hinv hgx h2').symm)
  ·have h2':decide (x=y)=false:=by rw[←hdec];exact h2
   refine Wk ?_
   refine⟨k+1,⟨by omega,fun j z hj hz=>?_⟩,by omega,?_⟩
   ·rcases Nat.lt_succ_iff_lt_or_eq.1 hj with h|rfl
    ·exact hinv j z h hz
    ·rw[hgx]at hz;injection hz with hz;subst hz;exact h2'
   ·refine fN ?_<;>repeat' (first|exact fQ|refine And.intro ?_ ?_|exact Sees.int (succI hlt hl)|exact SeesL.rfl' _)
 ·have hk':k=l.length:=by simp at hb;omega
  subst hk'
  refine Wk ?_
  exact resP.mk rfl (Sees.int (idxF_none hinv).symm)
theorem c_ContainsCl (l:List Cell)(x:Cell)(hl:l.length≤281474976710656):PCall Tryz.prog L 74 [.sl false (l.map Cell.av),Cell.av x] (.bool (decide (x∈l))):=by
 refine PCall.intro mixed [] (nt:=9) Tryz.func74 rfl rfl (by simp) ?_
 refine Wk ?_
 refine cD (c_IndexCl L l x hl) ?_
 refine Wk ?_
 exact resP.mk rfl (Sees.bool (by rw[idxF_any,List.any_eq,←decide_eq_decide.2 (show(∃y,y∈l∧decide (x=y)=true)↔x∈l by simp)]))
end
section
variable (L:World→Prop)
def onlyL (a b:Sched):List Cell:=a.cells.filter fun c=>!decide (c∈b.cells)
theorem c_only1 (c:Cell)(b:Sched)(hb:b.cells.length≤281474976710656):PCall Tryz.prog L 73 [c.av,.cptr b.av 0] (.bool (decide (c∈b.cells))):=by
 refine PCall.intro mixed [] (nt:=8) Tryz.func73 rfl rfl (by simp) ?_
 refine Wk ?_
 refine cD (c_ContainsCl L b.cells c hb) ?_
 refine Wk ?_
 exact resP.mk rfl (Sees.bool rfl)
theorem c_only (a b:Sched)(ha:a.cells.length≤1048576)(hb:b.cells.length≤281474976710656):PCall Tryz.prog L 32 [a.av,b.av] (encCells (onlyL a b)):=by
 refine PCall.intro mixed [] (nt:=10) Tryz.func32 rfl rfl (by simp) ?_
 by_cases hne:a.cells=[]
 ·obtain⟨len,offs,cells⟩:=a
  simp only at hne
  subst hne
  refine Wk ?_
  refine cD (c_Clone0Cell L) ?_
  refine Wk ?_
  refine CallK.inl rfl (ICall.intro mixed [] (nt:=42) Tryz.func53 rfl rfl (by simp) ?_)
  refine Wk ?_
  refine CallK.box rfl (c_IndexFuncCell L [] (fun c=>decide (c∈b.cells)) 73 [.cptr b.av 0] (by simp) rfl rfl (fun c _=>c_only1 L c b hb)) (fz2 rfl (fzf1 rfl)) rfl ?_
  refine Wk ?_
  exact resP.mk rfl (Sees.of_eq rfl)
 ·refine Wk ?_
  refine CallK.fresh rfl (c_CloneCell L a.cells hne (by omega)) (by rfl) (cellOk.els _) (cellOk.scal (fun _=>rfl) _) (fun h=>absurd (by simpa using h) hne) (fun d=>?_)
  refine Wk ?_
  rw[List.length_map]
  refine CallK.inl rfl (i_DeleteCell L _ _ _ _ _ a.cells (fun c=>decide (c∈b.cells)) _ [.ptr 1 0] [.cptr b.av 0] d (by omega) rfl rfl ⟨?_,?_,?_⟩ (fun _ _ _ _=>rfl) (fun c _=>c_only1 L c b hb) fun ex=>?_)
  ·exact⟨trivial,trivial,fzs_okk (es:=[encCells a.cells]) rfl⟩
  ·exact⟨trivial,trivial,fzs_okk (es:=[encCells b.cells]) rfl⟩
  ·exact⟨(by decide:1 < 3),trivial⟩
  refine Wk ?_
  exact⟨_,cellOk.fzb rfl rfl,Sees.of_eq rfl⟩
theorem c_Differ (a b:Sched)(ha:a.cells.length≤1048576)(hb:b.cells.length≤1048576)(h1:formB a=true)(h2:formB b=true)(h3:b.len=a.len)(h4:b.offs=a.offs):PCall Tryz.prog L 9 [a.av,b.av] (.tup [encCells (onlyL a b),encCells (onlyL b a),.int .i64 0]):=by
 have e1:(a.len != b.len)=false:=by rw[h3];simp
 have e2:(a.offs != b.offs)=false:=by rw[h4];simp
 refine PCall.intro mixed [] (nt:=33) Tryz.func9 rfl rfl (by simp) ?_
 refine Wk ?_
 refine cD (c_form L a) ?_
 rw[h1]
 refine Wk ?_
 refine cD (c_form L b) ?_
 rw[h2]
 repeat((conv=>whnf);first|refine sT ?_|rw[e1]|rw[e2])
 try(conv=>whnf)
 refine cD (c_only L a b ha (by omega)) ?_
 refine Wk ?_
 refine cD (c_only L b a hb (by omega)) ?_
 refine Wk ?_
 exact resP.mk rfl (Sees.of_eq rfl)
structure Claim.small (c:Claim):Prop where
 routes:c.routes.length≤1000
 route:∀r∈c.routes,r.length≤1000
 bounds:c.bounds.length≤1000
 worst:c.worst.length≤1000
 slots:c.slots.length≤1000
 slot:∀r∈c.slots,r.length≤1000
theorem c_Same33e (l:List (List Int))(hl:l.length≤1000)(hr:∀r∈l,r.length≤1000):PCall Tryz.prog L 75 [encRows l,encRows l] (.bool true):=by
 refine PCall.intro mixed [] (nt:=27) Tryz.func75 rfl rfl (by simp) ?_
 have e0:(((l.map encIs).length:Int) != ((l.map encIs).length:Int))=false:=by simp
 repeat((conv=>whnf);first|refine sT ?_|rw[e0])
 try(conv=>whnf)
 refine LoopK.run mixed [] (fun (k:Nat)=>k≤l.length) (fun k=>[(0,encRows l),(1,encRows l),(5,.int .i64 k)]) (fun k=>St.none) (fun k=>l.length-k) 0 (by omega) ?_ ?_
 ·refine fN ?_<;>repeat' (first|exact fQ|refine And.intro ?_ ?_ )
 rintro k hk
 by_cases hkl:k < l.length
 ·obtain⟨r,hgr⟩:=getLt hkl
  have hmr:=getMap (f:=encIs) hgr
  have g0:decide ((k:Int) < ((l.map encIs).length:Int))=true:=decide_eq_true (by rw[List.length_map];omega)
  repeat((conv=>whnf);first|refine sJ ?_|refine aI (by first|exact trivial|exact inbMap hkl|kernel_rfl) ?_|rw[g0]|rw[hmr])
  try(conv=>whnf)
  refine cD (c_SameInts31 L r r (by have:=hr r (List.mem_of_getElem? hgr);omega)) ?_
  rw[decide_eq_true rfl]
  refine Wk ?_
  refine⟨k+1,by omega,by omega,?_⟩
  refine fN ?_<;>repeat' (first|exact fQ|refine And.intro ?_ ?_|exact Sees.int (succI hkl (by omega)))
 ·have hkn:k=l.length:=by omega
  subst hkn
  have g0:decide ((l.length:Int) < ((l.map encIs).length:Int))=false:=decide_eq_false (by rw[List.length_map];omega)
  repeat((conv=>whnf);first|refine sT ?_|rw[g0])
  try(conv=>whnf)
  exact resP.mk rfl (Sees.bool rfl)
theorem c_SameClaim (a b:Claim)(ha:a.small)(hab:a.flow=b.flow→a=b):PCall Tryz.prog L 33 [a.av,b.av] (.bool (a.flow==b.flow)):=by
 by_cases he:a.flow=b.flow
 rotate_left
 ·have e0:(a.flow != b.flow)=true:=by simpa using he
  refine PCall.intro mixed [] (nt:=63) Tryz.func33 rfl rfl (by simp) ?_
  repeat((conv=>whnf);first|refine sT ?_|rw[e0])
  try(conv=>whnf)
  exact resP.mk rfl (Sees.bool (by simpa using he))
 have hb:=hab he
 subst hb
 have e0:(a.flow != a.flow)=false:=by simp
 have e1:(((a.slots.map encIs).length:Int) != ((a.slots.map encIs).length:Int))=false:=by simp
 refine PCall.intro mixed [] (nt:=63) Tryz.func33 rfl rfl (by simp) ?_
 repeat((conv=>whnf);first|refine sT ?_|rw[e0])
 try(conv=>whnf)
 refine cD (c_Same33e L a.routes ha.routes ha.route) ?_
 refine Wk ?_
 refine cD (c_SameInts31 L a.bounds a.bounds (by have:=ha.bounds;omega)) ?_
 rw[decide_eq_true rfl]
 refine Wk ?_
 refine cD (c_SameInts31 L a.worst a.worst (by have:=ha.worst;omega)) ?_
 rw[decide_eq_true rfl]
 repeat((conv=>whnf);first|refine sT ?_|rw[e1])
 try(conv=>whnf)
 have hsl:=ha.slots
 refine LoopK.run mixed [] (fun k:Nat=>k≤a.slots.length) (fun k=>[(2,.ptr 0 0),(3,.ptr 1 0),(5,.int .i64 k)]) (fun _=>⟨[.cells a.cs 76,.cells a.cs 76],[],0,0,fun _=>0⟩) (fun k=>a.slots.length-k) 0 (by omega) ?_ ?_
 ·refine fN ?_<;>repeat' (first|exact fQ|refine And.intro ?_ ?_|exact SeesL.rfl' _)
 rintro k hk
 by_cases hkl:k < a.slots.length
 ·obtain⟨r,hgr⟩:=getLt hkl
  have hmr:=getMap (f:=encIs) hgr
  have g0:decide ((k:Int) < ((a.slots.map encIs).length:Int))=true:=decide_eq_true (by rw[List.length_map];omega)
  repeat((conv=>whnf);first|refine sJ ?_|refine aI (by first|exact trivial|exact inbMap hkl|kernel_rfl) ?_|rw[g0]|rw[hmr])
  try(conv=>whnf)
  refine cD (c_SameInts31 L r r (by have:=ha.slot r (List.mem_of_getElem? hgr);omega)) ?_
  rw[decide_eq_true rfl]
  refine Wk ?_
  refine⟨k+1,by omega,by omega,?_⟩
  refine fN ?_<;>repeat' (first|exact fQ|refine And.intro ?_ ?_|exact SeesL.rfl' _|exact Sees.int (succI hkl (by omega)))
 ·have hkn:k=a.slots.length:=by omega
  subst hkn
  have g0:decide ((a.slots.length:Int) < ((a.slots.map encIs).length:Int))=false:=decide_eq_false (by rw[List.length_map];omega)
  repeat((conv=>whnf);first|refine sT ?_|rw[g0])
  try(conv=>whnf)
  exact resP.mk rfl (Sees.bool (by simp))
end
theorem c_Same38 (L:World→Prop)(C:List Claim)(hl:C.length≤281474976710656)(hs:∀c∈C,c.small):PCall Tryz.prog L 10 [encClaims C,encClaims C] (.bool true):=by
 refine PCall.intro mixed [] (nt:=27) Tryz.func10 rfl rfl (by simp) ?_
 have e0:(((C.map Claim.av).length:Int) != ((C.map Claim.av).length:Int))=false:=by simp
 repeat((conv=>whnf);first|refine sT ?_|rw[e0])
 try(conv=>whnf)
 refine LoopK.run mixed [] (fun (k:Nat)=>k≤C.length) (fun k=>[(0,encClaims C),(1,encClaims C),(5,.int .i64 k)]) (fun k=>St.none) (fun k=>C.length-k) 0 (by omega) ?_ ?_
 ·refine fN ?_<;>repeat' (first|exact fQ|refine And.intro ?_ ?_ )
 rintro k hk
 by_cases hkt:k < C.length
 ·obtain⟨c,hgc⟩:=getLt hkt
  have hmc:=getMap (f:=Claim.av) hgc
  have g1:decide ((k:Int) < ((C.map Claim.av).length:Int))=true:=decide_eq_true (by rw[List.length_map];omega)
  repeat((conv=>whnf);first|refine sJ ?_|refine aI (by first|exact trivial|exact inbMap hkt|kernel_rfl) ?_|rw[g1]|rw[hmc])
  try(conv=>whnf)
  refine cD (c_SameClaim L c c (hs c (List.mem_of_getElem? hgc)) (fun _=>rfl)) ?_
  rw[beq_self_eq_true]
  refine Wk ?_
  refine⟨k+1,by omega,by omega,?_⟩
  refine fN ?_<;>repeat' (first|exact fQ|refine And.intro ?_ ?_|exact Sees.int (succI hkt (by omega)))
 ·have hkn:k=C.length:=by omega
  subst hkn
  have g1:decide ((C.length:Int) < ((C.map Claim.av).length:Int))=false:=decide_eq_false (by rw[List.length_map];omega)
  repeat((conv=>whnf);first|refine sT ?_|rw[g1])
  try(conv=>whnf)
  exact resP.mk rfl (Sees.bool rfl)
theorem c_AdmitTrims (n:Net)(q:List Req)(s:Sched)(hn:n.small)(hq:q.length≤281474976710656)(hx:∀x∈q,x.small)(hc:s.cells.length≤281474976710656) :
  PCall Tryz.prog LW 3 [n.av,encReqs q,s.av] (.bool true):=by
 refine PCall.intro mixed [] (nt:=107) Tryz.func3 rfl rfl (by simp) ?_
 refine Wk ?_
 refine cD (c_awake41) ?_
 refine Wk ?_
 refine cD (c_Few38 LW n hn q hq hx s) ?_
 cases g1:few38 n q s with
 | false=>
  refine Wk ?_
  exact resP.mk rfl (Sees.bool rfl)
 | true=>
 obtain⟨hq4,hs30⟩:=few38_len g1
 refine Wk ?_
 refine cD (c_Trim n hn q (by omega) hx s hc) ?_
 refine Wk ?_
 refine cD (c_Make n hn q (by omega) hx s hc) ?_
 by_cases he:(makeM n q s).2.2=0
 rotate_left
 ·have e1:trimM n q s=(⟨0,0,[]⟩,1):=by unfold trimM;rw[if_pos he]
  have g2:((makeM n q s).2.2 != 0)=true:=by simpa using he
  rw[e1]
  repeat((conv=>whnf);first|refine sT ?_|rw[g2])
  try(conv=>whnf)
  exact resP.mk rfl (Sees.bool rfl)
 obtain⟨hm1,hm2⟩:=trim_law he
 obtain⟨hrq,hv,hcb,hmk⟩:=make_parts he
 obtain⟨hok,_,hreq,_⟩:=reqE_ok hrq
 have hf1:formB s=true:=hv.form
 have hf2:formB (trimS n q s)=true:=formB_filter hf1 (trimB n q s)
 have e1:trimM n q s=(trimS n q s,0):=by unfold trimM;rw[if_neg (by omega)]
 have e2:trimM n q (trimS n q s)=(trimS n q s,0):=by unfold trimM;rw[if_neg (by rw[hm1];omega),hm2]
 have hl2:(trimS n q s).cells.length≤30:=Nat.le_trans (List.length_filter_le _ _) hs30
 have hno:onlyL (trimS n q s) s=[]:=List.filter_eq_nil_iff.2 fun c hcm=>by
  have:=(List.mem_filter.1 hcm).1
  simp[this]
 obtain⟨C,hC⟩:∃C,C=q.map (claimM n s):=⟨_,rfl⟩
 have hCl:C.length≤4:=by rw[hC,List.length_map];exact hq4
 have hCs:∀y∈C,y.small:=fun y hy=>by
  rw[hC]at hy
  obtain⟨w,hw,rfl⟩:=List.mem_map.1 hy
  obtain⟨_,b1,b2,b3,b4,b5,b6⟩:=claim_parts hok (hreq w hw) (hcb w hw)
  exact⟨by omega,fun r hr=>Nat.le_trans (b2 r hr) (by decide),by omega,by omega,by omega,fun r hr=>Nat.le_trans (b6 r hr) (by decide)⟩
 rw[e1,hmk,←hC]
 refine Wk ?_
 refine cD (c_Make n hn q (by omega) hx (trimS n q s) (by omega)) ?_
 rw[hm1,hmk,←hC]
 refine Wk ?_
 refine cD (c_Trim n hn q (by omega) hx (trimS n q s) (by omega)) ?_
 rw[e2]
 refine Wk ?_
 refine cD (c_Differ LW s (trimS n q s) (by omega) (by omega) hf1 hf2 rfl rfl) ?_
 rw[hno]
 refine Wk ?_
 refine cD (c_Same38 LW C (by omega) hCs) ?_
 refine Wk ?_
 refine cD (c_Same35 LW (trimS n q s) (by omega)) ?_
 refine Wk ?_
 exact resP.mk rfl (Sees.bool rfl)
end HM
