/- Schedules that are changed: the reference. -/
import Derived.Test.YtckcedndijobaaaGreatDoorS1
import Derived.Test.YtckcedndijobaaaGreatDoorDb
import Derived.Test.YtckcedndijobaaaGreatDoorS34
import Derived.Test.YtckcedndijobaaaGreatDoorDd
import Derived.Test.YtckcedndijobaaaGreatDoorS251
import Derived.Test.YtckcedndijobaaaGreatDoorDe
set_option maxHeartbeats 64000000
set_option maxRecDepth 100000
namespace HM
open Go Go.RowKit Go.Proofs
section
variable (L:World→Prop)
theorem c_Has35 (s:Sched)(c:Cell)(hl:s.cells.length≤281474976710656):PCall Tryz.prog L 113 [s.av,c.av] (.bool (decide (c∈s.cells))):=by
 refine PCall.intro mixed [] (nt:=20) Tryz.func113 rfl rfl (by simp) ?_
 refine Wk ?_
 refine LoopK.run mixed [] (fun (k:Nat)=>k≤s.cells.length∧∀(j:Nat) y,j < k→s.cells[j]? = some y→y≠c) (fun k=>[(2,.ptr 0 0),(3,.ptr 1 0),(5,.int .i64 k)]) (fun k=>⟨[.cells s.av.cells 24,.cells c.av.cells 52],[],0,0,fun _=>0⟩) (fun k=>s.cells.length-k) 0 ⟨by simp,by simp⟩ ?_ ?_
 ·refine fN ?_<;>repeat' (first|exact fQ|refine And.intro ?_ ?_|exact SeesL.rfl' _)
 rintro k ⟨hk,hinv⟩
 refine Wk ?_
 refine BrK.mk (fun hb=>?_) (fun hb=>?_)<;>try rw[hb]
 ·have hkt:k < s.cells.length:=by simpa using hb
  obtain⟨y,hgy⟩:=getLt hkt
  have hmy:=getMap (f:=Cell.av) hgy
  repeat((conv=>whnf);first|refine sJ ?_|refine aI (by first|exact inbMap hkt|kernel_rfl) ?_|rw[hmy])
  try(conv=>whnf)
  refine BrK.mk (fun h2=>?_) (fun h2=>?_)<;>(try rw[h2])
  ·have h2':cellEqB y c=true:=h2
   have hyc:=cellEqB_iff.1 h2'
   subst hyc
   refine Wk ?_
   exact resP.mk rfl (Sees.bool (decide_eq_true (List.mem_of_getElem? hgy)).symm)
  ·have h2':cellEqB y c=false:=h2
   have hyc:y≠c:=fun h=>by rw[cellEqB_iff.2 h]at h2';cases h2'
   refine Wk ?_
   refine⟨k+1,⟨by omega,fun j z hj hz=>?_⟩,by omega,?_⟩
   ·rcases Nat.lt_succ_iff_lt_or_eq.1 hj with h|rfl
    ·exact hinv j z h hz
    ·rw[hgy]at hz;injection hz with hz;rw[←hz];exact hyc
   ·refine fN ?_<;>repeat' (first|exact fQ|refine And.intro ?_ ?_|exact SeesL.rfl' _|exact Sees.int (succI hkt hl))
 ·have hkn:k=s.cells.length:=by simp at hb;omega
  subst hkn
  have hno:decide (c∈s.cells)=false:=decide_eq_false fun h=>by
   obtain⟨j,hj⟩:=List.getElem?_of_mem h
   exact hinv j c (List.getElem?_eq_some_iff.1 hj).1 hj rfl
  refine Wk ?_
  exact resP.mk rfl (Sees.bool hno.symm)
end
section
variable (L:World→Prop)
end
section
variable (L:World→Prop)
theorem c_IndexCl (l:List Cell)(x:Cell)(hl:l.length≤281474976710656):PCall Tryz.prog L 172 [.sl false (l.map Cell.av),Cell.av x] (.int .i64 (idxF (fun y=>decide (x=y)) l)):=by
 refine PCall.intro mixed [] (nt:=19) Tryz.func172 rfl rfl (by simp) ?_
 refine Wk ?_
 refine LoopK.run mixed [] (fun (k:Nat)=>k≤l.length∧∀j y,j < k→l[j]? = some y→decide (x=y)=false) (fun k=>[(0,.sl false (l.map Cell.av)),(3,.ptr 0 0),(7,.int .i64 l.length),(8,.int .i64 k)]) (fun k=>⟨[.cells [.int .i64 x.slot,.int .i64 x.off,.int .i64 x.src,.int .i64 x.dst,.int .i64 x.flow] 52],[],0,0,fun _=>0⟩) (fun k=>l.length-k) 0 ⟨by simp,by simp⟩ ?_ ?_
 ·refine fN ?_<;>repeat' (first|exact fQ|refine And.intro ?_ ?_|exact Sees.int (by simp)|exact SeesL.rfl' _)
 rintro k ⟨hk,hinv⟩
 refine Wk ?_
 refine BrK.mk (fun hb=>?_) (fun hb=>?_)<;>try rw[hb]
 ·have hlt:k < l.length:=by simpa using hb
  obtain⟨y,hgx⟩:=getLt hlt
  have hmx:=getMap (f:=Cell.av) hgx
  repeat((conv=>whnf);first|refine sJ ?_|refine aI (by first|exact inbMap hlt|kernel_rfl) ?_|rw[hmx])
  try(conv=>whnf)
  have hdec:(x.slot==y.slot&&(x.off==y.off&&(x.src==y.src&&(x.dst==y.dst&&(x.flow==y.flow&&true)))))=decide (x=y):=by
   rw[Bool.eq_iff_iff]
   simp only[Bool.and_eq_true,beq_iff_eq,and_true,decide_eq_true_eq]
   constructor
   ·rintro⟨h1,h2,h3,h4,h5⟩
    cases x;cases y
    simp only at h1 h2 h3 h4 h5
    subst h1;subst h2;subst h3;subst h4;subst h5;rfl
   ·rintro rfl;exact⟨rfl,rfl,rfl,rfl,rfl⟩
  refine BrK.mk (fun h2=>?_) (fun h2=>?_)<;>(try rw[h2])
  ·have h2':decide (x=y)=true:=by rw[←hdec];exact h2
   refine Wk ?_
   exact resP.mk rfl (Sees.int (idxF_some hlt hinv hgx h2').symm)
  ·have h2':decide (x=y)=false:=by rw[←hdec];exact h2
   refine Wk ?_
   refine⟨k+1,⟨by omega,fun j z hj hz=>?_⟩,by omega,?_⟩
   ·rcases Nat.lt_succ_iff_lt_or_eq.1 hj with h|rfl
    ·exact hinv j z h hz
    ·rw[hgx]at hz;injection hz with hz;subst hz;exact h2'
   ·refine fN ?_<;>repeat' (first|exact fQ|refine And.intro ?_ ?_|exact Sees.int (succI hlt hl)|exact SeesL.rfl' _)
 ·have hk':k=l.length:=by simp at hb;omega
  subst hk'
  refine Wk ?_
  exact resP.mk rfl (Sees.int (idxF_none hinv).symm)
theorem c_ContainsCl (l:List Cell)(x:Cell)(hl:l.length≤281474976710656):PCall Tryz.prog L 109 [.sl false (l.map Cell.av),Cell.av x] (.bool (decide (x∈l))):=by
 refine PCall.intro mixed [] (nt:=9) Tryz.func109 rfl rfl (by simp) ?_
 refine Wk ?_
 refine cD (c_IndexCl L l x hl) ?_
 refine Wk ?_
 exact resP.mk rfl (Sees.bool (by rw[idxF_any,List.any_eq,←decide_eq_decide.2 (show(∃y,y∈l∧decide (x=y)=true)↔x∈l by simp)]))
end
section
variable (L:World→Prop)
def onlyL (a b:Sched):List Cell:=a.cells.filter fun c=>!decide (c∈b.cells)
theorem c_only1 (c:Cell)(b:Sched)(hb:b.cells.length≤281474976710656):PCall Tryz.prog L 108 [c.av,.cptr b.av 0] (.bool (decide (c∈b.cells))):=by
 refine PCall.intro mixed [] (nt:=8) Tryz.func108 rfl rfl (by simp) ?_
 refine Wk ?_
 refine cD (c_ContainsCl L b.cells c hb) ?_
 refine Wk ?_
 exact resP.mk rfl (Sees.bool rfl)
theorem c_only (a b:Sched)(ha:a.cells.length≤1048576)(hb:b.cells.length≤281474976710656):PCall Tryz.prog L 65 [a.av,b.av] (encCells (onlyL a b)):=by
 refine PCall.intro mixed [] (nt:=10) Tryz.func65 rfl rfl (by simp) ?_
 by_cases hne:a.cells=[]
 ·obtain⟨len,offs,cells⟩:=a
  simp only at hne
  subst hne
  refine Wk ?_
  refine cD (c_Clone0Cell L) ?_
  refine Wk ?_
  refine CallK.inl rfl (ICall.intro mixed [] (nt:=42) Tryz.func98 rfl rfl (by simp) ?_)
  refine Wk ?_
  refine CallK.box rfl (c_IndexFuncCell L [] (fun c=>decide (c∈b.cells)) 108 [.cptr b.av 0] (by simp) rfl rfl (fun c _=>c_only1 L c b hb)) (fz2 rfl (fzf1 rfl)) rfl ?_
  refine Wk ?_
  exact resP.mk rfl (Sees.of_eq rfl)
 ·refine Wk ?_
  refine CallK.fresh rfl (c_CloneCell L a.cells hne (by omega)) (by rfl) (cellOk.els _) (cellOk.scal (fun _=>rfl) _) (fun h=>absurd (by simpa using h) hne) (fun d=>?_)
  refine Wk ?_
  rw[List.length_map]
  refine CallK.inl rfl (i_DeleteCell L _ _ _ _ _ a.cells (fun c=>decide (c∈b.cells)) _ [.ptr 1 0] [.cptr b.av 0] d (by omega) rfl rfl ⟨?_,?_,?_⟩ (fun _ _ _ _=>rfl) (fun c _=>c_only1 L c b hb) fun ex=>?_)
  ·exact⟨trivial,trivial,fzs_okk (es:=[encCells a.cells]) rfl⟩
  ·exact⟨trivial,trivial,fzs_okk (es:=[encCells b.cells]) rfl⟩
  ·exact⟨(by decide:1 < 3),trivial⟩
  refine Wk ?_
  exact⟨_,cellOk.fzb rfl rfl,Sees.of_eq rfl⟩
theorem c_Differ (a b:Sched)(ha:a.cells.length≤1048576)(hb:b.cells.length≤1048576)(h1:formB a=true)(h2:formB b=true)(h3:b.len=a.len)(h4:b.offs=a.offs):PCall Tryz.prog L 32 [a.av,b.av] (.tup [encCells (onlyL a b),encCells (onlyL b a),.int .i64 0]):=by
 have e1:(a.len != b.len)=false:=by rw[h3];simp
 have e2:(a.offs != b.offs)=false:=by rw[h4];simp
 refine PCall.intro mixed [] (nt:=33) Tryz.func32 rfl rfl (by simp) ?_
 refine Wk ?_
 refine cD (c_form L a) ?_
 rw[h1]
 refine Wk ?_
 refine cD (c_form L b) ?_
 rw[h2]
 repeat((conv=>whnf);first|refine sT ?_|rw[e1]|rw[e2])
 try(conv=>whnf)
 refine cD (c_only L a b ha (by omega)) ?_
 refine Wk ?_
 refine cD (c_only L b a hb (by omega)) ?_
 refine Wk ?_
 exact resP.mk rfl (Sees.of_eq rfl)
end
section
variable (L:World→Prop)
def difM (a b:Sched):List Cell×List Cell:=if (stepsM a b).2=0 then(onlyD a b,onlyD b a) else([],[])
theorem c_DifferG (a b:Sched)(ha:a.cells.length≤1048576)(hb:b.cells.length≤1048576):PCall Tryz.prog L 32 [a.av,b.av] (.tup [encCells (difM a b).1,encCells (difM a b).2,.int .i64 (stepsM a b).2]):=by
 cases h1:formB a with
 | false=>
  refine PCall.intro mixed [] (nt:=33) Tryz.func32 rfl rfl (by simp) ?_
  refine Wk ?_
  refine cD (c_form L a) ?_
  rw[h1]
  refine Wk ?_
  have hm:stepsM a b=([],1):=by unfold stepsM;rw[if_pos (.inl h1)]
  exact resP.mk rfl (Sees.of_eq (by unfold difM;rw[hm];rfl))
 | true=>
 cases h2:formB b with
 | false=>
  refine PCall.intro mixed [] (nt:=33) Tryz.func32 rfl rfl (by simp) ?_
  refine Wk ?_
  refine cD (c_form L a) ?_
  rw[h1]
  refine Wk ?_
  refine cD (c_form L b) ?_
  rw[h2]
  refine Wk ?_
  have hm:stepsM a b=([],1):=by unfold stepsM;rw[if_pos (.inr h2)]
  exact resP.mk rfl (Sees.of_eq (by unfold difM;rw[hm];rfl))
 | true=>
 by_cases e:a.len≠b.len∨a.offs≠b.offs
 ·have hm:stepsM a b=([],11):=by unfold stepsM;rw[if_neg (by simp[h1,h2]),if_pos e]
  cases e1:(a.len != b.len) with
  | true=>
   refine PCall.intro mixed [] (nt:=33) Tryz.func32 rfl rfl (by simp) ?_
   refine Wk ?_
   refine cD (c_form L a) ?_
   rw[h1]
   refine Wk ?_
   refine cD (c_form L b) ?_
   rw[h2]
   repeat((conv=>whnf);first|refine sT ?_|rw[e1])
   try(conv=>whnf)
   exact resP.mk rfl (Sees.of_eq (by unfold difM;rw[hm];rfl))
  | false=>
  have e2:(a.offs != b.offs)=true:=by
   simp only[bne_eq_false_iff_eq]at e1
   rcases e with e|e
   ·exact absurd e1 e
   ·simpa using e
  refine PCall.intro mixed [] (nt:=33) Tryz.func32 rfl rfl (by simp) ?_
  refine Wk ?_
  refine cD (c_form L a) ?_
  rw[h1]
  refine Wk ?_
  refine cD (c_form L b) ?_
  rw[h2]
  repeat((conv=>whnf);first|refine sT ?_|rw[e1]|rw[e2])
  try(conv=>whnf)
  exact resP.mk rfl (Sees.of_eq (by unfold difM;rw[hm];rfl))
 ·have hm:(stepsM a b).2=0:=by unfold stepsM;rw[if_neg (by simp[h1,h2]),if_neg e]
  simp only[not_or,ne_eq,Decidable.not_not]at e
  rw[hm,show difM a b=(onlyL a b,onlyL b a) from if_pos hm]
  exact c_Differ L a b ha hb h1 h2 e.1.symm e.2.symm
theorem onlyD_le (a b:Sched):(onlyD a b).length≤a.cells.length:=List.length_filter_le _ _
theorem c_StepsO (s t:Sched)(hs:s.cells.length≤1048576)(ht:t.cells.length≤1048576):PCall Tryz.prog L 11 [s.av,t.av] (.tup [encChgs (stepsM s t).1,.int .i64 (stepsM s t).2]):=by
 refine PCall.intro mixed [] (nt:=49) Tryz.func11 rfl rfl (by simp) ?_
 have hd:=c_DifferG L s t hs ht
 by_cases h:(stepsM s t).2=0
 rotate_left
 ·have g:((stepsM s t).2 != 0)=true:=by simpa using h
  have hm:(stepsM s t).1=[]:=by
   unfold stepsM at h ⊢
   split
   ·rfl
   split
   ·rfl
   ·rename_i h1 h2;rw[if_neg h1,if_neg h2]at h;exact absurd rfl h
  refine Wk ?_
  refine cD (hd) ?_
  repeat((conv=>whnf);first|refine sT ?_|rw[g])
  try(conv=>whnf)
  rw[hm]
  exact resP.mk rfl (Sees.of_eq rfl)
 have g:((stepsM s t).2 != 0)=false:=by simpa using h
 have hm:=(stepsM_ok h).2.2.2.2
 rw[show difM s t=(onlyD s t,onlyD t s) from if_pos h]at hd
 have hl1:=onlyD_le t s
 have hl2:=onlyD_le s t
 refine Wk ?_
 refine cD (hd) ?_
 repeat((conv=>whnf);first|refine sT ?_|rw[g])
 try(conv=>whnf)
 rw[hm]
 unfold stepsL
 obtain⟨a,ha⟩:∃a,a=onlyD t s:=⟨_,rfl⟩
 obtain⟨b,hb⟩:∃b,b=onlyD s t:=⟨_,rfl⟩
 rw[←ha]at hl1
 rw[←hb]at hl2
 rw[←ha,←hb]
 repeat((conv=>whnf);first|refine sT ?_ )
 try(conv=>whnf)
 refine LoopK.born 9 7 54 rfl ?_
 refine LoopK.run mixed [] (fun (k:Nat)=>k≤a.length) (fun k=>[(6,encCells b),(9,.own (((a.take k).map fun c=>(⟨0,true,c⟩:Chg)).map Chg.av) 0),(24,encCells a),(25,.int .i64 a.length),(26,.int .i64 k)]) (fun k=>⟨[],[(k,7)],0,0,fun c=>if c=0 then 54 else 0⟩) (fun k=>a.length-k) 0 (by omega) ?_ ?_
 ·refine fN ?_<;>repeat' (first|exact fQ|refine And.intro ?_ ?_|exact Sees.int (by simp))
 rintro k hk
 by_cases hkl:k < a.length
 ·obtain⟨x,hgx⟩:=getLt hkl
  have hmx:=getMap (f:=Cell.av) hgx
  have gk:decide ((k:Int) < (a.length:Int))=true:=decide_eq_true (by omega)
  have htl:(((a.take k).map fun c=>(⟨0,true,c⟩:Chg)).map Chg.av).length=k:=by rw[List.length_map,List.length_map,List.length_take];omega
  repeat((conv=>whnf);first|refine sJ ?_|refine aI (by first|exact trivial|exact inbMap hkl|exact Els.map (f:=Chg.av) (fun _=>⟨rfl,rfl⟩)|exact(show _*56≤_ by simp only[List.length_map,List.length_cons,List.length_nil,List.length_take];omega)|exact(by simp only[List.length_map,List.length_cons,List.length_nil,List.length_take,maxLen];omega)|exact(show some (_,_)=some (_,_) by rw[htl])|kernel_rfl) ?_|rw[gk]|rw[hmx])
  try(conv=>whnf)
  refine⟨k+1,by omega,by omega,?_⟩
  rw[take_succ hgx]
  refine fN ?_<;>repeat' (first|exact fQ|refine And.intro ?_ ?_|exact Sees.int (succI hkl (by omega))|exact Sees.own (by simp;rfl)|(show(_,_)=(_,_);exact Prod.ext (by dsimp only;rw[List.length_append,htl];rfl) rfl))
 have hke:k=a.length:=by omega
 subst hke
 have gk:decide ((a.length:Int) < (a.length:Int))=false:=decide_eq_false (by omega)
 rw[List.take_length]
 repeat((conv=>whnf);first|refine sT ?_|rw[gk])
 try(conv=>whnf)
 refine LoopK.run mixed [] (fun j:Nat=>j≤b.length) (fun j=>[(9,.own (((a.map fun c=>(⟨0,true,c⟩:Chg))++(b.take j).map fun c=>(⟨0,false,c⟩:Chg)).map Chg.av) 0),(36,encCells b),(37,.int .i64 b.length),(38,.int .i64 j)]) (fun j=>⟨[],[(a.length+j,7)],0,0,fun c=>if c=0 then 54 else 0⟩) (fun j=>b.length-j) 0 (by omega) ?_ ?_
 ·refine fN ?_<;>repeat' (first|exact fQ|refine And.intro ?_ ?_|exact Sees.int (by simp)|exact Sees.own (by simp))
 rintro j hj
 by_cases hjl:j < b.length
 ·obtain⟨x,hgx⟩:=getLt hjl
  have hmx:=getMap (f:=Cell.av) hgx
  have gj:decide ((j:Int) < (b.length:Int))=true:=decide_eq_true (by omega)
  have htl:(((a.map fun c=>(⟨0,true,c⟩:Chg))++(b.take j).map fun c=>(⟨0,false,c⟩:Chg)).map Chg.av).length=a.length+j:=by rw[List.length_map,List.length_append,List.length_map,List.length_map,List.length_take];omega
  repeat((conv=>whnf);first|refine sJ ?_|refine aI (by first|exact trivial|exact inbMap hjl|exact Els.map (f:=Chg.av) (fun _=>⟨rfl,rfl⟩)|exact(show _*56≤_ by simp only[List.length_map,List.length_append,List.length_cons,List.length_nil,List.length_take];omega)|exact(by simp only[List.length_map,List.length_append,List.length_cons,List.length_nil,List.length_take,maxLen];omega)|exact(show some (_,_)=some (_,_) by rw[htl])|kernel_rfl) ?_|rw[gj]|rw[hmx])
  try(conv=>whnf)
  refine⟨j+1,by omega,by omega,?_⟩
  rw[take_succ hgx]
  refine fN ?_<;>repeat' (first|exact fQ|refine And.intro ?_ ?_|exact Sees.int (succI hjl (by omega))|exact Sees.own (by simp;rfl)|(show(_,_)=(_,_);exact Prod.ext (by dsimp only;rw[List.length_append,htl];rfl) rfl))
 have hje:j=b.length:=by omega
 subst hje
 have gj:decide ((b.length:Int) < (b.length:Int))=false:=decide_eq_false (by omega)
 rw[List.take_length]
 repeat((conv=>whnf);first|refine sT ?_|rw[gj])
 try(conv=>whnf)
 exact resP.mk rfl (Sees.of_eq rfl)
end
section
variable (L:World→Prop)
def onlyK (a b:Sched)(k:Nat):List Cell:=(a.cells.take k).filter fun c=>!decide (c∈b.cells)
theorem onlyK_len (a b:Sched)(k:Nat):(onlyK a b k).length≤a.cells.length:=Nat.le_trans (List.length_filter_le _ _) (by rw[List.length_take];omega)
theorem c_only35 (a b:Sched)(ha:a.cells.length≤1048576)(hb:b.cells.length≤1048576):PCall Tryz.prog L 67 [a.av,b.av] (encCells (onlyD a b)):=by
 refine PCall.intro mixed [] (nt:=32) Tryz.func67 rfl rfl (by simp) ?_
 refine Wk ?_
 refine LoopK.run mixed [] (fun k:Nat=>k≤a.cells.length) (fun k=>[(2,.ptr 0 0),(3,.ptr 1 0),(5,.own ((onlyK a b k).map Cell.av) 0),(6,.int .i64 k)]) (fun k=>⟨[.cells a.av.cells 24,.cells b.av.cells 24],[((onlyK a b k).length,5)],0,0,fun c=>if c=0 then 52 else 0⟩) (fun k=>a.cells.length-k) 0 (by omega) ?_ ?_
 ·refine fN ?_<;>repeat' (first|exact fQ|refine And.intro ?_ ?_|exact SeesL.rfl' _)
 rintro k hk
 by_cases hkl:k < a.cells.length
 rotate_left
 ·have hke:k=a.cells.length:=by omega
  subst hke
  have gk:decide ((a.cells.length:Int) < ((a.cells.map Cell.av).length:Int))=false:=decide_eq_false (by rw[List.length_map];omega)
  repeat((conv=>whnf);first|refine sT ?_|rw[gk])
  try(conv=>whnf)
  exact resP.mk rfl (Sees.of_eq (by rw[show onlyK a b a.cells.length=onlyD a b from by unfold onlyK onlyD;rw[List.take_length]<;>rfl];rfl))
 obtain⟨x,hgx⟩:=getLt hkl
 have hmx:=getMap (f:=Cell.av) hgx
 have gk:decide ((k:Int) < ((a.cells.map Cell.av).length:Int))=true:=decide_eq_true (by rw[List.length_map];omega)
 have hon:onlyK a b (k+1)=onlyK a b k++if x∈b.cells then [] else [x]:=by
  unfold onlyK
  rw[take_succ hgx,List.filter_append]
  congr 1
  by_cases e:x∈b.cells<;>simp[e]
 have hol:=onlyK_len a b k
 repeat((conv=>whnf);first|refine sJ ?_|refine aI (by first|exact trivial|exact inbMap hkl|kernel_rfl) ?_|rw[gk]|rw[hmx])
 try(conv=>whnf)
 refine cD (c_Has35 L b x (by omega)) ?_
 by_cases e:x∈b.cells
 ·rw[decide_eq_true e]
  rw[if_pos e,List.append_nil]at hon
  repeat((conv=>whnf);first|refine sJ ?_|refine aI (by first|exact trivial|exact inbMap hkl|kernel_rfl) ?_ )
  try(conv=>whnf)
  refine⟨k+1,by omega,by omega,?_⟩
  rw[hon]
  refine fN ?_<;>repeat' (first|exact fQ|refine And.intro ?_ ?_|exact SeesL.rfl' _|exact Sees.int (succI hkl (by omega)))
 ·rw[decide_eq_false e]
  rw[if_neg e]at hon
  repeat((conv=>whnf);first|refine sJ ?_|refine aI (by first|exact trivial|exact inbMap hkl|exact Els.map (f:=Cell.av) (fun _=>⟨rfl,rfl⟩)|exact(show _*40≤_ by simp only[List.length_map,List.length_cons,List.length_nil];omega)|exact(by simp only[List.length_map,List.length_cons,List.length_nil,maxLen];omega)|exact(show some (_,_)=some (_,_) by rw[List.length_map])|kernel_rfl) ?_|rw[hmx])
  try(conv=>whnf)
  refine⟨k+1,by omega,by omega,?_⟩
  rw[hon]
  refine fN ?_<;>repeat' (first|exact fQ|refine And.intro ?_ ?_|exact SeesL.rfl' _|exact Sees.int (succI hkl (by omega))|exact Sees.own (by simp;rfl)|(show(_,_)=(_,_);simp only[List.length_append,List.length_map,List.length_cons,List.length_nil]))
theorem c_Differ35 (a b:Sched)(ha:a.cells.length≤1048576)(hb:b.cells.length≤1048576):PCall Tryz.prog L 33 [a.av,b.av] (.tup [encCells (difM a b).1,encCells (difM a b).2,.int .i64 (stepsM a b).2]):=by
 cases h1:formB a with
 | false=>
  have hm:stepsM a b=([],1):=by unfold stepsM;rw[if_pos (.inl h1)]
  refine PCall.intro mixed [] (nt:=33) Tryz.func33 rfl rfl (by simp) ?_
  refine Wk ?_
  refine cD (c_Formed L a) ?_
  rw[h1]
  refine Wk ?_
  exact resP.mk rfl (Sees.of_eq (by unfold difM;rw[hm];rfl))
 | true=>
 cases h2:formB b with
 | false=>
  have hm:stepsM a b=([],1):=by unfold stepsM;rw[if_pos (.inr h2)]
  refine PCall.intro mixed [] (nt:=33) Tryz.func33 rfl rfl (by simp) ?_
  refine Wk ?_
  refine cD (c_Formed L a) ?_
  rw[h1]
  refine Wk ?_
  refine cD (c_Formed L b) ?_
  rw[h2]
  refine Wk ?_
  exact resP.mk rfl (Sees.of_eq (by unfold difM;rw[hm];rfl))
 | true=>
 by_cases e:a.len≠b.len∨a.offs≠b.offs
 ·have hm:stepsM a b=([],11):=by unfold stepsM;rw[if_neg (by simp[h1,h2]),if_pos e]
  cases e1:(a.len != b.len) with
  | true=>
   refine PCall.intro mixed [] (nt:=33) Tryz.func33 rfl rfl (by simp) ?_
   refine Wk ?_
   refine cD (c_Formed L a) ?_
   rw[h1]
   refine Wk ?_
   refine cD (c_Formed L b) ?_
   rw[h2]
   repeat((conv=>whnf);first|refine sT ?_|rw[e1])
   try(conv=>whnf)
   exact resP.mk rfl (Sees.of_eq (by unfold difM;rw[hm];rfl))
  | false=>
  have e2:(a.offs != b.offs)=true:=by
   simp only[bne_eq_false_iff_eq]at e1
   rcases e with e|e
   ·exact absurd e1 e
   ·simpa using e
  refine PCall.intro mixed [] (nt:=33) Tryz.func33 rfl rfl (by simp) ?_
  refine Wk ?_
  refine cD (c_Formed L a) ?_
  rw[h1]
  refine Wk ?_
  refine cD (c_Formed L b) ?_
  rw[h2]
  repeat((conv=>whnf);first|refine sT ?_|rw[e1]|rw[e2])
  try(conv=>whnf)
  exact resP.mk rfl (Sees.of_eq (by unfold difM;rw[hm];rfl))
 ·have hm:(stepsM a b).2=0:=by unfold stepsM;rw[if_neg (by simp[h1,h2]),if_neg e]
  simp only[not_or,ne_eq,Decidable.not_not]at e
  rw[hm,show difM a b=(onlyD a b,onlyD b a) from if_pos hm]
  have e1:(a.len != b.len)=false:=by rw[e.1];simp
  have e2:(a.offs != b.offs)=false:=by rw[e.2];simp
  refine PCall.intro mixed [] (nt:=33) Tryz.func33 rfl rfl (by simp) ?_
  refine Wk ?_
  refine cD (c_Formed L a) ?_
  rw[h1]
  refine Wk ?_
  refine cD (c_Formed L b) ?_
  rw[h2]
  repeat((conv=>whnf);first|refine sT ?_|rw[e1]|rw[e2])
  try(conv=>whnf)
  refine cD (c_only35 L a b ha hb) ?_
  repeat((conv=>whnf);first|refine sT ?_ )
  try(conv=>whnf)
  refine cD (c_only35 L b a hb ha) ?_
  repeat((conv=>whnf);first|refine sT ?_ )
  try(conv=>whnf)
  exact resP.mk rfl (Sees.of_eq rfl)
theorem c_Steps43 (s t:Sched)(hs:s.cells.length≤1048576)(ht:t.cells.length≤1048576):PCall Tryz.prog L 12 [s.av,t.av] (.tup [encChgs (stepsM s t).1,.int .i64 (stepsM s t).2]):=by
 refine PCall.intro mixed [] (nt:=52) Tryz.func12 rfl rfl (by simp) ?_
 have hd:=c_Differ35 L s t hs ht
 by_cases h:(stepsM s t).2=0
 rotate_left
 ·have g:((stepsM s t).2 != 0)=true:=by simpa using h
  have hm:(stepsM s t).1=[]:=by
   unfold stepsM at h ⊢
   split
   ·rfl
   split
   ·rfl
   ·rename_i h1 h2;rw[if_neg h1,if_neg h2]at h;exact absurd rfl h
  refine Wk ?_
  refine cD (hd) ?_
  repeat((conv=>whnf);first|refine sT ?_|rw[g])
  try(conv=>whnf)
  rw[hm]
  exact resP.mk rfl (Sees.of_eq rfl)
 have g:((stepsM s t).2 != 0)=false:=by simpa using h
 have hm:=(stepsM_ok h).2.2.2.2
 rw[show difM s t=(onlyD s t,onlyD t s) from if_pos h]at hd
 have hl1:=onlyD_le t s
 have hl2:=onlyD_le s t
 refine Wk ?_
 refine cD (hd) ?_
 repeat((conv=>whnf);first|refine sT ?_|rw[g])
 try(conv=>whnf)
 rw[hm]
 unfold stepsL
 obtain⟨a,ha⟩:∃a,a=onlyD t s:=⟨_,rfl⟩
 obtain⟨b,hb⟩:∃b,b=onlyD s t:=⟨_,rfl⟩
 rw[←ha]at hl1
 rw[←hb]at hl2
 rw[←ha,←hb]
 repeat((conv=>whnf);first|refine sT ?_ )
 try(conv=>whnf)
 refine LoopK.run mixed [] (fun (k:Nat)=>k≤a.length) (fun k=>[(6,encCells b),(7,encCells a),(9,.own (((a.take k).map fun c=>(⟨0,true,c⟩:Chg)).map Chg.av) 0),(10,.int .i64 k)]) (fun k=>⟨[],[(k,7)],0,0,fun c=>if c=0 then 54 else 0⟩) (fun k=>a.length-k) 0 (by omega) ?_ ?_
 ·refine fN ?_<;>repeat' (first|exact fQ|refine And.intro ?_ ?_ )
 rintro k hk
 by_cases hkl:k < a.length
 ·obtain⟨x,hgx⟩:=getLt hkl
  have hmx:=getMap (f:=Cell.av) hgx
  have gk:decide ((k:Int) < ((a.map Cell.av).length:Int))=true:=decide_eq_true (by rw[List.length_map];omega)
  have htl:(((a.take k).map fun c=>(⟨0,true,c⟩:Chg)).map Chg.av).length=k:=by rw[List.length_map,List.length_map,List.length_take];omega
  repeat((conv=>whnf);first|refine sJ ?_|refine aI (by first|exact trivial|exact inbMap hkl|exact Els.map (f:=Chg.av) (fun _=>⟨rfl,rfl⟩)|exact(show _*56≤_ by simp only[List.length_map,List.length_cons,List.length_nil,List.length_take];omega)|exact(by simp only[List.length_map,List.length_cons,List.length_nil,List.length_take,maxLen];omega)|exact(show some (_,_)=some (_,_) by rw[htl])|kernel_rfl) ?_|rw[gk]|rw[hmx])
  try(conv=>whnf)
  refine⟨k+1,by omega,by omega,?_⟩
  rw[take_succ hgx]
  refine fN ?_<;>repeat' (first|exact fQ|refine And.intro ?_ ?_|exact Sees.int (succI hkl (by omega))|exact Sees.own (by simp;rfl)|(show(_,_)=(_,_);exact Prod.ext (by dsimp only;rw[List.length_append,htl];rfl) rfl))
 have hke:k=a.length:=by omega
 subst hke
 have gk:decide ((a.length:Int) < ((a.map Cell.av).length:Int))=false:=decide_eq_false (by rw[List.length_map];omega)
 rw[List.take_length]
 repeat((conv=>whnf);first|refine sT ?_|rw[gk])
 try(conv=>whnf)
 refine LoopK.run mixed [] (fun j:Nat=>j≤b.length) (fun j=>[(6,encCells b),(9,.own (((a.map fun c=>(⟨0,true,c⟩:Chg))++(b.take j).map fun c=>(⟨0,false,c⟩:Chg)).map Chg.av) 0),(11,.int .i64 j)]) (fun j=>⟨[],[(a.length+j,7)],0,0,fun c=>if c=0 then 54 else 0⟩) (fun j=>b.length-j) 0 (by omega) ?_ ?_
 ·refine fN ?_<;>repeat' (first|exact fQ|refine And.intro ?_ ?_|exact Sees.own (by simp))
 rintro k hj
 by_cases hjl:k < b.length
 ·obtain⟨x,hgx⟩:=getLt hjl
  have hmx:=getMap (f:=Cell.av) hgx
  have gk:decide ((k:Int) < ((b.map Cell.av).length:Int))=true:=decide_eq_true (by rw[List.length_map];omega)
  have htl:(((a.map fun c=>(⟨0,true,c⟩:Chg))++(b.take k).map fun c=>(⟨0,false,c⟩:Chg)).map Chg.av).length=a.length+k:=by rw[List.length_map,List.length_append,List.length_map,List.length_map,List.length_take];omega
  repeat((conv=>whnf);first|refine sJ ?_|refine aI (by first|exact trivial|exact inbMap hjl|exact Els.map (f:=Chg.av) (fun _=>⟨rfl,rfl⟩)|exact(show _*56≤_ by simp only[List.length_map,List.length_append,List.length_cons,List.length_nil,List.length_take];omega)|exact(by simp only[List.length_map,List.length_append,List.length_cons,List.length_nil,List.length_take,maxLen];omega)|exact(show some (_,_)=some (_,_) by rw[htl])|kernel_rfl) ?_|rw[gk]|rw[hmx])
  try(conv=>whnf)
  refine⟨k+1,by omega,by omega,?_⟩
  rw[take_succ hgx]
  refine fN ?_<;>repeat' (first|exact fQ|refine And.intro ?_ ?_|exact Sees.int (succI hjl (by omega))|exact Sees.own (by simp;rfl)|(show(_,_)=(_,_);exact Prod.ext (by dsimp only;rw[List.length_append,htl];rfl) rfl))
 have hje:k=b.length:=by omega
 subst hje
 have gk:decide ((b.length:Int) < ((b.map Cell.av).length:Int))=false:=decide_eq_false (by rw[List.length_map];omega)
 rw[List.take_length]
 repeat((conv=>whnf);first|refine sT ?_|rw[gk])
 try(conv=>whnf)
 exact resP.mk rfl (Sees.of_eq rfl)
end
end HM
