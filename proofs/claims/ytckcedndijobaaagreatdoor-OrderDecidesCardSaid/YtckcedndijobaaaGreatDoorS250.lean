/- A run without frames: the faults of changes. -/
import Derived.Test.YtckcedndijobaaaGreatDoorS72
import Derived.Test.YtckcedndijobaaaGreatDoorS34
import Derived.Test.YtckcedndijobaaaGreatDoorDb
import Derived.Test.YtckcedndijobaaaGreatDoorDd
import Derived.Test.YtckcedndijobaaaGreatDoorFh
import Derived.Test.YtckcedndijobaaaGreatDoorS251
import Derived.Test.YtckcedndijobaaaGreatDoorS114
import Derived.Test.YtckcedndijobaaaGreatDoorS6
import Derived.Test.YtckcedndijobaaaGreatDoorSh
import Derived.Shelf.Small.Wraps
set_option maxHeartbeats 64000000
set_option maxRecDepth 100000
namespace HM
open Go Go.RowKit Go.Proofs
theorem SeqK.cutNT {P:Program}{L:World→Prop}{nt:Nat}(hm:P.follows .mixedOrders=true)(ct:List Nat){c d:Code}{a:Nat→AV}{S:St}{Q:Exit→(Nat→AV)→St→Prop}{σ:Type}(I:σ→St→Prop)(sl:σ→List (Nat×AV))
  (hc:twC P L nt ct c a S (seqQ (fun a' S'=>∃s,I s S'∧FitN a' (sl s)) Q)) (hd:∀s S,I s S→SemK P L nt d (ofL (sl s)) S Q):SeqK P L nt c d a S Q:=by
 refine⟨⟨fun w0 G act w hR=>?_⟩⟩
 refine wpIn_seq (Go.wpIn_mono ((twC_sound hm c a S _ hc).out w0 G act w hR) fun e a' w' ⟨G',a1,S',hR',hq⟩=>?_)
 cases e with
 | normal=>
  obtain⟨s,hI,hfit⟩:=hq
  exact(hd s S' hI).out w0 _ a' w' (hR'.slots hfit)
 | _=>exact⟨G',a1,S',hR',hq⟩
def chB (s:Sched):List Ob:=[.cells s.av.cells 24,.cells [.nils,.nils] 142]
theorem c_Change0 (l:List Flow)(s:Sched)(cs:List Chg)(x:List Rule)(slots:Int)(hl0:l=[])(hx0:x=[])(hs00:slots=0)(hl:l.length≤281474976710656)(hcs:cs.length≤281474976710656)(hx:∀r∈x,r.outs.length≤281474976710656)(hxl:x.length≤281474976710656) :
  PCall Tryz.prog LW 100 [encFlows l,s.av,encChgs cs,encScript x,.int .i64 slots] (.tup [(changeM l s cs x slots).1.av,.int .i64 (changeM l s cs x slots).2]):=by
 refine PCall.intro mixed [19,26] (nt:=105) Tryz.func100 rfl rfl (by simp) ?_
 repeat((conv=>whnf);first|refine sT ?_ )
 try(conv=>whnf)
 refine cD (c_ready l s x slots hl hx hxl) ?_
 repeat((conv=>whnf);first|refine sT ?_ )
 try(conv=>whnf)
 refine BrK.mk (fun h1=>?_) (fun h1=>?_)<;>(try rw[h1])
 ·have h1':readyM l s x slots≠0:=by simpa using h1
  have hpm:changeM l s cs x slots=(⟨[],[]⟩,readyM l s x slots):=by rw[changeM,if_pos h1']
  repeat((conv=>whnf);first|refine sT ?_ )
  try(conv=>whnf)
  rw[hpm]
  exact resP.mk rfl (Sees.of_eq rfl)
 have h1':readyM l s x slots=0:=by simpa using h1
 obtain⟨hfl,hform,hscr,hs0,hs1⟩:=ready_all h1'
 have hF:=flowsOk_of hfl
 repeat((conv=>whnf);first|refine sT ?_ )
 try(conv=>whnf)
 refine BrK.mk (fun h2=>?_) (fun h2=>?_)<;>(try rw[h2])
 ·have h2':1024 < cs.length:=by simp at h2;omega
  have hpm:changeM l s cs x slots=(⟨[],[]⟩,8):=by rw[changeM,if_neg (by simp[h1']),if_pos h2']
  repeat((conv=>whnf);first|refine sT ?_ )
  try(conv=>whnf)
  rw[hpm]
  exact resP.mk rfl (Sees.of_eq rfl)
 have h2':¬1024 < cs.length:=by simp at h2;omega
 repeat((conv=>whnf);first|refine sT ?_ )
 try(conv=>whnf)
 refine SeqK.cutNT mixed [26] (fun (bs:List Sched) S3=>behM none s cs=(bs,0)∧S3=⟨chB s,[((s :: bs).length,3)],0,0,fun k=>if k=0 then 24 else 0⟩) (fun bs=>[(0,encFlows l),(2,encChgs cs),(3,encScript x),(4,.int .i64 slots),(6,.ptr 0 0),(10,.ptr 1 0),(13,.own ((s :: bs).map Sched.av) 0)]) ?_ ?_
 ·repeat((conv=>whnf);first|refine sT ?_ )
  try(conv=>whnf)
  refine LoopK.run mixed [15] (fun q:Nat×List Sched=>BehI s cs q.1 q.2) (fun q=>[(0,encFlows l),(2,encChgs cs),(3,encScript x),(4,.int .i64 slots),(6,.ptr 0 0),(10,.ptr 1 0),(11,.int .i64 0),(13,.own ((s :: q.2).map Sched.av) 0),(35,encChgs cs),(36,.int .i64 cs.length),(37,.int .i64 q.1)]) (fun q=>⟨chB s,[((s :: q.2).length,3)],0,0,fun k=>if k=0 then 24 else 0⟩) (fun q=>cs.length-q.1) (0,[]) (BehI.zero s cs) ?_ ?_
  ·refine fN ?_<;>repeat' (first|exact fQ|refine And.intro ?_ ?_|exact SeesL.rfl' _|exact Sees.int (by simp))
  rintro⟨k,bs⟩ hB
  simp only at hB
  refine Wk ?_
  refine BrK.mk (fun hb=>?_) (fun hb=>?_)<;>try rw[hb]
  ·have hkt:k < cs.length:=by simpa using hb
   obtain⟨c,hgc⟩:=getLt hkt
   have hmc:=getMap (f:=Chg.av) hgc
   have hwk:IntKind.i64.wrap ((k:Int)+1)=((k+1:Nat):Int):=by rw[w64]<;>omega
   repeat((conv=>whnf);first|refine sJ ?_|refine aI (by first|exact inbMap hkt|kernel_rfl) ?_|rw[hmc])
   try(conv=>whnf)
   refine BrK.mk (fun hb2=>?_) (fun hb2=>?_)<;>(try rw[hb2])
   ·have hneg:c.slot < 0:=by simpa using hb2
    have he:=hB.err1 hgc (by rw[chgE_neg hneg];decide)
    rw[chgE_neg hneg]at he
    have hpm:changeM l s cs x slots=(⟨[],[]⟩,2):=by rw[changeM,if_neg (by simp[h1']),if_neg h2',if_pos (by rw[he];decide),he]
    repeat((conv=>whnf);first|refine sT ?_ )
    try(conv=>whnf)
    rw[hpm]
    exact resP.mk rfl (Sees.of_eq rfl)
   have hneg:¬c.slot < 0:=by simpa using hb2
   have hsound:∀e,chgE (prevS cs k) c=e→e≠0→changeM l s cs x slots=(⟨[],[]⟩,e):=fun e h3 h4=>by
    have he:=hB.err1 hgc (by rw[h3];exact h4)
    rw[h3]at he
    rw[changeM,if_neg (by simp[h1']),if_neg h2',if_pos (by rw[he];exact h4),he]
   repeat((conv=>whnf);first|refine sT ?_ )
   try(conv=>whnf)
   have hlast:=hB.last
   have hlb:=hB.len
   have hml:=getMap (f:=Sched.av) hlast
   have hkb:k < (s :: bs).length:=by rw[List.length_cons];omega
   refine BrK.mk (fun g1=>?_) (fun g1=>?_)<;>(try rw[g1])
   ·have hpos:0 < k:=by simpa using g1
    obtain⟨d,hgd⟩:=getLt (l:=cs) (k:=k-1) (by omega)
    have hmd:=getMap (f:=Chg.av) hgd
    have hw1:IntKind.i64.wrap ((k:Int)-1)=((k-1:Nat):Int):=by rw[w64]<;>omega
    have hce:=chgE_next (cs:=cs) (j:=k-1) hneg hgd
    rw[show k-1+1=k from by omega]at hce
    repeat((conv=>whnf);first|refine sJ ?_|refine aI (by first|exact inbMap hkt|(rw[hw1];exact inbMap (by omega:k-1 < cs.length))|kernel_rfl) ?_|rw[hw1]|rw[hmd])
    try(conv=>whnf)
    refine BrK.mk (fun g2=>?_) (fun g2=>?_)<;>(try rw[g2])
    ·have hpm:=hsound 5 (by rw[hce,if_pos (by simpa using g2)]) (by decide)
     repeat((conv=>whnf);first|refine sT ?_ )
     try(conv=>whnf)
     rw[hpm]
     exact resP.mk rfl (Sees.of_eq rfl)
    rw[if_neg (by simpa using g2)]at hce
    repeat((conv=>whnf);first|refine sT ?_ )
    try(conv=>whnf)
    refine SeqK.cutS mixed [] [(0,encFlows l),(2,encChgs cs),(3,encScript x),(4,.int .i64 slots),(6,.ptr 0 0),(10,.ptr 1 0),(11,.int .i64 0),(13,.own ((s :: bs).map Sched.av) 0),(16,.ptr 3 0),(17,.int .i64 (chgM (bs.getLastD s) c).2),(35,encChgs cs),(36,.int .i64 cs.length),(37,.int .i64 k)] ⟨chB s++[.cells c.av.cells 54,.cells (chgM (bs.getLastD s) c).1.av.cells 24],[((s :: bs).length,3)],0,0,fun k=>if k=0 then 24 else 0⟩ (SemK.regionMix mixed [0,1,2,3,4,5,6,7,8] 3 rfl rfl (by decide) rfl ?_) ?_
    ·repeat((conv=>whnf);first|refine sJ ?_|refine aI (by first|exact inbMap hkb|kernel_rfl) ?_|rw[hml])
     try(conv=>whnf)
     refine cD (c_changed LW (bs.getLastD s) c) ?_
     repeat((conv=>whnf);first|refine sT ?_ )
     try(conv=>whnf)
     repeat' ((conv=>whnf);first|exact trivial|refine sJ ?_|refine aI (by first|exact trivial|exact More.pre rfl rfl|kernel_rfl) ?_|refine And.intro ?_ ?_ )
     all_goals refine Fits.mk' rfl rfl rfl rfl ?_ ?_ ?_ ?_ ?_
     all_goals repeat' (first|exact trivial|refine And.intro ?_ ?_|exact Sees.of_eq rfl|exact lt_b rfl|rfl|exact SeesL.rfl' _)
    repeat((conv=>whnf);first|refine sT ?_ )
    try(conv=>whnf)
    refine BrK.mk (fun h3=>?_) (fun h3=>?_)<;>(try rw[h3])
    ·have hbe:=hB.err2 hgc hce (by simpa using h3)
     have hpm:changeM l s cs x slots=(⟨[],[]⟩,(chgM (bs.getLastD s) c).2):=by rw[changeM,if_neg (by simp[h1']),if_neg h2',if_pos (by rw[hbe];simpa using h3),hbe]
     repeat((conv=>whnf);first|refine sT ?_ )
     try(conv=>whnf)
     rw[hpm]
     exact resP.mk rfl (Sees.of_eq rfl)
    have hstep:=hB.step hgc hce (by simpa using h3)
    repeat((conv=>whnf);first|refine sJ ?_|refine aI (by first|exact Els.map (f:=Sched.av) (fun _=>⟨rfl,rfl⟩)|exact(show _*40≤_ by simp only[List.length_map,List.length_cons,List.length_nil];omega)|exact(by simp only[List.length_map,List.length_cons,List.length_nil,maxLen];omega)|exact(by rw[List.length_map];rfl)|kernel_rfl) ?_ )
    try(conv=>whnf)
    refine⟨(k+1,bs++[(chgM (bs.getLastD s) c).1]),hstep,by simp only;omega,?_⟩
    refine fN ?_<;>repeat' (first|exact fQ|refine And.intro ?_ ?_|exact SeesL.rfl' _|exact Sees.int hwk|exact Sees.own (by simp;rfl)|(show(_,_)=(_,_);simp only[List.length_append,List.length_map,List.length_cons,List.length_nil]))
   ·have hk0:k=0:=by simp at g1;omega
    have hce:chgE (prevS cs k) c=0:=by rw[hk0];exact chgE_first hneg
    repeat((conv=>whnf);first|refine sT ?_ )
    try(conv=>whnf)
    refine SeqK.cutS mixed [] [(0,encFlows l),(2,encChgs cs),(3,encScript x),(4,.int .i64 slots),(6,.ptr 0 0),(10,.ptr 1 0),(11,.int .i64 0),(13,.own ((s :: bs).map Sched.av) 0),(16,.ptr 3 0),(17,.int .i64 (chgM (bs.getLastD s) c).2),(35,encChgs cs),(36,.int .i64 cs.length),(37,.int .i64 k)] ⟨chB s++[.cells c.av.cells 54,.cells (chgM (bs.getLastD s) c).1.av.cells 24],[((s :: bs).length,3)],0,0,fun k=>if k=0 then 24 else 0⟩ (SemK.regionMix mixed [0,1,2,3,4,5,6,7,8] 3 rfl rfl (by decide) rfl ?_) ?_
    ·repeat((conv=>whnf);first|refine sJ ?_|refine aI (by first|exact inbMap hkb|kernel_rfl) ?_|rw[hml])
     try(conv=>whnf)
     refine cD (c_changed LW (bs.getLastD s) c) ?_
     repeat((conv=>whnf);first|refine sT ?_ )
     try(conv=>whnf)
     repeat' ((conv=>whnf);first|exact trivial|refine sJ ?_|refine aI (by first|exact trivial|exact More.pre rfl rfl|kernel_rfl) ?_|refine And.intro ?_ ?_ )
     all_goals refine Fits.mk' rfl rfl rfl rfl ?_ ?_ ?_ ?_ ?_
     all_goals repeat' (first|exact trivial|refine And.intro ?_ ?_|exact Sees.of_eq rfl|exact lt_b rfl|rfl|exact SeesL.rfl' _)
    repeat((conv=>whnf);first|refine sT ?_ )
    try(conv=>whnf)
    refine BrK.mk (fun h3=>?_) (fun h3=>?_)<;>(try rw[h3])
    ·have hbe:=hB.err2 hgc hce (by simpa using h3)
     have hpm:changeM l s cs x slots=(⟨[],[]⟩,(chgM (bs.getLastD s) c).2):=by rw[changeM,if_neg (by simp[h1']),if_neg h2',if_pos (by rw[hbe];simpa using h3),hbe]
     repeat((conv=>whnf);first|refine sT ?_ )
     try(conv=>whnf)
     rw[hpm]
     exact resP.mk rfl (Sees.of_eq rfl)
    have hstep:=hB.step hgc hce (by simpa using h3)
    repeat((conv=>whnf);first|refine sJ ?_|refine aI (by first|exact Els.map (f:=Sched.av) (fun _=>⟨rfl,rfl⟩)|exact(show _*40≤_ by simp only[List.length_map,List.length_cons,List.length_nil];omega)|exact(by simp only[List.length_map,List.length_cons,List.length_nil,maxLen];omega)|exact(by rw[List.length_map];rfl)|kernel_rfl) ?_ )
    try(conv=>whnf)
    refine⟨(k+1,bs++[(chgM (bs.getLastD s) c).1]),hstep,by simp only;omega,?_⟩
    refine fN ?_<;>repeat' (first|exact fQ|refine And.intro ?_ ?_|exact SeesL.rfl' _|exact Sees.int hwk|exact Sees.own (by simp;rfl)|(show(_,_)=(_,_);simp only[List.length_append,List.length_map,List.length_cons,List.length_nil]))
  ·have hk':k=cs.length:=by have:=hB.le;simp at hb;omega
   subst hk'
   refine Wk ?_
   exact⟨bs,⟨hB.fin,rfl⟩,Sees.of_eq rfl,Sees.of_eq rfl,Sees.of_eq rfl,Sees.of_eq rfl,Sees.of_eq rfl,Sees.of_eq rfl,Sees.of_eq rfl,trivial⟩
 rintro bs S0 ⟨hbeh,rfl⟩
 have hb2:(behM none s cs).2=0:=by rw[hbeh]
 have hb1:(behM none s cs).1=bs:=by rw[hbeh]
 have hpm:changeM l s cs x slots=(⟨[],[]⟩,0):=by
  rw[changeM,if_neg (by simp[h1']),if_neg h2',if_neg (by rw[hb2];decide)]
  subst hl0;subst hx0;subst hs00
  rfl
 rw[hpm]
 subst hl0;subst hx0;subst hs00
 refine twC_sound (ct:=[26]) mixed _ _ _ _ ?_
 repeat((conv=>whnf);first|refine sT ?_ )
 try(conv=>whnf)
 refine CallK.inl rfl (ICall.intro mixed [] (nt:=29) Tryz.func161 rfl rfl (by simp) ?_)
 repeat((conv=>whnf);first|refine sT ?_ )
 try(conv=>whnf)
 refine LoopK.runS mixed [] (fun (_:Unit) (S1:St)=>S1.bx[1]? = some (.cells [.nils,.nils] 142)∧S1.bx[3]? = some (.cells [.sl false [],.int .i64 s.len,.int .i64 s.offs,encCells s.cells,.sl false [],.nils,.nils,.nils] 204)) (fun _=>[(7,.ptr 3 0),(14,.int .i64 0),(15,.int .i64 0)]) (fun _=>0) () ⟨rfl,rfl⟩ ?_ ?_
 ·exact⟨Sees.of_eq rfl,Sees.of_eq rfl,Sees.of_eq rfl,trivial⟩
 rintro⟨⟩ S1 ⟨k1,k2⟩
 repeat((conv=>whnf);first|refine sT ?_ )
 try(conv=>whnf)
 refine SeqK.cutN mixed [] [] (fun (_:Unit) (S2:St)=>S2.bx[1]? = some (.cells [.nils,.nils] 142)∧S2.bx[3]? = some (.cells [.sl false [],.int .i64 s.len,.int .i64 s.offs,encCells s.cells,.sl false [],.nils,.nils,.nils] 204)) (fun _=>[(10,.ptr 1 0),(18,.ptr 3 0)]) ?_ ?_
 ·repeat((conv=>whnf);first|refine sT ?_ )
  try(conv=>whnf)
  refine LoopK.runS mixed [] (fun (_:Unit) (S2:St)=>S2.bx[1]? = some (.cells [.nils,.nils] 142)∧S2.bx[3]? = some (.cells [.sl false [],.int .i64 s.len,.int .i64 s.offs,encCells s.cells,.sl false [],.nils,.nils,.nils] 204)) (fun _=>[(10,.ptr 1 0),(18,.ptr 3 0),(82,.int .i64 0),(83,.int .i64 0)]) (fun _=>0) () ⟨k1,k2⟩ ?_ ?_
  ·exact⟨Sees.of_eq rfl,Sees.of_eq rfl,Sees.of_eq rfl,Sees.of_eq rfl,trivial⟩
  rintro⟨⟩ S2 ⟨k3,k4⟩
  repeat((conv=>whnf);first|refine sT ?_ )
  try(conv=>whnf)
  exact⟨(),⟨k3,k4⟩,Sees.of_eq rfl,Sees.of_eq rfl,trivial⟩
 rintro⟨⟩ S2 ⟨k3,k4⟩
 repeat((conv=>whnf);first|refine sT ?_|rw[k4]|rw[k3]|rw[St.setB_get k3])
 try(conv=>whnf)
 exact resP.mk rfl (Sees.of_eq rfl)
theorem c_wrongC (s:Sched)(cs:List Chg)(hcs:cs.length≤281474976710656):PCall Tryz.prog LW 58 [s.av,encChgs cs] (.int .i64 (wrongE s cs)):=by
 refine PCall.intro mixed [] (nt:=14) Tryz.func58 rfl rfl (by simp) ?_
 refine Wk ?_
 refine cD (c_Change0 [] s cs [] 0 rfl rfl rfl (by simp) hcs (by simp) (by simp)) ?_
 rw[wrong_eq]
 refine Wk ?_
 exact resP.mk rfl (Sees.int rfl)
theorem flat_le {α:Type}(l:List (List α))(k:Nat):(l.take k).flatten.length≤l.flatten.length:=by
 have h:=congrArg (fun x=>x.flatten.length) (List.take_append_drop k l)
 simp only[List.flatten_append,List.length_append]at h
 omega
section
variable (L:World→Prop)
theorem c_IndexFuncChgC (l:List Chg)(p:Chg→Bool)(g:Nat)(caps:List AV)(hl:l.length≤281474976710656)(hcb:callable Tryz.prog g=true)(hc:fzs caps=some caps)(hp:∀x∈l,PCall Tryz.prog L g (Chg.av x :: caps) (.bool (p x))) :
  PCall Tryz.prog L 62 [.sl false (l.map Chg.av),.fn g caps] (.int .i64 (idxF p l)):=by
 refine PCall.intro mixed [] (nt:=19) Tryz.func62 rfl rfl (by simp) ?_
 refine Wk ?_
 refine LoopK.run mixed [] (fun (k:Nat)=>k≤l.length∧∀j x,j < k→l[j]? = some x→p x=false) (fun k=>[(0,.sl false (l.map Chg.av)),(1,.fn g caps),(7,.int .i64 l.length),(8,.int .i64 k)]) (fun k=>St.none) (fun k=>l.length-k) 0 ⟨by simp,by simp⟩ ?_ ?_
 ·refine fN ?_<;>repeat' (first|exact fQ|refine And.intro ?_ ?_|exact Sees.int (by simp)|exact fzs_okk hc)
 rintro k ⟨hk,hinv⟩
 refine Wk ?_
 refine BrK.mk (fun hb=>?_) (fun hb=>?_)<;>try rw[hb]
 ·have hlt:k < l.length:=by simpa using hb
  obtain⟨x,hgx⟩:=getLt hlt
  have hmx:=getMap (f:=Chg.av) hgx
  repeat((conv=>whnf);first|refine sJ ?_|refine aI (by first|exact inbMap hlt|kernel_rfl) ?_|rw[hmx])
  try(conv=>whnf)
  refine CallK.data hcb (hp x (List.mem_of_getElem? hgx)) (by show(match fz _,fzs caps with|some a,some b=>some (a :: b)|_,_=>none)=_;rw[hc];rfl) ?_
  refine Wk ?_
  refine BrK.mk (fun h2=>?_) (fun h2=>?_)<;>(try rw[h2])
  ·refine Wk ?_
   exact resP.mk rfl (Sees.int (idxF_some hlt hinv hgx h2).symm)
  ·refine Wk ?_
   refine⟨k+1,⟨by omega,fun j y hj hy=>?_⟩,by omega,?_⟩
   ·rcases Nat.lt_succ_iff_lt_or_eq.1 hj with h|rfl
    ·exact hinv j y h hy
    ·rw[hgx]at hy;injection hy with hy;subst hy;exact h2
   ·refine fN ?_<;>repeat' (first|exact fQ|refine And.intro ?_ ?_|exact Sees.int (succI hlt hl)|exact fzs_okk hc)
 ·have hk':k=l.length:=by simp at hb;omega
  subst hk'
  refine Wk ?_
  exact resP.mk rfl (Sees.int (idxF_none hinv).symm)
theorem c_ContainsFuncChgC (l:List Chg)(p:Chg→Bool)(g:Nat)(caps:List AV)(hl:l.length≤281474976710656)(hcb:callable Tryz.prog g=true)(hc:fzs caps=some caps)(hp:∀x∈l,PCall Tryz.prog L g (Chg.av x :: caps) (.bool (p x))) :
  PCall Tryz.prog L 27 [.sl false (l.map Chg.av),.fn g caps] (.bool (l.any p)):=by
 refine PCall.intro mixed [] (nt:=9) Tryz.func27 rfl rfl (by simp) ?_
 refine Wk ?_
 refine CallK.data rfl (c_IndexFuncChgC L l p g caps hl hcb hc hp) (by show(match fz _,fzs [AV.fn g caps] with|some a,some b=>some (a :: b)|_,_=>none)=_;rw[show fzs [AV.fn g caps] = some [AV.fn g caps] from by simp[fz,fzs,hc]];rfl) ?_
 refine Wk ?_
 exact resP.mk rfl (Sees.bool (idxF_any p l))
theorem c_ConcatRtC (l:List (List (List Int)))(h1:l.length≤1000000)(hl:l.flatten.length≤1099511627776):PCall Tryz.prog L 70 [.sl false (l.map fun x=>.sl false (x.map encIs))] (.sl false (l.flatten.map encIs)):=by
 refine PCall.intro mixed [] (nt:=36) Tryz.func70 rfl rfl (by simp) ?_
 refine Wk ?_
 refine LoopK.run mixed [] (fun (k:Nat)=>k≤l.length) (fun k=>[(0,.sl false (l.map fun x=>.sl false (x.map encIs))),(3,.int .i64 (l.take k).flatten.length),(9,.sl false (l.map fun x=>.sl false (x.map encIs))),(10,.int .i64 l.length),(11,.int .i64 k)]) (fun k=>St.none) (fun k=>l.length-k) 0 (by simp) ?_ ?_
 ·refine fN ?_<;>repeat' (first|exact fQ|refine And.intro ?_ ?_|exact Sees.int (by simp))
 rintro k hk
 refine Wk ?_
 refine BrK.mk (fun hb=>?_) (fun hb=>?_)<;>try rw[hb]
 ·have hlt:k < l.length:=by simpa using hb
  obtain⟨x,hgx⟩:=getLt hlt
  have hmx:=getMap (f:=fun x:List (List Int)=>AV.sl false (x.map encIs)) hgx
  have hfl:(l.take (k+1)).flatten.length=(l.take k).flatten.length+x.length:=by rw[take_succ hgx];simp
  have hle:=flat_le l (k+1)
  repeat((conv=>whnf);first|refine sJ ?_|refine aI (by first|exact inbMap hlt|kernel_rfl) ?_|rw[hmx])
  try(conv=>whnf)
  have hfk:=flat_le l k
  rw[hfl]at hle
  rw[show((List.map encIs x).length:Int)=x.length from by simp]
  rw[w64 (by omega) (by omega)]
  rw[decide_eq_false (by omega)]
  refine Wk ?_
  refine⟨k+1,by omega,by omega,?_⟩
  refine fN ?_<;>repeat' (first|exact fQ|refine And.intro ?_ ?_|exact Sees.int (succI hlt (by omega))|exact Sees.int (by rw[hfl];simp))
 ·have hk':k=l.length:=by simp at hb;omega
  subst hk'
  rw[List.take_length]
  refine Wk ?_
  refine CallK.inl rfl (ICall.intro mixed [] (nt:=27) Tryz.func114 rfl rfl (by simp) ?_)
  refine Wk ?_
  rw[show(List.length ([]:List AV):Int)=0 from rfl,show(0:Int)-0=0 from rfl]
  rw[w64 (x:=0) (by omega) (by omega),Int.sub_zero,w64 (by omega) (by omega)]
  refine BrK.mk (fun h0=>?_) (fun h0=>?_)<;>(try rw[h0])
  ·repeat((conv=>whnf);first|refine sJ ?_|refine aI (by first|exact(show(l.flatten.length:Int)*24≤_ by omega)|exact(by simpa using h0)|exact(by omega)|kernel_rfl) ?_ )
   try(conv=>whnf)
   refine LoopK.run mixed [] (fun (k:Nat)=>k≤l.length) (fun k=>[(6,.own ((l.take k).flatten.map encIs) 0),(25,.sl false (l.map fun x=>.sl false (x.map encIs))),(26,.int .i64 l.length),(27,.int .i64 k)]) (fun k=>⟨[],[((l.take k).flatten.length,1)],0,0,fun k=>if k=0 then 104 else 0⟩) (fun k=>l.length-k) 0 (by simp) ?_ ?_
   ·refine fN ?_<;>repeat' (first|exact fQ|refine And.intro ?_ ?_|exact Sees.int (by simp))
   rintro k hk
   refine Wk ?_
   refine BrK.mk (fun hb=>?_) (fun hb=>?_)<;>try rw[hb]
   ·have hlt:k < l.length:=by simpa using hb
    obtain⟨x,hgx⟩:=getLt hlt
    have hmx:=getMap (f:=fun x:List (List Int)=>AV.sl false (x.map encIs)) hgx
    have hfl:(l.take (k+1)).flatten.length=(l.take k).flatten.length+x.length:=by rw[take_succ hgx];simp
    have hle:=flat_le l (k+1)
    repeat((conv=>whnf);first|refine sJ ?_|refine aI (by first|exact inbMap hlt|exact Els.map (f:=encIs) (fun x=>⟨rfl,rfl⟩)|exact(show _*24≤_ by simp only[List.length_map];omega)|exact(by simp only[List.length_map,maxLen];omega)|exact(by rw[List.length_map];rfl)|kernel_rfl) ?_|rw[hmx])
    try(conv=>whnf)
    refine⟨k+1,by omega,by omega,?_⟩
    refine fN ?_<;>repeat' (first|exact fQ|refine And.intro ?_ ?_|exact Sees.int (succI hlt (by omega))|exact Sees.own (by rw[take_succ hgx];simp)|(show(_,_)=(_,_);rw[hfl];simp only[List.length_append,List.length_map]))
   ·have hk':k=l.length:=by simp at hb;omega
    subst hk'
    refine Wk ?_
    exact resP.mk rfl (Sees.sl (by rw[List.take_length]))
  ·refine Wk ?_
   refine LoopK.born 6 1 104 rfl ?_
   refine LoopK.run mixed [] (fun (k:Nat)=>k≤l.length) (fun k=>[(6,.own ((l.take k).flatten.map encIs) 0),(25,.sl false (l.map fun x=>.sl false (x.map encIs))),(26,.int .i64 l.length),(27,.int .i64 k)]) (fun k=>⟨[],[((l.take k).flatten.length,1)],0,0,fun k=>if k=0 then 104 else 0⟩) (fun k=>l.length-k) 0 (by simp) ?_ ?_
   ·refine fN ?_<;>repeat' (first|exact fQ|refine And.intro ?_ ?_|exact Sees.int (by simp))
   rintro k hk
   refine Wk ?_
   refine BrK.mk (fun hb=>?_) (fun hb=>?_)<;>try rw[hb]
   ·have hlt:k < l.length:=by simpa using hb
    obtain⟨x,hgx⟩:=getLt hlt
    have hmx:=getMap (f:=fun x:List (List Int)=>AV.sl false (x.map encIs)) hgx
    have hfl:(l.take (k+1)).flatten.length=(l.take k).flatten.length+x.length:=by rw[take_succ hgx];simp
    have hle:=flat_le l (k+1)
    repeat((conv=>whnf);first|refine sJ ?_|refine aI (by first|exact inbMap hlt|exact Els.map (f:=encIs) (fun x=>⟨rfl,rfl⟩)|exact(show _*24≤_ by simp only[List.length_map];omega)|exact(by simp only[List.length_map,maxLen];omega)|exact(by rw[List.length_map];rfl)|kernel_rfl) ?_|rw[hmx])
    try(conv=>whnf)
    refine⟨k+1,by omega,by omega,?_⟩
    refine fN ?_<;>repeat' (first|exact fQ|refine And.intro ?_ ?_|exact Sees.int (succI hlt (by omega))|exact Sees.own (by rw[take_succ hgx];simp)|(show(_,_)=(_,_);rw[hfl];simp only[List.length_append,List.length_map]))
   ·have hk':k=l.length:=by simp at hb;omega
    subst hk'
    refine Wk ?_
    exact resP.mk rfl (Sees.sl (by rw[List.take_length]))
theorem lastSlot_get {done:List Chg}{d:Chg}(h:done[done.length-1]? = some d):lastSlot done=some d.slot:=by
 unfold lastSlot
 rw[List.getLast?_eq_getElem?,h];rfl
theorem c_placedC (n:Net)(before after:List Req)(flows:List Flow)(s:Sched)(done:List Chg)(c:Chg)(hd:done.length≤281474976710656):PCall Tryz.prog L 52 [.cptr (movAv n before after flows s done) 0,c.av] (.int .i64 (chgE (lastSlot done) c)):=by
 refine PCall.intro mixed [] (nt:=30) Tryz.func52 rfl rfl (by simp) ?_
 by_cases h1:c.slot < 0
 ·have g1:decide (c.slot < 0)=true:=decide_eq_true h1
  repeat((conv=>whnf);first|refine sT ?_|rw[g1])
  try(conv=>whnf)
  exact resP.mk rfl (Sees.int (by unfold chgE;rw[if_pos h1]))
 have g1:decide (c.slot < 0)=false:=decide_eq_false h1
 by_cases h2:done.length=0
 ·have hn:done=[]:=List.length_eq_zero_iff.1 h2
  subst hn
  repeat((conv=>whnf);first|refine sT ?_|rw[g1])
  try(conv=>whnf)
  exact resP.mk rfl (Sees.int (by unfold chgE;rw[if_neg h1];rfl))
 have g2:decide ((0:Int) < ((done.map Chg.av).length:Int))=true:=decide_eq_true (by rw[List.length_map];omega)
 have hw:IntKind.i64.wrap (((done.map Chg.av).length:Int)-1)=((done.length-1:Nat):Int):=by rw[List.length_map,w64]<;>omega
 obtain⟨d,hgd⟩:=getLt (l:=done) (k:=done.length-1) (by omega)
 have hmd:=getMap (f:=Chg.av) hgd
 have hls:=lastSlot_get hgd
 by_cases h3:c.slot < d.slot
 ·have g3:decide (c.slot < d.slot)=true:=decide_eq_true h3
  repeat((conv=>whnf);first|refine sJ ?_|refine aI (by first|exact trivial|(rw[hw];exact inbMap (show done.length-1 < done.length by omega))|kernel_rfl) ?_|rw[g1]|rw[g2]|rw[hw]|rw[hmd]|rw[g3])
  try(conv=>whnf)
  exact resP.mk rfl (Sees.int (by unfold chgE;rw[if_neg h1,hls];simp only[if_pos h3]))
 ·have g3:decide (c.slot < d.slot)=false:=decide_eq_false h3
  repeat((conv=>whnf);first|refine sJ ?_|refine aI (by first|exact trivial|(rw[hw];exact inbMap (show done.length-1 < done.length by omega))|kernel_rfl) ?_|rw[g1]|rw[g2]|rw[hw]|rw[hmd]|rw[g3])
  try(conv=>whnf)
  exact resP.mk rfl (Sees.int (by unfold chgE;rw[if_neg h1,hls];simp only[if_neg h3]))
theorem c_stays (n:Net)(before after:List Req)(flows:List Flow)(s:Sched)(done:List Chg)(id:Int)(hb:before.length≤16)(ha:after.length≤16)(hbx:∀x∈before,x.routes.length≤2)(hax:∀x∈after,x.routes.length≤2) :
  PCall Tryz.prog L 94 [.cptr (movAv n before after flows s done) 0,.int .i64 id] (.tup [(getD before id).flow.av,encRows ((getD before id).routes++(getD after id).routes),.bool ((getQ before id).isSome&&(getQ after id).isSome)]):=by
 have hx0:(getD before id).routes.length≤2:=by
  unfold getD
  cases hg:getQ before id with
  | none=>simp[req0]
  | some x=>exact hbx x (getQ_some hg).1
 have hy0:(getD after id).routes.length≤2:=by
  unfold getD
  cases hg:getQ after id with
  | none=>simp[req0]
  | some x=>exact hax x (getQ_some hg).1
 obtain⟨rx,hrx⟩:∃rx,rx=(getD before id).routes:=⟨_,rfl⟩
 obtain⟨ry,hry⟩:∃ry,ry=(getD after id).routes:=⟨_,rfl⟩
 have hcc:=c_ConcatRtC L [rx,ry] (by simp) (by rw[hrx,hry];simp;omega)
 have hfl:([rx,ry]:List (List (List Int))).flatten=rx++ry:=by simp
 rw[hfl,hrx,hry]at hcc
 cases hbs:(getQ before id).isSome<;>cases has:(getQ after id).isSome
 all_goals
  refine PCall.intro mixed [10003] (nt:=41) Tryz.func94 rfl rfl (by simp) ?_
  refine Wk ?_
  refine cD (c_findC L before id (by omega)) ?_
  rw[hbs]
  refine Wk ?_
  refine cD (c_findC L after id (by omega)) ?_
  rw[has]
  refine Wk ?_
  refine SemK.regionFin mixed (fun X=>X.bx[1]? = some (.cells (getD before id).av.cells 81)∧X.bx[2]? = some (.cells (getD after id).av.cells 81)) [0,1,2,3,4,5,6,7,8,9,10,11] 3 rfl rfl (by decide) rfl ⟨rfl,rfl⟩ ?_
  iterate 7
   conv=>whnf
   apply exV
   ·rintro S' K' hI hh
    repeat((conv=>whnf);first|refine sT ?_|erw [hI.1]|erw [hI.2])
    try(conv=>whnf)
    exact hh
  conv=>whnf
  apply exV
  ·rintro S' K' hI hh
   refine Wk ?_
   refine cD (hcc) ?_
   exact hh
  iterate 4
   conv=>whnf
   apply exV
   ·rintro S' K' hI hh
    refine Wk ?_
    exact hh
  conv=>whnf
  repeat' ((conv=>whnf);first|exact trivial|refine sJ ?_|refine aI (by first|exact trivial|exact Or.inr ⟨rfl,rfl⟩|exact Or.inl rfl|kernel_rfl) ?_|refine And.intro ?_ ?_ )
  all_goals(conv=>whnf)
 all_goals exact resP.mk rfl (Sees.of_eq rfl)
end
section
variable (L:World→Prop)
theorem c_waits1 (d:Chg)(f:Flow)(c:Chg):PCall Tryz.prog L 95 [d.av,.cptr f.av 0,.cptr c.av 0] (.bool (d.add&&(d.cell.flow==f.id&&decide (IntKind.i64.wrap (c.slot-d.slot) < f.period)))):=by
 refine PCall.intro mixed [] (nt:=25) Tryz.func95 rfl rfl (by simp) ?_
 cases h1:d.add<;>cases h2:(d.cell.flow==f.id)
 all_goals
  repeat((conv=>whnf);first|refine sT ?_|rw[h1]|rw[h2])
  try(conv=>whnf)
  exact resP.mk rfl (Sees.bool rfl)
theorem c_waits (n:Net)(before after:List Req)(flows:List Flow)(s:Sched)(done:List Chg)(c:Chg)(hd:done.length≤281474976710656)(hb:before.length≤16)(ha:after.length≤16)(hbx:∀x∈before,x.routes.length≤2)(hax:∀x∈after,x.routes.length≤2) :
  PCall Tryz.prog L 54 [.cptr (movAv n before after flows s done) 0,c.av] (.int .i64 (waitE before after done c)):=by
 have hE:=early_at (before:=before) (after:=after) (done:=done) (c:=c)
 obtain⟨f,hf⟩:∃f,f=(getD before c.cell.flow).flow:=⟨_,rfl⟩
 have hst:=c_stays L n before after flows s done c.cell.flow hb ha hbx hax
 rw[←hf]at hE hst
 obtain⟨p,hp⟩:∃p:Chg→Bool,p=fun d=>d.add&&(d.cell.flow==f.id&&decide (IntKind.i64.wrap (c.slot-d.slot) < f.period)):=⟨_,rfl⟩
 rw[←hp]at hE
 have hcf:=c_ContainsFuncChgC L done p 95 [.cptr f.av 0,.cptr c.av 0] hd rfl rfl (fun d _=>by rw[hp];exact c_waits1 L d f c)
 cases h1:((getQ before c.cell.flow).isSome&&(getQ after c.cell.flow).isSome)
 ·rw[h1]at hst hE
  refine PCall.intro mixed [] (nt:=33) Tryz.func54 rfl rfl (by simp) ?_
  refine Wk ?_
  refine cD (hst) ?_
  refine Wk ?_
  exact resP.mk rfl (Sees.int (by unfold waitE;rw[hE];rfl))
 rw[h1]at hst hE
 cases h2:c.add
 rotate_left
 ·rw[h2]at hE
  refine PCall.intro mixed [] (nt:=33) Tryz.func54 rfl rfl (by simp) ?_
  refine Wk ?_
  refine cD (hst) ?_
  have h2':(!c.add)=false:=by rw[h2];rfl
  repeat((conv=>whnf);first|refine sT ?_|rw[h2'])
  try(conv=>whnf)
  exact resP.mk rfl (Sees.int (by unfold waitE;rw[hE];rfl))
 rw[h2]at hE
 have h2':(!c.add)=true:=by rw[h2];rfl
 refine PCall.intro mixed [] (nt:=33) Tryz.func54 rfl rfl (by simp) ?_
 refine Wk ?_
 refine cD (hst) ?_
 repeat((conv=>whnf);first|refine sT ?_|rw[h2'])
 try(conv=>whnf)
 refine cB (hcf) ?_
 cases h3:done.any p
 ·rw[h3]at hE
  refine Wk ?_
  exact resP.mk rfl (Sees.int (by unfold waitE;rw[hE];rfl))
 ·rw[h3]at hE
  refine Wk ?_
  exact resP.mk rfl (Sees.int (by unfold waitE;rw[hE];rfl))
theorem c_valid (n:Net)(hn:n.small)(before after:List Req)(flows:List Flow)(hfl:flows.length≤281474976710656)(s:Sched)(hc:s.cells.length≤281474976710656)(done:List Chg)(c:Chg) :
  PCall Tryz.prog L 55 [.cptr (movAv n before after flows s done) 0,c.av] (.int .i64 (if (schedE n flows s).2≠0 then 16 else 0)):=by
 refine PCall.intro mixed [10001] (nt:=25) Tryz.func55 rfl rfl (by simp) ?_
 refine Wk ?_
 refine SemK.regionFin mixed (fun _=>True) [0,1,2,3,4,5,6,7,8,9,10,11,12,13,14,15] 2 rfl rfl (by decide) rfl trivial ?_
 iterate 12
  conv=>whnf
  apply exV
  ·rintro S' K' hI hh
   refine Wk ?_
   exact hh
 conv=>whnf
 apply exV
 ·rintro S' K' hI hh
  refine Wk ?_
  refine cD (c_SCheck L n hn flows hfl s hc) ?_
  exact hh
 iterate 3
  conv=>whnf
  apply exV
  ·rintro S' K' hI hh
   refine Wk ?_
   exact hh
 conv=>whnf
 repeat' ((conv=>whnf);first|exact trivial|refine sJ ?_|refine aI (by first|exact trivial|exact Or.inr trivial|exact Or.inl rfl|kernel_rfl) ?_|refine And.intro ?_ ?_ )
 all_goals(conv=>whnf)
 by_cases h:(schedE n flows s).2≠0
 ·have g:((schedE n flows s).2 != 0)=true:=by simpa using h
  repeat((conv=>whnf);first|refine sT ?_|rw[g])
  try(conv=>whnf)
  exact resP.mk rfl (Sees.int (by rw[if_pos h]))
 ·have g:((schedE n flows s).2 != 0)=false:=by simpa using h
  repeat((conv=>whnf);first|refine sT ?_|rw[g])
  try(conv=>whnf)
  exact resP.mk rfl (Sees.int (by rw[if_neg h]))
end
theorem c_keeps (n:Net)(hn:n.small)(before after:List Req)(flows:List Flow)(hfl:flows.length≤281474976710656)(s:Sched)(hc:s.cells.length≤281474976710656)(done:List Chg)(c:Chg)(hb:before.length≤16)(ha:after.length≤16)(hbx:∀x∈before,x.routes.length≤2∧∀r∈x.routes,r.length≤9)(hax:∀x∈after,x.routes.length≤2∧∀r∈x.routes,r.length≤9) :
  PCall Tryz.prog LW 56 [.cptr (movAv n before after flows s done) 0,c.av] (.int .i64 (if flows.all (keepF n before after s)=true then 0 else 15)):=by
 refine PCall.intro mixed [10006] (nt:=54) Tryz.func56 rfl rfl (by simp) ?_
 refine Wk ?_
 refine LoopK.run mixed [10006] (fun k:Nat=>k≤flows.length∧∀(j:Nat) f,j < k→flows[j]? = some f→keepF n before after s f=true) (fun k=>[(0,.cptr (movAv n before after flows s done) 0),(15,encFlows flows),(16,.int .i64 flows.length),(17,.int .i64 k)]) (fun _=>St.none) (fun k=>flows.length-k) 0 ⟨by simp,by simp⟩ ?_ ?_
 ·refine fN ?_<;>repeat' (first|exact fQ|refine And.intro ?_ ?_|exact Sees.int (by simp)|exact FitF.nil _)
 rintro k ⟨hk,hinv⟩
 by_cases hkt:k < flows.length
 rotate_left
 ·have hkn:k=flows.length:=by omega
  subst hkn
  have gk:decide ((flows.length:Int) < (flows.length:Int))=false:=decide_eq_false (by omega)
  have hall:flows.all (keepF n before after s)=true:=List.all_eq_true.2 fun f hf=>by
   obtain⟨j,hj⟩:=List.getElem?_of_mem hf
   exact hinv j f (List.getElem?_eq_some_iff.1 hj).1 hj
  repeat((conv=>whnf);first|refine sT ?_|rw[gk])
  try(conv=>whnf)
  exact resP.mk rfl (Sees.int (by rw[if_pos hall]))
 obtain⟨f,hgf⟩:=getLt hkt
 have hmf:=getMap (f:=Flow.av) hgf
 have gk:decide ((k:Int) < (flows.length:Int))=true:=decide_eq_true (by omega)
 have hst:=c_stays LW n before after flows s done f.id hb ha (fun x hx=>(hbx x hx).1) (fun x hx=>(hax x hx).1)
 have hkf:=keep_at (n:=n) (before:=before) (after:=after) (s:=s) (f:=f)
 have hno:keepF n before after s f=false→flows.all (keepF n before after s)=false:=fun h=>List.all_eq_false.2 ⟨f,List.mem_of_getElem? hgf,by simp[h]⟩
 have nxt:keepF n before after s f=true→∀(j:Nat) y,j < k+1→flows[j]? = some y→keepF n before after s y=true:=fun h j y hj hy=>by
  rcases Nat.lt_succ_iff_lt_or_eq.1 hj with h'|rfl
  ·exact hinv j y h' hy
  ·rw[hgf]at hy;injection hy with hy;subst hy;exact h
 obtain⟨rs,hrs⟩:∃rs,rs=(getD before f.id).routes++(getD after f.id).routes:=⟨_,rfl⟩
 have hrl:rs.length≤4∧∀r∈rs,r.length≤9:=by
  have one:∀(q:List Req),(∀x∈q,x.routes.length≤2∧∀r∈x.routes,r.length≤9)→(getD q f.id).routes.length≤2∧∀r∈(getD q f.id).routes,r.length≤9:=fun q hq=>by
   unfold getD
   cases hg:getQ q f.id with
   | none=>simp[req0]
   | some x=>exact hq x (getQ_some hg).1
  have h1:=one before hbx
  have h2:=one after hax
  rw[hrs]
  refine⟨by rw[List.length_append];omega,fun r hr=>?_⟩
  rcases List.mem_append.1 hr with h|h
  ·exact h1.2 r h
  ·exact h2.2 r h
 rw[←hrs]at hst hkf
 cases hb1:((getQ before f.id).isSome&&(getQ after f.id).isSome) with
 | false=>
  rw[hb1]at hst hkf
  have hkt2:keepF n before after s f=true:=by rw[hkf];rfl
  repeat((conv=>whnf);first|refine sJ ?_|refine aI (by first|exact trivial|exact inbMap hkt|kernel_rfl) ?_|rw[gk]|rw[hmf])
  try(conv=>whnf)
  refine cD (hst) ?_
  refine Wk ?_
  refine⟨k+1,⟨by omega,nxt hkt2⟩,by omega,?_⟩
  refine fN ?_<;>repeat' (first|exact fQ|refine And.intro ?_ ?_|exact Sees.int (succI hkt (by omega))|exact FitF.nil _)
 | true=>
  rw[hb1]at hst hkf
  repeat((conv=>whnf);first|refine sJ ?_|refine aI (by first|exact trivial|exact inbMap hkt|kernel_rfl) ?_|rw[gk]|rw[hmf])
  try(conv=>whnf)
  refine cD (hst) ?_
  refine Wk ?_
  refine SemK.regionFin mixed (fun X=>X.bx[0]? = some (.cells f.av.cells 78)) [0,1,2,3,4,5,6,7,8,9,10,11,12,13] 2 rfl rfl (by decide) rfl rfl ?_
  iterate 10
   conv=>whnf
   apply exV
   ·rintro S' K' hI hh
    repeat((conv=>whnf);first|refine sT ?_|erw [hI])
    try(conv=>whnf)
    exact hh
  conv=>whnf
  apply exV
  ·rintro S' K' hI hh
   refine Wk ?_
   refine cD (c_BLeast n s f rs hn hc (fun r hr=>by have:=hrl.2 r hr;omega) (by omega)) ?_
   exact hh
  iterate 3
   conv=>whnf
   apply exV
   ·rintro S' K' hI hh
    refine Wk ?_
    exact hh
  conv=>whnf
  repeat' ((conv=>whnf);first|exact trivial|refine sJ ?_|refine aI (by first|exact trivial|exact Or.inr rfl|exact Or.inl rfl|kernel_rfl) ?_|refine And.intro ?_ ?_ )
  all_goals(conv=>whnf)
  by_cases h1:(leastM n s f rs).2=0
  ·by_cases h2:(leastM n s f rs).1≤f.dead
   ·have g1:((leastM n s f rs).2 != 0)=false:=by simpa using h1
    have g2:decide (f.dead < (leastM n s f rs).1)=false:=decide_eq_false (by omega)
    have hkt2:keepF n before after s f=true:=by rw[hkf];simp[h1,h2]
    repeat((conv=>whnf);first|refine sT ?_|rw[g1]|rw[g2])
    try(conv=>whnf)
    refine⟨k+1,⟨by omega,nxt hkt2⟩,by omega,?_⟩
    refine fN ?_<;>repeat' (first|exact fQ|refine And.intro ?_ ?_|exact Sees.int (succI hkt (by omega))|exact FitF.nil _)
   ·have g1:((leastM n s f rs).2 != 0)=false:=by simpa using h1
    have g2:decide (f.dead < (leastM n s f rs).1)=true:=decide_eq_true (by omega)
    have hkt2:keepF n before after s f=false:=by rw[hkf];simp[h1,h2]
    repeat((conv=>whnf);first|refine sT ?_|rw[g1]|rw[g2])
    try(conv=>whnf)
    exact resP.mk rfl (Sees.int (by rw[if_neg (by rw[hno hkt2];decide)]))
  ·have g1:((leastM n s f rs).2 != 0)=true:=by simpa using h1
   have hkt2:keepF n before after s f=false:=by rw[hkf];simp[h1]
   repeat((conv=>whnf);first|refine sT ?_|rw[g1])
   try(conv=>whnf)
   exact resP.mk rfl (Sees.int (by rw[if_neg (by rw[hno hkt2];decide)]))
theorem c_ends1 (L:World→Prop)(n:Net)(before after:List Req)(flows:List Flow)(s:Sched)(done:List Chg)(x:Cell)(ha:after.length≤16):PCall Tryz.prog L 99 [x.av,.cptr (.agg [.cptr (movAv n before after flows s done) 0]) 0] (.bool (!(getQ after x.flow).isSome)):=by
 refine PCall.intro mixed [10001] (nt:=18) Tryz.func99 rfl rfl (by simp) ?_
 refine Wk ?_
 refine SemK.regionFin mixed (fun X=>X.bx[0]? = some (.cells x.av.cells 52)) [0,1,2,3,4,5,6,7,8,9] 3 rfl rfl (by decide) rfl rfl ?_
 iterate 6
  conv=>whnf
  apply exV
  ·rintro S' K' hI hh
   repeat((conv=>whnf);first|refine sT ?_|erw [hI])
   try(conv=>whnf)
   exact hh
 conv=>whnf
 apply exV
 ·rintro S' K' hI hh
  refine Wk ?_
  refine cD (c_findC L after x.flow (by omega)) ?_
  exact hh
 iterate 3
  conv=>whnf
  apply exV
  ·rintro S' K' hI hh
   refine Wk ?_
   exact hh
 conv=>whnf
 repeat' ((conv=>whnf);first|exact trivial|refine sJ ?_|refine aI (by first|exact trivial|exact Or.inr rfl|exact Or.inl rfl|kernel_rfl) ?_|refine And.intro ?_ ?_ )
 all_goals(conv=>whnf)
 exact resP.mk rfl (Sees.bool rfl)
def endE (n:Net)(after:List Req)(s:Sched):Int:=if endsB n after s=true then 0 else 18
theorem c_endsC (n:Net)(hn:n.small)(before after:List Req)(flows:List Flow)(s:Sched)(hc:s.cells.length≤1048576)(done:List Chg)(ha:after.length≤16)(hx:∀x∈after,x.small) :
  PCall Tryz.prog LW 57 [.cptr (movAv n before after flows s done) 0] (.int .i64 (endE n after s)):=by
 refine PCall.intro mixed [10003] (nt:=33) Tryz.func57 rfl rfl (by simp) ?_
 have hmk:=c_Make n hn after (by omega) hx (ownQ after s) (by have:=List.length_filter_le (fun c:Cell=>(getQ after c.flow).isSome) s.cells;show(s.cells.filter _).length≤_;omega)
 by_cases hne:s.cells=[]
 ·obtain⟨len,offs,cells⟩:=s
  simp only at hne
  subst hne
  refine Wk ?_
  refine cD (c_Clone0Cell LW) ?_
  refine Wk ?_
  refine CallK.inl rfl (ICall.intro mixed [] (nt:=42) Tryz.func98 rfl rfl (by simp) ?_)
  refine Wk ?_
  refine CallK.box rfl (c_IndexFuncCell LW [] (fun c=>!(getQ after c.flow).isSome) 99 [.cptr (.agg [.cptr (movAv n before after flows ⟨len,offs,[]⟩ done) 0]) 0] (by simp) rfl rfl (fun c _=>c_ends1 LW n before after flows _ done c ha)) (fz2 rfl (fzf1 rfl)) rfl ?_
  refine Wk ?_
  refine SemK.regionFin mixed (fun X=>X.bx[0]? = some (.cells [.cptr (movAv n before after flows ⟨len,offs,[]⟩ done) 0] 90)∧X.bx[1]? = some (.cells [.int .i64 len,.int .i64 offs,.sl false []] 24)) [0,1,2,3,4,5,6,7,8,9,10,11,12,13] 3 rfl rfl (by decide) rfl ⟨rfl,rfl⟩ ?_
  iterate 9
   conv=>whnf
   apply exV
   ·rintro S' K' hI hh
    repeat((conv=>whnf);first|refine sT ?_|erw [hI.1]|erw [hI.2])
    try(conv=>whnf)
    exact hh
  conv=>whnf
  apply exV
  ·rintro S' K' hI hh
   refine Wk ?_
   refine cD (hmk) ?_
   exact hh
  iterate 4
   conv=>whnf
   apply exV
   ·rintro S' K' hI hh
    refine Wk ?_
    exact hh
  conv=>whnf
  repeat' ((conv=>whnf);first|exact trivial|refine sJ ?_|refine aI (by first|exact trivial|exact Or.inr ⟨rfl,rfl⟩|exact Or.inr ⟨rfl,rfl,rfl⟩|exact Or.inl rfl|kernel_rfl) ?_|refine And.intro ?_ ?_ )
  all_goals(conv=>whnf)
  by_cases h:(makeM n after (ownQ after (⟨len,offs,[]⟩:Sched))).2.2=0
  ·have g:((makeM n after (ownQ after (⟨len,offs,[]⟩:Sched))).2.2 != 0)=false:=by simpa using h
   repeat((conv=>whnf);first|refine sT ?_|rw[g])
   try(conv=>whnf)
   exact resP.mk rfl (Sees.int (by unfold endE endsB;rw[if_pos (by simpa using h)]))
  ·have g:((makeM n after (ownQ after (⟨len,offs,[]⟩:Sched))).2.2 != 0)=true:=by simpa using h
   repeat((conv=>whnf);first|refine sT ?_|rw[g])
   try(conv=>whnf)
   exact resP.mk rfl (Sees.int (by unfold endE endsB;rw[if_neg (by simpa using h)]))
 ·refine Wk ?_
  refine CallK.fresh rfl (c_CloneCell LW s.cells hne (by omega)) (by rfl) (cellOk.els _) (cellOk.scal (fun _=>rfl) _) (fun h=>absurd (by simpa using h) hne) (fun d=>?_)
  refine Wk ?_
  rw[List.length_map]
  refine CallK.inl rfl (i_DeleteCell LW _ _ _ _ _ s.cells (fun c=>!(getQ after c.flow).isSome) _ [.ptr 0 0] [.cptr (.agg [.cptr (movAv n before after flows s done) 0]) 0] d (by omega) rfl rfl ⟨?_,?_,?_⟩ (fun _ _ _ _=>rfl) (fun c _=>c_ends1 LW n before after flows s done c ha) fun ex=>?_)
  ·exact⟨trivial,trivial⟩
  ·exact⟨trivial,trivial,fzs_okk (es:=[encCells s.cells]) rfl⟩
  ·exact⟨(by decide:0 < 3),trivial⟩
  have hfil:(s.cells.filter fun c=>!(!(getQ after c.flow).isSome))=(ownQ after s).cells:=by unfold ownQ;simp only[Bool.not_not]
  rw[hfil]
  refine Wk ?_
  refine SemK.regionFin mixed (fun X=>X.bx[0]? = some (.cells [.cptr (movAv n before after flows s done) 0] 90)∧X.bx[1]? = some (.cells [.int .i64 s.len,.int .i64 s.offs,.vsl 2 0 (ownQ after s).cells.length 5] 24)∧X.bx[2]? = some (.cells (flatE ((ownQ after s).cells.map Cell.av)++ex) 52)) [0,1,2,3,4,5,6,7,8,9,10,11,12,13] 3 rfl rfl (by decide) rfl ⟨rfl,rfl,rfl⟩ ?_
  iterate 9
   conv=>whnf
   apply exV
   ·rintro S' K' hI hh
    repeat((conv=>whnf);first|refine sT ?_|erw [hI.1]|erw [hI.2.1])
    try(conv=>whnf)
    exact hh
  conv=>whnf
  apply exV
  ·rintro S' K' hI hh
   have e0:=cellOk.fzb hI.2.2 rfl
   refine Wk ?_
   refine CallK.boxU rfl hmk (fz2 rfl (fz2 rfl (fz2 ?_ rfl))) ?_
   ·show Option.map AV.agg (fzbs S' [.int .i64 s.len,.int .i64 s.offs,.vsl 2 0 (ownQ after s).cells.length 5])=_
    rw[show fzbs S' [.int .i64 s.len,.int .i64 s.offs,.vsl 2 0 (ownQ after s).cells.length 5] = some [.int .i64 s.len,.int .i64 s.offs,.sl false ((ownQ after s).cells.map Cell.av)] from fz2 rfl (fz2 rfl (fz2 e0 rfl))]
    rfl
   exact hh
  iterate 4
   conv=>whnf
   apply exV
   ·rintro S' K' hI hh
    refine Wk ?_
    exact hh
  conv=>whnf
  repeat' ((conv=>whnf);first|exact trivial|refine sJ ?_|refine aI (by first|exact trivial|exact Or.inr ⟨rfl,rfl⟩|exact Or.inr ⟨rfl,rfl,rfl⟩|exact Or.inl rfl|kernel_rfl) ?_|refine And.intro ?_ ?_ )
  all_goals(conv=>whnf)
  by_cases h:(makeM n after (ownQ after s)).2.2=0
  ·have g:((makeM n after (ownQ after s)).2.2 != 0)=false:=by simpa using h
   repeat((conv=>whnf);first|refine sT ?_|rw[g])
   try(conv=>whnf)
   exact resP.mk rfl (Sees.int (by unfold endE endsB;rw[if_pos (by simpa using h)]))
  ·have g:((makeM n after (ownQ after s)).2.2 != 0)=true:=by simpa using h
   repeat((conv=>whnf);first|refine sT ?_|rw[g])
   try(conv=>whnf)
   exact resP.mk rfl (Sees.int (by unfold endE endsB;rw[if_neg (by simpa using h)]))
instance:Inhabited Flow:=⟨⟨0,0,0,0,0,0⟩⟩
def Flow.enc (x:Flow):List Value:=[.int .i64 x.id,.int .i64 x.src,.int .i64 x.dst,.int .i64 x.period,.int .i64 x.phase,.int .i64 x.dead]
theorem Flow.enc_ok (G:Gh)(fr:Frs)(w:World)(x:Flow)(vs:List Value):VRs G fr w x.av.cells vs↔vs=x.enc:=by
 simp only[Flow.av,AV.cells,VRs,VR,Flow.enc]
 constructor
 ·rintro⟨u,us,rfl,rfl,u2,us2,rfl,rfl,u3,us3,rfl,rfl,u4,us4,rfl,rfl,u5,us5,rfl,rfl,u6,us6,rfl,rfl,rfl⟩;rfl
 ·rintro rfl
  exact⟨_,_,rfl,rfl,_,_,rfl,rfl,_,_,rfl,rfl,_,_,rfl,rfl,_,_,rfl,rfl,_,_,rfl,rfl,rfl⟩
theorem flowEnc:EncOk Flow.av 6:=⟨fun _=>rfl,fun _=>rfl,fun _=>rfl,fun _=>rfl,by decide⟩
def cfFl (a b:Flow):Int:=Lib.compareInt a.id b.id
theorem ltFl (a b:Flow):ltOf cfFl a b=decide (a.id < b.id):=by
 unfold ltOf cfFl Lib.compareInt
 by_cases h1:a.id < b.id
 ·simp[h1]
 ·by_cases h2:b.id < a.id<;>simp[h1,h2]
theorem swoFl:Go.Sort.SWO (ltOf cfFl) where
 irrefl x:=by rw[ltFl];simp
 trans x y z h1 h2:=by rw[ltFl]at *;simp at *;omega
 ntrans x y z h1 h2:=by rw[ltFl]at *;simp at *;omega
theorem k_cmpFl (x y:Flow)(W:World):Calls Tryz.prog 93 #[.agg x.enc.toArray,.agg y.enc.toArray] W fun e w'=>e=.returned (.int .i64 (cfFl x y))∧∃q os',w'=Go.Sort.grow (W.drewN q) os':=by
 have hcon:=fun W'=>Tryz.cmp_Compare_int x.id y.id W'
 unfold cfFl
 generalize Lib.compareInt x.id y.id=r at hcon ⊢
 unfold Flow.enc
 go_enter Tryz.func93,Tryz.ntmps93
 go_wp2_with (go_at_call 73;refine(hcon _).mono ?_;rintro e w' ⟨rfl,rfl⟩)
 go_ret
 exact⟨rfl,0,_,by rw[Go.Sort.alloc_eq_grow,Go.Sort.alloc_eq_grow,Go.Sort.grow_grow];rfl⟩
theorem k_sortFl (blk off cap:Nat)(d:Array (Flow×Unit))(w:World)(hH:Go.Sort.HoldsK (fun p:Flow×Unit=>p.1.enc) 6 w blk off d)(hblk:blk < w.heap.size)(hsz:d.size < 4611686018427387904) :
  Calls Tryz.prog 71 #[.slice (some ⟨blk,off,none⟩) d.size cap,.func (.func 93) #[] #[]] w fun e w'=>e=.returned (.tuple #[])∧∃d' n os,Go.Sort.PermIn 0 d.size d d'∧Go.Sort.SortedIn (fun p q:Flow×Unit=>ltOf cfFl p.1 q.1) 0 d.size d'∧w'=sortWorldK (fun p:Flow×Unit=>p.1.enc) 6 w blk off n d' os:=
 AnyQ.slices_SortFunc Tryz.sort71 6 Tryz.isAgg78 Tryz.sizeOf78 (fun p:Flow×Unit=>p.1.enc) (fun _=>rfl) (fun x v hv=>by simp[Flow.enc]at hv;rcases hv with rfl|rfl|rfl|rfl|rfl|rfl<;>rfl) (fun p q:Flow×Unit=>cfFl p.1 q.1) ⟨fun x=>swoFl.irrefl x.1,fun x y z=>swoFl.trans x.1 y.1 z.1,fun x y z=>swoFl.ntrans x.1 y.1 z.1⟩ 93 #[] blk off cap d w
  (enters_of Tryz.func93 (by kernel_rfl) rfl) (fun _ _ _ _ x y=>k_cmpFl x.1 y.1 _) hH hblk hsz
theorem k_sortFl0 (p:Option Addr)(cap:Nat)(fv:Value)(w:World):Calls Tryz.prog 71 #[.slice p 0 cap,fv] w fun e w'=>e=.returned (.tuple #[])∧w'=w:=
 AnyF.slices_SortFunc_none Tryz.sort71 p cap fv w
theorem i_sortFl {L:World→Prop}{S:St}{id:Nat}{ex:List AV}{ds:List Flow}{ty:TypeId}(hb:S.bx[id]? = some (.cells (flatE (ds.map Flow.av)++ex) ty))(hl:ds.length < 4611686018427387904){n:Nat}(hn:n=ds.length){K:AV→St→Prop}
  (hK:∀ds':List Flow,ds'.Perm ds→(ds'.Pairwise fun a b=>¬b.id < a.id)→K (.tup []) (S.setB id (.cells (flatE (ds'.map Flow.av)++ex) ty))):ICall Tryz.prog L 71 [.vsl id 0 n 6,.fn 93 []] S K:=
 ICall.sort (k:=6) (α:=Flow) (av:=Flow.av) (enc:=Flow.enc) (lt:=ltOf cfFl) (pre:=[]) (by decide) (fun _=>rfl) Flow.enc_ok k_sortFl k_sortFl0 (by simpa using hb) hl rfl hn fun ds' h1 h2=>by
  have:=hK ds' h1 (h2.imp fun {a b} h=>by rw[ltFl]at h;simpa using h)
  simpa using this
end HM
