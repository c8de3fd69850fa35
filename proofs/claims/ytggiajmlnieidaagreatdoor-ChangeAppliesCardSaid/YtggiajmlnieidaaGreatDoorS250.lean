/- A run without frames: the faults of changes. -/
import Derived.Test.YtggiajmlnieidaaGreatDoorS68
import Derived.Test.YtggiajmlnieidaaGreatDoorS54
import Derived.Test.YtggiajmlnieidaaGreatDoorDb
import Derived.Test.YtggiajmlnieidaaGreatDoorDd
import Derived.Test.YtggiajmlnieidaaGreatDoorFh
set_option maxHeartbeats 64000000
set_option maxRecDepth 100000
namespace HM
open Go Go.RowKit Go.Proofs
theorem SeqK.cutNT {P:Program}{L:World→Prop}{nt:Nat}(hm:P.follows .mixedOrders=true)(ct:List Nat){c d:Code}{a:Nat→AV}{S:St}{Q:Exit→(Nat→AV)→St→Prop}{σ:Type}(I:σ→St→Prop)(sl:σ→List (Nat×AV))
  (hc:twC P L nt ct c a S (seqQ (fun a' S'=>∃s,I s S'∧FitN a' (sl s)) Q)) (hd:∀s S,I s S→SemK P L nt d (ofL (sl s)) S Q):SeqK P L nt c d a S Q:=by
 refine⟨⟨fun w0 G act w hR=>?_⟩⟩
 refine wpIn_seq (Go.wpIn_mono ((twC_sound hm c a S _ hc).out w0 G act w hR) fun e a' w' ⟨G',a1,S',hR',hq⟩=>?_)
 cases e with
 | normal=>
  obtain⟨s,hI,hfit⟩:=hq
  exact(hd s S' hI).out w0 _ a' w' (hR'.slots hfit)
 | _=>exact⟨G',a1,S',hR',hq⟩
def chB (s:Sched):List Ob:=[.cells s.av.cells 30,.cells [.nils,.nils] 74]
theorem c_Change0 (l:List Flow)(s:Sched)(cs:List Chg)(x:List Rule)(slots:Int)(hl0:l=[])(hx0:x=[])(hs00:slots=0)(hl:l.length≤281474976710656)(hcs:cs.length≤281474976710656)(hx:∀r∈x,r.outs.length≤281474976710656)(hxl:x.length≤281474976710656) :
  PCall Tryz.prog LW 34 [encFlows l,s.av,encChgs cs,encScript x,.int .i64 slots] (.tup [(changeM l s cs x slots).1.av,.int .i64 (changeM l s cs x slots).2]):=by
 refine PCall.intro mixed [19,26] (nt:=105) Tryz.func34 rfl rfl (by simp) ?_
 repeat((conv=>whnf);first|refine sT ?_ )
 try(conv=>whnf)
 refine cD (c_ready l s x slots hl hx hxl) ?_
 repeat((conv=>whnf);first|refine sT ?_ )
 try(conv=>whnf)
 refine BrK.mk (fun h1=>?_) (fun h1=>?_)<;>(try rw[h1])
 ·have h1':readyM l s x slots≠0:=by simpa using h1
  have hpm:changeM l s cs x slots=(⟨[],[]⟩,readyM l s x slots):=by rw[changeM,if_pos h1']
  repeat((conv=>whnf);first|refine sT ?_ )
  try(conv=>whnf)
  rw[hpm]
  exact resP.mk rfl (Sees.of_eq rfl)
 have h1':readyM l s x slots=0:=by simpa using h1
 obtain⟨hfl,hform,hscr,hs0,hs1⟩:=ready_all h1'
 have hF:=flowsOk_of hfl
 repeat((conv=>whnf);first|refine sT ?_ )
 try(conv=>whnf)
 refine BrK.mk (fun h2=>?_) (fun h2=>?_)<;>(try rw[h2])
 ·have h2':1024 < cs.length:=by simp at h2;omega
  have hpm:changeM l s cs x slots=(⟨[],[]⟩,8):=by rw[changeM,if_neg (by simp[h1']),if_pos h2']
  repeat((conv=>whnf);first|refine sT ?_ )
  try(conv=>whnf)
  rw[hpm]
  exact resP.mk rfl (Sees.of_eq rfl)
 have h2':¬1024 < cs.length:=by simp at h2;omega
 repeat((conv=>whnf);first|refine sT ?_ )
 try(conv=>whnf)
 refine SeqK.cutNT mixed [26] (fun (bs:List Sched) S3=>behM none s cs=(bs,0)∧S3=⟨chB s,[((s :: bs).length,3)],0,0,fun k=>if k=0 then 30 else 0⟩) (fun bs=>[(0,encFlows l),(2,encChgs cs),(3,encScript x),(4,.int .i64 slots),(6,.ptr 0 0),(10,.ptr 1 0),(13,.own ((s :: bs).map Sched.av) 0)]) ?_ ?_
 ·repeat((conv=>whnf);first|refine sT ?_ )
  try(conv=>whnf)
  refine LoopK.run mixed [15] (fun q:Nat×List Sched=>BehI s cs q.1 q.2) (fun q=>[(0,encFlows l),(2,encChgs cs),(3,encScript x),(4,.int .i64 slots),(6,.ptr 0 0),(10,.ptr 1 0),(11,.int .i64 0),(13,.own ((s :: q.2).map Sched.av) 0),(35,encChgs cs),(36,.int .i64 cs.length),(37,.int .i64 q.1)]) (fun q=>⟨chB s,[((s :: q.2).length,3)],0,0,fun k=>if k=0 then 30 else 0⟩) (fun q=>cs.length-q.1) (0,[]) (BehI.zero s cs) ?_ ?_
  ·refine fN ?_<;>repeat' (first|exact fQ|refine And.intro ?_ ?_|exact SeesL.rfl' _|exact Sees.int (by simp))
  rintro⟨k,bs⟩ hB
  simp only at hB
  refine Wk ?_
  refine BrK.mk (fun hb=>?_) (fun hb=>?_)<;>try rw[hb]
  ·have hkt:k < cs.length:=by simpa using hb
   obtain⟨c,hgc⟩:=getLt hkt
   have hmc:=getMap (f:=Chg.av) hgc
   have hwk:IntKind.i64.wrap ((k:Int)+1)=((k+1:Nat):Int):=by rw[w64]<;>omega
   repeat((conv=>whnf);first|refine sJ ?_|refine aI (by first|exact inbMap hkt|kernel_rfl) ?_|rw[hmc])
   try(conv=>whnf)
   refine BrK.mk (fun hb2=>?_) (fun hb2=>?_)<;>(try rw[hb2])
   ·have hneg:c.slot < 0:=by simpa using hb2
    have he:=hB.err1 hgc (by rw[chgE_neg hneg];decide)
    rw[chgE_neg hneg]at he
    have hpm:changeM l s cs x slots=(⟨[],[]⟩,2):=by rw[changeM,if_neg (by simp[h1']),if_neg h2',if_pos (by rw[he];decide),he]
    repeat((conv=>whnf);first|refine sT ?_ )
    try(conv=>whnf)
    rw[hpm]
    exact resP.mk rfl (Sees.of_eq rfl)
   have hneg:¬c.slot < 0:=by simpa using hb2
   have hsound:∀e,chgE (prevS cs k) c=e→e≠0→changeM l s cs x slots=(⟨[],[]⟩,e):=fun e h3 h4=>by
    have he:=hB.err1 hgc (by rw[h3];exact h4)
    rw[h3]at he
    rw[changeM,if_neg (by simp[h1']),if_neg h2',if_pos (by rw[he];exact h4),he]
   repeat((conv=>whnf);first|refine sT ?_ )
   try(conv=>whnf)
   have hlast:=hB.last
   have hlb:=hB.len
   have hml:=getMap (f:=Sched.av) hlast
   have hkb:k < (s :: bs).length:=by rw[List.length_cons];omega
   refine BrK.mk (fun g1=>?_) (fun g1=>?_)<;>(try rw[g1])
   ·have hpos:0 < k:=by simpa using g1
    obtain⟨d,hgd⟩:=getLt (l:=cs) (k:=k-1) (by omega)
    have hmd:=getMap (f:=Chg.av) hgd
    have hw1:IntKind.i64.wrap ((k:Int)-1)=((k-1:Nat):Int):=by rw[w64]<;>omega
    have hce:=chgE_next (cs:=cs) (j:=k-1) hneg hgd
    rw[show k-1+1=k from by omega]at hce
    repeat((conv=>whnf);first|refine sJ ?_|refine aI (by first|exact inbMap hkt|(rw[hw1];exact inbMap (by omega:k-1 < cs.length))|kernel_rfl) ?_|rw[hw1]|rw[hmd])
    try(conv=>whnf)
    refine BrK.mk (fun g2=>?_) (fun g2=>?_)<;>(try rw[g2])
    ·have hpm:=hsound 5 (by rw[hce,if_pos (by simpa using g2)]) (by decide)
     repeat((conv=>whnf);first|refine sT ?_ )
     try(conv=>whnf)
     rw[hpm]
     exact resP.mk rfl (Sees.of_eq rfl)
    rw[if_neg (by simpa using g2)]at hce
    repeat((conv=>whnf);first|refine sT ?_ )
    try(conv=>whnf)
    refine SeqK.cutS mixed [] [(0,encFlows l),(2,encChgs cs),(3,encScript x),(4,.int .i64 slots),(6,.ptr 0 0),(10,.ptr 1 0),(11,.int .i64 0),(13,.own ((s :: bs).map Sched.av) 0),(16,.ptr 3 0),(17,.int .i64 (chgM (bs.getLastD s) c).2),(35,encChgs cs),(36,.int .i64 cs.length),(37,.int .i64 k)] ⟨chB s++[.cells c.av.cells 42,.cells (chgM (bs.getLastD s) c).1.av.cells 30],[((s :: bs).length,3)],0,0,fun k=>if k=0 then 30 else 0⟩ (SemK.regionMix mixed [0,1,2,3,4,5,6,7,8] 3 rfl rfl (by decide) rfl ?_) ?_
    ·repeat((conv=>whnf);first|refine sJ ?_|refine aI (by first|exact inbMap hkb|kernel_rfl) ?_|rw[hml])
     try(conv=>whnf)
     refine cD (c_changed LW (bs.getLastD s) c) ?_
     repeat((conv=>whnf);first|refine sT ?_ )
     try(conv=>whnf)
     repeat' ((conv=>whnf);first|exact trivial|refine sJ ?_|refine aI (by first|exact trivial|exact More.pre rfl rfl|kernel_rfl) ?_|refine And.intro ?_ ?_ )
     all_goals refine Fits.mk' rfl rfl rfl rfl ?_ ?_ ?_ ?_ ?_
     all_goals repeat' (first|exact trivial|refine And.intro ?_ ?_|exact Sees.of_eq rfl|exact lt_b rfl|rfl|exact SeesL.rfl' _)
    repeat((conv=>whnf);first|refine sT ?_ )
    try(conv=>whnf)
    refine BrK.mk (fun h3=>?_) (fun h3=>?_)<;>(try rw[h3])
    ·have hbe:=hB.err2 hgc hce (by simpa using h3)
     have hpm:changeM l s cs x slots=(⟨[],[]⟩,(chgM (bs.getLastD s) c).2):=by rw[changeM,if_neg (by simp[h1']),if_neg h2',if_pos (by rw[hbe];simpa using h3),hbe]
     repeat((conv=>whnf);first|refine sT ?_ )
     try(conv=>whnf)
     rw[hpm]
     exact resP.mk rfl (Sees.of_eq rfl)
    have hstep:=hB.step hgc hce (by simpa using h3)
    repeat((conv=>whnf);first|refine sJ ?_|refine aI (by first|exact Els.map (f:=Sched.av) (fun _=>⟨rfl,rfl⟩)|exact(show _*40≤_ by simp only[List.length_map,List.length_cons,List.length_nil];omega)|exact(by simp only[List.length_map,List.length_cons,List.length_nil,maxLen];omega)|exact(by rw[List.length_map];rfl)|kernel_rfl) ?_ )
    try(conv=>whnf)
    refine⟨(k+1,bs++[(chgM (bs.getLastD s) c).1]),hstep,by simp only;omega,?_⟩
    refine fN ?_<;>repeat' (first|exact fQ|refine And.intro ?_ ?_|exact SeesL.rfl' _|exact Sees.int hwk|exact Sees.own (by simp;rfl)|(show(_,_)=(_,_);simp only[List.length_append,List.length_map,List.length_cons,List.length_nil]))
   ·have hk0:k=0:=by simp at g1;omega
    have hce:chgE (prevS cs k) c=0:=by rw[hk0];exact chgE_first hneg
    repeat((conv=>whnf);first|refine sT ?_ )
    try(conv=>whnf)
    refine SeqK.cutS mixed [] [(0,encFlows l),(2,encChgs cs),(3,encScript x),(4,.int .i64 slots),(6,.ptr 0 0),(10,.ptr 1 0),(11,.int .i64 0),(13,.own ((s :: bs).map Sched.av) 0),(16,.ptr 3 0),(17,.int .i64 (chgM (bs.getLastD s) c).2),(35,encChgs cs),(36,.int .i64 cs.length),(37,.int .i64 k)] ⟨chB s++[.cells c.av.cells 42,.cells (chgM (bs.getLastD s) c).1.av.cells 30],[((s :: bs).length,3)],0,0,fun k=>if k=0 then 30 else 0⟩ (SemK.regionMix mixed [0,1,2,3,4,5,6,7,8] 3 rfl rfl (by decide) rfl ?_) ?_
    ·repeat((conv=>whnf);first|refine sJ ?_|refine aI (by first|exact inbMap hkb|kernel_rfl) ?_|rw[hml])
     try(conv=>whnf)
     refine cD (c_changed LW (bs.getLastD s) c) ?_
     repeat((conv=>whnf);first|refine sT ?_ )
     try(conv=>whnf)
     repeat' ((conv=>whnf);first|exact trivial|refine sJ ?_|refine aI (by first|exact trivial|exact More.pre rfl rfl|kernel_rfl) ?_|refine And.intro ?_ ?_ )
     all_goals refine Fits.mk' rfl rfl rfl rfl ?_ ?_ ?_ ?_ ?_
     all_goals repeat' (first|exact trivial|refine And.intro ?_ ?_|exact Sees.of_eq rfl|exact lt_b rfl|rfl|exact SeesL.rfl' _)
    repeat((conv=>whnf);first|refine sT ?_ )
    try(conv=>whnf)
    refine BrK.mk (fun h3=>?_) (fun h3=>?_)<;>(try rw[h3])
    ·have hbe:=hB.err2 hgc hce (by simpa using h3)
     have hpm:changeM l s cs x slots=(⟨[],[]⟩,(chgM (bs.getLastD s) c).2):=by rw[changeM,if_neg (by simp[h1']),if_neg h2',if_pos (by rw[hbe];simpa using h3),hbe]
     repeat((conv=>whnf);first|refine sT ?_ )
     try(conv=>whnf)
     rw[hpm]
     exact resP.mk rfl (Sees.of_eq rfl)
    have hstep:=hB.step hgc hce (by simpa using h3)
    repeat((conv=>whnf);first|refine sJ ?_|refine aI (by first|exact Els.map (f:=Sched.av) (fun _=>⟨rfl,rfl⟩)|exact(show _*40≤_ by simp only[List.length_map,List.length_cons,List.length_nil];omega)|exact(by simp only[List.length_map,List.length_cons,List.length_nil,maxLen];omega)|exact(by rw[List.length_map];rfl)|kernel_rfl) ?_ )
    try(conv=>whnf)
    refine⟨(k+1,bs++[(chgM (bs.getLastD s) c).1]),hstep,by simp only;omega,?_⟩
    refine fN ?_<;>repeat' (first|exact fQ|refine And.intro ?_ ?_|exact SeesL.rfl' _|exact Sees.int hwk|exact Sees.own (by simp;rfl)|(show(_,_)=(_,_);simp only[List.length_append,List.length_map,List.length_cons,List.length_nil]))
  ·have hk':k=cs.length:=by have:=hB.le;simp at hb;omega
   subst hk'
   refine Wk ?_
   exact⟨bs,⟨hB.fin,rfl⟩,Sees.of_eq rfl,Sees.of_eq rfl,Sees.of_eq rfl,Sees.of_eq rfl,Sees.of_eq rfl,Sees.of_eq rfl,Sees.of_eq rfl,trivial⟩
 rintro bs S0 ⟨hbeh,rfl⟩
 have hb2:(behM none s cs).2=0:=by rw[hbeh]
 have hb1:(behM none s cs).1=bs:=by rw[hbeh]
 have hpm:changeM l s cs x slots=(⟨[],[]⟩,0):=by
  rw[changeM,if_neg (by simp[h1']),if_neg h2',if_neg (by rw[hb2];decide)]
  subst hl0;subst hx0;subst hs00
  rfl
 rw[hpm]
 subst hl0;subst hx0;subst hs00
 refine twC_sound (ct:=[26]) mixed _ _ _ _ ?_
 repeat((conv=>whnf);first|refine sT ?_ )
 try(conv=>whnf)
 refine CallK.inl rfl (ICall.intro mixed [] (nt:=29) Tryz.func84 rfl rfl (by simp) ?_)
 repeat((conv=>whnf);first|refine sT ?_ )
 try(conv=>whnf)
 refine LoopK.runS mixed [] (fun (_:Unit) (S1:St)=>S1.bx[1]? = some (.cells [.nils,.nils] 74)∧S1.bx[3]? = some (.cells [.sl false [],.int .i64 s.len,.int .i64 s.offs,encCells s.cells,.sl false [],.nils,.nils,.nils] 137)) (fun _=>[(7,.ptr 3 0),(14,.int .i64 0),(15,.int .i64 0)]) (fun _=>0) () ⟨rfl,rfl⟩ ?_ ?_
 ·exact⟨Sees.of_eq rfl,Sees.of_eq rfl,Sees.of_eq rfl,trivial⟩
 rintro⟨⟩ S1 ⟨k1,k2⟩
 repeat((conv=>whnf);first|refine sT ?_ )
 try(conv=>whnf)
 refine SeqK.cutN mixed [] [] (fun (_:Unit) (S2:St)=>S2.bx[1]? = some (.cells [.nils,.nils] 74)∧S2.bx[3]? = some (.cells [.sl false [],.int .i64 s.len,.int .i64 s.offs,encCells s.cells,.sl false [],.nils,.nils,.nils] 137)) (fun _=>[(10,.ptr 1 0),(18,.ptr 3 0)]) ?_ ?_
 ·repeat((conv=>whnf);first|refine sT ?_ )
  try(conv=>whnf)
  refine LoopK.runS mixed [] (fun (_:Unit) (S2:St)=>S2.bx[1]? = some (.cells [.nils,.nils] 74)∧S2.bx[3]? = some (.cells [.sl false [],.int .i64 s.len,.int .i64 s.offs,encCells s.cells,.sl false [],.nils,.nils,.nils] 137)) (fun _=>[(10,.ptr 1 0),(18,.ptr 3 0),(82,.int .i64 0),(83,.int .i64 0)]) (fun _=>0) () ⟨k1,k2⟩ ?_ ?_
  ·exact⟨Sees.of_eq rfl,Sees.of_eq rfl,Sees.of_eq rfl,Sees.of_eq rfl,trivial⟩
  rintro⟨⟩ S2 ⟨k3,k4⟩
  repeat((conv=>whnf);first|refine sT ?_ )
  try(conv=>whnf)
  exact⟨(),⟨k3,k4⟩,Sees.of_eq rfl,Sees.of_eq rfl,trivial⟩
 rintro⟨⟩ S2 ⟨k3,k4⟩
 repeat((conv=>whnf);first|refine sT ?_|rw[k4]|rw[k3]|rw[St.setB_get k3])
 try(conv=>whnf)
 exact resP.mk rfl (Sees.of_eq rfl)
theorem c_wrongC (s:Sched)(cs:List Chg)(hcs:cs.length≤281474976710656):PCall Tryz.prog LW 65 [s.av,encChgs cs] (.int .i64 (wrongE s cs)):=by
 refine PCall.intro mixed [] (nt:=14) Tryz.func65 rfl rfl (by simp) ?_
 refine Wk ?_
 refine cD (c_Change0 [] s cs [] 0 rfl rfl rfl (by simp) hcs (by simp) (by simp)) ?_
 rw[wrong_eq]
 refine Wk ?_
 exact resP.mk rfl (Sees.int rfl)
end HM
