/- A reconfiguration is opened: order.open. -/
import Derived.Test.YtckcedndijobaaaGreatDoorS257
set_option maxHeartbeats 64000000
set_option maxRecDepth 100000
namespace HM
open Go Go.RowKit Go.Proofs
theorem i_open (n:Net)(hn:n.small)(before after:List Req)(hq1:before.length≤1000)(hq2:after.length≤1000)(hx1:∀x∈before,x.small)(hx2:∀x∈after,x.small)(s t:Sched)(hs:s.cells.length≤500)(ht:t.cells.length≤500)(o1 o2 o3:Ob)(n0 m0:Nat)(ty:Nat→TypeId){K:AV→St→Prop}
  (hK1:∀S',openO n before after s t≠0→K (.tup [.nilp,.int .i64 (openO n before after s t)]) S')
  (hK0:∀S',openO n before after s t=0→S'.bx[8]? = some (.cells (prC n s (bothM before after) (stayO before after) (stepsL s t) 6 7) 76)→S'.bx[6]? = some (.map none [] [])→S'.bx[7]? = some (.map none [] [])→K (.tup [.ptr 8 0,.int .i64 0]) S') :
  ICall Tryz.prog LW 34 [n.av,encReqs before,encReqs after,s.av,t.av] ⟨[o1,o2,o3],[],n0,m0,ty⟩ K:=by
 refine ICall.intro mixed [1] (nt:=150) Tryz.func34 rfl rfl (by simp) ?_
 have hck:=c_CheckC n hn before after (by omega) (by omega) hx1 hx2 s (by omega) [] (by simp)
 have hst:=c_StepsO LW s t (by omega) (by omega)
 have hlt:=stepsL_len s t
 refine Wk ?_
 refine SeqK.sem mixed [] ?_
 refine Wk ?_
 refine SemK.freezeB 3 rfl rfl ?_
 refine SemK.freezeB 4 rfl rfl ?_
 refine SemK.freezeB 5 rfl rfl ?_
 refine twC_sound (ct:=[8,16,23,24]) mixed _ _ _ _ ?_
 refine Wk ?_
 refine cD (hck) ?_
 rcases check_nil n before after s with ⟨hw,hce⟩|⟨hw,hc1,hc2⟩
 ·have ho:openO n before after s t=wholeC n before after s:=by unfold openO;rw[if_pos hw]
  rw[hce]
  have hv:=whole_vals n before after s
  have hk:=fun S'=>hK1 S' (by rw[ho];exact hw)
  rw[ho]at hk
  rcases hv with h|h|h|h
  ·exact absurd h hw
  all_goals
   rw[h]at hk ⊢
   repeat((conv=>whnf);first|refine sT ?_ )
   try(conv=>whnf)
   exact hk _
 rw[hc1]
 have hgo:∀e:Int,(e=0∨e=18)→(e==1)=false∧(e==11)=false∧(e==2)=false:=fun e h=>by rcases h with rfl|rfl<;>decide
 obtain⟨g1,g2,g3⟩:=hgo _ hc2
 repeat((conv=>whnf);first|refine sT ?_|rw[g1]|rw[g2]|rw[g3])
 try(conv=>whnf)
 refine cD (hst) ?_
 by_cases he:(stepsM s t).2=0
 rotate_left
 ·have ho:openO n before after s t=(stepsM s t).2:=by unfold openO;rw[if_neg (by omega),if_pos he]
  have g4:((stepsM s t).2 != 0)=true:=by simpa using he
  have hk:=fun S'=>hK1 S' (by rw[ho];exact he)
  rw[ho]at hk
  repeat((conv=>whnf);first|refine sT ?_|rw[g4])
  try(conv=>whnf)
  exact hk _
 have g4:((stepsM s t).2 != 0)=false:=by simpa using he
 rw[(stepsM_ok he).2.2.2.2]
 have hWk:=wholeC_ok hw
 obtain⟨LL,hLL⟩:∃LL,LL=stepsL s t:=⟨_,rfl⟩
 rw[←hLL]
 repeat((conv=>whnf);first|refine sT ?_|rw[g4])
 try(conv=>whnf)
 have hrb:=hWk.rb
 have hra:=hWk.ra
 obtain⟨hnok,hq16,hreq,_⟩:=reqE_ok hrb
 obtain⟨_,hqa16,hreqa,_⟩:=reqE_ok hra
 have hro:=reqsOk hrb
 have hao:=reqsOk hra
 refine SeqK.sem mixed [] ?_
 refine Wk ?_
 refine SemK.bornM 8 7 81 76 [.int .i64 n.nodes,encRows n.power,.int .i64 n.noise,.int .i64 n.thr,encLinks n.links,encIs n.margin,.int .i64 s.len,.int .i64 s.offs,encCells s.cells,.nils] [encChgs LL,.mp 6,.mp 7] rfl ?_
 refine SemK.recast (id:=8) (prO n s (.grown .nils 0) (.own [] 0) LL) rfl rfl ⟨rfl,Sees.rfl' _,Sees.rfl' _,Sees.rfl' _,Sees.rfl' _,Sees.rfl' _,Sees.rfl' _,Sees.rfl' _,Sees.rfl' _,Sees.rfl' _,Sees.nilG,Sees.rfl' _,Sees.rfl' _,Sees.rfl' _,Sees.rfl' _,trivial⟩ ?_
 refine twC_sound (ct:=[16]) mixed _ _ _ _ ?_
 refine Wk ?_
 refine SeqK.cutN mixed [] [23] (fun (v:AV) (S1:St)=>OpI n s LL S1 v (flowsQ before) (stayO before after) 0) (fun _=>[(1,encReqs before),(2,encReqs after),(9,.cptr t.av 0),(14,encChgs LL),(16,.ptr 8 0)]) ?_ ?_
 ·refine Wk ?_
  refine LoopK.runS mixed [11] (fun (q:Nat×AV) (S1:St)=>q.1≤before.length∧OpI n s LL S1 q.2 (flowsQ (before.take q.1)) (stayK before after q.1) 0) (fun q=>[(1,encReqs before),(2,encReqs after),(9,.cptr t.av 0),(14,encChgs LL),(16,.ptr 8 0),(64,encReqs before),(65,.int .i64 before.length),(66,.int .i64 q.1)]) (fun q=>before.length-q.1) (0,.grown .nils 0) ⟨by simp,⟨rfl,rfl,rfl,.inl ⟨rfl,by simp[flowsQ]⟩,rfl,rfl⟩⟩ ?_ ?_
  ·exact⟨Sees.of_eq rfl,Sees.of_eq rfl,Sees.of_eq rfl,Sees.of_eq rfl,Sees.of_eq rfl,Sees.of_eq rfl,Sees.int (by simp),Sees.of_eq rfl,trivial⟩
  rintro⟨k,v⟩ S1 ⟨hk,hO1⟩
  dsimp only at hk hO1 ⊢
  by_cases hkt:k < before.length
  rotate_left
  ·have hkn:k=before.length:=by omega
   subst hkn
   rw[List.take_length,stayK_all]at hO1
   have gk:decide ((before.length:Int) < (before.length:Int))=false:=decide_eq_false (by omega)
   repeat((conv=>whnf);first|refine sT ?_|rw[gk])
   try(conv=>whnf)
   exact⟨v,hO1,Sees.of_eq rfl,Sees.of_eq rfl,Sees.of_eq rfl,Sees.of_eq rfl,Sees.of_eq rfl,trivial⟩
  obtain⟨x,hgx⟩:=getLt hkt
  have hmx:=getMap (f:=Req.av) hgx
  have gk:decide ((k:Int) < (before.length:Int))=true:=decide_eq_true (by omega)
  have hft:flowsQ (before.take (k+1))=flowsQ (before.take k)++[x.flow]:=by unfold flowsQ;rw[take_succ hgx,List.map_append];rfl
  have hsk:=stayK_succ (after:=after) hgx
  have hskl:=stayK_len before after k
  obtain⟨fl,hfle⟩:∃fl,fl=flowsQ (before.take k):=⟨_,rfl⟩
  obtain⟨st,hste⟩:∃st,st=stayK before after k:=⟨_,rfl⟩
  have hfll:fl.length≤16:=by rw[hfle];unfold flowsQ;rw[List.length_map,List.length_take];omega
  rw[←hfle]at hft hO1
  rw[←hste]at hsk hO1 hskl
  have hA:∀(S:St) o,(S.addB o).bx[S.bx.length]? = some o:=fun S o=>St.addB_get S o
  repeat((conv=>whnf);first|refine sJ ?_|refine aI (by first|exact trivial|exact inbMap hkt|kernel_rfl) ?_|rw[gk]|rw[hmx]|rw[hA])
  try(conv=>whnf)
  obtain⟨xb,hxb⟩:∃xb,xb=S1.bx.length:=⟨_,rfl⟩
  have hx8:xb≠8:=by have:=hO1.lt;omega
  refine SeqK.cutN mixed [] [12] (fun (_:Unit) (S2:St)=>OpI n s LL S2 v fl st 0∧S2.bx[xb]? = some (.cells x.av.cells 81)) (fun _=>[(1,encReqs before),(2,encReqs after),(9,.cptr t.av 0),(14,encChgs LL),(16,.ptr 8 0),(18,.ptr xb 0),(64,encReqs before),(65,.int .i64 before.length),(66,.int .i64 k)]) ?_ ?_
  ·repeat((conv=>whnf);first|refine sJ ?_|refine aI (by first|exact trivial|exact inbMap hkt|kernel_rfl) ?_|rw[hmx]|rw[hA])
   try(conv=>whnf)
   refine⟨(),⟨hO1.more (old_box S1 _ _) rfl rfl,?_⟩,Sees.of_eq rfl,Sees.of_eq rfl,Sees.of_eq rfl,Sees.of_eq rfl,Sees.of_eq rfl,Sees.of_eq (by rw[hxb];rfl),Sees.of_eq rfl,Sees.of_eq rfl,Sees.of_eq rfl,trivial⟩
   rw[hxb]
   exact St.setB_get (St.addB_get _ _)
  rintro⟨⟩ S2 ⟨hO,hX⟩
  conv=>whnf
  refine SeqK.cutN mixed [10011] [10014] (fun (v:AV) (S3:St)=>OpI n s LL S3 v (fl++[x.flow]) st 0∧S3.bx[xb]? = some (.cells x.av.cells 81)) (fun _=>[(1,encReqs before),(2,encReqs after),(9,.cptr t.av 0),(14,encChgs LL),(16,.ptr 8 0),(18,.ptr xb 0),(64,encReqs before),(65,.int .i64 before.length),(66,.int .i64 k)]) ?_ ?_
  ·have hxl:=(List.getElem?_eq_some_iff.1 hX).1
   rcases hO.gv with ⟨rfl,ho⟩|⟨id,d,hid,rfl,hbx⟩
   ·refine Wk ?_
    refine SemK.regionFin mixed (fun X=>X.bx[8]? = some (prO n s (.grown .nils 0) (.own (st.map Req.av) 0) LL)∧X.bx[xb]? = some (.cells x.av.cells 81)) [0,1,2,3,4,5,6,7] 4 rfl rfl (by decide) rfl ⟨hO.p,hX⟩ ?_
    iterate 8
     conv=>whnf
     apply exV
     ·rintro S' K' hI hh
      repeat((conv=>whnf);first|refine sT ?_|erw [hI.1]|erw [hI.2])
      try(conv=>whnf)
      exact hh
    conv=>whnf
    have hD1:∀o2:Ob,(S2.addB o2).bx[8]? = some (prO n s (.grown .nils 0) (.own (st.map Req.av) 0) LL):=fun o2=>St.addB_old hO.p
    have hD2:∀o2:Ob,(S2.addB o2).bx[xb]? = some (.cells x.av.cells 81):=fun o2=>St.addB_old hX
    repeat' ((conv=>whnf);first|exact trivial|refine sJ ?_|refine aI (by first|exact trivial|exact Or.inl rfl|kernel_rfl) ?_|refine And.intro ?_ ?_ )
    ·exact one_max
    intro d2
    repeat' ((conv=>whnf);first|exact trivial|refine sJ ?_|refine aI (by first|exact trivial|exact Or.inr ⟨hD1 _,hD2 _⟩|exact Or.inl rfl|kernel_rfl) ?_|refine And.intro ?_ ?_|rw[hD1]|rw[hD2])
    all_goals(conv=>whnf)
    all_goals
     have hF:=fun X hX2=>hO.grow (X:=X) (l':=fl++[x.flow]) (d:=d2) (k:=1) hX2 (by rw[ho];rfl)
     exact⟨_,⟨hF _ (by rw[ho];rfl),(St.setB_ne (by omega)).trans (hD2 _)⟩,Sees.of_eq rfl,Sees.of_eq rfl,Sees.of_eq rfl,Sees.of_eq rfl,Sees.of_eq rfl,Sees.of_eq rfl,Sees.of_eq rfl,Sees.of_eq rfl,Sees.of_eq rfl,trivial⟩
   ·have hidl:=(List.getElem?_eq_some_iff.1 hbx).1
    have hfl6:=flowEnc.flen fl
    have hpush:=flowEnc.push fl x.flow d
    have hcut:=flowEnc.cut fl (List.replicate (d*6) .undef)
    rw[List.length_append,hfl6]at hpush
    have hpid:id≠xb:=fun h=>by
     rw[h,hX]at hbx
     have e:=Ob.cells.inj (Option.some.inj hbx)
     exact absurd e.2 (by decide)
    have hF1:∀o2:Ob,(S2.setB id o2).bx[8]? = some (prO n s (.vsl id 0 fl.length 6) (.own (st.map Req.av) 0) LL):=fun o2=>(St.setB_ne hid).trans hO.p
    have hF2:∀o2:Ob,(S2.setB id o2).bx[xb]? = some (.cells x.av.cells 81):=fun o2=>(St.setB_ne hpid).trans hX
    have hG1:∀o2:Ob,(S2.addB o2).bx[8]? = some (prO n s (.vsl id 0 fl.length 6) (.own (st.map Req.av) 0) LL):=fun o2=>St.addB_old hO.p
    have hG2:∀o2:Ob,(S2.addB o2).bx[xb]? = some (.cells x.av.cells 81):=fun o2=>St.addB_old hX
    refine Wk ?_
    refine SemK.regionFin mixed (fun X=>X.bx[8]? = some (prO n s (.vsl id 0 fl.length 6) (.own (st.map Req.av) 0) LL)∧X.bx[xb]? = some (.cells x.av.cells 81)) [0,1,2,3,4,5,6,7] 4 rfl rfl (by decide) rfl ⟨hO.p,hX⟩ ?_
    iterate 8
     conv=>whnf
     apply exV
     ·rintro S' K' hI hh
      repeat((conv=>whnf);first|refine sT ?_|erw [hI.1]|erw [hI.2])
      try(conv=>whnf)
      exact hh
    conv=>whnf
    repeat' ((conv=>whnf);first|exact trivial|refine sJ ?_|refine aI (by first|exact trivial|exact Or.inl rfl|kernel_rfl) ?_|refine And.intro ?_ ?_|rw[hbx])
    ·exact(show(fl.length+1)*48≤_ by omega)
    ·exact(show fl.length+1≤maxLen by unfold maxLen;omega)
    ·rw[List.length_append,hfl6];exact Nat.le_add_right _ _
    refine AppK.mk (fun hroom=>?_) (fun _=>?_)
    ·rw[List.length_append,hfl6]at hroom
     repeat' ((conv=>whnf);first|exact trivial|refine sJ ?_|refine aI (by first|exact trivial|exact Or.inr ⟨hF1 _,hF2 _⟩|exact Or.inl rfl|kernel_rfl) ?_|refine And.intro ?_ ?_|rw[hF1]|rw[hF2])
     all_goals(conv=>whnf)
     all_goals
      have hF:=fun X hX2=>hO.room hid hbx (X:=X) (l':=fl++[x.flow]) (d:=d-1) (k:=fl.length+1) hX2 (by simp)
      exact⟨_,⟨hF _ (by rw[←hpush hroom];rfl),(St.setB_ne (by omega)).trans (hF2 _)⟩,Sees.of_eq rfl,Sees.of_eq rfl,Sees.of_eq rfl,Sees.of_eq rfl,Sees.of_eq rfl,Sees.of_eq rfl,Sees.of_eq rfl,Sees.of_eq rfl,Sees.of_eq rfl,trivial⟩
    ·intro d2
     repeat' ((conv=>whnf);first|exact trivial|refine sJ ?_|refine aI (by first|exact trivial|exact Or.inr ⟨hG1 _,hG2 _⟩|exact Or.inl rfl|kernel_rfl) ?_|refine And.intro ?_ ?_|rw[hG1]|rw[hG2])
     all_goals(conv=>whnf)
     all_goals
      have hF:=fun X hX2=>hO.grow (X:=X) (l':=fl++[x.flow]) (d:=d2) (k:=fl.length+1) hX2 (by simp)
      exact⟨_,⟨hF _ (by rw[←flatE_push];show List.take (fl.length*6) _++_++_=_;rw[hcut];rfl),(St.setB_ne (by omega)).trans (hG2 _)⟩,Sees.of_eq rfl,Sees.of_eq rfl,Sees.of_eq rfl,Sees.of_eq rfl,Sees.of_eq rfl,Sees.of_eq rfl,Sees.of_eq rfl,Sees.of_eq rfl,Sees.of_eq rfl,trivial⟩
  rintro v2 S3 ⟨hO3,hX3⟩
  rw[←hft]at hO3
  repeat((conv=>whnf);first|refine sT ?_|rw[hX3])
  try(conv=>whnf)
  refine CallK.data rfl (c_BinReqO LW after x 69 (fun y:Req=>cmpI y.flow.id x.flow.id) (by omega) rfl (mono_req hao.sorted x) (fun y _=>c_byID LW y x)) rfl ?_
  rcases bin_get hao.sorted x with ⟨e1,y,e2,e3⟩|⟨e1,e3⟩
  rotate_left
  ·rw[e1]
   have hsr:stayR after x=[]:=by unfold stayR;rw[e3]
   rw[hsr,List.append_nil]at hsk
   refine Wk ?_
   exact⟨(k+1,v2),⟨by simp only;omega,by rw[hsk];exact hO3⟩,by simp only;omega,Sees.of_eq rfl,Sees.of_eq rfl,Sees.of_eq rfl,Sees.of_eq rfl,Sees.of_eq rfl,Sees.of_eq rfl,Sees.of_eq rfl,Sees.int (succI hkt (by omega)),trivial⟩
  rw[e1]
  have hmy:=getMap (f:=Req.av) e2
  have hyl:=(List.getElem?_eq_some_iff.1 e2).1
  have hsr:stayR after x=[⟨x.flow,x.routes++y.routes⟩]:=by unfold stayR;rw[e3]
  rw[hsr]at hsk
  obtain⟨rx,hrx⟩:∃rx,rx=x.routes:=⟨_,rfl⟩
  obtain⟨ry,hry⟩:∃ry,ry=y.routes:=⟨_,rfl⟩
  have hlx:=(hreq x (List.mem_of_getElem? hgx)).len.2
  have hly:=(hreqa y (List.mem_of_getElem? e2)).len.2
  have hcc:=c_ConcatRtC LW [rx,ry] (by simp) (by rw[hrx,hry];simp;omega)
  have hfl:([rx,ry]:List (List (List Int))).flatten=rx++ry:=by simp
  rw[hfl,hrx,hry]at hcc
  refine Wk ?_
  refine SemK.regionFin mixed (fun X=>X.bx[8]? = some (prO n s v2 (.own (st.map Req.av) 0) LL)∧X.bx[xb]? = some (.cells x.av.cells 81)) [0,1,2,3,4,5,6,7,8,9,10,11,12,13,14,15,16,17] 4 rfl rfl (by decide) rfl ⟨hO3.p,hX3⟩ ?_
  iterate 15
   conv=>whnf
   apply exV
   ·rintro S' K' hI hh
    repeat((conv=>whnf);first|refine sJ ?_|refine aI (by first|exact trivial|exact inbMap hyl|kernel_rfl) ?_|erw [hI.1]|erw [hI.2]|rw[hmy])
    try(conv=>whnf)
    exact hh
  conv=>whnf
  apply exV
  ·rintro S' K' hI hh
   refine Wk ?_
   refine cD (hcc) ?_
   exact hh
  iterate 2
   conv=>whnf
   apply exV
   ·rintro S' K' hI hh
    refine Wk ?_
    exact hh
  conv=>whnf
  have hfr8:S3.fr[0]? = some ((st.map Req.av).length,6+1):=by rw[List.length_map];exact hO3.fr
  have hsz1:((st.map Req.av).length+1)*72≤140737488355328:=by rw[List.length_map];omega
  have hsz2:(st.map Req.av).length+1≤maxLen:=by rw[List.length_map];unfold maxLen;omega
  have hB8:∀x,(S3.setF 0 x).bx[8]? = some (prO n s v2 (.own (st.map Req.av) 0) LL):=fun x=>hO3.p
  have hX8:∀y,(S3.setF 0 y).bx[xb]? = some (.cells x.av.cells 81):=fun y=>hX3
  repeat' ((conv=>whnf);first|exact trivial|refine sJ ?_|refine aI (by first|exact trivial|exact Or.inl rfl|exact Or.inr (And.intro hO3.p hX3)|exact Or.inr (And.intro (hB8 _) (hX8 _))|exact Els.of_b rfl|exact Els.map (f:=Req.av) (fun _=>⟨rfl,rfl⟩)|exact hsz1|exact hsz2|exact hfr8|exact hO3.ty|kernel_rfl) ?_|refine And.intro ?_ ?_|rw[hB8])
  all_goals(conv=>whnf)
  all_goals
   refine⟨(k+1,v2),⟨by simp only;omega,?_⟩,by simp only;omega,Sees.of_eq rfl,Sees.of_eq rfl,Sees.of_eq rfl,Sees.of_eq rfl,Sees.of_eq rfl,Sees.of_eq rfl,Sees.of_eq rfl,Sees.int (succI hkt (by omega)),trivial⟩
   rw[hsk]
   exact hO3.stay (List.map_append (f:=Req.av) (l₁:=st) (l₂:=[⟨x.flow,x.routes++y.routes⟩])).symm (by simp only[List.length_append,List.length_map,List.length_cons,List.length_nil])
 rintro v S1 hO1
 obtain⟨flA,hflA⟩:∃flA:Nat→List Flow,flA=fun k=>flowsQ before++((after.take k).filter fun x=>!hasQ before x.flow.id).map Req.flow:=⟨_,rfl⟩
 have hA0:flA 0=flowsQ before:=by rw[hflA];simp
 have hAe:flA after.length=flowsA before after:=by rw[hflA];simp only[List.take_length];rfl
 have hAl:∀k,(flA k).length≤32:=fun k=>by
  rw[hflA]
  have:=flowsA_len (before:=before) (after:=after) k
  show(flowsQ before++_).length≤32
  omega
 have hAs:∀(k:Nat) x,after[k]? = some x→flA (k+1)=flA k++if hasQ before x.flow.id=true then [] else [x.flow]:=fun k x hx=>by
  rw[hflA]
  simp only
  rw[take_succ hx,List.filter_append,List.map_append,List.append_assoc]
  congr 2
  simp only[List.filter_cons,List.filter_nil]
  cases hasQ before x.flow.id<;>rfl
 obtain⟨st,hste⟩:∃st,st=stayO before after:=⟨_,rfl⟩
 rw[←hste]at hO1
 conv=>whnf
 refine SeqK.cutNT mixed [] (fun (v:AV) (S2:St)=>OpI n s LL S2 v (flowsA before after) st 0) (fun _=>[(2,encReqs after),(9,.cptr t.av 0),(14,encChgs LL),(16,.ptr 8 0)]) ?_ ?_
 ·repeat((conv=>whnf);first|refine sT ?_ )
  try(conv=>whnf)
  refine LoopK.runS mixed [22] (fun (q:Nat×AV) (S2:St)=>q.1≤after.length∧OpI n s LL S2 q.2 (flA q.1) st 0) (fun q=>[(1,encReqs before),(2,encReqs after),(9,.cptr t.av 0),(14,encChgs LL),(16,.ptr 8 0),(110,encReqs after),(111,.int .i64 after.length),(112,.int .i64 q.1)]) (fun q=>after.length-q.1) (0,v) ⟨by simp,by rw[hA0];exact hO1⟩ ?_ ?_
  ·exact⟨Sees.of_eq rfl,Sees.of_eq rfl,Sees.of_eq rfl,Sees.of_eq rfl,Sees.of_eq rfl,Sees.of_eq rfl,Sees.int (by simp),Sees.of_eq rfl,trivial⟩
  rintro⟨k,v2⟩ S2 ⟨hk,hO2⟩
  dsimp only at hk hO2 ⊢
  by_cases hkt:k < after.length
  rotate_left
  ·have hkn:k=after.length:=by omega
   subst hkn
   have gk:decide ((after.length:Int) < (after.length:Int))=false:=decide_eq_false (by omega)
   rw[hAe]at hO2
   repeat((conv=>whnf);first|refine sT ?_|rw[gk])
   try(conv=>whnf)
   exact⟨v2,hO2,Sees.of_eq rfl,Sees.of_eq rfl,Sees.of_eq rfl,Sees.of_eq rfl,trivial⟩
  obtain⟨x,hgx⟩:=getLt hkt
  have hmx:=getMap (f:=Req.av) hgx
  have gk:decide ((k:Int) < (after.length:Int))=true:=decide_eq_true (by omega)
  have hnx:=hAs k x hgx
  have hal:=hAl k
  obtain⟨fl,hfle⟩:∃fl,fl=flA k:=⟨_,rfl⟩
  rw[←hfle]at hnx hO2 hal
  have hA:∀(S:St) o,(S.addB o).bx[S.bx.length]? = some o:=fun S o=>St.addB_get S o
  obtain⟨xb,hxb⟩:∃xb,xb=S2.bx.length:=⟨_,rfl⟩
  have hx8:xb≠8:=by have:=hO2.lt;omega
  repeat((conv=>whnf);first|refine sJ ?_|refine aI (by first|exact trivial|exact inbMap hkt|kernel_rfl) ?_|rw[gk]|rw[hmx]|rw[hA])
  try(conv=>whnf)
  refine SeqK.cutN mixed [19] [] (fun (v:AV) (S3:St)=>OpI n s LL S3 v (flA (k+1)) st 0∧S3.bx[xb]? = some (.cells x.av.cells 81)) (fun _=>[(1,encReqs before),(2,encReqs after),(9,.cptr t.av 0),(14,encChgs LL),(16,.ptr 8 0),(110,encReqs after),(111,.int .i64 after.length),(112,.int .i64 k)]) ?_ ?_
  rotate_left
  ·rintro v3 S3 ⟨hO3,_⟩
   refine Wk ?_
   exact⟨(k+1,v3),⟨by simp only;omega,hO3⟩,by simp only;omega,Sees.of_eq rfl,Sees.of_eq rfl,Sees.of_eq rfl,Sees.of_eq rfl,Sees.of_eq rfl,Sees.of_eq rfl,Sees.of_eq rfl,Sees.int (succI hkt (by omega)),trivial⟩
  repeat((conv=>whnf);first|refine sJ ?_|refine aI (by first|exact trivial|exact inbMap hkt|kernel_rfl) ?_|rw[hmx]|rw[hA])
  try(conv=>whnf)
  refine SeqK.cutN mixed [] [10021] (fun (_:Unit) (S3:St)=>OpI n s LL S3 v2 fl st 0∧S3.bx[xb]? = some (.cells x.av.cells 81)) (fun _=>[(1,encReqs before),(2,encReqs after),(9,.cptr t.av 0),(14,encChgs LL),(16,.ptr 8 0),(22,.ptr xb 0),(110,encReqs after),(111,.int .i64 after.length),(112,.int .i64 k)]) ?_ ?_
  ·repeat((conv=>whnf);first|refine sJ ?_|refine aI (by first|exact trivial|exact inbMap hkt|kernel_rfl) ?_|rw[hmx]|rw[hA])
   try(conv=>whnf)
   refine⟨(),⟨hO2.more (old_box S2 _ _) rfl rfl,?_⟩,Sees.of_eq rfl,Sees.of_eq rfl,Sees.of_eq rfl,Sees.of_eq rfl,Sees.of_eq rfl,Sees.of_eq (by rw[hxb];rfl),Sees.of_eq rfl,Sees.of_eq rfl,Sees.of_eq rfl,trivial⟩
   rw[hxb]
   exact St.setB_get (St.addB_get _ _)
  rintro⟨⟩ S3 ⟨hO,hX⟩
  repeat((conv=>whnf);first|refine sT ?_|rw[hX])
  try(conv=>whnf)
  refine CallK.data rfl (c_BinReqO LW before x 69 (fun y:Req=>cmpI y.flow.id x.flow.id) (by omega) rfl (mono_req hro.sorted x) (fun y _=>c_byID LW y x)) rfl ?_
  have hgh:=getQ_has before x.flow.id
  rcases bin_get hro.sorted x with ⟨e1,y,e2,e3⟩|⟨e1,e3⟩
  ·rw[e1]
   rw[e3]at hgh
   rw[←hgh,if_pos (show(some y).isSome=true from rfl),List.append_nil]at hnx
   refine Wk ?_
   exact⟨v2,⟨by rw[hnx];exact hO,hX⟩,Sees.of_eq rfl,Sees.of_eq rfl,Sees.of_eq rfl,Sees.of_eq rfl,Sees.of_eq rfl,Sees.of_eq rfl,Sees.of_eq rfl,Sees.of_eq rfl,trivial⟩
  ·rw[e1]
   rw[e3]at hgh
   rw[←hgh,if_neg (show ¬(none:Option Req).isSome=true by decide)]at hnx
   rw[hnx]
   refine Wk ?_
   have hxl:=(List.getElem?_eq_some_iff.1 hX).1
   rcases hO.gv with ⟨rfl,ho⟩|⟨id,d,hid,rfl,hbx⟩
   ·refine Wk ?_
    refine SemK.regionFin mixed (fun X=>X.bx[8]? = some (prO n s (.grown .nils 0) (.own (st.map Req.av) 0) LL)∧X.bx[xb]? = some (.cells x.av.cells 81)) [0,1,2,3,4,5,6,7] 4 rfl rfl (by decide) rfl ⟨hO.p,hX⟩ ?_
    iterate 8
     conv=>whnf
     apply exV
     ·rintro S' K' hI hh
      repeat((conv=>whnf);first|refine sT ?_|erw [hI.1]|erw [hI.2])
      try(conv=>whnf)
      exact hh
    conv=>whnf
    have hD1:∀o2:Ob,(S3.addB o2).bx[8]? = some (prO n s (.grown .nils 0) (.own (st.map Req.av) 0) LL):=fun o2=>St.addB_old hO.p
    have hD2:∀o2:Ob,(S3.addB o2).bx[xb]? = some (.cells x.av.cells 81):=fun o2=>St.addB_old hX
    repeat' ((conv=>whnf);first|exact trivial|refine sJ ?_|refine aI (by first|exact trivial|exact Or.inl rfl|kernel_rfl) ?_|refine And.intro ?_ ?_ )
    ·exact one_max
    intro d2
    repeat' ((conv=>whnf);first|exact trivial|refine sJ ?_|refine aI (by first|exact trivial|exact Or.inr ⟨hD1 _,hD2 _⟩|exact Or.inl rfl|kernel_rfl) ?_|refine And.intro ?_ ?_|rw[hD1]|rw[hD2])
    all_goals(conv=>whnf)
    all_goals
     have hF:=fun X hX2=>hO.grow (X:=X) (l':=fl++[x.flow]) (d:=d2) (k:=1) hX2 (by rw[ho];rfl)
     exact⟨_,⟨hF _ (by rw[ho];rfl),(St.setB_ne (by omega)).trans (hD2 _)⟩,Sees.of_eq rfl,Sees.of_eq rfl,Sees.of_eq rfl,Sees.of_eq rfl,Sees.of_eq rfl,Sees.of_eq rfl,Sees.of_eq rfl,Sees.of_eq rfl,trivial⟩
   ·have hidl:=(List.getElem?_eq_some_iff.1 hbx).1
    have hfl6:=flowEnc.flen fl
    have hpush:=flowEnc.push fl x.flow d
    have hcut:=flowEnc.cut fl (List.replicate (d*6) .undef)
    rw[List.length_append,hfl6]at hpush
    have hpid:id≠xb:=fun h=>by
     rw[h,hX]at hbx
     have e:=Ob.cells.inj (Option.some.inj hbx)
     exact absurd e.2 (by decide)
    have hF1:∀o2:Ob,(S3.setB id o2).bx[8]? = some (prO n s (.vsl id 0 fl.length 6) (.own (st.map Req.av) 0) LL):=fun o2=>(St.setB_ne hid).trans hO.p
    have hF2:∀o2:Ob,(S3.setB id o2).bx[xb]? = some (.cells x.av.cells 81):=fun o2=>(St.setB_ne hpid).trans hX
    have hG1:∀o2:Ob,(S3.addB o2).bx[8]? = some (prO n s (.vsl id 0 fl.length 6) (.own (st.map Req.av) 0) LL):=fun o2=>St.addB_old hO.p
    have hG2:∀o2:Ob,(S3.addB o2).bx[xb]? = some (.cells x.av.cells 81):=fun o2=>St.addB_old hX
    refine Wk ?_
    refine SemK.regionFin mixed (fun X=>X.bx[8]? = some (prO n s (.vsl id 0 fl.length 6) (.own (st.map Req.av) 0) LL)∧X.bx[xb]? = some (.cells x.av.cells 81)) [0,1,2,3,4,5,6,7] 4 rfl rfl (by decide) rfl ⟨hO.p,hX⟩ ?_
    iterate 8
     conv=>whnf
     apply exV
     ·rintro S' K' hI hh
      repeat((conv=>whnf);first|refine sT ?_|erw [hI.1]|erw [hI.2])
      try(conv=>whnf)
      exact hh
    conv=>whnf
    repeat' ((conv=>whnf);first|exact trivial|refine sJ ?_|refine aI (by first|exact trivial|exact Or.inl rfl|kernel_rfl) ?_|refine And.intro ?_ ?_|rw[hbx])
    ·exact(show(fl.length+1)*48≤_ by omega)
    ·exact(show fl.length+1≤maxLen by unfold maxLen;omega)
    ·rw[List.length_append,hfl6];exact Nat.le_add_right _ _
    refine AppK.mk (fun hroom=>?_) (fun _=>?_)
    ·rw[List.length_append,hfl6]at hroom
     repeat' ((conv=>whnf);first|exact trivial|refine sJ ?_|refine aI (by first|exact trivial|exact Or.inr ⟨hF1 _,hF2 _⟩|exact Or.inl rfl|kernel_rfl) ?_|refine And.intro ?_ ?_|rw[hF1]|rw[hF2])
     all_goals(conv=>whnf)
     all_goals
      have hF:=fun X hX2=>hO.room hid hbx (X:=X) (l':=fl++[x.flow]) (d:=d-1) (k:=fl.length+1) hX2 (by simp)
      exact⟨_,⟨hF _ (by rw[←hpush hroom];rfl),(St.setB_ne (by omega)).trans (hF2 _)⟩,Sees.of_eq rfl,Sees.of_eq rfl,Sees.of_eq rfl,Sees.of_eq rfl,Sees.of_eq rfl,Sees.of_eq rfl,Sees.of_eq rfl,Sees.of_eq rfl,trivial⟩
    ·intro d2
     repeat' ((conv=>whnf);first|exact trivial|refine sJ ?_|refine aI (by first|exact trivial|exact Or.inr ⟨hG1 _,hG2 _⟩|exact Or.inl rfl|kernel_rfl) ?_|refine And.intro ?_ ?_|rw[hG1]|rw[hG2])
     all_goals(conv=>whnf)
     all_goals
      have hF:=fun X hX2=>hO.grow (X:=X) (l':=fl++[x.flow]) (d:=d2) (k:=fl.length+1) hX2 (by simp)
      exact⟨_,⟨hF _ (by rw[←flatE_push];show List.take (fl.length*6) _++_++_=_;rw[hcut];rfl),(St.setB_ne (by omega)).trans (hG2 _)⟩,Sees.of_eq rfl,Sees.of_eq rfl,Sees.of_eq rfl,Sees.of_eq rfl,Sees.of_eq rfl,Sees.of_eq rfl,Sees.of_eq rfl,Sees.of_eq rfl,trivial⟩
 rintro v2 S2 hO2
 have hbl:=both_len hro hao
 have hal:=hAl after.length
 rw[hAe]at hal
 refine twC_sound (ct:=[24]) mixed _ _ _ _ ?_
 conv=>whnf
 refine SeqK.cutNQ (fun (v:AV) (S3:St)=>OpN n s LL S3 v (bothM before after) st 0) (fun _=>[(2,encReqs after),(9,.cptr t.av 0),(14,encChgs LL),(16,.ptr 8 0)]) ?_ ?_
 ·rcases hO2.gv with ⟨rfl,ho⟩|⟨id,d,hid,rfl,hbx⟩
  ·have hbn:bothM before after=[]:=(both_eq hro hao (ds:=[]) (by rw[ho]) List.Pairwise.nil).symm
   refine SemK.recast (id:=8) (prO n s .nils (.own (st.map Req.av) 0) LL) hO2.p rfl ⟨rfl,Sees.rfl' _,Sees.rfl' _,Sees.rfl' _,Sees.rfl' _,Sees.rfl' _,Sees.rfl' _,Sees.rfl' _,Sees.rfl' _,Sees.rfl' _,Sees.gNil,Sees.rfl' _,Sees.rfl' _,Sees.rfl' _,Sees.rfl' _,trivial⟩ (twC_sound (ct:=[]) mixed _ _ _ _ ?_)
   have hB3:∀o,(S2.setB 8 o).bx[8]? = some o:=fun o=>St.setB_get hO2.p
   repeat((conv=>whnf);first|refine sT ?_|rw[hB3])
   try(conv=>whnf)
   refine CallK.inl rfl (ICall.sort0 k_sortFl0 ?_)
   refine Wk ?_
   exact⟨.nils,⟨hB3 _,(St.setB_ne (by decide)).trans hO2.m1,(St.setB_ne (by decide)).trans hO2.m2,.inl ⟨rfl,hbn⟩⟩,Sees.of_eq rfl,Sees.of_eq rfl,Sees.of_eq rfl,Sees.of_eq rfl,trivial⟩
  ·refine twC_sound (ct:=[]) mixed _ _ _ _ ?_
   repeat((conv=>whnf);first|refine sT ?_|rw[hO2.p])
   try(conv=>whnf)
   refine CallK.inl rfl (i_sortFlO hbx (by omega) rfl fun ds hp hs=>?_)
   have hds:=both_eq hro hao hp hs
   refine Wk ?_
   refine⟨.vsl id 0 (flowsA before after).length 6,?_,Sees.of_eq rfl,Sees.of_eq rfl,Sees.of_eq rfl,Sees.of_eq rfl,trivial⟩
   rw[←hds]
   exact hO2.sorted hid hbx hp.length_eq.symm
 rintro v3 S3 hN
 refine SemK.freezeO hN (fun id k ds=>ofL_frz fun p hp=>?_) fun S4 h8 h6 h7=>?_
 ·simp only[List.mem_cons,List.not_mem_nil,or_false]at hp
  rcases hp with rfl|rfl|rfl|rfl<;>rfl
 refine twC_sound (ct:=[]) mixed _ _ _ _ ?_
 have hla:=c_lastO n hn after (by omega) hx2 s (bothM before after) (by rw[hbl];omega) st LL (.cmp none [] []) (.cmp none [] []) t (by omega)
 repeat((conv=>whnf);first|refine sT ?_ )
 try(conv=>whnf)
 refine CallK.boxN 1 rfl hla (mapQ2 (fz_pr h8 (fzb_mp h6 rfl) (fzb_mp h7 rfl)) rfl) rfl ?_
 have hO:openO n before after s t=if (schedE n (bothM before after) t).2≠0∨endsB n after t=false then 18 else if 12 < LL.length then 8 else 0:=by
  unfold openO
  rw[if_neg (by omega),if_neg (by omega),←hLL]
 cases hlb:lastB n after (bothM before after) t with
 | false=>
  have ho:openO n before after s t=18:=by
   rw[hO,if_pos]
   unfold lastB at hlb
   simp only[Bool.and_eq_false_iff,beq_eq_false_iff_ne]at hlb
   exact hlb
  have hk:=fun S'=>hK1 S' (by rw[ho];decide)
  rw[ho]at hk
  repeat((conv=>whnf);first|refine sT ?_ )
  try(conv=>whnf)
  exact hk _
 | true=>
  have hne:¬((schedE n (bothM before after) t).2≠0∨endsB n after t=false):=by
   unfold lastB at hlb
   simp only[Bool.and_eq_true,beq_iff_eq]at hlb
   simp[hlb.1,hlb.2]
  rw[if_neg hne]at hO
  by_cases h12:12 < LL.length
  ·have g:decide ((12:Int) < (LL.length:Int))=true:=decide_eq_true (by omega)
   rw[if_pos h12]at hO
   have hk:=fun S'=>hK1 S' (by rw[hO];decide)
   rw[hO]at hk
   repeat((conv=>whnf);first|refine sT ?_|rw[List.length_map]|rw[g])
   try(conv=>whnf)
   exact hk _
  ·have g:decide ((12:Int) < (LL.length:Int))=false:=decide_eq_false (by omega)
   rw[if_neg h12]at hO
   repeat((conv=>whnf);first|refine sT ?_|rw[List.length_map]|rw[g])
   try(conv=>whnf)
   exact hK0 _ hO (by rw[←hLL,←hste];exact h8) h6 h7
end HM
