/- Which slots count for a release. -/
import Derived.Test.YtpdlbjnjdbgpaaaGreatDoorS51
import Derived.Test.YtpdlbjnjdbgpaaaGreatDoorS52
import Derived.Test.YtpdlbjnjdbgpaaaGreatDoorDa
import Derived.Test.YtpdlbjnjdbgpaaaGreatDoorS30
import Derived.Test.YtpdlbjnjdbgpaaaGreatDoorS1
import Derived.Test.YtpdlbjnjdbgpaaaGreatDoorFh
import Derived.Test.YtpdlbjnjdbgpaaaGreatDoorS6
import Derived.Test.YtpdlbjnjdbgpaaaGreatDoorDb
set_option maxHeartbeats 64000000
set_option maxRecDepth 100000
namespace HM
open Go Go.RowKit Go.Proofs
theorem c_release (w:Way)(rel:Int)(hn:w.n.small)(h:WayOk w.n w.s w.f w.r)(h0:netE w.n=0)(hm0:0≤w.more)(hm1:w.more≤8)(hr0:0≤rel)(hr1:rel≤1048576) :
  PCall Tryz.prog LW 163 [w.av,.int .i64 rel] (relAV (relR w.n w.s w.f w.r w.more rel)):=(relHalf w rel h hr0 hr1).2 (fun _=>relFirst w rel hn h h0 hm0 hm1 hr0 hr1) (fun _=>relSecond w rel hn h h0 hm0 hm1 hr0 hr1)
theorem c_bound (w:Way)(hn:w.n.small)(h:WayOk w.n w.s w.f w.r)(h0:netE w.n=0)(hm0:0≤w.more)(hm1:w.more≤8) :
  PCall Tryz.prog LW 107 [w.av] (bndAV (boundR w.n w.s w.f w.r w.more)):=by
 have hfl:=h.flow
 obtain⟨hsz,hcl,hfm⟩:=form_all h.form
 have hsb:=sized_bd hsz
 refine PCall.intro mixed [] (nt:=44) Tryz.func107 rfl rfl (by simp) ?_
 refine Wk ?_
 refine LoopK.run mixed [] (fun s:Nat×Bnd=>s.1≤relsN w.s w.f∧boundUp w.n w.s w.f w.r w.more s.1=some s.2) (fun s=>[(1,.ptr 0 0),(6,.int .i64 s.2.b),(7,.int .i64 s.2.w),(8,encIs s.2.l),(9,.int .i64 (w.f.phase+s.1*w.f.period))]) (fun _=>⟨[.cells w.cs 107],[],0,0,fun _=>0⟩) (fun s=>relsN w.s w.f-s.1) (0,⟨0,0,[]⟩) ⟨by simp,rfl⟩ ?_ ?_
 ·refine fN ?_<;>repeat' (first|exact fQ|refine And.intro ?_ ?_|exact Sees.int (by simp)|exact Sees.elems rfl)
 rintro⟨k,x⟩ ⟨hk,hup⟩
 simp only at hk hup
 have hlt:=relsN_lt (s:=w.s) (f:=w.f) (k:=k) (by omega)
 have hms:((k+1:Nat):Int)*w.f.period=k*w.f.period+w.f.period:=by rw[Int.natCast_add,Int.add_mul];simp
 have hp0:0≤(k:Int)*w.f.period:=Int.mul_nonneg (by omega) (by omega)
 refine Wk ?_
 refine BrK.mk (fun hb=>?_) (fun hb=>?_)<;>try rw[hb]
 ·have hb':w.f.phase+k*w.f.period < w.s.len:=by simpa using hb
  have hkl:=hlt.2 hb'
  refine Wk ?_
  refine cD (c_release w (w.f.phase+k*w.f.period) hn h h0 hm0 hm1 (by omega) (by omega)) ?_
  cases hR:relR w.n w.s w.f w.r w.more (w.f.phase+k*w.f.period) with
  | none=>
   refine Wk ?_
   exact resP.mk rfl (Sees.of_eq (by rw[boundR,boundUp_none (boundUp_stop hR) hkl];rfl))
  | some bl=>
   obtain⟨b,l⟩:=bl
   have hnx:=boundUp_some hup hR
   refine Wk ?_
   refine BrK.mk (fun h1=>?_) (fun h1=>?_)<;>(try rw[h1])
   ·rw[if_pos (by simpa using h1)]at hnx
    refine Wk ?_
    refine⟨(k+1,_),⟨hkl,hnx⟩,by simp only;omega,?_⟩
    refine fN ?_<;>repeat' (first|exact fQ|refine And.intro ?_ ?_|exact Sees.int (by simp only[hms];rw[w64]<;>omega))
   ·rw[if_neg (by simpa using h1)]at hnx
    refine Wk ?_
    refine⟨(k+1,_),⟨hkl,hnx⟩,by simp only;omega,?_⟩
    refine fN ?_<;>repeat' (first|exact fQ|refine And.intro ?_ ?_|exact Sees.int (by simp only[hms];rw[w64]<;>omega))
 ·have hk':k=relsN w.s w.f:=by
   rcases Nat.lt_or_ge k (relsN w.s w.f) with hh|hh
   ·have:=hlt.1 hh
    simp at hb;omega
   ·omega
  subst hk'
  refine Wk ?_
  exact resP.mk rfl (Sees.of_eq (by rw[boundR,hup];rfl))
theorem c_BRoute (n:Net)(s:Sched)(f:Flow)(r:List Int)(hn:n.small)(hc:s.cells.length≤281474976710656)(hr:r.length≤281474976710656) :
  PCall Tryz.prog LW 55 [n.av,s.av,f.av,encIs r] (.tup [.int .i64 (routeM n s f r).1,.int .i64 (routeM n s f r).2.1,encIs (routeM n s f r).2.2.1,.int .i64 (routeM n s f r).2.2.2]):=by
 refine PCall.intro mixed [] (nt:=40) Tryz.func55 rfl rfl (by simp) ?_
 refine Wk ?_
 refine cD (c_wcheck ⟨n,s,f,r,0⟩ hn hc hr) ?_
 refine Wk ?_
 refine BrK.mk (fun h1=>?_) (fun h1=>?_)<;>(try rw[h1])
 ·refine Wk ?_
  exact resP.mk rfl (Sees.of_eq (by rw[routeM,if_pos (by simpa using h1)];rfl))
 have h1':wayE n s f r=0:=by simpa using h1
 have hn0:=wayE_net h1'
 have e1:¬wayE n s f r≠0:=by simpa using h1'
 refine Wk ?_
 refine cD (c_bound ⟨n,s,f,r,0⟩ hn (wayE_ok h1') hn0 (Int.le_refl _) (by show(0:Int)≤8;omega)) ?_
 cases hB:boundR n s f r 0 with
 | none=>
  refine Wk ?_
  exact resP.mk rfl (Sees.of_eq (by rw[routeM,if_neg e1,hB];rfl))
 | some x=>
  refine Wk ?_
  exact resP.mk rfl (Sees.of_eq (by rw[routeM,if_neg e1,hB];rfl))
section
variable (L:World→Prop)
theorem c_IndexFuncFlow (l:List Flow)(p:Flow→Bool)(g:Nat)(caps:List AV)(hl:l.length≤281474976710656)(hcb:callable Tryz.prog g=true)(hc:fzs caps=some caps)(hp:∀x∈l,PCall Tryz.prog L g (Flow.av x :: caps) (.bool (p x))) :
  PCall Tryz.prog L 125 [.sl false (l.map Flow.av),.fn g caps] (.int .i64 (idxF p l)):=by
 refine PCall.intro mixed [] (nt:=19) Tryz.func125 rfl rfl (by simp) ?_
 refine Wk ?_
 refine LoopK.run mixed [] (fun (k:Nat)=>k≤l.length∧∀j x,j < k→l[j]? = some x→p x=false) (fun k=>[(0,.sl false (l.map Flow.av)),(1,.fn g caps),(7,.int .i64 l.length),(8,.int .i64 k)]) (fun k=>St.none) (fun k=>l.length-k) 0 ⟨by simp,by simp⟩ ?_ ?_
 ·refine fN ?_<;>repeat' (first|exact fQ|refine And.intro ?_ ?_|exact Sees.int (by simp)|exact fzs_okk hc)
 rintro k ⟨hk,hinv⟩
 refine Wk ?_
 refine BrK.mk (fun hb=>?_) (fun hb=>?_)<;>try rw[hb]
 ·have hlt:k < l.length:=by simpa using hb
  obtain⟨x,hgx⟩:=getLt hlt
  have hmx:=getMap (f:=Flow.av) hgx
  repeat((conv=>whnf);first|refine sJ ?_|refine aI (by first|exact inbMap hlt|kernel_rfl) ?_|rw[hmx])
  try(conv=>whnf)
  refine CallK.data hcb (hp x (List.mem_of_getElem? hgx)) (by show(match fz _,fzs caps with|some a,some b=>some (a :: b)|_,_=>none)=_;rw[hc];rfl) ?_
  refine Wk ?_
  refine BrK.mk (fun h2=>?_) (fun h2=>?_)<;>(try rw[h2])
  ·refine Wk ?_
   exact resP.mk rfl (Sees.int (idxF_some hlt hinv hgx h2).symm)
  ·refine Wk ?_
   refine⟨k+1,⟨by omega,fun j y hj hy=>?_⟩,by omega,?_⟩
   ·rcases Nat.lt_succ_iff_lt_or_eq.1 hj with h|rfl
    ·exact hinv j y h hy
    ·rw[hgx]at hy;injection hy with hy;subst hy;exact h2
   ·refine fN ?_<;>repeat' (first|exact fQ|refine And.intro ?_ ?_|exact Sees.int (succI hlt hl)|exact fzs_okk hc)
 ·have hk':k=l.length:=by simp at hb;omega
  subst hk'
  refine Wk ?_
  exact resP.mk rfl (Sees.int (idxF_none hinv).symm)
theorem c_find1 (f:Flow)(id:Int):PCall Tryz.prog L 174 [f.av,.cptr (.agg [.int .i64 id]) 0] (.bool (f.id==id)):=by
 refine PCall.intro mixed [] (nt:=8) Tryz.func174 rfl rfl (by simp) ?_
 refine Wk ?_
 exact resP.mk rfl (Sees.bool rfl)
theorem c_Find (l:List Flow)(id:Int)(hl:l.length≤281474976710656):PCall Tryz.prog L 127 [encFlows l,.int .i64 id] (.int .i64 (findF l id)):=by
 refine PCall.intro mixed [] (nt:=8) Tryz.func127 rfl rfl (by simp) ?_
 refine Wk ?_
 refine cB (c_IndexFuncFlow L l (fun f=>f.id==id) 174 [.cptr (.agg [.int .i64 id]) 0] hl rfl rfl (fun f _=>c_find1 L f id)) ?_
 refine Wk ?_
 exact resP.mk rfl (Sees.int rfl)
end
section
variable (L:World→Prop)
theorem c_sin (s:Sched)(slot:Int):PCall Tryz.prog L 128 [s.av,.int .i64 slot] (.fn 175 [.cptr s.av 0,.cptr (.agg [.int .i64 slot]) 0]):=by
 refine PCall.intro mixed [] (nt:=6) Tryz.func128 rfl rfl (by simp) ?_
 refine Wk ?_
 exact resP.mk rfl (Sees.of_eq rfl)
end
theorem find_ids (l:List Flow)(id:Int):decide (findF l id < 0)=!idsB l id:=by
 have:=idxF_any (fun f:Flow=>f.id==id) l
 unfold idsB
 rw[←this]
 show decide (idxF _ l < 0)=_
 by_cases h:(0:Int)≤idxF (fun f:Flow=>f.id==id) l
 ·rw[decide_eq_true h,decide_eq_false (by omega)];rfl
 ·rw[decide_eq_false h,decide_eq_true (by omega)];rfl
section
variable (L:World→Prop)
theorem c_checkCells (n:Net)(hn:n.small)(h0:netE n=0)(l:List Flow)(hl:l.length≤281474976710656)(s:Sched)(hc:s.cells.length≤512):PCall Tryz.prog L 67 [n.av,encFlows l,s.av] (.tup [.int .i64 (firstAt (cellF n l s) s.cells.length).1,.int .i64 (firstAt (cellF n l s) s.cells.length).2]):=by
 refine PCall.intro mixed [] (nt:=58) Tryz.func67 rfl rfl (by simp) ?_
 refine Wk ?_
 refine LoopK.run mixed [] (fun (k:Nat)=>k≤s.cells.length∧∀j,j < k→cellF n l s j=0) (fun k=>[(1,encFlows l),(3,.ptr 0 0),(5,.ptr 1 0),(11,encCells s.cells),(12,.int .i64 s.cells.length),(13,.int .i64 k)]) (fun k=>⟨[.cells n.cs 26,.cells [.int .i64 s.len,.int .i64 s.offs,encCells s.cells] 30],[],0,0,fun _=>0⟩) (fun k=>s.cells.length-k) 0 ⟨by simp,by simp⟩ ?_ ?_
 ·refine fN ?_<;>repeat' (first|exact fQ|refine And.intro ?_ ?_|exact SeesL.rfl' _|exact Sees.int (by simp))
 rintro k ⟨hk,hinv⟩
 refine Wk ?_
 refine BrK.mk (fun hb=>?_) (fun hb=>?_)<;>try rw[hb]
 ·have hlt:k < s.cells.length:=by simpa using hb
  obtain⟨c,hgc⟩:=getLt hlt
  have hmc:=getMap (f:=Cell.av) hgc
  have hF:cellF n l s k=if placedB s c=false then 2 else if goodL n c.src c.dst=false∨idsB l c.flow=false then 7 else if ordC s.cells k c=false then 5 else 0:=by unfold cellF;rw[hgc]
  have hit:=firstAt_hit hinv (k:=k) (n:=s.cells.length)
  repeat((conv=>whnf);first|refine sJ ?_|refine aI (by first|exact inbMap hlt|kernel_rfl) ?_|rw[hmc])
  try(conv=>whnf)
  refine cD (c_placed L s c) ?_
  cases h1:placedB s c with
  | false=>
   rw[if_pos h1]at hF
   refine Wk ?_
   exact resP.mk rfl (Sees.of_eq (by rw[hit (by rw[hF];decide) hlt,hF]))
  | true=>
   rw[if_neg (by simp[h1])]at hF
   refine Wk ?_
   refine cD (c_index L n hn c.src c.dst) ?_
   refine Wk ?_
   refine cD (c_Usable L n hn (indexN n c.src c.dst)) ?_
   rw[usable_index h0]
   cases h2:goodL n c.src c.dst with
   | false=>
    rw[if_pos (.inl h2)]at hF
    refine Wk ?_
    exact resP.mk rfl (Sees.of_eq (by rw[hit (by rw[hF];decide) hlt,hF]))
   | true=>
    refine Wk ?_
    refine cD (c_Find L l c.flow hl) ?_
    refine Wk ?_
    rw[find_ids]
    cases h3:idsB l c.flow with
    | false=>
     rw[if_pos (.inr h3)]at hF
     refine Wk ?_
     exact resP.mk rfl (Sees.of_eq (by rw[hit (by rw[hF];decide) hlt,hF]))
    | true=>
     rw[if_neg (by simp[h2,h3])]at hF
     by_cases hk0:k=0
     ·subst hk0
      rw[if_neg (by simp[ordC])]at hF
      refine Wk ?_
      refine⟨0+1,⟨by omega,fun j hj=>?_⟩,by omega,?_⟩
      ·obtain rfl:j=0:=by omega
       exact hF
      ·refine fN ?_<;>repeat' (first|exact fQ|refine And.intro ?_ ?_|exact SeesL.rfl' _|exact Sees.int (by rw[w64]<;>omega))
     ·obtain⟨i,rfl⟩:∃i,k=i+1:=⟨k-1,by omega⟩
      obtain⟨p,hgp⟩:=getLt (l:=s.cells) (k:=i) (by omega)
      have hmp:=getMap (f:=Cell.av) hgp
      have hw:IntKind.i64.wrap (((i+1:Nat):Int)-1)=(i:Int):=by rw[w64]<;>omega
      have hg:decide ((0:Int) < ((i+1:Nat):Int))=true:=decide_eq_true (by omega)
      have hO:ordC s.cells (i+1) c=decide (p.cmp c < 0):=by simp only[ordC,hgp]
      rw[hO]at hF
      repeat((conv=>whnf);first|refine sJ ?_|refine aI (by first|exact trivial|(rw[hw];exact inbMap (by omega))|kernel_rfl) ?_|rw[hg]|rw[hw]|rw[hmp])
      try(conv=>whnf)
      refine cD (c_compare L p c) ?_
      refine Wk ?_
      refine BrK.mk (fun h4=>?_) (fun h4=>?_)<;>(try rw[h4])
      ·rw[if_pos (by simp at h4;simp;omega)]at hF
       refine Wk ?_
       exact resP.mk rfl (Sees.of_eq (by rw[hit (by rw[hF];decide) hlt,hF]))
      ·rw[if_neg (by simp at h4;simp;omega)]at hF
       refine Wk ?_
       refine⟨i+2,⟨by omega,fun j hj=>?_⟩,by omega,?_⟩
       ·rcases Nat.lt_succ_iff_lt_or_eq.1 hj with h|rfl
        ·exact hinv j h
        ·exact hF
       ·refine fN ?_<;>repeat' (first|exact fQ|refine And.intro ?_ ?_|exact SeesL.rfl' _|exact Sees.int (by rw[w64]<;>omega))
 ·have hkn:k=s.cells.length:=by simp at hb;omega
  subst hkn
  refine Wk ?_
  exact resP.mk rfl (Sees.of_eq (by rw[firstAt_zero hinv]))
theorem c_sCheck1 (f:Flow)(s:Sched)(h1:0≤s.len)(_h3:s.len≤512)(h2:1≤f.period)(h4:f.period≤512):PCall Tryz.prog L 66 [f.av,.cptr s.av 0] (.bool (mism s f)):=by
 refine PCall.intro mixed [] (nt:=10) Tryz.func66 rfl rfl (by simp) ?_
 have hm:s.len.tmod f.period=s.len % f.period:=Int.tmod_eq_emod_of_nonneg h1
 have hm1:=Int.emod_nonneg s.len (show f.period≠0 by omega)
 have hm2:=Int.emod_lt_of_pos s.len (show 0 < f.period by omega)
 have hw:IntKind.i64.wrap (s.len % f.period)=s.len % f.period:=by rw[w64]<;>omega
 repeat((conv=>whnf);first|refine sJ ?_|refine aI (by first|exact(show f.period≠0 by omega)|kernel_rfl) ?_|rw[hm]|rw[hw])
 try(conv=>whnf)
 exact resP.mk rfl (Sees.bool rfl)
theorem c_ContainsFuncFlow (l:List Flow)(p:Flow→Bool)(g:Nat)(caps:List AV)(hl:l.length≤281474976710656)(hcb:callable Tryz.prog g=true)(hc:fzs caps=some caps)(hp:∀x∈l,PCall Tryz.prog L g (Flow.av x :: caps) (.bool (p x))) :
  PCall Tryz.prog L 65 [.sl false (l.map Flow.av),.fn g caps] (.bool (l.any p)):=by
 refine PCall.intro mixed [] (nt:=9) Tryz.func65 rfl rfl (by simp) ?_
 refine Wk ?_
 refine CallK.data rfl (c_IndexFuncFlow L l p g caps hl hcb hc hp) (by show(match fz _,fzs [AV.fn g caps] with|some a,some b=>some (a :: b)|_,_=>none)=_;rw[show fzs [AV.fn g caps] = some [AV.fn g caps] from by simp[fz,fzs,hc]];rfl) ?_
 refine Wk ?_
 exact resP.mk rfl (Sees.bool (idxF_any p l))
theorem c_IndexFuncSCell (l:List Cell)(p:Cell→Bool)(g:Nat)(caps:List AV)(hl:l.length≤281474976710656)(hcb:callable Tryz.prog g=true)(hc:fzs caps=some caps)(hp:∀x∈l,PCall Tryz.prog L g (Cell.av x :: caps) (.bool (p x))) :
  PCall Tryz.prog L 105 [.sl false (l.map Cell.av),.fn g caps] (.int .i64 (idxF p l)):=by
 refine PCall.intro mixed [] (nt:=19) Tryz.func105 rfl rfl (by simp) ?_
 refine Wk ?_
 refine LoopK.run mixed [] (fun (k:Nat)=>k≤l.length∧∀j x,j < k→l[j]? = some x→p x=false) (fun k=>[(0,.sl false (l.map Cell.av)),(1,.fn g caps),(7,.int .i64 l.length),(8,.int .i64 k)]) (fun k=>St.none) (fun k=>l.length-k) 0 ⟨by simp,by simp⟩ ?_ ?_
 ·refine fN ?_<;>repeat' (first|exact fQ|refine And.intro ?_ ?_|exact Sees.int (by simp)|exact fzs_okk hc)
 rintro k ⟨hk,hinv⟩
 refine Wk ?_
 refine BrK.mk (fun hb=>?_) (fun hb=>?_)<;>try rw[hb]
 ·have hlt:k < l.length:=by simpa using hb
  obtain⟨x,hgx⟩:=getLt hlt
  have hmx:=getMap (f:=Cell.av) hgx
  repeat((conv=>whnf);first|refine sJ ?_|refine aI (by first|exact inbMap hlt|kernel_rfl) ?_|rw[hmx])
  try(conv=>whnf)
  refine CallK.data hcb (hp x (List.mem_of_getElem? hgx)) (by show(match fz _,fzs caps with|some a,some b=>some (a :: b)|_,_=>none)=_;rw[hc];rfl) ?_
  refine Wk ?_
  refine BrK.mk (fun h2=>?_) (fun h2=>?_)<;>(try rw[h2])
  ·refine Wk ?_
   exact resP.mk rfl (Sees.int (idxF_some hlt hinv hgx h2).symm)
  ·refine Wk ?_
   refine⟨k+1,⟨by omega,fun j y hj hy=>?_⟩,by omega,?_⟩
   ·rcases Nat.lt_succ_iff_lt_or_eq.1 hj with h|rfl
    ·exact hinv j y h hy
    ·rw[hgx]at hy;injection hy with hy;subst hy;exact h2
   ·refine fN ?_<;>repeat' (first|exact fQ|refine And.intro ?_ ?_|exact Sees.int (succI hlt hl)|exact fzs_okk hc)
 ·have hk':k=l.length:=by simp at hb;omega
  subst hk'
  refine Wk ?_
  exact resP.mk rfl (Sees.int (idxF_none hinv).symm)
theorem c_ContainsFuncSCell (l:List Cell)(p:Cell→Bool)(g:Nat)(caps:List AV)(hl:l.length≤281474976710656)(hcb:callable Tryz.prog g=true)(hc:fzs caps=some caps)(hp:∀x∈l,PCall Tryz.prog L g (Cell.av x :: caps) (.bool (p x))) :
  PCall Tryz.prog L 178 [.sl false (l.map Cell.av),.fn g caps] (.bool (l.any p)):=by
 refine PCall.intro mixed [] (nt:=9) Tryz.func178 rfl rfl (by simp) ?_
 refine Wk ?_
 refine CallK.data rfl (c_IndexFuncSCell L l p g caps hl hcb hc hp) (by show(match fz _,fzs [AV.fn g caps] with|some a,some b=>some (a :: b)|_,_=>none)=_;rw[show fzs [AV.fn g caps] = some [AV.fn g caps] from by simp[fz,fzs,hc]];rfl) ?_
 refine Wk ?_
 exact resP.mk rfl (Sees.bool (idxF_any p l))
def noNode (n:Net)(c:Cell):Bool:=!insB c.src n.nodes||!insB c.dst n.nodes
theorem c_Dist1 (n:Net)(c:Cell):PCall Tryz.prog L 176 [c.av,.cptr n.av 0] (.bool (noNode n c)):=by
 refine PCall.intro mixed [] (nt:=16) Tryz.func176 rfl rfl (by simp) ?_
 refine Wk ?_
 refine cD (c_isNode L n c.src) ?_
 cases h1:insB c.src n.nodes with
 | false=>
  refine Wk ?_
  exact resP.mk rfl (Sees.bool (by simp[noNode,h1]))
 | true=>
  refine Wk ?_
  refine cD (c_isNode L n c.dst) ?_
  refine Wk ?_
  exact resP.mk rfl (Sees.bool (by simp[noNode,h1]))
theorem c_Dist (n:Net)(hn:n.small)(h0:netE n=0)(cs:List Cell)(hc:cs.length≤4096)(i:Nat)(hi:i < cs.length)(node:Int)(hnd:insB node n.nodes=true)(hin:∀c∈cs,insB c.src n.nodes=true∧insB c.dst n.nodes=true):PCall Tryz.prog L 130 [n.av,encCells cs,.int .i64 i,.int .i64 node] (.int .i64 (distM n cs i node)):=by
 have hany:cs.any (noNode n)=false:=by
  rw[List.any_eq_false]
  intro c hc
  have:=hin c hc
  simp[noNode,this]
 have hlt:decide ((((cs.map Cell.av).length:Nat):Int)≤(i:Int))=false:=by simp;omega
 have h1:decide ((i:Int) < 0)=false:=by simp
 refine PCall.intro mixed [] (nt:=40) Tryz.func130 rfl rfl (by simp) ?_
 refine Wk ?_
 refine cD (c_netCheck L n hn) ?_
 rw[h0]
 repeat((conv=>whnf);first|refine sT ?_|rw[h1]|rw[hlt])
 try(conv=>whnf)
 refine cD (c_isNode L n node) ?_
 rw[hnd]
 refine Wk ?_
 refine cB (c_ContainsFuncSCell L cs (noNode n) 176 [.cptr n.av 0] (by omega) rfl rfl (fun c _=>c_Dist1 L n c)) ?_
 rw[hany]
 refine Wk ?_
 refine cD (c_cdist L n (netE_ok h0) cs hc i node hnd) ?_
 refine Wk ?_
 exact resP.mk rfl (Sees.int rfl)
end
end HM
