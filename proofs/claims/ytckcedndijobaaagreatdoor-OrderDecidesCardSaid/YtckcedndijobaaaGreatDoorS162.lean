/- Whether a schedule is valid: the program. -/
import Derived.Test.YtckcedndijobaaaGreatDoorS150
import Derived.Test.YtckcedndijobaaaGreatDoorS53
import Derived.Test.YtckcedndijobaaaGreatDoorDc
import Derived.Test.YtckcedndijobaaaGreatDoorFh
import Derived.Test.YtckcedndijobaaaGreatDoorDd
set_option maxHeartbeats 64000000
set_option maxRecDepth 100000
namespace HM
open Go Go.RowKit Go.Proofs
section
variable (L:World→Prop)
theorem c_SCheck (n:Net)(hn:n.small)(l:List Flow)(hl:l.length≤281474976710656)(s:Sched)(hc:s.cells.length≤281474976710656):PCall Tryz.prog L 96 [n.av,encFlows l,s.av] (.tup [.int .i64 (schedE n l s).1,.int .i64 (schedE n l s).2]):=by
 refine PCall.intro mixed [] (nt:=73) Tryz.func96 rfl rfl (by simp) ?_
 refine Wk ?_
 refine cD (c_netCheck L n hn) ?_
 refine Wk ?_
 refine BrK.mk (fun h1=>?_) (fun h1=>?_)<;>(try rw[h1])
 ·refine Wk ?_
  exact resP.mk rfl (Sees.of_eq (by unfold schedE;rw[if_pos (.inl (by simpa using h1))]))
 have h0:netE n=0:=by simpa using h1
 refine Wk ?_
 refine cD (c_FCheck L n.nodes l hl) ?_
 refine Wk ?_
 refine BrK.mk (fun h2=>?_) (fun h2=>?_)<;>(try rw[h2])
 ·refine Wk ?_
  exact resP.mk rfl (Sees.of_eq (by unfold schedE;rw[if_pos (.inr (by simpa using h2))]))
 have h2':(flowsE n.nodes l).2=0:=by simpa using h2
 have hper:=flowsE_per h2'
 have e1:¬(netE n≠0∨(flowsE n.nodes l).2≠0):=by simp[h0,h2']
 refine Wk ?_
 refine cD (c_sized L s) ?_
 refine Wk ?_
 refine BrK.mk (fun h3=>?_) (fun h3=>?_)<;>(try rw[h3])
 ·refine Wk ?_
  exact resP.mk rfl (Sees.of_eq (by unfold schedE;rw[if_neg e1,if_pos (by simpa using h3)]))
 have h3':sizedB s=true:=by simpa using h3
 have hsb:=sized_bd h3'
 refine Wk ?_
 refine cB (c_ContainsFuncFlow L l (mism s) 152 [.cptr s.av 0] hl rfl rfl (fun f hf=>c_sCheck1 L f s (by omega) (by omega) (hper f hf).1 (hper f hf).2)) ?_
 refine Wk ?_
 refine BrK.mk (fun h4=>?_) (fun h4=>?_)<;>(try rw[h4])
 ·refine Wk ?_
  exact resP.mk rfl (Sees.of_eq (by unfold schedE;rw[if_neg e1,if_neg (by simp[h3']),if_pos h4]))
 refine Wk ?_
 refine BrK.mk (fun h5=>?_) (fun h5=>?_)<;>(try rw[h5])
 ·refine Wk ?_
  exact resP.mk rfl (Sees.of_eq (by unfold schedE;rw[if_neg e1,if_neg (by simp[h3']),if_neg (by simp[h4]),if_pos (by simp at h5;omega)]))
 have hc5:¬512 < s.cells.length:=by simp at h5;omega
 have hE:schedE n l s=if (firstAt (cellF n l s) s.cells.length).2≠0 then firstAt (cellF n l s) s.cells.length
  else if (firstAt (twI s.cells) s.cells.length).2≠0 then firstAt (twI s.cells) s.cells.length
  else firstAt (dsI n s.cells) s.cells.length:=by unfold schedE;rw[if_neg e1,if_neg (by simp[h3']),if_neg (by simp[h4]),if_neg hc5]
 rw[hE]
 refine Wk ?_
 refine cD (c_checkCells L n hn h0 l hl s (by omega)) ?_
 refine Wk ?_
 refine BrK.mk (fun h6=>?_) (fun h6=>?_)<;>(try rw[h6])
 ·rw[if_pos (by simpa using h6)]
  refine Wk ?_
  exact resP.mk rfl (Sees.of_eq rfl)
 have h6':(firstAt (cellF n l s) s.cells.length).2=0:=by simpa using h6
 have hcell:∀c∈s.cells,goodL n c.src c.dst=true:=fun c hcm=>by
  obtain⟨k,hk⟩:=List.getElem?_of_mem hcm
  have:=firstAt_ok.1 h6' k (List.getElem?_eq_some_iff.1 hk).1
  unfold cellF at this
  rw[hk]at this
  simp only at this
  split at this
  ·cases this
  split at this
  ·cases this
  rename_i g
  simp only[not_or,Bool.not_eq_false]at g
  exact g.1
 rw[if_neg (by simp[h6'])]
 refine Wk ?_
 refine LoopK.run mixed [] (fun (k:Nat)=>k≤s.cells.length∧∀j,j < k→twI s.cells j=0) (fun k=>[(3,.ptr 0 0),(5,.ptr 1 0),(52,.int .i64 s.cells.length),(53,.int .i64 k)]) (fun k=>⟨[.cells n.cs 36,.cells [.int .i64 s.len,.int .i64 s.offs,encCells s.cells] 24],[],0,0,fun _=>0⟩) (fun k=>s.cells.length-k) 0 ⟨by simp,by simp⟩ ?_ ?_
 ·refine fN ?_<;>repeat' (first|exact fQ|refine And.intro ?_ ?_|exact SeesL.rfl' _|exact Sees.int (by simp))
 rintro k ⟨hk,hinv⟩
 refine Wk ?_
 refine BrK.mk (fun hb=>?_) (fun hb=>?_)<;>try rw[hb]
 ·have hlt:k < s.cells.length:=by simpa using hb
  have hit:=firstAt_hit hinv (k:=k) (n:=s.cells.length)
  refine Wk ?_
  refine cD (c_twice L s (by omega) k hlt) ?_
  cases ht:twiceM s.cells k with
  | true=>
   have hv:twI s.cells k=6:=by rw[twI,if_pos ht]
   have hf:=hit (by rw[hv];decide) hlt
   rw[hv]at hf
   rw[hf,if_pos (show(6:Int)≠0 by decide)]
   refine Wk ?_
   exact resP.mk rfl (Sees.of_eq rfl)
  | false=>
   have hv:twI s.cells k=0:=by rw[twI,if_neg (by simp[ht])]
   refine Wk ?_
   refine⟨k+1,⟨by omega,fun j hj=>?_⟩,by omega,?_⟩
   ·rcases Nat.lt_succ_iff_lt_or_eq.1 hj with h|rfl
    ·exact hinv j h
    ·exact hv
   ·refine fN ?_<;>repeat' (first|exact fQ|refine And.intro ?_ ?_|exact SeesL.rfl' _|exact Sees.int (by rw[w64]<;>omega))
 have hkn:k=s.cells.length:=by simp at hb;omega
 have hf0:=firstAt_zero (hkn▸hinv)
 rw[hf0,if_neg (by decide)]
 clear hkn hinv hb hk hf0
 refine Wk ?_
 refine LoopK.run mixed [] (fun (k:Nat)=>k≤s.cells.length∧∀j,j < k→dsI n s.cells j=0) (fun k=>[(3,.ptr 0 0),(5,.ptr 1 0),(63,.int .i64 s.cells.length),(64,.int .i64 k)]) (fun k=>⟨[.cells n.cs 36,.cells [.int .i64 s.len,.int .i64 s.offs,encCells s.cells] 24],[],0,0,fun _=>0⟩) (fun k=>s.cells.length-k) 0 ⟨by simp,by simp⟩ ?_ ?_
 ·refine fN ?_<;>repeat' (first|exact fQ|refine And.intro ?_ ?_|exact SeesL.rfl' _|exact Sees.int (by simp))
 rintro k ⟨hk,hinv⟩
 refine Wk ?_
 refine BrK.mk (fun hb=>?_) (fun hb=>?_)<;>try rw[hb]
 ·have hlt:k < s.cells.length:=by simpa using hb
  have hit:=firstAt_hit hinv (k:=k) (n:=s.cells.length)
  refine Wk ?_
  refine cD (c_disturbed L n hn h0 s (by omega) hcell k hlt) ?_
  cases ht:disturbB n s.cells k with
  | true=>
   have hv:dsI n s.cells k=16:=by rw[dsI,if_pos ht]
   have hf:=hit (by rw[hv];decide) hlt
   rw[hv]at hf
   rw[hf]
   refine Wk ?_
   exact resP.mk rfl (Sees.of_eq rfl)
  | false=>
   have hv:dsI n s.cells k=0:=by rw[dsI,if_neg (by simp[ht])]
   refine Wk ?_
   refine⟨k+1,⟨by omega,fun j hj=>?_⟩,by omega,?_⟩
   ·rcases Nat.lt_succ_iff_lt_or_eq.1 hj with h|rfl
    ·exact hinv j h
    ·exact hv
   ·refine fN ?_<;>repeat' (first|exact fQ|refine And.intro ?_ ?_|exact SeesL.rfl' _|exact Sees.int (by rw[w64]<;>omega))
 ·have hkn:k=s.cells.length:=by simp at hb;omega
  have hf0:=firstAt_zero (hkn▸hinv)
  rw[hf0]
  refine Wk ?_
  exact resP.mk rfl (Sees.of_eq rfl)
end
theorem c_CloneRt (L:World→Prop)(l:List Int)(hl:l.length≤1099511627776):PCall Tryz.prog L 200 [encIs l] (encIs l):=by
 refine PCall.intro mixed [] (nt:=8) Tryz.func200 rfl rfl (by simp) ?_
 by_cases hne:l=[]
 ·subst hne
  refine Wk ?_
  intro b
  cases b
  ·repeat((conv=>whnf);first|refine sJ ?_|refine aI (by first|exact Els.map (f:=encI) (fun x=>⟨rfl,rfl⟩)|kernel_rfl) ?_ )
   try(conv=>whnf)
   exact resP.mk rfl (Sees.of_eq rfl)
  ·refine Wk ?_
   exact resP.mk rfl (Sees.of_eq rfl)
 refine Wk ?_
 refine BrK.mk (fun h=>?_) (fun h=>?_)<;>(try rw[h])
 ·exact absurd (by simpa using h) hne
 ·repeat((conv=>whnf);first|refine sJ ?_|refine aI (by first|exact Els.map (f:=encI) (fun x=>⟨rfl,rfl⟩)|exact(show _*8≤_ by simp only[List.length_map,List.length_nil];omega)|exact(by simp only[List.length_map,List.length_nil,maxLen];omega)|kernel_rfl) ?_ )
  try(conv=>whnf)
  exact resP.mk rfl (Sees.of_eq rfl)
def clS (n:Net)(s:Sched)(x:Req):Nat→St
 | 0=>⟨[.cells n.cs 36,.cells [.int .i64 s.len,.int .i64 s.offs,encCells s.cells] 24,.cells x.av.cells 81,.cells [.int .i64 0,.nils,.nils,.nils,.nils] 182,.cells [.int .i64 x.flow.id,.nils,.nils,.nils,.nils] 182],[],0,0,fun _=>0⟩
 | k+1=>⟨[.cells n.cs 36,.cells [.int .i64 s.len,.int .i64 s.offs,encCells s.cells] 24,.cells x.av.cells 81,.cells [.int .i64 0,.nils,.nils,.nils,.nils] 182,.cells [.int .i64 x.flow.id,.own ((x.routes.take (k+1)).map encIs) 0,.own (((x.routes.take (k+1)).map fun r=>(routeM n s x.flow r).1).map encI) 1,.own (((x.routes.take (k+1)).map fun r=>(routeM n s x.flow r).2.1).map encI) 2,.own (((x.routes.take (k+1)).map fun r=>(routeM n s x.flow r).2.2.1).map encIs) 3] 182],[(k+1,1),(k+1,1),(k+1,1),(k+1,1)],0,0,fun c=>if c=0 then 104 else if c=3 then 34 else 3⟩
theorem c_claim (n:Net)(hn:n.small)(s:Sched)(hc:s.cells.length≤281474976710656)(x:Req)(hxo:ReqOk n x):PCall Tryz.prog LW 147 [n.av,s.av,x.av] (.tup [(claimM n s x).av,.bool (claimB n s x)]):=by
 have hl2:=hxo.len
 refine PCall.intro mixed [] (nt:=74) Tryz.func147 rfl rfl (by simp) ?_
 refine Wk ?_
 refine LoopK.run mixed [10008,10009] (fun (k:Nat)=>k≤x.routes.length∧∀j r,j < k→x.routes[j]? = some r→srvB n s x r=true) (fun k=>[(3,.ptr 0 0),(4,.ptr 1 0),(5,.ptr 2 0),(6,.ptr 3 0),(8,.ptr 4 0),(20,encRows x.routes),(21,.int .i64 x.routes.length),(22,.int .i64 k)]) (fun k=>clS n s x k) (fun k=>x.routes.length-k) 0 ⟨by simp,fun j r hj=>by omega⟩ ?_ ?_
 ·refine fN ?_<;>repeat' (first|exact fQ|refine And.intro ?_ ?_|exact SeesL.rfl' _|exact Sees.int (by simp))
 rintro k ⟨hk,hinv⟩
 by_cases hkl:k < x.routes.length
 rotate_left
 ·have hkn:k=x.routes.length:=by omega
  have g0:decide ((k:Int) < (x.routes.length:Int))=false:=decide_eq_false (by omega)
  have hall:claimB n s x=true:=List.all_eq_true.2 fun r hr=>by
   obtain⟨j,hj⟩:=List.getElem?_of_mem hr
   exact hinv j r (by rw[hkn];exact(List.getElem?_eq_some_iff.1 hj).1) hj
  obtain⟨k,rfl⟩:∃i,k=i+1:=⟨k-1,by omega⟩
  have e:x.routes.take (k+1)=x.routes:=List.take_of_length_le (by omega)
  repeat((conv=>whnf);first|refine sT ?_|rw[g0])
  try(conv=>whnf)
  exact resP.mk rfl (Sees.of_eq (by rw[claimM,if_pos hall,hall,e];rfl))
 obtain⟨r,hgr⟩:=getLt hkl
 have hmr:=getMap (f:=encIs) hgr
 have hrl:r.length≤9:=(routeF_ok (hxo.route r (List.mem_of_getElem? hgr))).1.2
 have nxt:srvB n s x r=true→∀j y,j < k+1→x.routes[j]? = some y→srvB n s x y=true:=fun h j y hj hy=>by
  rcases Nat.lt_succ_iff_lt_or_eq.1 hj with h'|rfl
  ·exact hinv j y h' hy
  ·rw[hgr]at hy;injection hy with hy;subst hy;exact h
 have hts:=take_succ hgr
 have g0:decide ((k:Int) < (x.routes.length:Int))=true:=decide_eq_true (by omega)
 cases k with
 | zero=>
  repeat((conv=>whnf);first|refine sT ?_|rw[g0])
  try(conv=>whnf)
  have hno:srvB n s x r=false→claimB n s x=false:=fun h=>List.all_eq_false.2 ⟨r,List.mem_of_getElem? hgr,by simp[h]⟩
  repeat((conv=>whnf);first|refine sJ ?_|refine aI (by first|exact inbMap hkl|kernel_rfl) ?_|rw[hmr])
  try(conv=>whnf)
  refine cD (c_BRoute n s x.flow r hn hc (by omega)) ?_
  by_cases he:(routeM n s x.flow r).2.2.2=0
  rotate_left
  ·have g:((routeM n s x.flow r).2.2.2 != 0)=true:=by simpa using he
   have hb:=hno (by simp[srvB,he])
   repeat((conv=>whnf);first|refine sT ?_|rw[g])
   try(conv=>whnf)
   exact resP.mk rfl (Sees.of_eq (by rw[claimM,if_neg (by rw[hb];decide),hb];rfl))
  have g:((routeM n s x.flow r).2.2.2 != 0)=false:=by simpa using he
  by_cases hd:x.flow.dead < (routeM n s x.flow r).1
  ·have g2:decide (x.flow.dead < (routeM n s x.flow r).1)=true:=by simpa using hd
   have hb:=hno (by simp[srvB];omega)
   repeat((conv=>whnf);first|refine sT ?_|rw[g]|rw[g2])
   try(conv=>whnf)
   exact resP.mk rfl (Sees.of_eq (by rw[claimM,if_neg (by rw[hb];decide),hb];rfl))
  have g2:decide (x.flow.dead < (routeM n s x.flow r).1)=false:=by simpa using hd
  have hsv:srvB n s x r=true:=by simp[srvB,he];omega
  repeat((conv=>whnf);first|refine sT ?_|rw[g]|rw[g2])
  try(conv=>whnf)
  refine SemK.regionFin mixed (fun X=>X.bx[4]? = some (.cells [.int .i64 x.flow.id,.nils,.nils,.nils,.nils] 182)) [0,1,2,3,4,6,7,8,9,11,13] 4 rfl rfl (by decide) rfl (by rfl) ?_
  iterate 3
   conv=>whnf
   apply exV
   ·rintro S' K' hI hh
    repeat((conv=>whnf);first|refine sT ?_|rw[hI])
    try(conv=>whnf)
    exact hh
  conv=>whnf
  apply exV
  ·rintro S' K' hI hh
   refine Wk ?_
   refine cD (c_CloneRt LW r (by omega)) ?_
   exact hh
  iterate 7
   conv=>whnf
   apply exV
   ·rintro S' K' hI hh
    repeat((conv=>whnf);first|refine sT ?_|rw[hI])
    try(conv=>whnf)
    exact hh
  conv=>whnf
  repeat' ((conv=>whnf);first|exact trivial|refine sJ ?_|refine aI (by first|exact trivial|exact Or.inr rfl|exact Or.inl rfl|exact Els.map (f:=encIs) (fun x=>⟨rfl,rfl⟩)|exact Els.map (f:=encI) (fun x=>⟨rfl,rfl⟩)|exact(show _*24≤_ by simp only[List.length_map,List.length_take,List.length_cons,List.length_nil];omega)|exact(show _*8≤_ by simp only[List.length_map,List.length_take,List.length_cons,List.length_nil];omega)|exact(by simp;omega)|exact(by simp;show some (_,_)=some (_,_);congr 2;omega)|kernel_rfl) ?_|refine And.intro ?_ ?_ )
  all_goals(conv=>whnf)
  refine SemK.regionFin mixed (fun X=>X.bx[4]? = some (.cells [.int .i64 x.flow.id,.own [encIs r] 0,.own [encI (routeM n s x.flow r).1] 1,.nils,.nils] 182)) [0,1,2,3,5,6,7,8,10,12] 4 rfl rfl (by decide) rfl (by rfl) ?_
  iterate 10
   conv=>whnf
   apply exV
   ·rintro S' K' hI hh
    repeat((conv=>whnf);first|refine sT ?_|rw[hI])
    try(conv=>whnf)
    exact hh
  conv=>whnf
  repeat' ((conv=>whnf);first|exact trivial|refine sJ ?_|refine aI (by first|exact trivial|exact Or.inr rfl|exact Or.inl rfl|exact Els.map (f:=encIs) (fun x=>⟨rfl,rfl⟩)|exact Els.map (f:=encI) (fun x=>⟨rfl,rfl⟩)|exact(show _*24≤_ by simp only[List.length_map,List.length_take,List.length_cons,List.length_nil];omega)|exact(show _*8≤_ by simp only[List.length_map,List.length_take,List.length_cons,List.length_nil];omega)|exact(by simp;omega)|exact(by simp;show some (_,_)=some (_,_);congr 2;omega)|kernel_rfl) ?_|refine And.intro ?_ ?_ )
  all_goals(conv=>whnf)
  all_goals refine⟨0+1,⟨by omega,nxt hsv⟩,by omega,?_⟩
  all_goals refine fN ?_<;>repeat' (first|exact fQ|refine And.intro ?_ ?_|exact SeesL.rfl' _|exact Sees.int (succI hkl (by omega))|exact Sees.own (by rw[hts];rfl))
 | succ k=>
  repeat((conv=>whnf);first|refine sT ?_|rw[g0])
  try(conv=>whnf)
  have hno:srvB n s x r=false→claimB n s x=false:=fun h=>List.all_eq_false.2 ⟨r,List.mem_of_getElem? hgr,by simp[h]⟩
  repeat((conv=>whnf);first|refine sJ ?_|refine aI (by first|exact inbMap hkl|kernel_rfl) ?_|rw[hmr])
  try(conv=>whnf)
  refine cD (c_BRoute n s x.flow r hn hc (by omega)) ?_
  by_cases he:(routeM n s x.flow r).2.2.2=0
  rotate_left
  ·have g:((routeM n s x.flow r).2.2.2 != 0)=true:=by simpa using he
   have hb:=hno (by simp[srvB,he])
   repeat((conv=>whnf);first|refine sT ?_|rw[g])
   try(conv=>whnf)
   exact resP.mk rfl (Sees.of_eq (by rw[claimM,if_neg (by rw[hb];decide),hb];rfl))
  have g:((routeM n s x.flow r).2.2.2 != 0)=false:=by simpa using he
  by_cases hd:x.flow.dead < (routeM n s x.flow r).1
  ·have g2:decide (x.flow.dead < (routeM n s x.flow r).1)=true:=by simpa using hd
   have hb:=hno (by simp[srvB];omega)
   repeat((conv=>whnf);first|refine sT ?_|rw[g]|rw[g2])
   try(conv=>whnf)
   exact resP.mk rfl (Sees.of_eq (by rw[claimM,if_neg (by rw[hb];decide),hb];rfl))
  have g2:decide (x.flow.dead < (routeM n s x.flow r).1)=false:=by simpa using hd
  have hsv:srvB n s x r=true:=by simp[srvB,he];omega
  repeat((conv=>whnf);first|refine sT ?_|rw[g]|rw[g2])
  try(conv=>whnf)
  refine SemK.regionFin mixed (fun X=>X.bx[4]? = some (.cells [.int .i64 x.flow.id,.own ((x.routes.take (k+1)).map encIs) 0,.own (((x.routes.take (k+1)).map fun r=>(routeM n s x.flow r).1).map encI) 1,.own (((x.routes.take (k+1)).map fun r=>(routeM n s x.flow r).2.1).map encI) 2,.own (((x.routes.take (k+1)).map fun r=>(routeM n s x.flow r).2.2.1).map encIs) 3] 182)) [0,1,2,3,4,6,7,8,9,11,13] 4 rfl rfl (by decide) rfl (by rfl) ?_
  iterate 3
   conv=>whnf
   apply exV
   ·rintro S' K' hI hh
    repeat((conv=>whnf);first|refine sT ?_|rw[hI])
    try(conv=>whnf)
    exact hh
  conv=>whnf
  apply exV
  ·rintro S' K' hI hh
   refine Wk ?_
   refine cD (c_CloneRt LW r (by omega)) ?_
   exact hh
  iterate 7
   conv=>whnf
   apply exV
   ·rintro S' K' hI hh
    repeat((conv=>whnf);first|refine sT ?_|rw[hI])
    try(conv=>whnf)
    exact hh
  conv=>whnf
  repeat' ((conv=>whnf);first|exact trivial|refine sJ ?_|refine aI (by first|exact trivial|exact Or.inr rfl|exact Or.inl rfl|exact Els.map (f:=encIs) (fun x=>⟨rfl,rfl⟩)|exact Els.map (f:=encI) (fun x=>⟨rfl,rfl⟩)|exact(show _*24≤_ by simp only[List.length_map,List.length_take,List.length_cons,List.length_nil];omega)|exact(show _*8≤_ by simp only[List.length_map,List.length_take,List.length_cons,List.length_nil];omega)|exact(by simp only[List.length_map,List.length_take,List.length_cons,List.length_nil,maxLen];omega)|exact(by simp only[List.length_map,List.length_take];show some (_,_)=some (_,_);congr 2;omega)|kernel_rfl) ?_|refine And.intro ?_ ?_ )
  all_goals(conv=>whnf)
  refine SemK.regionFin mixed (fun X=>X.bx[4]? = some (.cells [.int .i64 x.flow.id,.own ((x.routes.take (k+1)).map encIs++[encIs r]) 0,.own (((x.routes.take (k+1)).map fun r=>(routeM n s x.flow r).1).map encI++[encI (routeM n s x.flow r).1]) 1,.own (((x.routes.take (k+1)).map fun r=>(routeM n s x.flow r).2.1).map encI) 2,.own (((x.routes.take (k+1)).map fun r=>(routeM n s x.flow r).2.2.1).map encIs) 3] 182)) [0,1,2,3,5,6,7,8,10,12] 4 rfl rfl (by decide) rfl (by rfl) ?_
  iterate 10
   conv=>whnf
   apply exV
   ·rintro S' K' hI hh
    repeat((conv=>whnf);first|refine sT ?_|rw[hI])
    try(conv=>whnf)
    exact hh
  conv=>whnf
  repeat' ((conv=>whnf);first|exact trivial|refine sJ ?_|refine aI (by first|exact trivial|exact Or.inr rfl|exact Or.inl rfl|exact Els.map (f:=encIs) (fun x=>⟨rfl,rfl⟩)|exact Els.map (f:=encI) (fun x=>⟨rfl,rfl⟩)|exact(show _*24≤_ by simp only[List.length_map,List.length_take,List.length_cons,List.length_nil];omega)|exact(show _*8≤_ by simp only[List.length_map,List.length_take,List.length_cons,List.length_nil];omega)|exact(by simp only[List.length_map,List.length_take,List.length_cons,List.length_nil,maxLen];omega)|exact(by simp only[List.length_map,List.length_take];show some (_,_)=some (_,_);congr 2;omega)|kernel_rfl) ?_|refine And.intro ?_ ?_ )
  all_goals(conv=>whnf)
  all_goals refine⟨k+1+1,⟨by omega,nxt hsv⟩,by omega,?_⟩
  all_goals refine fN ?_<;>repeat' (first|exact fQ|refine And.intro ?_ ?_|exact SeesL.rfl' _|exact Sees.int (succI hkl (by omega))|exact Sees.own (by rw[hts];simp only[List.map_append];rfl)|(show(_,_)=(_,_);simp only[List.length_append,List.length_map,List.length_take,List.length_cons,List.length_nil];congr 1;omega))
theorem c_Make (n:Net)(hn:n.small)(q:List Req)(hq:q.length≤1099511627776)(hx:∀x∈q,x.small)(s:Sched)(hc:s.cells.length≤281474976710656):PCall Tryz.prog LW 90 [n.av,encReqs q,s.av] (.tup [encClaims (makeM n q s).1,.int .i64 (makeM n q s).2.1,.int .i64 (makeM n q s).2.2]):=by
 refine PCall.intro mixed [] (nt:=61) Tryz.func90 rfl rfl (by simp) ?_
 refine Wk ?_
 refine cD (c_requests LW n hn q hq hx) ?_
 refine Wk ?_
 refine BrK.mk (fun h1=>?_) (fun h1=>?_)<;>(try rw[h1])
 ·refine Wk ?_
  exact resP.mk rfl (Sees.of_eq (by unfold makeM;rw[if_pos (by simpa using h1)];rfl))
 have h1':(reqE n q).2=0:=by simpa using h1
 obtain⟨hok,hq16,hreq,hfl⟩:=reqE_ok h1'
 refine Wk ?_
 refine cD (c_cflows LW q hq) ?_
 refine Wk ?_
 refine cD (c_SCheck LW n hn (flowsQ q) (by simp[flowsQ];omega) s hc) ?_
 refine Wk ?_
 refine BrK.mk (fun h2=>?_) (fun h2=>?_)<;>(try rw[h2])
 ·refine Wk ?_
  exact resP.mk rfl (Sees.of_eq (by unfold makeM;rw[if_neg (by omega),if_pos (by simpa using h2)];rfl))
 have h2':(schedE n (flowsQ q) s).2=0:=by simpa using h2
 have hM:makeM n q s=if (firstAt (lateAt n s q) q.length).2≠0 then([],firstAt (lateAt n s q) q.length) else(q.map (claimM n s),-1,0):=by unfold makeM;rw[if_neg (by omega),if_neg (by omega)]
 refine Wk ?_
 refine LoopK.born 13 5 182 rfl ?_
 refine LoopK.run mixed [] (fun (k:Nat)=>k≤q.length∧∀j,j < k→lateAt n s q j=0) (fun k=>[(3,.ptr 0 0),(5,.ptr 1 0),(13,.own ((q.take k).map fun x=>(claimM n s x).av) 0),(38,encReqs q),(39,.int .i64 q.length),(40,.int .i64 k)]) (fun k=>⟨[.cells n.cs 36,.cells [.int .i64 s.len,.int .i64 s.offs,encCells s.cells] 24],[((q.take k).length,5)],0,0,fun k=>if k=0 then 182 else 0⟩) (fun k=>q.length-k) 0 ⟨by simp,by simp⟩ ?_ ?_
 ·refine fN ?_<;>repeat' (first|exact fQ|refine And.intro ?_ ?_|exact SeesL.rfl' _|exact Sees.int (by simp))
 rintro k ⟨hk,hinv⟩
 have hkl:(q.take k).length≤16:=by rw[List.length_take];omega
 refine Wk ?_
 refine BrK.mk (fun hb=>?_) (fun hb=>?_)<;>try rw[hb]
 ·have hlt:k < q.length:=by simpa using hb
  obtain⟨x,hgx⟩:=getLt hlt
  have hmx:=getMap (f:=Req.av) hgx
  have hit:=firstAt_hit hinv (k:=k) (n:=q.length)
  have hL:lateAt n s q k=if claimB n s x then 0 else 15:=by unfold lateAt;rw[hgx]
  repeat((conv=>whnf);first|refine sJ ?_|refine aI (by first|exact inbMap hlt|kernel_rfl) ?_|rw[hmx])
  try(conv=>whnf)
  refine cD (c_claim n hn s hc x (hreq x (List.mem_of_getElem? hgx))) ?_
  cases hcb:claimB n s x with
  | false=>
   rw[hcb,if_neg (by decide)]at hL
   have hf:=hit (by rw[hL];decide) hlt
   rw[hL]at hf
   refine Wk ?_
   exact resP.mk rfl (Sees.of_eq (by rw[hM,hf,if_pos (show(15:Int)≠0 by decide)];rfl))
  | true=>
   rw[hcb,if_pos rfl]at hL
   repeat((conv=>whnf);first|refine sJ ?_|refine aI (by first|exact Els.map (f:=fun x=>(claimM n s x).av) (fun x=>⟨rfl,rfl⟩)|exact(show _*104≤_ by simp only[List.length_map,List.length_cons,List.length_nil];omega)|exact(by simp only[List.length_map,List.length_cons,List.length_nil,maxLen];omega)|exact(by rw[List.length_map];rfl)|kernel_rfl) ?_ )
   try(conv=>whnf)
   refine⟨k+1,⟨by omega,fun j hj=>?_⟩,by omega,?_⟩
   ·rcases Nat.lt_succ_iff_lt_or_eq.1 hj with h|rfl
    ·exact hinv j h
    ·exact hL
   ·refine fN ?_<;>repeat' (first|exact fQ|refine And.intro ?_ ?_|exact SeesL.rfl' _|exact Sees.int (succI hlt (by omega))|exact Sees.own (by rw[take_succ hgx,List.map_append];rfl)|(show(_,_)=(_,_);rw[take_succ hgx];simp only[List.length_append,List.length_map];rfl))
 ·have hkn:k=q.length:=by simp at hb;omega
  subst hkn
  rw[List.take_length]
  refine Wk ?_
  exact resP.mk rfl (Sees.of_eq (by rw[hM,firstAt_zero hinv,if_neg (by decide)];show _=AV.tup [encClaims (List.map (claimM n s) q),_,_];rw[encClaims,List.map_map];rfl))
end HM
