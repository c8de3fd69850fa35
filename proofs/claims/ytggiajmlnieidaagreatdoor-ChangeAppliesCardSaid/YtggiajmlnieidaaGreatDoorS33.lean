/- The references on networks, flows and routes. -/
import Derived.Test.YtggiajmlnieidaaGreatDoorS30
import Derived.Test.YtggiajmlnieidaaGreatDoorS6
import Derived.Test.YtggiajmlnieidaaGreatDoorDa
set_option maxRecDepth 100000
namespace HM
open Go Go.RowKit Go.Proofs
section
variable (L:World→Prop)
theorem c_in31 (n lo hi:Int):PCall Tryz.prog L 228 [.int .i64 n,.int .i64 lo,.int .i64 hi] (.bool (inB n lo hi)):=by
 refine PCall.intro mixed [] (nt:=15) Tryz.func228 rfl rfl (by simp) ?_
 repeat' ((conv=>whnf);first|refine sI ?_  | (refine BrK.mk (fun hb=>?_) (fun hb=>?_)<;>try rw[hb]))
 all_goals try(conv=>whnf)
 all_goals exact resP.mk rfl (Sees.of_eq (by first|(simp_all[inB];done)|(simp_all[inB];omega)))
theorem c_in32 (n lo hi:Int):PCall Tryz.prog L 127 [.int .i64 n,.int .i64 lo,.int .i64 hi] (.bool (inB n lo hi)):=by
 refine PCall.intro mixed [] (nt:=15) Tryz.func127 rfl rfl (by simp) ?_
 repeat' ((conv=>whnf);first|refine sI ?_  | (refine BrK.mk (fun hb=>?_) (fun hb=>?_)<;>try rw[hb]))
 all_goals try(conv=>whnf)
 all_goals exact resP.mk rfl (Sees.of_eq (by first|(simp_all[inB];done)|(simp_all[inB];omega)))
theorem c_node33 (n:Net)(a:Int):PCall Tryz.prog L 270 [n.av,.int .i64 a] (.bool (insB a n.nodes)):=by
 refine PCall.intro mixed [] (nt:=13) Tryz.func270 rfl rfl (by simp) ?_
 repeat' ((conv=>whnf);first|refine sI ?_  | (refine BrK.mk (fun hb=>?_) (fun hb=>?_)<;>try rw[hb]))
 all_goals try(conv=>whnf)
 all_goals exact resP.mk rfl (Sees.of_eq (by first|(simp_all[insB];done)|(simp_all[insB];omega)))
theorem inB_ins (a n:Int):inB a 0 (n-1)=insB a n:=by rw[Bool.eq_iff_iff];simp[inB,insB]<;>omega
theorem inB_bad (x:Int):(!inB x 0 68719476736)=badP x:=by
 rw[Bool.eq_iff_iff];simp[inB,badP]<;>omega
theorem c_table (n:Net)(_hn:n.small)(h1:2≤n.nodes)(h2:n.nodes≤32):PCall Tryz.prog L 229 [n.av] (.int .i64 (powerE n)):=by
 obtain⟨N,hN⟩:∃N:Nat,n.nodes=N:=⟨n.nodes.toNat,by omega⟩
 refine PCall.intro mixed [] (nt:=49) Tryz.func229 rfl rfl (by simp) ?_
 refine Wk ?_
 refine BrK.mk (fun g1=>?_) (fun g1=>?_)<;>(try rw[g1])
 ·refine Wk ?_
  exact resP.mk rfl (Sees.int (by rw[powerE,if_pos (.inl (by simpa using g1))]))
 have g1':(n.power.length:Int)=n.nodes:=by simpa using g1
 refine Wk ?_
 refine LoopK.run mixed [] (fun (k:Nat)=>k≤N∧∀j r,j < k→n.power[j]? = some r→(r.length:Int)=n.nodes) (fun k=>[(1,.ptr 0 0),(3,.int .i64 k)]) (fun k=>⟨[.cells n.cs 26],[],0,0,fun _=>0⟩) (fun k=>N-k) 0 ⟨by simp,by simp⟩ ?_ ?_
 ·refine fN ?_<;>repeat' (first|exact fQ|refine And.intro ?_ ?_ )
 rintro k ⟨hk,hinv⟩
 refine Wk ?_
 refine BrK.mk (fun hb=>?_) (fun hb=>?_)<;>try rw[hb]
 ·have hlt:k < N:=by simp[hN]at hb;omega
  obtain⟨r,hgr⟩:=getLt (l:=n.power) (k:=k) (by omega)
  have hmr:=getMap (f:=encIs) hgr
  repeat((conv=>whnf);first|refine sJ ?_|refine aI (by first|exact inbMap (by omega)|kernel_rfl) ?_|rw[hmr])
  try(conv=>whnf)
  refine BrK.mk (fun hc=>?_) (fun hc=>?_)<;>(try rw[hc])
  ·refine Wk ?_
   exact resP.mk rfl (Sees.int (by rw[powerE,if_pos (.inr (by rw[List.any_eq_true];exact⟨r,List.mem_of_getElem? hgr,by simpa using hc⟩))]))
  ·refine Wk ?_
   refine⟨k+1,⟨by omega,fun j r' hj hr'=>?_⟩,by omega,?_⟩
   ·rcases Nat.lt_succ_iff_lt_or_eq.1 hj with h|rfl
    ·exact hinv j r' h hr'
    ·rw[hgr]at hr';injection hr' with hr';subst hr';simpa using hc
   ·refine fN ?_<;>repeat' (first|exact fQ|refine And.intro ?_ ?_|exact Sees.int (succI hlt (by omega)))
 ·have hk':k=N:=by simp[hN]at hb;omega
  subst hk'
  have hrows:∀r∈n.power,(r.length:Int)=n.nodes:=fun r hr=>by
   obtain⟨j,hj⟩:=List.getElem?_of_mem hr
   have:=(List.getElem?_eq_some_iff.1 hj).1
   exact hinv j r (by omega) hj
  have hE:powerE n=if n.power.any (fun r=>r.any badP) then 2 else 0:=by
   rw[powerE,if_neg]
   simp only[not_or,ne_eq,Decidable.not_not,Bool.not_eq_true,List.any_eq_false,bne_iff_ne]
   exact⟨g1',hrows⟩
  rw[hE]
  clear hinv
  refine Wk ?_
  refine LoopK.run mixed [] (fun (i:Nat)=>i≤k∧∀j r,j < i→n.power[j]? = some r→r.any badP=false) (fun i=>[(1,.ptr 0 0),(4,.int .i64 i)]) (fun i=>⟨[.cells n.cs 26],[],0,0,fun _=>0⟩) (fun i=>k-i) 0 ⟨by simp,by simp⟩ ?_ ?_
  ·refine fN ?_<;>repeat' (first|exact fQ|refine And.intro ?_ ?_ )
  rintro i ⟨hi,hinv⟩
  refine Wk ?_
  refine BrK.mk (fun hd=>?_) (fun hd=>?_)<;>(try rw[hd])
  ·have hlt:i < k:=by simp[hN]at hd;omega
   obtain⟨r,hgr⟩:=getLt (l:=n.power) (k:=i) (by omega)
   have hmr:=getMap (f:=encIs) hgr
   have hrl:=hrows r (List.mem_of_getElem? hgr)
   refine Wk ?_
   refine LoopK.run mixed [] (fun (j:Nat)=>j≤k∧∀m x,m < j→r[m]? = some x→badP x=false) (fun j=>[(1,.ptr 0 0),(4,.int .i64 i),(5,.int .i64 j)]) (fun j=>⟨[.cells n.cs 26],[],0,0,fun _=>0⟩) (fun j=>k-j) 0 ⟨by simp,by simp⟩ ?_ ?_
   ·refine fN ?_<;>repeat' (first|exact fQ|refine And.intro ?_ ?_ )
   rintro j ⟨hj,hinv2⟩
   refine Wk ?_
   refine BrK.mk (fun he=>?_) (fun he=>?_)<;>(try rw[he])
   ·have hjt:j < k:=by simp[hN]at he;omega
    obtain⟨x,hgx⟩:=getLt (l:=r) (k:=j) (by omega)
    have hmx:=getMap (f:=encI) hgx
    repeat((conv=>whnf);first|refine sJ ?_|refine aI (by first|exact inbMap (by omega)|kernel_rfl) ?_|rw[hmr]|rw[hmx])
    try(conv=>whnf)
    refine cD (c_in31 L _ _ _) ?_
    refine Wk ?_
    rw[inB_bad]
    refine BrK.mk (fun hf=>?_) (fun hf=>?_)<;>(try rw[hf])
    ·refine Wk ?_
     exact resP.mk rfl (Sees.int (by rw[if_pos];rw[List.any_eq_true];exact⟨r,List.mem_of_getElem? hgr,List.any_eq_true.2 ⟨x,List.mem_of_getElem? hgx,hf⟩⟩))
    ·refine Wk ?_
     refine⟨j+1,⟨by omega,fun m y hm hy=>?_⟩,by omega,?_⟩
     ·rcases Nat.lt_succ_iff_lt_or_eq.1 hm with h|rfl
      ·exact hinv2 m y h hy
      ·rw[hgx]at hy;injection hy with hy;subst hy;exact hf
     ·refine fN ?_<;>repeat' (first|exact fQ|refine And.intro ?_ ?_|exact Sees.int (succI hjt (by omega)))
   ·have hjk:j=k:=by simp[hN]at he;omega
    subst hjk
    refine Wk ?_
    refine⟨i+1,⟨by omega,fun m r' hm hr'=>?_⟩,by omega,?_⟩
    ·rcases Nat.lt_succ_iff_lt_or_eq.1 hm with h|rfl
     ·exact hinv m r' h hr'
     ·rw[hgr]at hr';injection hr' with hr';subst hr'
      rw[List.any_eq_false]
      intro x hx
      obtain⟨m,hm⟩:=List.getElem?_of_mem hx
      have:=(List.getElem?_eq_some_iff.1 hm).1
      simp[hinv2 m x (by omega) hm]
    ·refine fN ?_<;>repeat' (first|exact fQ|refine And.intro ?_ ?_|exact Sees.int (succI hlt (by omega)))
  ·have hik:i=k:=by simp[hN]at hd;omega
   subst hik
   refine Wk ?_
   refine resP.mk rfl (Sees.int ?_)
   rw[if_neg]
   simp only[Bool.not_eq_true]
   rw[List.any_eq_false]
   intro r hr
   obtain⟨m,hm⟩:=List.getElem?_of_mem hr
   have:=(List.getElem?_eq_some_iff.1 hm).1
   rw[hinv m r (by omega) hm];simp
theorem link_lt {p l:Link}:decide (p.cmp l < 0)=!(decide (l.src < p.src)||(p.src==l.src&&decide (l.dst≤p.dst))):=by
 unfold Link.cmp Link.key cmpL cmpL cmpL
 rw[Bool.eq_iff_iff]
 by_cases h1:p.src=l.src
 ·rw[if_pos (cmpI_eq.2 h1)]
  by_cases h2:p.dst=l.dst
  ·rw[if_pos (cmpI_eq.2 h2)];simp[h1,h2]
  ·rw[if_neg (fun h=>h2 (cmpI_eq.1 h))]
   simp[cmpI_lt,h1]<;>omega
 ·rw[if_neg (fun h=>h1 (cmpI_eq.1 h))]
  simp[cmpI_lt,h1]<;>omega
theorem c_link31 (n:Net)(i:Nat)(l:Link)(hl:n.links[i]? = some l)(hm:n.margin.length=n.links.length)(hb:n.links.length≤128)(hn1:2≤n.nodes∧n.nodes≤32)(hp1:(n.power.length:Int)=n.nodes)(hp2:∀r∈n.power,(r.length:Int)=n.nodes) :
  PCall Tryz.prog L 230 [n.av,.int .i64 i] (.int .i64 (linkE n i)):=by
 have hlt:=(List.getElem?_eq_some_iff.1 hl).1
 have hmx:=getMap (f:=Link.av) hl
 obtain⟨m,hgm⟩:=getLt (l:=n.margin) (k:=i) (by omega)
 have hmm:=getMap (f:=encI) hgm
 have hgd:n.margin.getD i 0=m:=by rw[List.getD_eq_getElem?_getD,hgm];rfl
 have hE:linkE n i=if linkR n l=false then 2 else if linkO n i l=false then 5 else if n.margin.getD i 0 < 0∨powAt n l.src l.dst < n.margin.getD i 0 then 2 else 0:=by rw[linkE,hl]
 have hwn:IntKind.i64.wrap (n.nodes-1)=n.nodes-1:=w64 (by omega) (by omega)
 rw[hE,hgd]
 refine PCall.intro mixed [] (nt:=95) Tryz.func230 rfl rfl (by simp) ?_
 repeat((conv=>whnf);first|refine sJ ?_|refine aI (by first|exact inbMap hlt|kernel_rfl) ?_|rw[hmx])
 try(conv=>whnf)
 rw[hwn]
 refine cD (c_in31 L _ _ _) ?_
 rw[inB_ins]
 refine Wk ?_
 refine BrK.mk (fun h1=>?_) (fun h1=>?_)<;>(try rw[h1])
 ·refine Wk ?_
  exact resP.mk rfl (Sees.int (by rw[if_pos (by simp at h1;simp[linkR,h1])]))
 refine Wk ?_
 rw[hwn]
 refine cD (c_in31 L _ _ _) ?_
 rw[inB_ins]
 refine Wk ?_
 refine BrK.mk (fun h2=>?_) (fun h2=>?_)<;>(try rw[h2])
 ·refine Wk ?_
  exact resP.mk rfl (Sees.int (by rw[if_pos (by simp at h2;simp[linkR,h2])]))
 clear hwn
 refine Wk ?_
 refine BrK.mk (fun h3=>?_) (fun h3=>?_)<;>(try rw[h3])
 ·refine Wk ?_
  exact resP.mk rfl (Sees.int (by rw[if_pos (by simp at h3;simp[linkR,h3])]))
 refine Wk ?_
 refine cD (c_in31 L _ _ _) ?_
 refine Wk ?_
 refine BrK.mk (fun h4=>?_) (fun h4=>?_)<;>(try rw[h4])
 ·refine Wk ?_
  exact resP.mk rfl (Sees.int (by rw[if_pos (by simp[inB]at h4;simp[linkR];omega)]))
 have hR:linkR n l=true:=by simp[inB]at h1 h2 h3 h4;simp[linkR,h1,h2,h3];omega
 have hbd:=linkR_bd hR
 rw[if_neg (by simp[hR])]
 obtain⟨r,hgr⟩:=getLt (l:=n.power) (k:=l.src.toNat) (by omega)
 have hmr:=getMapI (f:=encIs) hgr
 have hrl:=hp2 r (List.mem_of_getElem? hgr)
 obtain⟨x,hgx⟩:=getLt (l:=r) (k:=l.dst.toNat) (by omega)
 have hmp:=getMapI (f:=encI) hgx
 have hpow:powAt n l.src l.dst=x:=by
  unfold powAt
  rw[List.getD_eq_getElem?_getD,List.getD_eq_getElem?_getD,hgr]
  simp[hgx]
 rw[hpow]
 have fin:∀b:Bool,b=inB m 0 x→(if m < 0∨x < m then(2:Int) else 0)=if b then 0 else 2:=fun b hb=>by
  subst hb
  by_cases h:m < 0∨x < m
  ·rw[if_pos h,if_neg (by simp[inB];omega)]
  ·rw[if_neg h,if_pos (by simp[inB];omega)]
 refine Wk ?_
 refine BrK.mk (fun h6=>?_) (fun h6=>?_)<;>(try rw[h6])
 ·have hpos:0 < i:=by simpa using h6
  obtain⟨j,rfl⟩:∃j,i=j+1:=⟨i-1,by omega⟩
  obtain⟨p,hgp⟩:=getLt (l:=n.links) (k:=j) (by omega)
  have hmp':=getMap (f:=Link.av) hgp
  have hw:IntKind.i64.wrap (((j+1:Nat):Int)-1)=(j:Int):=by rw[w64]<;>omega
  have hO:linkO n (j+1) l=decide (p.cmp l < 0):=by simp only[linkO,hgp]
  rw[hO,link_lt]
  repeat((conv=>whnf);first|refine sJ ?_|refine aI (by first|(rw[hw];exact inbMap (by omega))|kernel_rfl) ?_|rw[hw]|rw[hmp'])
  try(conv=>whnf)
  refine BrK.mk (fun h7=>?_) (fun h7=>?_)<;>(try rw[h7])
  ·refine Wk ?_
   exact resP.mk rfl (Sees.int (by simp at h7;rw[if_pos (by simp)]))
  repeat((conv=>whnf);first|refine sJ ?_|refine aI (by first|(rw[hw];exact inbMap (by omega))|kernel_rfl) ?_|rw[hw]|rw[hmp'])
  try(conv=>whnf)
  refine BrK.mk (fun h8=>?_) (fun h8=>?_)<;>(try rw[h8])
  ·repeat((conv=>whnf);first|refine sJ ?_|refine aI (by first|(rw[hw];exact inbMap (by omega))|kernel_rfl) ?_|rw[hw]|rw[hmp'])
   try(conv=>whnf)
   refine BrK.mk (fun h9=>?_) (fun h9=>?_)<;>(try rw[h9])
   ·refine Wk ?_
    exact resP.mk rfl (Sees.int (by simp at h7 h8 h9;rw[if_pos (by simp)]))
   rw[if_neg (by simp at h7 h8 h9;simp)]
   clear hw hmp'
   repeat((conv=>whnf);first|refine sJ ?_|refine aI (by first|exact inbMap hlt|exact inbMap (by omega)|exact inbI (by omega) (by omega)|kernel_rfl) ?_|rw[hmm]|rw[hmr]|rw[hmp])
   try(conv=>whnf)
   refine cD (c_in31 L _ _ _) ?_
   refine Wk ?_
   refine BrK.mk (fun h10=>?_) (fun h10=>?_)<;>(try rw[h10])
   ·refine Wk ?_
    exact resP.mk rfl (Sees.int (by rw[fin _ rfl,if_neg (by simpa using h10)]))
   ·refine Wk ?_
    exact resP.mk rfl (Sees.int (by rw[fin _ rfl,if_pos (by simpa using h10)]))
  ·rw[if_neg (by simp at h7 h8;simp)]
   clear hw hmp'
   repeat((conv=>whnf);first|refine sJ ?_|refine aI (by first|exact inbMap hlt|exact inbMap (by omega)|exact inbI (by omega) (by omega)|kernel_rfl) ?_|rw[hmm]|rw[hmr]|rw[hmp])
   try(conv=>whnf)
   refine cD (c_in31 L _ _ _) ?_
   refine Wk ?_
   refine BrK.mk (fun h10=>?_) (fun h10=>?_)<;>(try rw[h10])
   ·refine Wk ?_
    exact resP.mk rfl (Sees.int (by rw[fin _ rfl,if_neg (by simpa using h10)]))
   ·refine Wk ?_
    exact resP.mk rfl (Sees.int (by rw[fin _ rfl,if_pos (by simpa using h10)]))
 ·have hz:i=0:=by simp at h6;omega
  subst hz
  rw[if_neg (by simp[linkO])]
  repeat((conv=>whnf);first|refine sJ ?_|refine aI (by first|exact inbMap (k:=0) hlt|exact inbMap (k:=0) (by omega)|exact inbI (by omega) (by omega)|kernel_rfl) ?_|rw[hmm]|rw[hmr]|rw[hmp])
  try(conv=>whnf)
  refine cD (c_in31 L _ _ _) ?_
  refine Wk ?_
  refine BrK.mk (fun h10=>?_) (fun h10=>?_)<;>(try rw[h10])
  ·refine Wk ?_
   exact resP.mk rfl (Sees.int (by rw[fin _ rfl,if_neg (by simpa using h10)]))
  ·refine Wk ?_
   exact resP.mk rfl (Sees.int (by rw[fin _ rfl,if_pos (by simpa using h10)]))
theorem c_Check31 (n:Net)(hn:n.small):PCall Tryz.prog L 165 [n.av] (.int .i64 (netE n)):=by
 refine PCall.intro mixed [] (nt:=48) Tryz.func165 rfl rfl (by simp) ?_
 refine Wk ?_
 refine cD (c_in31 L _ _ _) ?_
 refine Wk ?_
 refine BrK.mk (fun h1=>?_) (fun h1=>?_)<;>(try rw[h1])
 ·refine Wk ?_
  exact resP.mk rfl (Sees.int (by rw[netE,if_pos (by simp[inB]at h1;omega)]))
 have h12:¬(n.nodes < 2∨32 < n.nodes):=by simp[inB]at h1;omega
 refine Wk ?_
 refine cD (c_table L n hn (by omega) (by omega)) ?_
 refine Wk ?_
 refine BrK.mk (fun h3=>?_) (fun h3=>?_)<;>(try rw[h3])
 ·refine Wk ?_
  exact resP.mk rfl (Sees.int (by rw[netE,if_neg h12,if_pos (by simpa using h3)]))
 have hpe:powerE n=0:=by simpa using h3
 obtain⟨p1,p2,p3⟩:=powerE_ok hpe
 have e3:¬(powerE n≠0):=by simp[hpe]
 refine Wk ?_
 refine cD (c_in31 L _ _ _) ?_
 refine Wk ?_
 refine BrK.mk (fun h4=>?_) (fun h4=>?_)<;>(try rw[h4])
 ·refine Wk ?_
  exact resP.mk rfl (Sees.int (by rw[netE,if_neg h12,if_neg e3,if_pos (by simp[inB]at h4;omega)]))
 refine Wk ?_
 refine cD (c_in31 L _ _ _) ?_
 refine Wk ?_
 refine BrK.mk (fun h5=>?_) (fun h5=>?_)<;>(try rw[h5])
 ·refine Wk ?_
  exact resP.mk rfl (Sees.int (by rw[netE,if_neg h12,if_neg e3,if_pos (by simp[inB]at h5;omega)]))
 have e4:¬(n.noise < 0∨68719476736 < n.noise∨n.thr < 1000∨100000 < n.thr):=by simp[inB]at h4 h5;omega
 refine Wk ?_
 refine BrK.mk (fun h8=>?_) (fun h8=>?_)<;>(try rw[h8])
 ·refine Wk ?_
  exact resP.mk rfl (Sees.int (by rw[netE,if_neg h12,if_neg e3,if_neg e4,if_pos (by simp at h8;omega)]))
 have e5:¬(128 < n.links.length):=by simp at h8;omega
 refine Wk ?_
 refine BrK.mk (fun h9=>?_) (fun h9=>?_)<;>(try rw[h9])
 ·refine Wk ?_
  exact resP.mk rfl (Sees.int (by rw[netE,if_neg h12,if_neg e3,if_neg e4,if_neg e5,if_pos (by simp at h9;omega)]))
 have e6:n.margin.length=n.links.length:=by simp at h9;omega
 have hE:netE n=firstE (linkE n) n.links.length:=by rw[netE,if_neg h12,if_neg e3,if_neg e4,if_neg e5,if_neg (by omega)]
 rw[hE]
 refine Wk ?_
 refine LoopK.run mixed [] (fun (k:Nat)=>k≤n.links.length∧∀j,j < k→linkE n j=0) (fun k=>[(1,.ptr 0 0),(4,.int .i64 k)]) (fun k=>⟨[.cells n.cs 26],[],0,0,fun _=>0⟩) (fun k=>n.links.length-k) 0 ⟨by simp,by simp⟩ ?_ ?_
 ·refine fN ?_<;>repeat' (first|exact fQ|refine And.intro ?_ ?_ )
 rintro k ⟨hk,hinv⟩
 refine Wk ?_
 refine BrK.mk (fun hb=>?_) (fun hb=>?_)<;>try rw[hb]
 ·have hlt:k < n.links.length:=by simpa using hb
  obtain⟨l,hgl⟩:=getLt hlt
  refine Wk ?_
  refine cD (c_link31 L n k l hgl e6 (by omega) (by omega) p1 p2) ?_
  refine Wk ?_
  refine BrK.mk (fun hc=>?_) (fun hc=>?_)<;>(try rw[hc])
  ·refine Wk ?_
   exact resP.mk rfl (Sees.int (by rw[firstE_hit hinv (by simpa using hc) hlt]))
  ·refine Wk ?_
   refine⟨k+1,⟨by omega,fun j hj=>?_⟩,by omega,?_⟩
   ·rcases Nat.lt_succ_iff_lt_or_eq.1 hj with h|rfl
    ·exact hinv j h
    ·simpa using hc
   ·refine fN ?_<;>repeat' (first|exact fQ|refine And.intro ?_ ?_|exact Sees.int (succI hlt (by omega)))
 ·have hk':k=n.links.length:=by simp at hb;omega
  subst hk'
  refine Wk ?_
  exact resP.mk rfl (Sees.int (by rw[firstE_zero hinv]))
theorem c_Find31 (n:Net)(hn:n.links.length≤281474976710656)(a b:Int):PCall Tryz.prog L 271 [n.av,.int .i64 a,.int .i64 b] (.int .i64 (findL n a b)):=by
 refine PCall.intro mixed [] (nt:=34) Tryz.func271 rfl rfl (by simp) ?_
 refine Wk ?_
 refine LoopK.run mixed [] (fun (k:Nat)=>k≤n.links.length∧∀j y,j < k→n.links[j]? = some y→isL a b y=false) (fun k=>[(1,.int .i64 a),(2,.int .i64 b),(3,.ptr 0 0),(7,.int .i64 k)]) (fun k=>⟨[.cells n.cs 26],[],0,0,fun _=>0⟩) (fun k=>n.links.length-k) 0 ⟨by simp,by simp⟩ ?_ ?_
 ·refine fN ?_<;>repeat' (first|exact fQ|refine And.intro ?_ ?_ )
 rintro k ⟨hk,hinv⟩
 refine Wk ?_
 refine BrK.mk (fun hb=>?_) (fun hb=>?_)<;>try rw[hb]
 ·have hlt:k < n.links.length:=by simpa using hb
  obtain⟨x,hgx⟩:=getLt hlt
  have hmx:=getMap (f:=Link.av) hgx
  have next:isL a b x=false→∀j y,j < k+1→n.links[j]? = some y→isL a b y=false:=fun h0 j y hj hy=>by
   rcases Nat.lt_succ_iff_lt_or_eq.1 hj with h|rfl
   ·exact hinv j y h hy
   ·rw[hgx]at hy;injection hy with hy;subst hy;exact h0
  repeat((conv=>whnf);first|refine sJ ?_|refine aI (by first|exact inbMap hlt|kernel_rfl) ?_|rw[hmx])
  try(conv=>whnf)
  refine BrK.mk (fun h1=>?_) (fun h1=>?_)<;>(try rw[h1])
  ·repeat((conv=>whnf);first|refine sJ ?_|refine aI (by first|exact inbMap hlt|kernel_rfl) ?_|rw[hmx])
   try(conv=>whnf)
   refine BrK.mk (fun h2=>?_) (fun h2=>?_)<;>(try rw[h2])
   ·refine Wk ?_
    exact resP.mk rfl (Sees.int (idxF_some hlt hinv hgx (by simp[isL,h1,h2])).symm)
   ·refine Wk ?_
    refine⟨k+1,⟨by omega,next (by simp[isL,h2])⟩,by omega,?_⟩
    refine fN ?_<;>repeat' (first|exact fQ|refine And.intro ?_ ?_|exact Sees.int (succI hlt hn))
  ·refine Wk ?_
   refine⟨k+1,⟨by omega,next (by simp[isL,h1])⟩,by omega,?_⟩
   refine fN ?_<;>repeat' (first|exact fQ|refine And.intro ?_ ?_|exact Sees.int (succI hlt hn))
 ·have hk':k=n.links.length:=by simp at hb;omega
  subst hk'
  refine Wk ?_
  exact resP.mk rfl (Sees.int (idxF_none hinv).symm)
theorem c_Heard31 (n:Net)(h:NetOk n)(s d:Int)(hs:0≤s∧s≤8796093022208)(hd:0≤d∧d≤8796093022208):PCall Tryz.prog L 272 [n.av,.int .i64 s,.int .i64 d] (.bool (heardB n s d)):=by
 refine PCall.intro mixed [] (nt:=17) Tryz.func272 rfl rfl (by simp) ?_
 refine Wk ?_
 exact resP.mk rfl (Sees.bool (heard_w n h hs hd))
theorem c_Good31 (n:Net)(h:NetOk n)(a b:Int):PCall Tryz.prog L 234 [n.av,.int .i64 a,.int .i64 b] (.bool (goodL n a b)):=by
 have hbig:n.links.length≤281474976710656:=by have:=h.many;omega
 refine PCall.intro mixed [] (nt:=41) Tryz.func234 rfl rfl (by simp) ?_
 refine Wk ?_
 refine cD (c_Find31 L n hbig a b) ?_
 refine Wk ?_
 refine cD (c_Find31 L n hbig b a) ?_
 refine Wk ?_
 refine BrK.mk (fun g1=>?_) (fun g1=>?_)<;>(try rw[g1])
 ·have g1':0≤findL n a b:=by simpa using g1
  obtain⟨k1,l1,e1,e2,_,_⟩:=findL_at g1'
  have hlt1:=(List.getElem?_eq_some_iff.1 e2).1
  obtain⟨m1,hgm1,hm10,hm11⟩:=h.marginB hlt1
  have hmm1:=getMap (f:=encI) hgm1
  have hA1:heardAt n (findL n a b)=heardB n m1 0:=by unfold heardAt;rw[e1,Int.toNat_natCast,List.getD_eq_getElem?_getD,hgm1];rfl
  refine Wk ?_
  refine BrK.mk (fun g2=>?_) (fun g2=>?_)<;>(try rw[g2])
  ·have g2':0≤findL n b a:=by simpa using g2
   obtain⟨k2,l2,f1,f2,_,_⟩:=findL_at g2'
   have hlt2:=(List.getElem?_eq_some_iff.1 f2).1
   obtain⟨m2,hgm2,hm20,hm21⟩:=h.marginB hlt2
   have hmm2:=getMap (f:=encI) hgm2
   have hA2:heardAt n (findL n b a)=heardB n m2 0:=by unfold heardAt;rw[f1,Int.toNat_natCast,List.getD_eq_getElem?_getD,hgm2];rfl
   have hG:goodL n a b=(heardB n m1 0&&heardB n m2 0):=by unfold goodL;rw[hA1,hA2,g1,g2];rfl
   rw[hG]
   rw[e1,f1]
   clear hA1 hA2 hG
   repeat((conv=>whnf);first|refine sJ ?_|refine aI (by first|exact inbMap (by rw[h.mar];exact hlt1)|kernel_rfl) ?_|rw[hmm1])
   try(conv=>whnf)
   refine cD (c_Heard31 L n h m1 0 ⟨hm10,hm11⟩ (by omega)) ?_
   refine Wk ?_
   refine BrK.mk (fun g3=>?_) (fun g3=>?_)<;>(try rw[g3])
   ·repeat((conv=>whnf);first|refine sJ ?_|refine aI (by first|exact inbMap (by rw[h.mar];exact hlt2)|kernel_rfl) ?_|rw[hmm2])
    try(conv=>whnf)
    refine cD (c_Heard31 L n h m2 0 ⟨hm20,hm21⟩ (by omega)) ?_
    refine Wk ?_
    exact resP.mk rfl (Sees.bool (by simp))
   ·refine Wk ?_
    exact resP.mk rfl (Sees.bool (by simp))
  ·refine Wk ?_
   exact resP.mk rfl (Sees.bool (by unfold goodL;rw[g2];simp))
 ·refine Wk ?_
  exact resP.mk rfl (Sees.bool (by unfold goodL;rw[g1];simp))
theorem c_Fault32 (nodes:Int)(f:Flow)(h1:-9223372036854775808 < nodes)(h2:nodes≤9223372036854775807):PCall Tryz.prog L 128 [.int .i64 nodes,f.av] (.int .i64 (flowE nodes f)):=by
 have hwn:IntKind.i64.wrap (nodes-1)=nodes-1:=w64 (by omega) (by omega)
 refine PCall.intro mixed [] (nt:=53) Tryz.func128 rfl rfl (by simp) ?_
 refine Wk ?_
 refine cD (c_in32 L _ _ _) ?_
 refine Wk ?_
 refine BrK.mk (fun g1=>?_) (fun g1=>?_)<;>(try rw[g1])
 ·refine Wk ?_
  exact resP.mk rfl (Sees.int (by rw[flowE,if_pos (by simp[inB]at g1;omega)]))
 refine Wk ?_
 rw[hwn]
 refine cD (c_in32 L _ _ _) ?_
 rw[inB_ins]
 refine Wk ?_
 refine BrK.mk (fun g2=>?_) (fun g2=>?_)<;>(try rw[g2])
 ·refine Wk ?_
  exact resP.mk rfl (Sees.int (by rw[flowE,if_pos (by simp at g2;simp[g2])]))
 refine Wk ?_
 rw[hwn]
 refine cD (c_in32 L _ _ _) ?_
 rw[inB_ins]
 refine Wk ?_
 refine BrK.mk (fun g3=>?_) (fun g3=>?_)<;>(try rw[g3])
 ·refine Wk ?_
  exact resP.mk rfl (Sees.int (by rw[flowE,if_pos (by simp at g3;simp[g3])]))
 clear hwn
 have e1:¬(f.id < 0∨255 < f.id∨insB f.src nodes=false∨insB f.dst nodes=false):=by simp at g2 g3;simp[inB]at g1;simp[g2,g3];omega
 refine Wk ?_
 refine cD (c_in32 L _ _ _) ?_
 refine Wk ?_
 refine BrK.mk (fun g4=>?_) (fun g4=>?_)<;>(try rw[g4])
 ·refine Wk ?_
  exact resP.mk rfl (Sees.int (by rw[flowE,if_neg e1,if_pos (by simp[inB]at g4;omega)]))
 have e4:1≤f.period∧f.period≤512:=by simpa[inB] using g4
 have hwp:IntKind.i64.wrap (f.period-1)=f.period-1:=w64 (by omega) (by omega)
 refine Wk ?_
 rw[hwp]
 refine cD (c_in32 L _ _ _) ?_
 refine Wk ?_
 refine BrK.mk (fun g5=>?_) (fun g5=>?_)<;>(try rw[g5])
 ·refine Wk ?_
  exact resP.mk rfl (Sees.int (by rw[flowE,if_neg e1,if_pos (by simp[inB]at g5;omega)]))
 clear hwp
 refine Wk ?_
 refine cD (c_in32 L _ _ _) ?_
 refine Wk ?_
 refine BrK.mk (fun g6=>?_) (fun g6=>?_)<;>(try rw[g6])
 ·refine Wk ?_
  exact resP.mk rfl (Sees.int (by rw[flowE,if_neg e1,if_pos (by simp[inB]at g6;omega)]))
 have e2:¬(f.period < 1∨512 < f.period∨f.phase < 0∨f.period≤f.phase∨f.dead < 1∨f.period < f.dead):=by simp[inB]at g4 g5 g6;omega
 refine Wk ?_
 refine BrK.mk (fun g7=>?_) (fun g7=>?_)<;>(try rw[g7])
 ·refine Wk ?_
  exact resP.mk rfl (Sees.int (by rw[flowE,if_neg e1,if_neg e2,if_pos (by simpa using g7)]))
 refine Wk ?_
 exact resP.mk rfl (Sees.int (by rw[flowE,if_neg e1,if_neg e2,if_neg (by simpa using g7)]))
theorem c_FCheck32 (nodes:Int)(l:List Flow)(hl:l.length≤281474976710656):PCall Tryz.prog L 62 [.int .i64 nodes,encFlows l] (.tup [.int .i64 (flowsE nodes l).1,.int .i64 (flowsE nodes l).2]):=by
 refine PCall.intro mixed [] (nt:=47) Tryz.func62 rfl rfl (by simp) ?_
 refine Wk ?_
 refine cD (c_in32 L _ _ _) ?_
 refine Wk ?_
 refine BrK.mk (fun h1=>?_) (fun h1=>?_)<;>(try rw[h1])
 ·refine Wk ?_
  exact resP.mk rfl (Sees.of_eq (by rw[flowsE,if_pos (by simp[inB]at h1;omega)]))
 have e1:¬(nodes < 2∨32 < nodes):=by simp[inB]at h1;omega
 refine Wk ?_
 refine BrK.mk (fun h3=>?_) (fun h3=>?_)<;>(try rw[h3])
 ·refine Wk ?_
  exact resP.mk rfl (Sees.of_eq (by rw[flowsE,if_neg e1,if_pos (by simp at h3;omega)]))
 have e2:¬(16 < l.length):=by simp at h3;omega
 rw[show flowsE nodes l=firstAt (flowAt nodes l) l.length by rw[flowsE,if_neg e1,if_neg e2]]
 refine Wk ?_
 refine LoopK.run mixed [] (fun (k:Nat)=>k≤l.length∧∀j,j < k→flowAt nodes l j=0) (fun k=>[(0,.int .i64 nodes),(1,encFlows l),(6,.int .i64 k)]) (fun k=>St.none) (fun k=>l.length-k) 0 ⟨by simp,by simp⟩ ?_ ?_
 ·refine fN ?_<;>repeat' (first|exact fQ|refine And.intro ?_ ?_ )
 rintro k ⟨hk,hinv⟩
 refine Wk ?_
 refine BrK.mk (fun hb=>?_) (fun hb=>?_)<;>try rw[hb]
 ·have hlt:k < l.length:=lenLt hb
  obtain⟨f,hgf⟩:=getLt hlt
  have hmf:=getMap (f:=Flow.av) hgf
  have hE:flowAt nodes l k=if flowE nodes f≠0 then flowE nodes f else if flowO l k f=false then 5 else 0:=by unfold flowAt;rw[hgf]
  have next:flowAt nodes l k=0→∀j,j < k+1→flowAt nodes l j=0:=fun h0 j hj=>by
   rcases Nat.lt_succ_iff_lt_or_eq.1 hj with h|rfl
   ·exact hinv j h
   ·exact h0
  repeat((conv=>whnf);first|refine sJ ?_|refine aI (by first|exact inbMap hlt|kernel_rfl) ?_|rw[hmf])
  try(conv=>whnf)
  refine cD (c_Fault32 L nodes f (by omega) (by omega)) ?_
  refine Wk ?_
  refine BrK.mk (fun hc=>?_) (fun hc=>?_)<;>(try rw[hc])
  ·refine Wk ?_
   have hc':flowE nodes f≠0:=by simpa using hc
   have hv:flowAt nodes l k=flowE nodes f:=by rw[hE,if_pos hc']
   exact resP.mk rfl (Sees.of_eq (by rw[firstAt_hit hinv (by rw[hv];exact hc') hlt,hv]))
  have hc':¬flowE nodes f≠0:=by simpa using hc
  rw[if_neg hc']at hE
  refine Wk ?_
  refine BrK.mk (fun hp=>?_) (fun hp=>?_)<;>(try rw[hp])
  ·have hpos:0 < k:=by simpa using hp
   obtain⟨j,rfl⟩:∃j,k=j+1:=⟨k-1,by omega⟩
   obtain⟨p,hgp⟩:=getLt (l:=l) (k:=j) (by omega)
   have hmp:=getMap (f:=Flow.av) hgp
   have hw:IntKind.i64.wrap (((j+1:Nat):Int)-1)=(j:Int):=by rw[w64]<;>omega
   have hO:flowO l (j+1) f=decide (p.id < f.id):=by simp only[flowO,hgp]
   rw[hO]at hE
   repeat((conv=>whnf);first|refine sJ ?_|refine aI (by first|(rw[hw];exact inbMap (by omega))|exact inbMap hlt|kernel_rfl) ?_|rw[hw]|rw[hmp]|rw[hmf])
   try(conv=>whnf)
   refine BrK.mk (fun hq=>?_) (fun hq=>?_)<;>(try rw[hq])
   ·refine Wk ?_
    have hv:flowAt nodes l (j+1)=5:=by rw[hE,if_pos (by simpa using hq)]
    exact resP.mk rfl (Sees.of_eq (by rw[firstAt_hit hinv (by rw[hv];decide) hlt,hv]))
   ·refine Wk ?_
    refine⟨j+2,⟨by omega,next (by rw[hE,if_neg (by simp at hq;simp;omega)])⟩,by omega,?_⟩
    refine fN ?_<;>repeat' (first|exact fQ|refine And.intro ?_ ?_|exact Sees.int (succI hlt (by omega)))
  ·have hz:k=0:=by simp at hp;omega
   subst hz
   refine Wk ?_
   refine⟨1,⟨by omega,next (by rw[hE,if_neg (by simp[flowO])])⟩,by omega,?_⟩
   refine fN ?_<;>repeat' (first|exact fQ|refine And.intro ?_ ?_|exact Sees.int (succI hlt (by omega)))
 ·have hk':k=l.length:=by have:=lenGe hb;omega
  subst hk'
  refine Wk ?_
  exact resP.mk rfl (Sees.of_eq (by rw[firstAt_zero hinv]))
theorem c_ends33 (n:Net)(hn:n.small)(a b:Int):PCall Tryz.prog L 231 [n.av,.int .i64 a,.int .i64 b] (.int .i64 (endsE n a b)):=by
 refine PCall.intro mixed [] (nt:=25) Tryz.func231 rfl rfl (by simp) ?_
 refine Wk ?_
 refine cD (c_Check31 L n hn) ?_
 refine Wk ?_
 refine BrK.mk (fun h1=>?_) (fun h1=>?_)<;>(try rw[h1])
 ·refine Wk ?_
  exact resP.mk rfl (Sees.int (by rw[endsE,if_pos (by simpa using h1)]))
 have e1:¬netE n≠0:=by simpa using h1
 refine Wk ?_
 refine cD (c_node33 L n a) ?_
 refine Wk ?_
 refine BrK.mk (fun h2=>?_) (fun h2=>?_)<;>(try rw[h2])
 ·refine Wk ?_
  exact resP.mk rfl (Sees.int (by rw[endsE,if_neg e1,if_pos (.inl (by simpa using h2))]))
 refine Wk ?_
 refine cD (c_node33 L n b) ?_
 refine Wk ?_
 refine BrK.mk (fun h3=>?_) (fun h3=>?_)<;>(try rw[h3])
 ·refine Wk ?_
  exact resP.mk rfl (Sees.int (by rw[endsE,if_neg e1,if_pos (.inr (.inl (by simpa using h3)))]))
 refine Wk ?_
 refine BrK.mk (fun h4=>?_) (fun h4=>?_)<;>(try rw[h4])
 ·refine Wk ?_
  exact resP.mk rfl (Sees.int (by rw[endsE,if_neg e1,if_pos (.inr (.inr (by simpa using h4)))]))
 refine Wk ?_
 exact resP.mk rfl (Sees.int (by rw[endsE,if_neg e1,if_neg (by simp at h2 h3 h4;simp[h2,h3,h4])]))
theorem c_fault33 (n:Net)(h0:netE n=0)(a b:Int)(r:List Int)(hr:r.length≤281474976710656):PCall Tryz.prog L 232 [n.av,.int .i64 a,.int .i64 b,encIs r] (.int .i64 (routeF n a b r)):=by
 have hwl:IntKind.i64.wrap (((r.map encI).length:Int)-1)=(r.length:Int)-1:=by rw[List.length_map,w64]<;>omega
 refine PCall.intro mixed [] (nt:=86) Tryz.func232 rfl rfl (by simp) ?_
 refine Wk ?_
 refine BrK.mk (fun h1=>?_) (fun h1=>?_)<;>(try rw[h1])
 ·refine Wk ?_
  exact resP.mk rfl (Sees.int (by rw[routeF,if_pos (by simp at h1;omega)]))
 have e1:¬r.length < 2:=by simp at h1;omega
 refine Wk ?_
 rw[hwl]
 clear hwl
 refine BrK.mk (fun h2=>?_) (fun h2=>?_)<;>(try rw[h2])
 ·refine Wk ?_
  exact resP.mk rfl (Sees.int (by rw[routeF,if_neg e1,if_pos (by simp at h2;omega)]))
 have e2:¬9 < r.length:=by simp at h2;omega
 refine Wk ?_
 refine LoopK.run mixed [] (fun (k:Nat)=>k≤r.length∧∀j x,j < k→r[j]? = some x→insB x n.nodes=true) (fun k=>[(1,.int .i64 a),(2,.int .i64 b),(3,encIs r),(4,.ptr 0 0),(9,.int .i64 k)]) (fun k=>⟨[.cells n.cs 26],[],0,0,fun _=>0⟩) (fun k=>r.length-k) 0 ⟨by simp,by simp⟩ ?_ ?_
 ·refine fN ?_<;>repeat' (first|exact fQ|refine And.intro ?_ ?_ )
 rintro k ⟨hk,hinv⟩
 refine Wk ?_
 refine BrK.mk (fun hb=>?_) (fun hb=>?_)<;>try rw[hb]
 ·have hlt:k < r.length:=lenLt hb
  obtain⟨x,hgx⟩:=getLt hlt
  have hmx:=getMap (f:=encI) hgx
  repeat((conv=>whnf);first|refine sJ ?_|refine aI (by first|exact inbMap hlt|kernel_rfl) ?_|rw[hmx])
  try(conv=>whnf)
  refine cD (c_node33 L n x) ?_
  refine Wk ?_
  refine BrK.mk (fun hc=>?_) (fun hc=>?_)<;>(try rw[hc])
  ·refine Wk ?_
   exact resP.mk rfl (Sees.int (by rw[routeF,if_neg e1,if_neg e2,if_pos];rw[List.any_eq_true];exact⟨x,List.mem_of_getElem? hgx,hc⟩))
  ·refine Wk ?_
   refine⟨k+1,⟨by omega,fun j y hj hy=>?_⟩,by omega,?_⟩
   ·rcases Nat.lt_succ_iff_lt_or_eq.1 hj with h|rfl
    ·exact hinv j y h hy
    ·rw[hgx]at hy;injection hy with hy;subst hy;simpa using hc
   ·refine fN ?_<;>repeat' (first|exact fQ|refine And.intro ?_ ?_|exact Sees.int (succI hlt hr))
 have hk':k=r.length:=by have:=lenGe hb;omega
 subst hk'
 have h3:r.any (fun x=>!insB x n.nodes)=false:=by
  rw[List.any_eq_false]
  intro x hx
  obtain⟨j,hj⟩:=List.getElem?_of_mem hx
  have:=(List.getElem?_eq_some_iff.1 hj).1
  simp[hinv j x this hj]
 obtain⟨x0,hg0⟩:=getLt (l:=r) (k:=0) (by omega)
 have hm0:(r.map encI)[Int.toNat 0]? = some (encI x0):=getMapI (i:=0) hg0
 obtain⟨x1,hg1⟩:=getLt (l:=r) (k:=r.length-1) (by omega)
 have hm1:=getMap (f:=encI) hg1
 have hd0:r.getD 0 0=x0:=by rw[List.getD_eq_getElem?_getD,hg0];rfl
 have hd1:r.getD (r.length-1) 0=x1:=by rw[List.getD_eq_getElem?_getD,hg1];rfl
 have hw:IntKind.i64.wrap (((r.map encI).length:Int)-1)=((r.length-1:Nat):Int):=by rw[List.length_map,w64]<;>omega
 have hF:routeF n a b r=if x0≠a∨x1≠b then 11 else if (List.range r.length).any (dupAt r) then 6 else if (List.range (r.length-1)).all (hopOk n r) then 0 else 17:=by
  rw[routeF,if_neg e1,if_neg e2,if_neg (by simp only[h3];simp),hd0,hd1]
 rw[hF]
 clear hinv
 repeat((conv=>whnf);first|refine sJ ?_|refine aI (by first|exact inbMap (k:=0) (by omega)|kernel_rfl) ?_|rw[hm0])
 try(conv=>whnf)
 refine BrK.mk (fun h4=>?_) (fun h4=>?_)<;>(try rw[h4])
 ·refine Wk ?_
  exact resP.mk rfl (Sees.int (by rw[if_pos (.inl (by simpa using h4))]))
 repeat((conv=>whnf);first|refine sJ ?_|refine aI (by first|(rw[hw];exact inbMap (by omega))|kernel_rfl) ?_|rw[hw]|rw[hm1])
 try(conv=>whnf)
 refine BrK.mk (fun h5=>?_) (fun h5=>?_)<;>(try rw[h5])
 ·refine Wk ?_
  exact resP.mk rfl (Sees.int (by rw[if_pos (.inr (by simpa using h5))]))
 rw[if_neg (by simp at h4 h5;simp[h4,h5])]
 clear hw hm0 hm1
 refine Wk ?_
 refine LoopK.run mixed [] (fun (k:Nat)=>k≤r.length∧∀j,j < k→dupAt r j=false) (fun k=>[(3,encIs r),(4,.ptr 0 0),(10,.int .i64 k)]) (fun k=>⟨[.cells n.cs 26],[],0,0,fun _=>0⟩) (fun k=>r.length-k) 0 ⟨by simp,by simp⟩ ?_ ?_
 ·refine fN ?_<;>repeat' (first|exact fQ|refine And.intro ?_ ?_ )
 rintro k ⟨hk,hinv⟩
 refine Wk ?_
 refine BrK.mk (fun hb=>?_) (fun hb=>?_)<;>try rw[hb]
 ·have hlt:k < r.length:=lenLt hb
  obtain⟨x,hgx⟩:=getLt hlt
  have hmx:=getMap (f:=encI) hgx
  have hdup:=dup_mem hgx
  refine Wk ?_
  refine LoopK.run mixed [] (fun (j:Nat)=>j≤k∧∀m y,m < j→r[m]? = some y→y≠x) (fun j=>[(3,encIs r),(4,.ptr 0 0),(10,.int .i64 k),(11,.int .i64 j)]) (fun j=>⟨[.cells n.cs 26],[],0,0,fun _=>0⟩) (fun j=>k-j) 0 ⟨by simp,by simp⟩ ?_ ?_
  ·refine fN ?_<;>repeat' (first|exact fQ|refine And.intro ?_ ?_ )
  rintro j ⟨hj,hinv2⟩
  refine Wk ?_
  refine BrK.mk (fun hc=>?_) (fun hc=>?_)<;>(try rw[hc])
  ·have hjt:j < k:=by simpa using hc
   obtain⟨y,hgy⟩:=getLt (l:=r) (k:=j) (by omega)
   have hmy:=getMap (f:=encI) hgy
   repeat((conv=>whnf);first|refine sJ ?_|refine aI (by first|exact inbMap hlt|exact inbMap (by omega)|kernel_rfl) ?_|rw[hmx]|rw[hmy])
   try(conv=>whnf)
   refine BrK.mk (fun hd=>?_) (fun hd=>?_)<;>(try rw[hd])
   ·refine Wk ?_
    refine resP.mk rfl (Sees.int ?_)
    rw[if_pos];rw[List.any_eq_true]
    refine⟨k,by simpa using hlt,?_⟩
    rw[hdup]
    have hxy:x=y:=by simpa using hd
    subst hxy
    exact decide_eq_true (List.mem_of_getElem? (i:=j) (by rw[List.getElem?_take,if_pos hjt];exact hgy))
   ·refine Wk ?_
    refine⟨j+1,⟨by omega,fun m z hm hz=>?_⟩,by omega,?_⟩
    ·rcases Nat.lt_succ_iff_lt_or_eq.1 hm with h|rfl
     ·exact hinv2 m z h hz
     ·rw[hgy]at hz;injection hz with hz;subst hz;simp at hd;exact fun h=>hd h.symm
    ·refine fN ?_<;>repeat' (first|exact fQ|refine And.intro ?_ ?_|exact Sees.int (succI hjt (by omega)))
  ·have hjk:j=k:=by simp at hc;omega
   subst hjk
   refine Wk ?_
   refine⟨j+1,⟨by omega,fun m hm=>?_⟩,by omega,?_⟩
   ·rcases Nat.lt_succ_iff_lt_or_eq.1 hm with h|rfl
    ·exact hinv m h
    ·rw[hdup]
     refine decide_eq_false fun hmem=>?_
     obtain⟨i,hi⟩:=List.getElem?_of_mem hmem
     rw[List.getElem?_take]at hi
     split at hi
     ·rename_i hlt2;exact hinv2 i x hlt2 hi rfl
     ·cases hi
   ·refine fN ?_<;>repeat' (first|exact fQ|refine And.intro ?_ ?_|exact Sees.int (succI hlt hr))
 have hk':k=r.length:=by have:=lenGe hb;omega
 subst hk'
 rw[if_neg (by simp only[Bool.not_eq_true,List.any_eq_false,List.mem_range];exact fun j hj=>by simp[hinv j hj])]
 refine Wk ?_
 refine LoopK.run mixed [] (fun (k:Nat)=>k≤r.length-1∧∀j,j < k→hopOk n r j=true) (fun k=>[(3,encIs r),(4,.ptr 0 0),(12,.int .i64 (k+1:Nat))]) (fun k=>⟨[.cells n.cs 26],[],0,0,fun _=>0⟩) (fun k=>r.length-1-k) 0 ⟨by omega,by simp⟩ ?_ ?_
 ·refine fN ?_<;>repeat' (first|exact fQ|refine And.intro ?_ ?_ )
 rintro k ⟨hk,hinv2⟩
 refine Wk ?_
 refine BrK.mk (fun hd=>?_) (fun hd=>?_)<;>(try rw[hd])
 ·have hlt:k+1 < r.length:=lenLt hd
  obtain⟨x,hgx⟩:=getLt hlt
  have hmx:=getMap (f:=encI) hgx
  obtain⟨y,hgy⟩:=getLt (l:=r) (k:=k) (by omega)
  have hmy:=getMap (f:=encI) hgy
  have hw:IntKind.i64.wrap (((k+1:Nat):Int)-1)=(k:Int):=by rw[w64]<;>omega
  have hhop:hopOk n r k=goodL n y x:=by unfold hopOk;rw[List.getD_eq_getElem?_getD,List.getD_eq_getElem?_getD,hgy,hgx];rfl
  repeat((conv=>whnf);first|refine sJ ?_|refine aI (by first|exact inbMap hlt|(rw[hw];exact inbMap (by omega))|kernel_rfl) ?_|rw[hw]|rw[hmx]|rw[hmy])
  try(conv=>whnf)
  refine cD (c_Good31 L n (netE_ok h0) y x) ?_
  refine Wk ?_
  refine BrK.mk (fun he=>?_) (fun he=>?_)<;>(try rw[he])
  ·refine Wk ?_
   exact resP.mk rfl (Sees.int (by rw[if_neg];rw[List.all_eq_true];exact fun h=>by have:=h k (by simp;omega);rw[hhop]at this;rw[this]at he;cases he))
  ·refine Wk ?_
   refine⟨k+1,⟨by omega,fun j hj=>?_⟩,by omega,?_⟩
   ·rcases Nat.lt_succ_iff_lt_or_eq.1 hj with h|rfl
    ·exact hinv2 j h
    ·rw[hhop];simpa using he
   ·refine fN ?_<;>repeat' (first|exact fQ|refine And.intro ?_ ?_|exact Sees.int (succI hlt (by omega)))
 ·have hk':k=r.length-1:=by have:=lenGe hd;omega
  subst hk'
  refine Wk ?_
  exact resP.mk rfl (Sees.int (by rw[if_pos (range_all hinv2)]))
theorem c_Check33 (n:Net)(hn:n.small)(a b:Int)(r:List Int)(hr:r.length≤281474976710656):PCall Tryz.prog L 166 [n.av,.int .i64 a,.int .i64 b,encIs r] (.int .i64 (routeE n a b r)):=by
 refine PCall.intro mixed [] (nt:=22) Tryz.func166 rfl rfl (by simp) ?_
 refine Wk ?_
 refine cD (c_ends33 L n hn a b) ?_
 refine Wk ?_
 refine BrK.mk (fun h1=>?_) (fun h1=>?_)<;>(try rw[h1])
 ·refine Wk ?_
  exact resP.mk rfl (Sees.int (by rw[routeE,if_pos (by simpa using h1)]))
 have e1:¬endsE n a b≠0:=by simpa using h1
 have h0:netE n=0:=by
  cases Decidable.em (netE n=0) with
  | inl h=>exact h
  | inr h=>unfold endsE at e1;rw[if_pos h]at e1;simp at e1
 refine Wk ?_
 refine cD (c_fault33 L n h0 a b r hr) ?_
 refine Wk ?_
 exact resP.mk rfl (Sees.int (by rw[routeE,if_neg e1]))
theorem c_Loss33 (n:Net)(hn:n.links.length≤281474976710656)(a b:Int)(h:0≤findL n a b):PCall Tryz.prog L 275 [n.av,.int .i64 a,.int .i64 b] (.int .i64 (lossL n a b)):=by
 obtain⟨k,l,e1,e2,_,_⟩:=findL_at h
 have hmx:=getMap (f:=Link.av) e2
 have hlt:=(List.getElem?_eq_some_iff.1 e2).1
 have hL:lossL n a b=l.loss:=by unfold lossL;rw[e1,Int.toNat_natCast,e2]
 rw[hL]
 refine PCall.intro mixed [] (nt:=16) Tryz.func275 rfl rfl (by simp) ?_
 refine Wk ?_
 refine cD (c_Find31 L n hn a b) ?_
 rw[e1]
 repeat((conv=>whnf);first|refine sJ ?_|refine aI (by first|exact inbMap hlt|kernel_rfl) ?_|rw[hmx])
 try(conv=>whnf)
 exact resP.mk rfl (Sees.int rfl)
end
section
variable (L:World→Prop)
theorem c_Clone0Cell:PCall Tryz.prog L 66 [.sl false (([]:List Cell).map Cell.av)] (.sl false (([]:List Cell).map Cell.av)):=by
 refine PCall.intro mixed [] (nt:=8) Tryz.func66 rfl rfl (by simp) ?_
 refine Wk ?_
 intro b
 cases b
 ·repeat((conv=>whnf);first|refine sJ ?_|refine aI (by first|exact Els.map (f:=Cell.av) (fun x=>⟨(cellOk).len x,(cellOk).cell x⟩)|kernel_rfl) ?_ )
  try(conv=>whnf)
  exact resP.mk rfl (Sees.of_eq rfl)
 ·refine Wk ?_
  exact resP.mk rfl (Sees.of_eq rfl)
theorem c_CloneCell (l:List Cell)(hne:l≠[])(hl:l.length≤1099511627776):FCall Tryz.prog L 66 [.sl false (l.map Cell.av)] (l.map Cell.av) 5 40:=by
 refine FCall.of_ICall (ICall.intro mixed [] (nt:=8) Tryz.func66 rfl rfl (by simp) ?_)
 refine Wk ?_
 refine BrK.mk (fun h=>?_) (fun h=>?_)<;>(try rw[h])
 ·exact absurd (by simpa using h) hne
 ·repeat((conv=>whnf);first|refine sJ ?_|refine aI (by first|exact Els.map (f:=Cell.av) (fun x=>⟨(cellOk).len x,(cellOk).cell x⟩)|exact(show _*40≤_ by simp only[List.length_map,List.length_nil];omega)|exact(by simp only[List.length_map,List.length_nil,maxLen];omega)|kernel_rfl) ?_ )
  try(conv=>whnf)
  exact⟨_,rfl,rfl,rfl⟩
theorem i_DeleteCell (o1 o2:Ob)(n0 m0:Nat)(ty:Nat→TypeId)(l:List Cell)(p:Cell→Bool)(g:Nat)(caps fcaps:List AV)(d:Nat){K:AV→St→Prop}(hl:l.length≤281474976710656)(hcb:callable Tryz.prog g=true)(hc:fzs fcaps=some fcaps)(hok:o1.okk 3 0∧o2.okk 3 0∧okks 3 0 caps)
  (hfz:∀(x:List Ob) (n m:Nat) (ty':Nat→TypeId),fzbs ⟨o1 :: o2 :: x,[],n,m,ty'⟩ caps=some fcaps) (hp:∀x∈l,PCall Tryz.prog L g (Cell.av x :: fcaps) (.bool (p x)))
  (hK:∀ex:List AV,K (.vsl 2 0 (l.filter fun x=>!p x).length 5) ⟨[o1,o2,.cells (flatE ((l.filter fun x=>!p x).map Cell.av)++ex) 40],[],n0,m0,ty⟩) :
  ICall Tryz.prog L 115 [.vsl 2 0 l.length 5,.fn g caps] ⟨[o1,o2,freshO (l.map Cell.av) 5 d 40],[],n0,m0,ty⟩ K:=by
 have hall:∀x:Cell,(Cell.av x).cells.length=5:=fun x=>(cellOk).len x
 refine ICall.intro mixed [] (nt:=42) Tryz.func115 rfl rfl (by simp) ?_
 refine Wk ?_
 refine CallK.box rfl (c_IndexFuncCell L l p g fcaps hl hcb hc hp) (fz2 ((cellOk).fzb rfl rfl) (fzf1 (hfz _ _ _ _))) rfl ?_
 refine Wk ?_
 refine BrK.mk (fun h1=>?_) (fun h1=>?_)<;>(try rw[h1])
 ·refine Wk ?_
  have hnone:=idxF_none_iff (p:=p) (l:=l) (by simpa using h1)
  have hfil:(l.filter fun x=>!p x)=l:=List.filter_eq_self.2 fun x hx=>by
   obtain⟨j,hj⟩:=List.getElem?_of_mem hx
   simp[hnone j x hj]
  have:=hK (List.replicate (d*5) .undef)
  rw[hfil]at this
  exact this
 obtain⟨k,x,e1,e2,e3⟩:=idxF_at (p:=p) (l:=l) (by simpa using h1)
 obtain⟨_,_,_,e4⟩:=idxF_first e1
 have hklt:=(List.getElem?_eq_some_iff.1 e2).1
 rw[e1]
 refine Wk ?_
 refine LoopK.run mixed [] (fun s:List Cell×Nat×Nat=>Kept p l s.1 s.2.1 s.2.2) (fun s=>[(0,.vsl 2 0 l.length 5),(1,.fn g caps),(5,.int .i64 s.2.1),(6,.int .i64 s.2.2)]) (fun s=>⟨[o1,o2,.cells (flatE (s.1.map Cell.av)++List.replicate (d*5) .undef) 40],[],3,0,ty⟩) (fun s=>l.length-s.2.2) (l,k,k+1) (Kept.start e2 e3 e4) ?_ ?_
 ·refine fN ?_<;>repeat' (first|exact fQ|refine And.intro ?_ ?_|exact SeesL.rfl' _|exact SeesO.rfl' _|exact hok.1|exact hok.2.1|exact hok.2.2|exact okks_append ((cellOk).okk _ _ _) (okks_undef _ _ _)|exact Sees.int (succI hklt hl))
 rintro⟨a,i,j⟩ hkept
 simp only at hkept
 have hij:=hkept.ij
 have halen:=hkept.len
 refine Wk ?_
 refine BrK.mk (fun hb=>?_) (fun hb=>?_)<;>try rw[hb]
 ·have hlt:j < l.length:=by simpa using hb
  obtain⟨y,hgy⟩:=getLt hlt
  have hay:=hkept.get hgy
  have hld:=(cellOk).ld (List.replicate (d*5) .undef) hay
  have hft:=(cellOk).fit (l:=a) (List.replicate (d*5) .undef) (k:=j) (by omega)
  have hpy:=hp y (List.mem_of_getElem? hgy)
  repeat((conv=>whnf);first|refine sJ ?_|refine aI (by first|exact⟨by omega,by simp;omega⟩|kernel_rfl) ?_ )
  try(conv=>whnf)
  refine And.intro (show 0+(j:Int).toNat*5+5≤_ by rw[Nat.zero_add,Int.toNat_natCast];exact hft) ?_
  rw[(cellOk).ldr _ hay _ _ (by kernel_rfl) (by kernel_rfl)]
  refine Wk ?_
  refine CallK.box hcb hpy (fz2 rfl (hfz _ _ _ _)) rfl ?_
  have hfi:=(cellOk).fit (l:=a) (List.replicate (d*5) .undef) (k:=i) (by omega)
  refine Wk ?_
  refine BrK.mk (fun h2=>?_) (fun h2=>?_)<;>(try rw[h2])
  ·repeat((conv=>whnf);first|refine sJ ?_|refine aI (by first|exact⟨by omega,by simp;omega⟩|exact(show 0+(i:Int).toNat*5+5≤_ by rw[Nat.zero_add,Int.toNat_natCast];exact hfi)|kernel_rfl) ?_ )
   try(conv=>whnf)
   have hst:=(cellOk).st y (List.replicate (d*5) .undef) (l:=a) (k:=i) (by omega)
   refine⟨(a.set i y,i+1,j+1),hkept.keep hgy (by simpa using h2),by simp only;omega,?_⟩
   refine fN ?_<;>repeat' (first|exact fQ|refine And.intro ?_ ?_|exact SeesO.rfl' _|exact hok.1|exact hok.2.1|exact hok.2.2|exact okks_append ((cellOk).okk _ _ _) (okks_undef _ _ _)|exact Sees.int (succI hlt hl)|exact Sees.int (succI (by omega:i < l.length) hl)|exact SeesL.of_eq (by rw[Nat.zero_add,Int.toNat_natCast];exact hst))
  ·refine Wk ?_
   refine⟨(a,i,j+1),hkept.skip hgy (by simpa using h2),by simp only;omega,?_⟩
   refine fN ?_<;>repeat' (first|exact fQ|refine And.intro ?_ ?_|exact SeesL.rfl' _|exact SeesO.rfl' _|exact hok.1|exact hok.2.1|exact hok.2.2|exact okks_append ((cellOk).okk _ _ _) (okks_undef _ _ _)|exact Sees.int (succI hlt hl))
 ·have hj:j=l.length:=by simp at hb;omega
  subst hj
  have hfin:=hkept.fin
  have hflen:=(cellOk).flen a
  have hcl:0+(i:Int).toNat*5+(l.length-(i:Int).toNat)*5≤(flatE (a.map Cell.av)++List.replicate (d*5) AV.undef).length:=by
   rw[List.length_append,hflen,Int.toNat_natCast,Nat.zero_add,←Nat.add_mul,show i+(l.length-i)=l.length by omega,halen]
   exact Nat.le_add_right _ _
  have hfl:(l.filter fun x=>!p x).length=i:=by rw[←hfin,List.length_take];omega
  repeat((conv=>whnf);first|refine sJ ?_|refine aI (by first|exact(show InC (i:Int) l.length from⟨by omega,by omega⟩)|exact⟨rfl,rfl,Nat.le_of_ble_eq_true rfl,hcl⟩|kernel_rfl) ?_ )
  try(conv=>whnf)
  rw[(cellOk).clr' (l:=a) (k:=i) _ _ _ _ (by kernel_rfl) (by rw[Int.toNat_natCast,halen]) (by omega) rfl]
  repeat((conv=>whnf);first|refine sJ ?_|refine aI (by first|exact⟨(by omega:(0:Int)≤(i:Int)),(cellOk).headLe (k:=i) _ _ rfl (by omega),Nat.le_of_ble_eq_true rfl⟩|kernel_rfl) ?_ )
  try(conv=>whnf)
  have hKK:=hK
  rw[hfl]at hKK
  rw[←hfin]at hKK
  exact hKK _
theorem c_wcells1 (w:Way)(l:Link)(c:Cell):PCall Tryz.prog L 296 [c.av,.cptr w.av 0,.cptr l.av 0] (.bool (offL w.f.id l.src l.dst c)):=by
 refine PCall.intro mixed [] (nt:=25) Tryz.func296 rfl rfl (by simp) ?_
 refine Wk ?_
 refine BrK.mk (fun h1=>?_) (fun h1=>?_)<;>(try rw[h1])
 ·refine Wk ?_
  exact resP.mk rfl (Sees.bool (by unfold offL;rw[h1];rfl))
 ·refine Wk ?_
  refine BrK.mk (fun h2=>?_) (fun h2=>?_)<;>(try rw[h2])
  ·refine Wk ?_
   exact resP.mk rfl (Sees.bool (by unfold offL;rw[h1,h2];rfl))
  ·refine Wk ?_
   exact resP.mk rfl (Sees.bool (by unfold offL;rw[h1,h2];rfl))
theorem c_wcells (w:Way)(l:Link)(hl:w.s.cells.length≤1099511627776):PCall Tryz.prog L 289 [w.av,l.av] (encCells (cellsL w.s w.f l.src l.dst)):=by
 by_cases hne:w.s.cells=[]
 ·obtain⟨n,⟨len,offs,cells⟩,f,r,more⟩:=w
  simp only at hne
  subst hne
  refine PCall.intro mixed [] (nt:=11) Tryz.func289 rfl rfl (by simp) ?_
  refine Wk ?_
  refine cD (c_Clone0Cell L) ?_
  refine Wk ?_
  refine CallK.inl rfl (ICall.intro mixed [] (nt:=42) Tryz.func115 rfl rfl (by simp) ?_)
  refine Wk ?_
  refine CallK.box rfl (c_IndexFuncCell L [] (offL f.id l.src l.dst) 296 [.cptr (Way.av ⟨n,⟨len,offs,[]⟩,f,r,more⟩) 0,.cptr l.av 0] (by simp) rfl rfl (fun c _=>c_wcells1 L _ l c)) (fz2 rfl (fzf1 rfl)) rfl ?_
  refine Wk ?_
  exact resP.mk rfl (Sees.of_eq rfl)
 ·refine PCall.intro mixed [] (nt:=11) Tryz.func289 rfl rfl (by simp) ?_
  refine Wk ?_
  refine CallK.fresh rfl (c_CloneCell L w.s.cells hne hl) (by rfl) (cellOk.els _) (cellOk.scal (fun _=>rfl) _) (fun h=>absurd (by simpa using h) hne) (fun d=>?_)
  refine Wk ?_
  rw[List.length_map]
  refine CallK.inl rfl (i_DeleteCell L _ _ 0 0 _ w.s.cells (offL w.f.id l.src l.dst) _ [.ptr 0 0,.ptr 1 0] [.cptr w.av 0,.cptr l.av 0] d (by omega) rfl rfl ⟨?_,?_,?_⟩ (fun _ _ _ _=>rfl) (fun c _=>c_wcells1 L w l c) fun ex=>?_)
  ·exact fzs_okk (es:=w.av.cells) rfl
  ·exact fzs_okk (es:=l.av.cells) rfl
  ·exact⟨(by decide:0 < 3),(by decide:1 < 3),trivial⟩
  ·refine Wk ?_
   exact⟨_,cellOk.fzb rfl rfl,Sees.rfl' _⟩
theorem flowsE_one {nodes:Int}(h:2≤nodes∧nodes≤32)(f:Flow):(flowsE nodes [f]).2=0↔flowE nodes f=0:=by
 rw[flowsE,if_neg (by omega),if_neg (by simp),firstAt_ok]
 constructor
 ·intro hh
  have:=hh 0 (by simp)
  unfold flowAt at this
  simp only[List.getElem?_cons_zero]at this
  by_cases e:flowE nodes f=0
  ·exact e
  ·rw[if_pos e]at this;exact absurd this e
 ·intro hh j hj
  have:j=0:=by simpa using hj
  subst this
  unfold flowAt
  simp[hh,flowO]
theorem tmod_eq {a b:Int}(h:0≤a):a.tmod b=a % b:=Int.tmod_eq_emod_of_nonneg h
end
theorem c_wcheck (w:Way)(hn:w.n.small)(_hc:w.s.cells.length≤281474976710656)(hr:w.r.length≤281474976710656):PCall Tryz.prog LW 162 [w.av] (.int .i64 (wayE w.n w.s w.f w.r)):=by
 refine PCall.intro mixed [] (nt:=50) Tryz.func162 rfl rfl (by simp) ?_
 refine Wk ?_
 refine cD (c_netCheck LW w.n hn) ?_
 refine Wk ?_
 refine BrK.mk (fun h1=>?_) (fun h1=>?_)<;>(try rw[h1])
 ·refine Wk ?_
  exact resP.mk rfl (Sees.int (by rw[wayE,if_pos (.inl (by simpa using h1))]))
 have h0:netE w.n=0:=by simpa using h1
 have hok:=netE_ok h0
 refine Wk ?_
 refine cD (c_Print w.s) ?_
 refine Wk ?_
 refine BrK.mk (fun h2=>?_) (fun h2=>?_)<;>(try rw[h2])
 ·refine Wk ?_
  exact resP.mk rfl (Sees.int (by rw[wayE,if_pos (.inr (.inl (by cases hf:formB w.s with|false=>rfl|true=>simp[hf]at h2)))]))
 have hf:formB w.s=true:=by cases hf:formB w.s with|true=>rfl|false=>simp[hf]at h2
 have hsb:=sized_bd (form_all hf).1
 refine Wk ?_
 refine cD (c_FCheck LW w.n.nodes [w.f] (by simp)) ?_
 refine Wk ?_
 refine BrK.mk (fun h3=>?_) (fun h3=>?_)<;>(try rw[h3])
 ·refine Wk ?_
  have h3':flowE w.n.nodes w.f≠0:=fun h=>by rw[(flowsE_one hok.nodes w.f).2 h]at h3;cases h3
  exact resP.mk rfl (Sees.int (by rw[wayE,if_pos (.inr (.inr h3'))]))
 have h3':flowE w.n.nodes w.f=0:=(flowsE_one hok.nodes w.f).1 (by simpa using h3)
 have hfb:=flowE_ok h3'
 have e1:¬(netE w.n≠0∨formB w.s=false∨flowE w.n.nodes w.f≠0):=by simp[h0,hf,h3']
 repeat((conv=>whnf);first|refine sJ ?_|refine aI (by first|exact(show w.f.period≠0 by omega)|kernel_rfl) ?_ )
 try(conv=>whnf)
 rw[tmod_eq (by omega)]
 refine BrK.mk (fun h4=>?_) (fun h4=>?_)<;>(try rw[h4])
 ·refine Wk ?_
  exact resP.mk rfl (Sees.int (by rw[wayE,if_neg e1,if_pos (by simpa using h4)]))
 refine Wk ?_
 refine cD (c_RCheck LW w.n hn w.f.src w.f.dst w.r hr) ?_
 refine Wk ?_
 exact resP.mk rfl (Sees.int (by rw[wayE,if_neg e1,if_neg (by simpa using h4)]))
theorem c_wlinks (w:Way):PCall Tryz.prog LW 288 [w.av] (.fn 295 [.cptr w.av 0]):=by
 refine PCall.intro mixed [] (nt:=4) Tryz.func288 rfl rfl (by simp) ?_
 refine Wk ?_
 exact resP.mk rfl (Sees.of_eq rfl)
theorem c_wcounts (w:Way)(rel:Int):PCall Tryz.prog LW 268 [w.av,.int .i64 rel] (.fn 287 [.cptr (.agg [.int .i64 rel]) 0,.cptr w.av 0]):=by
 refine PCall.intro mixed [] (nt:=6) Tryz.func268 rfl rfl (by simp) ?_
 refine Wk ?_
 exact resP.mk rfl (Sees.of_eq rfl)
end HM
