/- Certificates: the program. -/
import Derived.Test.YtggiajmlnieidaaGreatDoorS136
import Derived.Test.YtggiajmlnieidaaGreatDoorS53
import Derived.Test.YtggiajmlnieidaaGreatDoorFh
import Derived.Test.YtggiajmlnieidaaGreatDoorDd
import Derived.Test.YtggiajmlnieidaaGreatDoorS54
import Derived.Test.YtggiajmlnieidaaGreatDoorS33
import Derived.Test.YtggiajmlnieidaaGreatDoorS6
set_option maxHeartbeats 64000000
set_option maxRecDepth 100000
namespace HM
open Go Go.RowKit Go.Proofs
theorem jY (L:World→Prop)(l:List Int)(hl:l.length≤1099511627776):zb Tryz.prog L 156 [zp l] (zp l):=by
 refine zb.intro mixed [] (nt:=8) Tryz.func156 rfl rfl (by simp) ?_
 by_cases hne:l=[]
 ·subst hne
  refine Wk ?_
  intro b
  cases b
  ·repeat((conv=>whnf);first|refine sJ ?_|refine aI (by first|exact xF.map (f:=zM) (fun x=>⟨rfl,rfl⟩)|kernel_rfl) ?_ )
   try(conv=>whnf)
   exact ze.mk rfl (za.of_eq rfl)
  ·refine Wk ?_
   exact ze.mk rfl (za.of_eq rfl)
 refine Wk ?_
 refine zx.mk (fun h=>?_) (fun h=>?_)<;>(try rw[h])
 ·exact absurd (by simpa using h) hne
 ·repeat((conv=>whnf);first|refine sJ ?_|refine aI (by first|exact xF.map (f:=zM) (fun x=>⟨rfl,rfl⟩)|exact(show _*8≤_ by simp only[List.length_map,List.length_nil];omega)|exact(by simp only[List.length_map,List.length_nil,maxLen];omega)|kernel_rfl) ?_ )
  try(conv=>whnf)
  exact ze.mk rfl (za.of_eq rfl)
def clS (n:zF)(s:zc)(x:ye):Nat→St
 | 0=>⟨[.cells n.cs 26,.cells [.int .i64 s.len,.int .i64 s.offs,zy s.cells] 30,.cells x.av.cells 49,.cells [.int .i64 0,.nils,.nils,.nils,.nils] 190,.cells [.int .i64 x.flow.id,.nils,.nils,.nils,.nils] 190],[],0,0,fun _=>0⟩
 | k+1=>⟨[.cells n.cs 26,.cells [.int .i64 s.len,.int .i64 s.offs,zy s.cells] 30,.cells x.av.cells 49,.cells [.int .i64 0,.nils,.nils,.nils,.nils] 190,.cells [.int .i64 x.flow.id,.own ((x.routes.take (k+1)).map zp) 0,.own (((x.routes.take (k+1)).map fun r=>(yv n s x.flow r).1).map zM) 1,.own (((x.routes.take (k+1)).map fun r=>(yv n s x.flow r).2.1).map zM) 2,.own (((x.routes.take (k+1)).map fun r=>(yv n s x.flow r).2.2.1).map zp) 3] 190],[(k+1,1),(k+1,1),(k+1,1),(k+1,1)],0,0,fun c=>if c=0 then 88 else if c=3 then 24 else 3⟩
theorem zi4 (n:zF)(hn:n.small)(s:zc)(hc:s.cells.length≤281474976710656)(x:ye)(hxo:zeJ n x):zb Tryz.prog LW 159 [n.av,s.av,x.av] (.tup [(vM n s x).av,.bool (vN n s x)]):=by
 have hl2:=hxo.len
 refine zb.intro mixed [] (nt:=74) Tryz.func159 rfl rfl (by simp) ?_
 refine Wk ?_
 refine zt.run mixed [10008,10009] (fun (k:Nat)=>k≤x.routes.length∧∀j r,j < k→x.routes[j]? = some r→Yc n s x r=true) (fun k=>[(3,.ptr 0 0),(4,.ptr 1 0),(5,.ptr 2 0),(6,.ptr 3 0),(8,.ptr 4 0),(20,zZ x.routes),(21,.int .i64 x.routes.length),(22,.int .i64 k)]) (fun k=>clS n s x k) (fun k=>x.routes.length-k) 0 ⟨by simp,fun j r hj=>by omega⟩ ?_ ?_
 ·refine fN ?_<;>repeat' (first|exact fQ|refine And.intro ?_ ?_|exact zn.zj _|exact za.int (by simp))
 rintro k ⟨hk,hinv⟩
 by_cases hkl:k < x.routes.length
 rotate_left
 ·have hkn:k=x.routes.length:=by omega
  have g0:decide ((k:Int) < (x.routes.length:Int))=false:=decide_eq_false (by omega)
  have hall:vN n s x=true:=List.all_eq_true.2 fun r hr=>by
   obtain⟨j,hj⟩:=List.getElem?_of_mem hr
   exact hinv j r (by rw[hkn];exact(List.getElem?_eq_some_iff.1 hj).1) hj
  obtain⟨k,rfl⟩:∃i,k=i+1:=⟨k-1,by omega⟩
  have e:x.routes.take (k+1)=x.routes:=List.take_of_length_le (by omega)
  repeat((conv=>whnf);first|refine sT ?_|rw[g0])
  try(conv=>whnf)
  exact ze.mk rfl (za.of_eq (by rw[vM,if_pos hall,hall,e];rfl))
 obtain⟨r,hgr⟩:=zr hkl
 have hmr:=zk (f:=zp) hgr
 have hrl:r.length≤9:=(ZU (hxo.route r (List.mem_of_getElem? hgr))).1.2
 have nxt:Yc n s x r=true→∀j y,j < k+1→x.routes[j]? = some y→Yc n s x y=true:=fun h j y hj hy=>by
  rcases Nat.lt_succ_iff_lt_or_eq.1 hj with h'|rfl
  ·exact hinv j y h' hy
  ·rw[hgr]at hy;injection hy with hy;subst hy;exact h
 have hts:=zK hgr
 have g0:decide ((k:Int) < (x.routes.length:Int))=true:=decide_eq_true (by omega)
 cases k with
 | zero=>
  repeat((conv=>whnf);first|refine sT ?_|rw[g0])
  try(conv=>whnf)
  have hno:Yc n s x r=false→vN n s x=false:=fun h=>List.all_eq_false.2 ⟨r,List.mem_of_getElem? hgr,by simp[h]⟩
  repeat((conv=>whnf);first|refine sJ ?_|refine aI (by first|exact zh hkl|kernel_rfl) ?_|rw[hmr])
  try(conv=>whnf)
  refine cD (zcG n s x.flow r hn hc (by omega)) ?_
  by_cases he:(yv n s x.flow r).2.2.2=0
  rotate_left
  ·have g:((yv n s x.flow r).2.2.2 != 0)=true:=by simpa using he
   have hb:=hno (by simp[Yc,he])
   repeat((conv=>whnf);first|refine sT ?_|rw[g])
   try(conv=>whnf)
   exact ze.mk rfl (za.of_eq (by rw[vM,if_neg (by rw[hb];decide),hb];rfl))
  have g:((yv n s x.flow r).2.2.2 != 0)=false:=by simpa using he
  by_cases hd:x.flow.dead < (yv n s x.flow r).1
  ·have g2:decide (x.flow.dead < (yv n s x.flow r).1)=true:=by simpa using hd
   have hb:=hno (by simp[Yc];omega)
   repeat((conv=>whnf);first|refine sT ?_|rw[g]|rw[g2])
   try(conv=>whnf)
   exact ze.mk rfl (za.of_eq (by rw[vM,if_neg (by rw[hb];decide),hb];rfl))
  have g2:decide (x.flow.dead < (yv n s x.flow r).1)=false:=by simpa using hd
  have hsv:Yc n s x r=true:=by simp[Yc,he];omega
  repeat((conv=>whnf);first|refine sT ?_|rw[g]|rw[g2])
  try(conv=>whnf)
  refine zW.ym mixed (fun X=>X.bx[4]? = some (.cells [.int .i64 x.flow.id,.nils,.nils,.nils,.nils] 190)) [0,1,2,3,4,6,7,8,9,11,13] 4 rfl rfl (by decide) rfl (by rfl) ?_
  iterate 3
   conv=>whnf
   apply vA
   ·rintro S' K' hI hh
    repeat((conv=>whnf);first|refine sT ?_|rw[hI])
    try(conv=>whnf)
    exact hh
  conv=>whnf
  apply vA
  ·rintro S' K' hI hh
   refine Wk ?_
   refine cD (jY LW r (by omega)) ?_
   exact hh
  iterate 7
   conv=>whnf
   apply vA
   ·rintro S' K' hI hh
    repeat((conv=>whnf);first|refine sT ?_|rw[hI])
    try(conv=>whnf)
    exact hh
  conv=>whnf
  repeat' ((conv=>whnf);first|exact trivial|refine sJ ?_|refine aI (by first|exact trivial|exact Or.inr rfl|exact Or.inl rfl|exact xF.map (f:=zp) (fun x=>⟨rfl,rfl⟩)|exact xF.map (f:=zM) (fun x=>⟨rfl,rfl⟩)|exact(show _*24≤_ by simp only[List.length_map,List.length_take,List.length_cons,List.length_nil];omega)|exact(show _*8≤_ by simp only[List.length_map,List.length_take,List.length_cons,List.length_nil];omega)|exact(by simp;omega)|exact(by simp;show some (_,_)=some (_,_);congr 2;omega)|kernel_rfl) ?_|refine And.intro ?_ ?_ )
  all_goals(conv=>whnf)
  refine zW.ym mixed (fun X=>X.bx[4]? = some (.cells [.int .i64 x.flow.id,.own [zp r] 0,.own [zM (yv n s x.flow r).1] 1,.nils,.nils] 190)) [0,1,2,3,5,6,7,8,10,12] 4 rfl rfl (by decide) rfl (by rfl) ?_
  iterate 10
   conv=>whnf
   apply vA
   ·rintro S' K' hI hh
    repeat((conv=>whnf);first|refine sT ?_|rw[hI])
    try(conv=>whnf)
    exact hh
  conv=>whnf
  repeat' ((conv=>whnf);first|exact trivial|refine sJ ?_|refine aI (by first|exact trivial|exact Or.inr rfl|exact Or.inl rfl|exact xF.map (f:=zp) (fun x=>⟨rfl,rfl⟩)|exact xF.map (f:=zM) (fun x=>⟨rfl,rfl⟩)|exact(show _*24≤_ by simp only[List.length_map,List.length_take,List.length_cons,List.length_nil];omega)|exact(show _*8≤_ by simp only[List.length_map,List.length_take,List.length_cons,List.length_nil];omega)|exact(by simp;omega)|exact(by simp;show some (_,_)=some (_,_);congr 2;omega)|kernel_rfl) ?_|refine And.intro ?_ ?_ )
  all_goals(conv=>whnf)
  all_goals refine⟨0+1,⟨by omega,nxt hsv⟩,by omega,?_⟩
  all_goals refine fN ?_<;>repeat' (first|exact fQ|refine And.intro ?_ ?_|exact zn.zj _|exact za.int (zu hkl (by omega))|exact za.own (by rw[hts];rfl))
 | succ k=>
  repeat((conv=>whnf);first|refine sT ?_|rw[g0])
  try(conv=>whnf)
  have hno:Yc n s x r=false→vN n s x=false:=fun h=>List.all_eq_false.2 ⟨r,List.mem_of_getElem? hgr,by simp[h]⟩
  repeat((conv=>whnf);first|refine sJ ?_|refine aI (by first|exact zh hkl|kernel_rfl) ?_|rw[hmr])
  try(conv=>whnf)
  refine cD (zcG n s x.flow r hn hc (by omega)) ?_
  by_cases he:(yv n s x.flow r).2.2.2=0
  rotate_left
  ·have g:((yv n s x.flow r).2.2.2 != 0)=true:=by simpa using he
   have hb:=hno (by simp[Yc,he])
   repeat((conv=>whnf);first|refine sT ?_|rw[g])
   try(conv=>whnf)
   exact ze.mk rfl (za.of_eq (by rw[vM,if_neg (by rw[hb];decide),hb];rfl))
  have g:((yv n s x.flow r).2.2.2 != 0)=false:=by simpa using he
  by_cases hd:x.flow.dead < (yv n s x.flow r).1
  ·have g2:decide (x.flow.dead < (yv n s x.flow r).1)=true:=by simpa using hd
   have hb:=hno (by simp[Yc];omega)
   repeat((conv=>whnf);first|refine sT ?_|rw[g]|rw[g2])
   try(conv=>whnf)
   exact ze.mk rfl (za.of_eq (by rw[vM,if_neg (by rw[hb];decide),hb];rfl))
  have g2:decide (x.flow.dead < (yv n s x.flow r).1)=false:=by simpa using hd
  have hsv:Yc n s x r=true:=by simp[Yc,he];omega
  repeat((conv=>whnf);first|refine sT ?_|rw[g]|rw[g2])
  try(conv=>whnf)
  refine zW.ym mixed (fun X=>X.bx[4]? = some (.cells [.int .i64 x.flow.id,.own ((x.routes.take (k+1)).map zp) 0,.own (((x.routes.take (k+1)).map fun r=>(yv n s x.flow r).1).map zM) 1,.own (((x.routes.take (k+1)).map fun r=>(yv n s x.flow r).2.1).map zM) 2,.own (((x.routes.take (k+1)).map fun r=>(yv n s x.flow r).2.2.1).map zp) 3] 190)) [0,1,2,3,4,6,7,8,9,11,13] 4 rfl rfl (by decide) rfl (by rfl) ?_
  iterate 3
   conv=>whnf
   apply vA
   ·rintro S' K' hI hh
    repeat((conv=>whnf);first|refine sT ?_|rw[hI])
    try(conv=>whnf)
    exact hh
  conv=>whnf
  apply vA
  ·rintro S' K' hI hh
   refine Wk ?_
   refine cD (jY LW r (by omega)) ?_
   exact hh
  iterate 7
   conv=>whnf
   apply vA
   ·rintro S' K' hI hh
    repeat((conv=>whnf);first|refine sT ?_|rw[hI])
    try(conv=>whnf)
    exact hh
  conv=>whnf
  repeat' ((conv=>whnf);first|exact trivial|refine sJ ?_|refine aI (by first|exact trivial|exact Or.inr rfl|exact Or.inl rfl|exact xF.map (f:=zp) (fun x=>⟨rfl,rfl⟩)|exact xF.map (f:=zM) (fun x=>⟨rfl,rfl⟩)|exact(show _*24≤_ by simp only[List.length_map,List.length_take,List.length_cons,List.length_nil];omega)|exact(show _*8≤_ by simp only[List.length_map,List.length_take,List.length_cons,List.length_nil];omega)|exact(by simp only[List.length_map,List.length_take,List.length_cons,List.length_nil,maxLen];omega)|exact(by simp only[List.length_map,List.length_take];show some (_,_)=some (_,_);congr 2;omega)|kernel_rfl) ?_|refine And.intro ?_ ?_ )
  all_goals(conv=>whnf)
  refine zW.ym mixed (fun X=>X.bx[4]? = some (.cells [.int .i64 x.flow.id,.own ((x.routes.take (k+1)).map zp++[zp r]) 0,.own (((x.routes.take (k+1)).map fun r=>(yv n s x.flow r).1).map zM++[zM (yv n s x.flow r).1]) 1,.own (((x.routes.take (k+1)).map fun r=>(yv n s x.flow r).2.1).map zM) 2,.own (((x.routes.take (k+1)).map fun r=>(yv n s x.flow r).2.2.1).map zp) 3] 190)) [0,1,2,3,5,6,7,8,10,12] 4 rfl rfl (by decide) rfl (by rfl) ?_
  iterate 10
   conv=>whnf
   apply vA
   ·rintro S' K' hI hh
    repeat((conv=>whnf);first|refine sT ?_|rw[hI])
    try(conv=>whnf)
    exact hh
  conv=>whnf
  repeat' ((conv=>whnf);first|exact trivial|refine sJ ?_|refine aI (by first|exact trivial|exact Or.inr rfl|exact Or.inl rfl|exact xF.map (f:=zp) (fun x=>⟨rfl,rfl⟩)|exact xF.map (f:=zM) (fun x=>⟨rfl,rfl⟩)|exact(show _*24≤_ by simp only[List.length_map,List.length_take,List.length_cons,List.length_nil];omega)|exact(show _*8≤_ by simp only[List.length_map,List.length_take,List.length_cons,List.length_nil];omega)|exact(by simp only[List.length_map,List.length_take,List.length_cons,List.length_nil,maxLen];omega)|exact(by simp only[List.length_map,List.length_take];show some (_,_)=some (_,_);congr 2;omega)|kernel_rfl) ?_|refine And.intro ?_ ?_ )
  all_goals(conv=>whnf)
  all_goals refine⟨k+1+1,⟨by omega,nxt hsv⟩,by omega,?_⟩
  all_goals refine fN ?_<;>repeat' (first|exact fQ|refine And.intro ?_ ?_|exact zn.zj _|exact za.int (zu hkl (by omega))|exact za.own (by rw[hts];simp only[List.map_append];rfl)|(show(_,_)=(_,_);simp only[List.length_append,List.length_map,List.length_take,List.length_cons,List.length_nil];congr 1;omega))
theorem zdH (n:zF)(hn:n.small)(q:List ye)(hq:q.length≤1099511627776)(hx:∀x∈q,x.small)(s:zc)(hc:s.cells.length≤281474976710656):zb Tryz.prog LW 108 [n.av,zH q,s.av] (.tup [WB (xh n q s).1,.int .i64 (xh n q s).2.1,.int .i64 (xh n q s).2.2]):=by
 refine zb.intro mixed [] (nt:=61) Tryz.func108 rfl rfl (by simp) ?_
 refine Wk ?_
 refine cD (zdG LW n hn q hq hx) ?_
 refine Wk ?_
 refine zx.mk (fun h1=>?_) (fun h1=>?_)<;>(try rw[h1])
 ·refine Wk ?_
  exact ze.mk rfl (za.of_eq (by unfold xh;rw[if_pos (by simpa using h1)];rfl))
 have h1':(wZ n q).2=0:=by simpa using h1
 obtain⟨hok,hq16,hreq,hfl⟩:=xu h1'
 refine Wk ?_
 refine cD (zcx LW q hq) ?_
 refine Wk ?_
 refine cD (zcA LW n hn (zL q) (by simp[zL];omega) s hc) ?_
 refine Wk ?_
 refine zx.mk (fun h2=>?_) (fun h2=>?_)<;>(try rw[h2])
 ·refine Wk ?_
  exact ze.mk rfl (za.of_eq (by unfold xh;rw[if_neg (by omega),if_pos (by simpa using h2)];rfl))
 have h2':(yU n (zL q) s).2=0:=by simpa using h2
 have hM:xh n q s=if (zS (qP n s q) q.length).2≠0 then([],zS (qP n s q) q.length) else(q.map (vM n s),-1,0):=by unfold xh;rw[if_neg (by omega),if_neg (by omega)]
 refine Wk ?_
 refine zt.born 13 5 190 rfl ?_
 refine zt.run mixed [] (fun (k:Nat)=>k≤q.length∧∀j,j < k→qP n s q j=0) (fun k=>[(3,.ptr 0 0),(5,.ptr 1 0),(13,.own ((q.take k).map fun x=>(vM n s x).av) 0),(38,zH q),(39,.int .i64 q.length),(40,.int .i64 k)]) (fun k=>⟨[.cells n.cs 26,.cells [.int .i64 s.len,.int .i64 s.offs,zy s.cells] 30],[((q.take k).length,5)],0,0,fun k=>if k=0 then 190 else 0⟩) (fun k=>q.length-k) 0 ⟨by simp,by simp⟩ ?_ ?_
 ·refine fN ?_<;>repeat' (first|exact fQ|refine And.intro ?_ ?_|exact zn.zj _|exact za.int (by simp))
 rintro k ⟨hk,hinv⟩
 have hkl:(q.take k).length≤16:=by rw[List.length_take];omega
 refine Wk ?_
 refine zx.mk (fun hb=>?_) (fun hb=>?_)<;>try rw[hb]
 ·have hlt:k < q.length:=by simpa using hb
  obtain⟨x,hgx⟩:=zr hlt
  have hmx:=zk (f:=ye.av) hgx
  have hit:=xD hinv (k:=k) (n:=q.length)
  have hL:qP n s q k=if vN n s x then 0 else 15:=by unfold qP;rw[hgx]
  repeat((conv=>whnf);first|refine sJ ?_|refine aI (by first|exact zh hlt|kernel_rfl) ?_|rw[hmx])
  try(conv=>whnf)
  refine cD (zi4 n hn s hc x (hreq x (List.mem_of_getElem? hgx))) ?_
  cases hcb:vN n s x with
  | false=>
   rw[hcb,if_neg (by decide)]at hL
   have hf:=hit (by rw[hL];decide) hlt
   rw[hL]at hf
   refine Wk ?_
   exact ze.mk rfl (za.of_eq (by rw[hM,hf,if_pos (show(15:Int)≠0 by decide)];rfl))
  | true=>
   rw[hcb,if_pos rfl]at hL
   repeat((conv=>whnf);first|refine sJ ?_|refine aI (by first|exact xF.map (f:=fun x=>(vM n s x).av) (fun x=>⟨rfl,rfl⟩)|exact(show _*104≤_ by simp only[List.length_map,List.length_cons,List.length_nil];omega)|exact(by simp only[List.length_map,List.length_cons,List.length_nil,maxLen];omega)|exact(by rw[List.length_map];rfl)|kernel_rfl) ?_ )
   try(conv=>whnf)
   refine⟨k+1,⟨by omega,fun j hj=>?_⟩,by omega,?_⟩
   ·rcases Nat.lt_succ_iff_lt_or_eq.1 hj with h|rfl
    ·exact hinv j h
    ·exact hL
   ·refine fN ?_<;>repeat' (first|exact fQ|refine And.intro ?_ ?_|exact zn.zj _|exact za.int (zu hlt (by omega))|exact za.own (by rw[zK hgx,List.map_append];rfl)|(show(_,_)=(_,_);rw[zK hgx];simp only[List.length_append,List.length_map];rfl))
 ·have hkn:k=q.length:=by simp at hb;omega
  subst hkn
  rw[List.take_length]
  refine Wk ?_
  exact ze.mk rfl (za.of_eq (by rw[hM,xk hinv,if_neg (by decide)];show _=AV.tup [WB (List.map (vM n s) q),_,_];rw[WB,List.map_map];rfl))
section
variable (L:World→Prop)
theorem Vl (l:List ye)(p:ye→Bool)(g:Nat)(caps:List AV)(hl:l.length≤281474976710656)(hcb:zO Tryz.prog g=true)(hc:xo caps=some caps)(hp:∀x∈l,zb Tryz.prog L g (ye.av x :: caps) (.bool (p x))) :
  zb Tryz.prog L 80 [.sl false (l.map ye.av),.fn g caps] (.int .i64 (wu p l)):=by
 refine zb.intro mixed [] (nt:=19) Tryz.func80 rfl rfl (by simp) ?_
 refine Wk ?_
 refine zt.run mixed [] (fun (k:Nat)=>k≤l.length∧∀j x,j < k→l[j]? = some x→p x=false) (fun k=>[(0,.sl false (l.map ye.av)),(1,.fn g caps),(7,.int .i64 l.length),(8,.int .i64 k)]) (fun k=>St.none) (fun k=>l.length-k) 0 ⟨by simp,by simp⟩ ?_ ?_
 ·refine fN ?_<;>repeat' (first|exact fQ|refine And.intro ?_ ?_|exact za.int (by simp)|exact yz hc)
 rintro k ⟨hk,hinv⟩
 refine Wk ?_
 refine zx.mk (fun hb=>?_) (fun hb=>?_)<;>try rw[hb]
 ·have hlt:k < l.length:=by simpa using hb
  obtain⟨x,hgx⟩:=zr hlt
  have hmx:=zk (f:=ye.av) hgx
  repeat((conv=>whnf);first|refine sJ ?_|refine aI (by first|exact zh hlt|kernel_rfl) ?_|rw[hmx])
  try(conv=>whnf)
  refine zo.data hcb (hp x (List.mem_of_getElem? hgx)) (by show(match fz _,xo caps with|some a,some b=>some (a :: b)|_,_=>none)=_;rw[hc];rfl) ?_
  refine Wk ?_
  refine zx.mk (fun h2=>?_) (fun h2=>?_)<;>(try rw[h2])
  ·refine Wk ?_
   exact ze.mk rfl (za.int (yI hlt hinv hgx h2).symm)
  ·refine Wk ?_
   refine⟨k+1,⟨by omega,fun j y hj hy=>?_⟩,by omega,?_⟩
   ·rcases Nat.lt_succ_iff_lt_or_eq.1 hj with h|rfl
    ·exact hinv j y h hy
    ·rw[hgx]at hy;injection hy with hy;subst hy;exact h2
   ·refine fN ?_<;>repeat' (first|exact fQ|refine And.intro ?_ ?_|exact za.int (zu hlt hl)|exact yz hc)
 ·have hk':k=l.length:=by simp at hb;omega
  subst hk'
  refine Wk ?_
  exact ze.mk rfl (za.int (yY hinv).symm)
theorem zhz (x:ye)(id:Int):zb Tryz.prog L 155 [x.av,.cptr (.agg [.int .i64 id]) 0] (.bool (x.flow.id==id)):=by
 refine zb.intro mixed [] (nt:=9) Tryz.func155 rfl rfl (by simp) ?_
 refine Wk ?_
 exact ze.mk rfl (za.bool rfl)
theorem kD (q:List ye)(id:Int)(hq:q.length≤281474976710656):zb Tryz.prog L 96 [zH q,.int .i64 id] (.tup [(getD q id).av,.bool (yx q id).isSome]):=by
 refine zb.intro mixed [] (nt:=17) Tryz.func96 rfl rfl (by simp) ?_
 refine Wk ?_
 refine cB (Vl L q (fun x=>x.flow.id==id) 155 [.cptr (.agg [.int .i64 id]) 0] hq rfl rfl (fun x _=>zhz L x id)) ?_
 rcases zfp (fun x:ye=>x.flow.id==id) q with ⟨e1,e2⟩|⟨k,x,e1,e2,e3⟩
 ·have hg:yx q id=none:=e2
  rw[e1]
  refine Wk ?_
  exact ze.mk rfl (za.of_eq (by unfold getD;rw[hg];rfl))
 ·have hg:yx q id=some x:=e3
  have hmx:=zk (f:=ye.av) e2
  have hkl:=(List.getElem?_eq_some_iff.1 e2).1
  have g:decide ((k:Int) < 0)=false:=decide_eq_false (by omega)
  rw[e1]
  repeat((conv=>whnf);first|refine sJ ?_|refine aI (by first|exact trivial|exact zh hkl|kernel_rfl) ?_|rw[g]|rw[hmx])
  try(conv=>whnf)
  exact ze.mk rfl (za.of_eq (by unfold getD;rw[hg];rfl))
theorem Q4 (s:zc)(c:zJ):zb Tryz.prog L 67 [s.av,c.av] (.tup [(yi s c).1.av,.int .i64 (yi s c).2]):=by
 refine zb.intro mixed [] (nt:=20) Tryz.func67 rfl rfl (by simp) ?_
 refine Wk ?_
 refine zx.mk (fun h=>?_) (fun h=>?_)<;>(try rw[h])
 ·refine Wk ?_
  refine cD (zjC L s c.cell) ?_
  refine Wk ?_
  exact ze.mk rfl (za.of_eq (by rw[yi,if_pos h];rfl))
 ·refine Wk ?_
  refine cD (zcB L s c.cell) ?_
  refine Wk ?_
  exact ze.mk rfl (za.of_eq (by rw[yi,if_neg (by simp[h])];rfl))
end
theorem zfR (n:zF)(hn:n.small)(h0:yS n=0)(q:List ye)(hq:q.length≤1099511627776)(hx:∀x∈q,x.small):zb Tryz.prog LW 109 [n.av,zH q] (.bool (decide ((wZ n q).2≠0))):=by
 rw[←zdq h0]
 refine zb.intro mixed [] (nt:=22) Tryz.func109 rfl rfl (by simp) ?_
 refine Wk ?_
 refine cD (zdH n hn q hq hx ⟨0,0,[]⟩ (by simp)) ?_
 cases g1:((xh n q ⟨0,0,[]⟩).2.2 != 1) with
 | true=>
  repeat((conv=>whnf);first|refine sT ?_|rw[g1])
  try(conv=>whnf)
  exact ze.mk rfl (za.bool rfl)
 | false=>
  repeat((conv=>whnf);first|refine sT ?_|rw[g1])
  try(conv=>whnf)
  exact ze.mk rfl (za.bool rfl)
theorem Vz {α:Type}(l:List (List α))(k:Nat):(l.take k).flatten.length≤l.flatten.length:=by
 have h:=congrArg (fun x=>x.flatten.length) (List.take_append_drop k l)
 simp only[List.flatten_append,List.length_append]at h
 omega
section
variable (L:World→Prop)
theorem Vn (l:List zJ)(p:zJ→Bool)(g:Nat)(caps:List AV)(hl:l.length≤281474976710656)(hcb:zO Tryz.prog g=true)(hc:xo caps=some caps)(hp:∀x∈l,zb Tryz.prog L g (zJ.av x :: caps) (.bool (p x))) :
  zb Tryz.prog L 58 [.sl false (l.map zJ.av),.fn g caps] (.int .i64 (wu p l)):=by
 refine zb.intro mixed [] (nt:=19) Tryz.func58 rfl rfl (by simp) ?_
 refine Wk ?_
 refine zt.run mixed [] (fun (k:Nat)=>k≤l.length∧∀j x,j < k→l[j]? = some x→p x=false) (fun k=>[(0,.sl false (l.map zJ.av)),(1,.fn g caps),(7,.int .i64 l.length),(8,.int .i64 k)]) (fun k=>St.none) (fun k=>l.length-k) 0 ⟨by simp,by simp⟩ ?_ ?_
 ·refine fN ?_<;>repeat' (first|exact fQ|refine And.intro ?_ ?_|exact za.int (by simp)|exact yz hc)
 rintro k ⟨hk,hinv⟩
 refine Wk ?_
 refine zx.mk (fun hb=>?_) (fun hb=>?_)<;>try rw[hb]
 ·have hlt:k < l.length:=by simpa using hb
  obtain⟨x,hgx⟩:=zr hlt
  have hmx:=zk (f:=zJ.av) hgx
  repeat((conv=>whnf);first|refine sJ ?_|refine aI (by first|exact zh hlt|kernel_rfl) ?_|rw[hmx])
  try(conv=>whnf)
  refine zo.data hcb (hp x (List.mem_of_getElem? hgx)) (by show(match fz _,xo caps with|some a,some b=>some (a :: b)|_,_=>none)=_;rw[hc];rfl) ?_
  refine Wk ?_
  refine zx.mk (fun h2=>?_) (fun h2=>?_)<;>(try rw[h2])
  ·refine Wk ?_
   exact ze.mk rfl (za.int (yI hlt hinv hgx h2).symm)
  ·refine Wk ?_
   refine⟨k+1,⟨by omega,fun j y hj hy=>?_⟩,by omega,?_⟩
   ·rcases Nat.lt_succ_iff_lt_or_eq.1 hj with h|rfl
    ·exact hinv j y h hy
    ·rw[hgx]at hy;injection hy with hy;subst hy;exact h2
   ·refine fN ?_<;>repeat' (first|exact fQ|refine And.intro ?_ ?_|exact za.int (zu hlt hl)|exact yz hc)
 ·have hk':k=l.length:=by simp at hb;omega
  subst hk'
  refine Wk ?_
  exact ze.mk rfl (za.int (yY hinv).symm)
theorem zq (l:List zJ)(p:zJ→Bool)(g:Nat)(caps:List AV)(hl:l.length≤281474976710656)(hcb:zO Tryz.prog g=true)(hc:xo caps=some caps)(hp:∀x∈l,zb Tryz.prog L g (zJ.av x :: caps) (.bool (p x))) :
  zb Tryz.prog L 13 [.sl false (l.map zJ.av),.fn g caps] (.bool (l.any p)):=by
 refine zb.intro mixed [] (nt:=9) Tryz.func13 rfl rfl (by simp) ?_
 refine Wk ?_
 refine zo.data rfl (Vn L l p g caps hl hcb hc hp) (by show(match fz _,xo [AV.fn g caps] with|some a,some b=>some (a :: b)|_,_=>none)=_;rw[show xo [AV.fn g caps] = some [AV.fn g caps] from by simp[fz,xo,hc]];rfl) ?_
 refine Wk ?_
 exact ze.mk rfl (za.bool (wU p l))
theorem zcE (l:List (List (List Int)))(h1:l.length≤1000000)(hl:l.flatten.length≤1099511627776):zb Tryz.prog L 161 [.sl false (l.map fun x=>.sl false (x.map zp))] (.sl false (l.flatten.map zp)):=by
 refine zb.intro mixed [] (nt:=36) Tryz.func161 rfl rfl (by simp) ?_
 refine Wk ?_
 refine zt.run mixed [] (fun (k:Nat)=>k≤l.length) (fun k=>[(0,.sl false (l.map fun x=>.sl false (x.map zp))),(3,.int .i64 (l.take k).flatten.length),(9,.sl false (l.map fun x=>.sl false (x.map zp))),(10,.int .i64 l.length),(11,.int .i64 k)]) (fun k=>St.none) (fun k=>l.length-k) 0 (by simp) ?_ ?_
 ·refine fN ?_<;>repeat' (first|exact fQ|refine And.intro ?_ ?_|exact za.int (by simp))
 rintro k hk
 refine Wk ?_
 refine zx.mk (fun hb=>?_) (fun hb=>?_)<;>try rw[hb]
 ·have hlt:k < l.length:=by simpa using hb
  obtain⟨x,hgx⟩:=zr hlt
  have hmx:=zk (f:=fun x:List (List Int)=>AV.sl false (x.map zp)) hgx
  have hfl:(l.take (k+1)).flatten.length=(l.take k).flatten.length+x.length:=by rw[zK hgx];simp
  have hle:=Vz l (k+1)
  repeat((conv=>whnf);first|refine sJ ?_|refine aI (by first|exact zh hlt|kernel_rfl) ?_|rw[hmx])
  try(conv=>whnf)
  have hfk:=Vz l k
  rw[hfl]at hle
  rw[show((List.map zp x).length:Int)=x.length from by simp]
  rw[xw (by omega) (by omega)]
  rw[decide_eq_false (by omega)]
  refine Wk ?_
  refine⟨k+1,by omega,by omega,?_⟩
  refine fN ?_<;>repeat' (first|exact fQ|refine And.intro ?_ ?_|exact za.int (zu hlt (by omega))|exact za.int (by rw[hfl];simp))
 ·have hk':k=l.length:=by simp at hb;omega
  subst hk'
  rw[List.take_length]
  refine Wk ?_
  refine zo.inl rfl (zQ.intro mixed [] (nt:=27) Tryz.func225 rfl rfl (by simp) ?_)
  refine Wk ?_
  rw[show(List.length ([]:List AV):Int)=0 from rfl,show(0:Int)-0=0 from rfl]
  rw[xw (x:=0) (by omega) (by omega),Int.sub_zero,xw (by omega) (by omega)]
  refine zx.mk (fun h0=>?_) (fun h0=>?_)<;>(try rw[h0])
  ·repeat((conv=>whnf);first|refine sJ ?_|refine aI (by first|exact(show(l.flatten.length:Int)*24≤_ by omega)|exact(by simpa using h0)|exact(by omega)|kernel_rfl) ?_ )
   try(conv=>whnf)
   refine zt.run mixed [] (fun (k:Nat)=>k≤l.length) (fun k=>[(6,.own ((l.take k).flatten.map zp) 0),(25,.sl false (l.map fun x=>.sl false (x.map zp))),(26,.int .i64 l.length),(27,.int .i64 k)]) (fun k=>⟨[],[((l.take k).flatten.length,1)],0,0,fun k=>if k=0 then 88 else 0⟩) (fun k=>l.length-k) 0 (by simp) ?_ ?_
   ·refine fN ?_<;>repeat' (first|exact fQ|refine And.intro ?_ ?_|exact za.int (by simp))
   rintro k hk
   refine Wk ?_
   refine zx.mk (fun hb=>?_) (fun hb=>?_)<;>try rw[hb]
   ·have hlt:k < l.length:=by simpa using hb
    obtain⟨x,hgx⟩:=zr hlt
    have hmx:=zk (f:=fun x:List (List Int)=>AV.sl false (x.map zp)) hgx
    have hfl:(l.take (k+1)).flatten.length=(l.take k).flatten.length+x.length:=by rw[zK hgx];simp
    have hle:=Vz l (k+1)
    repeat((conv=>whnf);first|refine sJ ?_|refine aI (by first|exact zh hlt|exact xF.map (f:=zp) (fun x=>⟨rfl,rfl⟩)|exact(show _*24≤_ by simp only[List.length_map];omega)|exact(by simp only[List.length_map,maxLen];omega)|exact(by rw[List.length_map];rfl)|kernel_rfl) ?_|rw[hmx])
    try(conv=>whnf)
    refine⟨k+1,by omega,by omega,?_⟩
    refine fN ?_<;>repeat' (first|exact fQ|refine And.intro ?_ ?_|exact za.int (zu hlt (by omega))|exact za.own (by rw[zK hgx];simp)|(show(_,_)=(_,_);rw[hfl];simp only[List.length_append,List.length_map]))
   ·have hk':k=l.length:=by simp at hb;omega
    subst hk'
    refine Wk ?_
    exact ze.mk rfl (za.sl (by rw[List.take_length]))
  ·refine Wk ?_
   refine zt.born 6 1 88 rfl ?_
   refine zt.run mixed [] (fun (k:Nat)=>k≤l.length) (fun k=>[(6,.own ((l.take k).flatten.map zp) 0),(25,.sl false (l.map fun x=>.sl false (x.map zp))),(26,.int .i64 l.length),(27,.int .i64 k)]) (fun k=>⟨[],[((l.take k).flatten.length,1)],0,0,fun k=>if k=0 then 88 else 0⟩) (fun k=>l.length-k) 0 (by simp) ?_ ?_
   ·refine fN ?_<;>repeat' (first|exact fQ|refine And.intro ?_ ?_|exact za.int (by simp))
   rintro k hk
   refine Wk ?_
   refine zx.mk (fun hb=>?_) (fun hb=>?_)<;>try rw[hb]
   ·have hlt:k < l.length:=by simpa using hb
    obtain⟨x,hgx⟩:=zr hlt
    have hmx:=zk (f:=fun x:List (List Int)=>AV.sl false (x.map zp)) hgx
    have hfl:(l.take (k+1)).flatten.length=(l.take k).flatten.length+x.length:=by rw[zK hgx];simp
    have hle:=Vz l (k+1)
    repeat((conv=>whnf);first|refine sJ ?_|refine aI (by first|exact zh hlt|exact xF.map (f:=zp) (fun x=>⟨rfl,rfl⟩)|exact(show _*24≤_ by simp only[List.length_map];omega)|exact(by simp only[List.length_map,maxLen];omega)|exact(by rw[List.length_map];rfl)|kernel_rfl) ?_|rw[hmx])
    try(conv=>whnf)
    refine⟨k+1,by omega,by omega,?_⟩
    refine fN ?_<;>repeat' (first|exact fQ|refine And.intro ?_ ?_|exact za.int (zu hlt (by omega))|exact za.own (by rw[zK hgx];simp)|(show(_,_)=(_,_);rw[hfl];simp only[List.length_append,List.length_map]))
   ·have hk':k=l.length:=by simp at hb;omega
    subst hk'
    refine Wk ?_
    exact ze.mk rfl (za.sl (by rw[List.take_length]))
theorem zam {done:List zJ}{d:zJ}(h:done[done.length-1]? = some d):xr done=some d.slot:=by
 unfold xr
 rw[List.getLast?_eq_getElem?,h];rfl
theorem zfP (n:zF)(before after:List ye)(flows:List zf)(s:zc)(done:List zJ)(c:zJ)(hd:done.length≤281474976710656):zb Tryz.prog L 49 [.cptr (jl n before after flows s done) 0,c.av] (.int .i64 (wV (xr done) c)):=by
 refine zb.intro mixed [] (nt:=30) Tryz.func49 rfl rfl (by simp) ?_
 by_cases h1:c.slot < 0
 ·have g1:decide (c.slot < 0)=true:=decide_eq_true h1
  repeat((conv=>whnf);first|refine sT ?_|rw[g1])
  try(conv=>whnf)
  exact ze.mk rfl (za.int (by unfold wV;rw[if_pos h1]))
 have g1:decide (c.slot < 0)=false:=decide_eq_false h1
 by_cases h2:done.length=0
 ·have hn:done=[]:=List.length_eq_zero_iff.1 h2
  subst hn
  repeat((conv=>whnf);first|refine sT ?_|rw[g1])
  try(conv=>whnf)
  exact ze.mk rfl (za.int (by unfold wV;rw[if_neg h1];rfl))
 have g2:decide ((0:Int) < ((done.map zJ.av).length:Int))=true:=decide_eq_true (by rw[List.length_map];omega)
 have hw:IntKind.i64.wrap (((done.map zJ.av).length:Int)-1)=((done.length-1:Nat):Int):=by rw[List.length_map,xw]<;>omega
 obtain⟨d,hgd⟩:=zr (l:=done) (k:=done.length-1) (by omega)
 have hmd:=zk (f:=zJ.av) hgd
 have hls:=zam hgd
 by_cases h3:c.slot < d.slot
 ·have g3:decide (c.slot < d.slot)=true:=decide_eq_true h3
  repeat((conv=>whnf);first|refine sJ ?_|refine aI (by first|exact trivial|(rw[hw];exact zh (show done.length-1 < done.length by omega))|kernel_rfl) ?_|rw[g1]|rw[g2]|rw[hw]|rw[hmd]|rw[g3])
  try(conv=>whnf)
  exact ze.mk rfl (za.int (by unfold wV;rw[if_neg h1,hls];simp only[if_pos h3]))
 ·have g3:decide (c.slot < d.slot)=false:=decide_eq_false h3
  repeat((conv=>whnf);first|refine sJ ?_|refine aI (by first|exact trivial|(rw[hw];exact zh (show done.length-1 < done.length by omega))|kernel_rfl) ?_|rw[g1]|rw[g2]|rw[hw]|rw[hmd]|rw[g3])
  try(conv=>whnf)
  exact ze.mk rfl (za.int (by unfold wV;rw[if_neg h1,hls];simp only[if_neg h3]))
theorem zeu (n:zF)(before after:List ye)(flows:List zf)(s:zc)(done:List zJ)(id:Int)(hb:before.length≤16)(ha:after.length≤16)(hbx:∀x∈before,x.routes.length≤2)(hax:∀x∈after,x.routes.length≤2) :
  zb Tryz.prog L 112 [.cptr (jl n before after flows s done) 0,.int .i64 id] (.tup [(getD before id).flow.av,zZ ((getD before id).routes++(getD after id).routes),.bool ((yx before id).isSome&&(yx after id).isSome)]):=by
 have hx0:(getD before id).routes.length≤2:=by
  unfold getD
  cases hg:yx before id with
  | none=>simp[zih]
  | some x=>exact hbx x (zY hg).1
 have hy0:(getD after id).routes.length≤2:=by
  unfold getD
  cases hg:yx after id with
  | none=>simp[zih]
  | some x=>exact hax x (zY hg).1
 obtain⟨rx,hrx⟩:∃rx,rx=(getD before id).routes:=⟨_,rfl⟩
 obtain⟨ry,hry⟩:∃ry,ry=(getD after id).routes:=⟨_,rfl⟩
 have hcc:=zcE L [rx,ry] (by simp) (by rw[hrx,hry];simp;omega)
 have hfl:([rx,ry]:List (List (List Int))).flatten=rx++ry:=by simp
 rw[hfl,hrx,hry]at hcc
 cases hbs:(yx before id).isSome<;>cases has:(yx after id).isSome
 all_goals
  refine zb.intro mixed [10003] (nt:=41) Tryz.func112 rfl rfl (by simp) ?_
  refine Wk ?_
  refine cD (kD L before id (by omega)) ?_
  rw[hbs]
  refine Wk ?_
  refine cD (kD L after id (by omega)) ?_
  rw[has]
  refine Wk ?_
  refine zW.ym mixed (fun X=>X.bx[1]? = some (.cells (getD before id).av.cells 49)∧X.bx[2]? = some (.cells (getD after id).av.cells 49)) [0,1,2,3,4,5,6,7,8,9,10,11] 3 rfl rfl (by decide) rfl ⟨rfl,rfl⟩ ?_
  iterate 7
   conv=>whnf
   apply vA
   ·rintro S' K' hI hh
    repeat((conv=>whnf);first|refine sT ?_|erw [hI.1]|erw [hI.2])
    try(conv=>whnf)
    exact hh
  conv=>whnf
  apply vA
  ·rintro S' K' hI hh
   refine Wk ?_
   refine cD (hcc) ?_
   exact hh
  iterate 4
   conv=>whnf
   apply vA
   ·rintro S' K' hI hh
    refine Wk ?_
    exact hh
  conv=>whnf
  repeat' ((conv=>whnf);first|exact trivial|refine sJ ?_|refine aI (by first|exact trivial|exact Or.inr ⟨rfl,rfl⟩|exact Or.inl rfl|kernel_rfl) ?_|refine And.intro ?_ ?_ )
  all_goals(conv=>whnf)
 all_goals exact ze.mk rfl (za.of_eq rfl)
end
section
variable (L:World→Prop)
theorem zhq (d:zJ)(f:zf)(c:zJ):zb Tryz.prog L 113 [d.av,.cptr f.av 0,.cptr c.av 0] (.bool (d.add&&(d.cell.flow==f.id&&decide (IntKind.i64.wrap (c.slot-d.slot) < f.period)))):=by
 refine zb.intro mixed [] (nt:=25) Tryz.func113 rfl rfl (by simp) ?_
 cases h1:d.add<;>cases h2:(d.cell.flow==f.id)
 all_goals
  repeat((conv=>whnf);first|refine sT ?_|rw[h1]|rw[h2])
  try(conv=>whnf)
  exact ze.mk rfl (za.bool rfl)
theorem ziT (n:zF)(before after:List ye)(flows:List zf)(s:zc)(done:List zJ)(c:zJ)(hd:done.length≤281474976710656)(hb:before.length≤16)(ha:after.length≤16)(hbx:∀x∈before,x.routes.length≤2)(hax:∀x∈after,x.routes.length≤2) :
  zb Tryz.prog L 51 [.cptr (jl n before after flows s done) 0,c.av] (.int .i64 (JX before after done c)):=by
 have hE:=zhk (before:=before) (after:=after) (done:=done) (c:=c)
 obtain⟨f,hf⟩:∃f,f=(getD before c.cell.flow).flow:=⟨_,rfl⟩
 have hst:=zeu L n before after flows s done c.cell.flow hb ha hbx hax
 rw[←hf]at hE hst
 obtain⟨p,hp⟩:∃p:zJ→Bool,p=fun d=>d.add&&(d.cell.flow==f.id&&decide (IntKind.i64.wrap (c.slot-d.slot) < f.period)):=⟨_,rfl⟩
 rw[←hp]at hE
 have hcf:=zq L done p 113 [.cptr f.av 0,.cptr c.av 0] hd rfl rfl (fun d _=>by rw[hp];exact zhq L d f c)
 cases h1:((yx before c.cell.flow).isSome&&(yx after c.cell.flow).isSome)
 ·rw[h1]at hst hE
  refine zb.intro mixed [] (nt:=33) Tryz.func51 rfl rfl (by simp) ?_
  refine Wk ?_
  refine cD (hst) ?_
  refine Wk ?_
  exact ze.mk rfl (za.int (by unfold JX;rw[hE];rfl))
 rw[h1]at hst hE
 cases h2:c.add
 rotate_left
 ·rw[h2]at hE
  refine zb.intro mixed [] (nt:=33) Tryz.func51 rfl rfl (by simp) ?_
  refine Wk ?_
  refine cD (hst) ?_
  have h2':(!c.add)=false:=by rw[h2];rfl
  repeat((conv=>whnf);first|refine sT ?_|rw[h2'])
  try(conv=>whnf)
  exact ze.mk rfl (za.int (by unfold JX;rw[hE];rfl))
 rw[h2]at hE
 have h2':(!c.add)=true:=by rw[h2];rfl
 refine zb.intro mixed [] (nt:=33) Tryz.func51 rfl rfl (by simp) ?_
 refine Wk ?_
 refine cD (hst) ?_
 repeat((conv=>whnf);first|refine sT ?_|rw[h2'])
 try(conv=>whnf)
 refine cB (hcf) ?_
 cases h3:done.any p
 ·rw[h3]at hE
  refine Wk ?_
  exact ze.mk rfl (za.int (by unfold JX;rw[hE];rfl))
 ·rw[h3]at hE
  refine Wk ?_
  exact ze.mk rfl (za.int (by unfold JX;rw[hE];rfl))
theorem ziU (n:zF)(hn:n.small)(before after:List ye)(flows:List zf)(hfl:flows.length≤281474976710656)(s:zc)(hc:s.cells.length≤281474976710656)(done:List zJ)(c:zJ) :
  zb Tryz.prog L 52 [.cptr (jl n before after flows s done) 0,c.av] (.int .i64 (if (yU n flows s).2≠0 then 16 else 0)):=by
 refine zb.intro mixed [10001] (nt:=25) Tryz.func52 rfl rfl (by simp) ?_
 refine Wk ?_
 refine zW.ym mixed (fun _=>True) [0,1,2,3,4,5,6,7,8,9,10,11,12,13,14,15] 2 rfl rfl (by decide) rfl trivial ?_
 iterate 12
  conv=>whnf
  apply vA
  ·rintro S' K' hI hh
   refine Wk ?_
   exact hh
 conv=>whnf
 apply vA
 ·rintro S' K' hI hh
  refine Wk ?_
  refine cD (zcA L n hn flows hfl s hc) ?_
  exact hh
 iterate 3
  conv=>whnf
  apply vA
  ·rintro S' K' hI hh
   refine Wk ?_
   exact hh
 conv=>whnf
 repeat' ((conv=>whnf);first|exact trivial|refine sJ ?_|refine aI (by first|exact trivial|exact Or.inr trivial|exact Or.inl rfl|kernel_rfl) ?_|refine And.intro ?_ ?_ )
 all_goals(conv=>whnf)
 by_cases h:(yU n flows s).2≠0
 ·have g:((yU n flows s).2 != 0)=true:=by simpa using h
  repeat((conv=>whnf);first|refine sT ?_|rw[g])
  try(conv=>whnf)
  exact ze.mk rfl (za.int (by rw[if_pos h]))
 ·have g:((yU n flows s).2 != 0)=false:=by simpa using h
  repeat((conv=>whnf);first|refine sT ?_|rw[g])
  try(conv=>whnf)
  exact ze.mk rfl (za.int (by rw[if_neg h]))
end
theorem ziY (n:zF)(hn:n.small)(before after:List ye)(flows:List zf)(hfl:flows.length≤281474976710656)(s:zc)(hc:s.cells.length≤281474976710656)(done:List zJ)(c:zJ)(hb:before.length≤16)(ha:after.length≤16)(hbx:∀x∈before,x.routes.length≤2∧∀r∈x.routes,r.length≤9)(hax:∀x∈after,x.routes.length≤2∧∀r∈x.routes,r.length≤9) :
  zb Tryz.prog LW 53 [.cptr (jl n before after flows s done) 0,c.av] (.int .i64 (if flows.all (vy n before after s)=true then 0 else 15)):=by
 refine zb.intro mixed [10006] (nt:=54) Tryz.func53 rfl rfl (by simp) ?_
 refine Wk ?_
 refine zt.run mixed [10006] (fun k:Nat=>k≤flows.length∧∀(j:Nat) f,j < k→flows[j]? = some f→vy n before after s f=true) (fun k=>[(0,.cptr (jl n before after flows s done) 0),(15,zN flows),(16,.int .i64 flows.length),(17,.int .i64 k)]) (fun _=>St.none) (fun k=>flows.length-k) 0 ⟨by simp,by simp⟩ ?_ ?_
 ·refine fN ?_<;>repeat' (first|exact fQ|refine And.intro ?_ ?_|exact za.int (by simp)|exact y8.nil _)
 rintro k ⟨hk,hinv⟩
 by_cases hkt:k < flows.length
 rotate_left
 ·have hkn:k=flows.length:=by omega
  subst hkn
  have gk:decide ((flows.length:Int) < (flows.length:Int))=false:=decide_eq_false (by omega)
  have hall:flows.all (vy n before after s)=true:=List.all_eq_true.2 fun f hf=>by
   obtain⟨j,hj⟩:=List.getElem?_of_mem hf
   exact hinv j f (List.getElem?_eq_some_iff.1 hj).1 hj
  repeat((conv=>whnf);first|refine sT ?_|rw[gk])
  try(conv=>whnf)
  exact ze.mk rfl (za.int (by rw[if_pos hall]))
 obtain⟨f,hgf⟩:=zr hkt
 have hmf:=zk (f:=zf.av) hgf
 have gk:decide ((k:Int) < (flows.length:Int))=true:=decide_eq_true (by omega)
 have hst:=zeu LW n before after flows s done f.id hb ha (fun x hx=>(hbx x hx).1) (fun x hx=>(hax x hx).1)
 have hkf:=zir (n:=n) (before:=before) (after:=after) (s:=s) (f:=f)
 have hno:vy n before after s f=false→flows.all (vy n before after s)=false:=fun h=>List.all_eq_false.2 ⟨f,List.mem_of_getElem? hgf,by simp[h]⟩
 have nxt:vy n before after s f=true→∀(j:Nat) y,j < k+1→flows[j]? = some y→vy n before after s y=true:=fun h j y hj hy=>by
  rcases Nat.lt_succ_iff_lt_or_eq.1 hj with h'|rfl
  ·exact hinv j y h' hy
  ·rw[hgf]at hy;injection hy with hy;subst hy;exact h
 obtain⟨rs,hrs⟩:∃rs,rs=(getD before f.id).routes++(getD after f.id).routes:=⟨_,rfl⟩
 have hrl:rs.length≤4∧∀r∈rs,r.length≤9:=by
  have one:∀(q:List ye),(∀x∈q,x.routes.length≤2∧∀r∈x.routes,r.length≤9)→(getD q f.id).routes.length≤2∧∀r∈(getD q f.id).routes,r.length≤9:=fun q hq=>by
   unfold getD
   cases hg:yx q f.id with
   | none=>simp[zih]
   | some x=>exact hq x (zY hg).1
  have h1:=one before hbx
  have h2:=one after hax
  rw[hrs]
  refine⟨by rw[List.length_append];omega,fun r hr=>?_⟩
  rcases List.mem_append.1 hr with h|h
  ·exact h1.2 r h
  ·exact h2.2 r h
 rw[←hrs]at hst hkf
 cases hb1:((yx before f.id).isSome&&(yx after f.id).isSome) with
 | false=>
  rw[hb1]at hst hkf
  have hkt2:vy n before after s f=true:=by rw[hkf];rfl
  repeat((conv=>whnf);first|refine sJ ?_|refine aI (by first|exact trivial|exact zh hkt|kernel_rfl) ?_|rw[gk]|rw[hmf])
  try(conv=>whnf)
  refine cD (hst) ?_
  refine Wk ?_
  refine⟨k+1,⟨by omega,nxt hkt2⟩,by omega,?_⟩
  refine fN ?_<;>repeat' (first|exact fQ|refine And.intro ?_ ?_|exact za.int (zu hkt (by omega))|exact y8.nil _)
 | true=>
  rw[hb1]at hst hkf
  repeat((conv=>whnf);first|refine sJ ?_|refine aI (by first|exact trivial|exact zh hkt|kernel_rfl) ?_|rw[gk]|rw[hmf])
  try(conv=>whnf)
  refine cD (hst) ?_
  refine Wk ?_
  refine zW.ym mixed (fun X=>X.bx[0]? = some (.cells f.av.cells 46)) [0,1,2,3,4,5,6,7,8,9,10,11,12,13] 2 rfl rfl (by decide) rfl rfl ?_
  iterate 10
   conv=>whnf
   apply vA
   ·rintro S' K' hI hh
    repeat((conv=>whnf);first|refine sT ?_|erw [hI])
    try(conv=>whnf)
    exact hh
  conv=>whnf
  apply vA
  ·rintro S' K' hI hh
   refine Wk ?_
   refine cD (zhH n s f rs hn hc (fun r hr=>by have:=hrl.2 r hr;omega) (by omega)) ?_
   exact hh
  iterate 3
   conv=>whnf
   apply vA
   ·rintro S' K' hI hh
    refine Wk ?_
    exact hh
  conv=>whnf
  repeat' ((conv=>whnf);first|exact trivial|refine sJ ?_|refine aI (by first|exact trivial|exact Or.inr rfl|exact Or.inl rfl|kernel_rfl) ?_|refine And.intro ?_ ?_ )
  all_goals(conv=>whnf)
  by_cases h1:(xP n s f rs).2=0
  ·by_cases h2:(xP n s f rs).1≤f.dead
   ·have g1:((xP n s f rs).2 != 0)=false:=by simpa using h1
    have g2:decide (f.dead < (xP n s f rs).1)=false:=decide_eq_false (by omega)
    have hkt2:vy n before after s f=true:=by rw[hkf];simp[h1,h2]
    repeat((conv=>whnf);first|refine sT ?_|rw[g1]|rw[g2])
    try(conv=>whnf)
    refine⟨k+1,⟨by omega,nxt hkt2⟩,by omega,?_⟩
    refine fN ?_<;>repeat' (first|exact fQ|refine And.intro ?_ ?_|exact za.int (zu hkt (by omega))|exact y8.nil _)
   ·have g1:((xP n s f rs).2 != 0)=false:=by simpa using h1
    have g2:decide (f.dead < (xP n s f rs).1)=true:=decide_eq_true (by omega)
    have hkt2:vy n before after s f=false:=by rw[hkf];simp[h1,h2]
    repeat((conv=>whnf);first|refine sT ?_|rw[g1]|rw[g2])
    try(conv=>whnf)
    exact ze.mk rfl (za.int (by rw[if_neg (by rw[hno hkt2];decide)]))
  ·have g1:((xP n s f rs).2 != 0)=true:=by simpa using h1
   have hkt2:vy n before after s f=false:=by rw[hkf];simp[h1]
   repeat((conv=>whnf);first|refine sT ?_|rw[g1])
   try(conv=>whnf)
   exact ze.mk rfl (za.int (by rw[if_neg (by rw[hno hkt2];decide)]))
theorem zew (L:World→Prop)(n:zF)(before after:List ye)(flows:List zf)(s:zc)(done:List zJ)(x:zg)(ha:after.length≤16):zb Tryz.prog L 116 [x.av,.cptr (.agg [.cptr (jl n before after flows s done) 0]) 0] (.bool (!(yx after x.flow).isSome)):=by
 refine zb.intro mixed [10001] (nt:=18) Tryz.func116 rfl rfl (by simp) ?_
 refine Wk ?_
 refine zW.ym mixed (fun X=>X.bx[0]? = some (.cells x.av.cells 40)) [0,1,2,3,4,5,6,7,8,9] 3 rfl rfl (by decide) rfl rfl ?_
 iterate 6
  conv=>whnf
  apply vA
  ·rintro S' K' hI hh
   repeat((conv=>whnf);first|refine sT ?_|erw [hI])
   try(conv=>whnf)
   exact hh
 conv=>whnf
 apply vA
 ·rintro S' K' hI hh
  refine Wk ?_
  refine cD (kD L after x.flow (by omega)) ?_
  exact hh
 iterate 3
  conv=>whnf
  apply vA
  ·rintro S' K' hI hh
   refine Wk ?_
   exact hh
 conv=>whnf
 repeat' ((conv=>whnf);first|exact trivial|refine sJ ?_|refine aI (by first|exact trivial|exact Or.inr rfl|exact Or.inl rfl|kernel_rfl) ?_|refine And.intro ?_ ?_ )
 all_goals(conv=>whnf)
 exact ze.mk rfl (za.bool rfl)
def JO (n:zF)(after:List ye)(s:zc):Int:=if YA n after s=true then 0 else 18
theorem zi0 (n:zF)(hn:n.small)(before after:List ye)(flows:List zf)(s:zc)(hc:s.cells.length≤1048576)(done:List zJ)(ha:after.length≤16)(hx:∀x∈after,x.small) :
  zb Tryz.prog LW 54 [.cptr (jl n before after flows s done) 0] (.int .i64 (JO n after s)):=by
 refine zb.intro mixed [10003] (nt:=33) Tryz.func54 rfl rfl (by simp) ?_
 have hmk:=zdH n hn after (by omega) hx (jc after s) (by have:=List.length_filter_le (fun c:zg=>(yx after c.flow).isSome) s.cells;show(s.cells.filter _).length≤_;omega)
 by_cases hne:s.cells=[]
 ·obtain⟨len,offs,cells⟩:=s
  simp only at hne
  subst hne
  refine Wk ?_
  refine cD (kE LW) ?_
  refine Wk ?_
  refine zo.inl rfl (zQ.intro mixed [] (nt:=42) Tryz.func115 rfl rfl (by simp) ?_)
  refine Wk ?_
  refine zo.box rfl (ql LW [] (fun c=>!(yx after c.flow).isSome) 116 [.cptr (.agg [.cptr (jl n before after flows ⟨len,offs,[]⟩ done) 0]) 0] (by simp) rfl rfl (fun c _=>zew LW n before after flows _ done c ha)) (Y0 rfl (Yd rfl)) rfl ?_
  refine Wk ?_
  refine zW.ym mixed (fun X=>X.bx[0]? = some (.cells [.cptr (jl n before after flows ⟨len,offs,[]⟩ done) 0] 98)∧X.bx[1]? = some (.cells [.int .i64 len,.int .i64 offs,.sl false []] 30)) [0,1,2,3,4,5,6,7,8,9,10,11,12,13] 3 rfl rfl (by decide) rfl ⟨rfl,rfl⟩ ?_
  iterate 9
   conv=>whnf
   apply vA
   ·rintro S' K' hI hh
    repeat((conv=>whnf);first|refine sT ?_|erw [hI.1]|erw [hI.2])
    try(conv=>whnf)
    exact hh
  conv=>whnf
  apply vA
  ·rintro S' K' hI hh
   refine Wk ?_
   refine cD (hmk) ?_
   exact hh
  iterate 4
   conv=>whnf
   apply vA
   ·rintro S' K' hI hh
    refine Wk ?_
    exact hh
  conv=>whnf
  repeat' ((conv=>whnf);first|exact trivial|refine sJ ?_|refine aI (by first|exact trivial|exact Or.inr ⟨rfl,rfl⟩|exact Or.inr ⟨rfl,rfl,rfl⟩|exact Or.inl rfl|kernel_rfl) ?_|refine And.intro ?_ ?_ )
  all_goals(conv=>whnf)
  by_cases h:(xh n after (jc after (⟨len,offs,[]⟩:zc))).2.2=0
  ·have g:((xh n after (jc after (⟨len,offs,[]⟩:zc))).2.2 != 0)=false:=by simpa using h
   repeat((conv=>whnf);first|refine sT ?_|rw[g])
   try(conv=>whnf)
   exact ze.mk rfl (za.int (by unfold JO YA;rw[if_pos (by simpa using h)]))
  ·have g:((xh n after (jc after (⟨len,offs,[]⟩:zc))).2.2 != 0)=true:=by simpa using h
   repeat((conv=>whnf);first|refine sT ?_|rw[g])
   try(conv=>whnf)
   exact ze.mk rfl (za.int (by unfold JO YA;rw[if_neg (by simpa using h)]))
 ·refine Wk ?_
  refine zo.fresh rfl (jo LW s.cells hne (by omega)) (by rfl) (z8.els _) (z8.scal (fun _=>rfl) _) (fun h=>absurd (by simpa using h) hne) (fun d=>?_)
  refine Wk ?_
  rw[List.length_map]
  refine zo.inl rfl (XB LW _ _ _ _ _ s.cells (fun c=>!(yx after c.flow).isSome) _ [.ptr 0 0] [.cptr (.agg [.cptr (jl n before after flows s done) 0]) 0] d (by omega) rfl rfl ⟨?_,?_,?_⟩ (fun _ _ _ _=>rfl) (fun c _=>zew LW n before after flows s done c ha) fun ex=>?_)
  ·exact⟨trivial,trivial⟩
  ·exact⟨trivial,trivial,yz (es:=[zy s.cells]) rfl⟩
  ·exact⟨(by decide:0 < 3),trivial⟩
  have hfil:(s.cells.filter fun c=>!(!(yx after c.flow).isSome))=(jc after s).cells:=by unfold jc;simp only[Bool.not_not]
  rw[hfil]
  refine Wk ?_
  refine zW.ym mixed (fun X=>X.bx[0]? = some (.cells [.cptr (jl n before after flows s done) 0] 98)∧X.bx[1]? = some (.cells [.int .i64 s.len,.int .i64 s.offs,.vsl 2 0 (jc after s).cells.length 5] 30)∧X.bx[2]? = some (.cells (zd ((jc after s).cells.map zg.av)++ex) 40)) [0,1,2,3,4,5,6,7,8,9,10,11,12,13] 3 rfl rfl (by decide) rfl ⟨rfl,rfl,rfl⟩ ?_
  iterate 9
   conv=>whnf
   apply vA
   ·rintro S' K' hI hh
    repeat((conv=>whnf);first|refine sT ?_|erw [hI.1]|erw [hI.2.1])
    try(conv=>whnf)
    exact hh
  conv=>whnf
  apply vA
  ·rintro S' K' hI hh
   have e0:=z8.fzb hI.2.2 rfl
   refine Wk ?_
   refine zo.boxU rfl hmk (Y0 rfl (Y0 rfl (Y0 ?_ rfl))) ?_
   ·show Option.map AV.agg (wj S' [.int .i64 s.len,.int .i64 s.offs,.vsl 2 0 (jc after s).cells.length 5])=_
    rw[show wj S' [.int .i64 s.len,.int .i64 s.offs,.vsl 2 0 (jc after s).cells.length 5] = some [.int .i64 s.len,.int .i64 s.offs,.sl false ((jc after s).cells.map zg.av)] from Y0 rfl (Y0 rfl (Y0 e0 rfl))]
    rfl
   exact hh
  iterate 4
   conv=>whnf
   apply vA
   ·rintro S' K' hI hh
    refine Wk ?_
    exact hh
  conv=>whnf
  repeat' ((conv=>whnf);first|exact trivial|refine sJ ?_|refine aI (by first|exact trivial|exact Or.inr ⟨rfl,rfl⟩|exact Or.inr ⟨rfl,rfl,rfl⟩|exact Or.inl rfl|kernel_rfl) ?_|refine And.intro ?_ ?_ )
  all_goals(conv=>whnf)
  by_cases h:(xh n after (jc after s)).2.2=0
  ·have g:((xh n after (jc after s)).2.2 != 0)=false:=by simpa using h
   repeat((conv=>whnf);first|refine sT ?_|rw[g])
   try(conv=>whnf)
   exact ze.mk rfl (za.int (by unfold JO YA;rw[if_pos (by simpa using h)]))
  ·have g:((xh n after (jc after s)).2.2 != 0)=true:=by simpa using h
   repeat((conv=>whnf);first|refine sT ?_|rw[g])
   try(conv=>whnf)
   exact ze.mk rfl (za.int (by unfold JO YA;rw[if_neg (by simpa using h)]))
end HM
