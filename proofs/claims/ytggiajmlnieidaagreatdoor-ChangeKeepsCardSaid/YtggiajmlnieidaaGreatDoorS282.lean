/- Changes: the law ChangeKeeps. -/
import Derived.Test.YtggiajmlnieidaaGreatDoorS279
import Derived.Test.YtggiajmlnieidaaGreatDoorS93
import Derived.Test.YtggiajmlnieidaaGreatDoorS69
import Derived.Test.YtggiajmlnieidaaGreatDoorS110
import Derived.Test.YtggiajmlnieidaaGreatDoorS170
import Derived.Test.YtggiajmlnieidaaGreatDoorS70
import Derived.Test.YtggiajmlnieidaaGreatDoorS259
import Derived.Test.YtggiajmlnieidaaGreatDoorS122
import Derived.Test.YtggiajmlnieidaaGreatDoorDe
import Derived.Test.YtggiajmlnieidaaGreatDoorDb
import Derived.Test.YtggiajmlnieidaaGreatDoorFh
set_option maxHeartbeats 64000000
set_option maxRecDepth 100000
namespace HM
open Go Go.RowKit Go.Proofs
theorem zbr {n:zF}{a b:Int}{r:List Int}(h:vC n a b r=0):r.length≤9:=by
 unfold vC at h
 split at h
 ·cases h
 split at h
 ·cases h
 ·omega
theorem zbt {n:zF}{x:ye}(h:zeJ n x):x.routes.length≤1000∧∀r∈x.routes,r.length≤1000:=
 ⟨by have:=h.len.2;omega,fun r hr=>by have:=zbr (h.route r hr);omega⟩
theorem zhx (c:zJ):zb Tryz.prog LW 33 [c.av] (.bool (decide (100 < c.slot))):=by
 refine zb.intro mixed [] (nt:=6) Tryz.func33 rfl rfl (by simp) ?_
 refine Wk ?_
 exact ze.mk rfl (za.bool rfl)
theorem zfQ (r:List Int)(b:xL)(hr:r.length≤281474976710656):zb Tryz.prog LW 42 [zp r,.cptr b.av 0] (.bool (zg5 r b)):=by
 refine zb.intro mixed [] (nt:=28) Tryz.func42 rfl rfl (by simp) ?_
 refine Wk ?_
 refine cD (XO LW r b.src hr) ?_
 obtain⟨i,hi⟩:∃i,i=zfo r b.src:=⟨_,rfl⟩
 rw[show wu (fun y=>decide (b.src=y)) r=i from hi.symm]
 unfold zg5
 rw[←hi]
 have hib:-1≤i∧i < r.length:=by
  by_cases h:i=-1
  ·omega
  ·rw[hi]at h ⊢
   obtain⟨k,x,e1,e2,_⟩:=vV (p:=fun y=>decide (b.src=y)) (l:=r) h
   have:=(List.getElem?_eq_some_iff.1 e2).1
   have e3:zfo r b.src=k:=e1
   omega
 have w1:IntKind.i64.wrap (i+1)=i+1:=xw (by omega) (by omega)
 refine Wk ?_
 by_cases h2:0≤i
 ·rw[decide_eq_true h2]
  repeat((conv=>whnf);first|refine sT ?_|rw[w1])
  try(conv=>whnf)
  rw[List.length_map]
  by_cases h3:i+1 < (r.length:Int)
  ·rw[decide_eq_true h3]
   obtain⟨j,hj⟩:∃j:Nat,i+1=j:=⟨(i+1).toNat,by omega⟩
   rw[hj]at h3 w1
   have hjl:j < r.length:=by omega
   obtain⟨y,hgy⟩:=zr hjl
   have hmy:=zk (f:=zM) hgy
   repeat((conv=>whnf);first|refine sJ ?_|refine aI (by first|exact zh hjl|kernel_rfl) ?_|rw[w1]|rw[hj]|rw[hmy])
   try(conv=>whnf)
   exact ze.mk rfl (za.bool (by rw[Int.toNat_natCast,List.getD_eq_getElem?_getD,hgy];rfl))
  ·rw[decide_eq_false h3]
   refine Wk ?_
   exact ze.mk rfl (za.bool rfl)
 ·rw[decide_eq_false h2]
  refine Wk ?_
  exact ze.mk rfl (za.bool rfl)
theorem zhw (b:xL)(x:ye)(k:Int)(rs:List (List Int))(hr:rs.length≤281474976710656)(hrs:∀r∈rs,r.length≤281474976710656):zb Tryz.prog LW 40 [b.av,.cptr x.av 0,.cptr (.agg [.int .i64 k]) 0,.cptr (.agg [zZ rs]) 0] (.bool (kF x.flow.id k rs b)):=by
 refine zb.intro mixed [] (nt:=23) Tryz.func40 rfl rfl (by simp) ?_
 unfold kF
 cases h1:(b.flow==x.flow.id) with
 | false=>
  repeat((conv=>whnf);first|refine sT ?_|rw[h1])
  try(conv=>whnf)
  exact ze.mk rfl (za.bool rfl)
 | true=>
 cases h2:(b.frame==k) with
 | false=>
  repeat((conv=>whnf);first|refine sT ?_|rw[h1]|rw[h2])
  try(conv=>whnf)
  exact ze.mk rfl (za.bool rfl)
 | true=>
 repeat((conv=>whnf);first|refine sT ?_|rw[h1]|rw[h2])
 try(conv=>whnf)
 refine cB (w8 LW rs (fun r=>zg5 r b) 42 [.cptr b.av 0] hr rfl rfl (fun r hm=>zfQ r b (hrs r hm))) ?_
 repeat((conv=>whnf);first|refine sT ?_ )
 try(conv=>whnf)
 exact ze.mk rfl (za.bool rfl)
theorem zdo {before after:List ye}{l:List zJ}{id slot:Int}{x y:ye}(hq:wz before after id=some (x,y))(hx:x.routes.length≤1000∧∀r∈x.routes,r.length≤1000)(hy:y.routes.length≤1000∧∀r∈y.routes,r.length≤1000):(qR before after l id slot).length≤2000∧∀r∈qR before after l id slot,r.length≤1000:=by
 unfold qR
 rw[hq]
 simp only
 split
 ·exact⟨by omega,hx.2⟩
 split
 ·exact⟨by omega,hy.2⟩
 ·unfold xa
  refine⟨?_,fun r hr=>?_⟩
  ·have:=List.length_filter_le (fun r=>!(x.routes.any fun z=>decide (z=r))) y.routes
   rw[List.length_append];omega
  ·rcases List.mem_append.1 hr with hr|hr
   ·exact hx.2 r hr
   ·exact hy.2 r (List.mem_filter.1 hr).1
theorem zco {l:List zf}{s:zc}{cs:List zJ}{x:List zD}{slots:Int}:(yy l s cs x slots).1.atts.length≤2097152∧(yy l s cs x slots).1.dels.length≤2097152:=by
 by_cases h:(yy l s cs x slots).2=0
 ·obtain⟨h1,h2,h3⟩:=KH h
  obtain⟨r1,r2,r3,r4,r5⟩:=We h1
  have:=Kb l (fun n:Nat=>jd s cs (n:Int)) x (m:=512) (fun n=>(xC (zbI r2 cs n)).2.1) slots.toNat
  rw[h3]
  simp only
  omega
 ·rw[zdD h];simp
def kpS (n:zF)(s:zc)(R:wK):List Ob:=[.cells [.int .i64 n.nodes,zZ n.power,.int .i64 n.noise,.int .i64 n.thr,wl n.links,zp n.margin] 26,.cells [.int .i64 s.len,.int .i64 s.offs,zy s.cells] 30,.cells R.av.cells 74]
theorem JQ (n:zF)(before after:List ye)(s:zc)(l:List zJ)(x:List zD)(hn:n.small)(hq1:before.length≤281474976710656)(hx1:∀x∈before,x.small)(hq2:after.length≤281474976710656)(hx2:∀x∈after,x.small)(hl:l.length≤281474976710656)(hxo:∀r∈x,r.outs.length≤281474976710656)(hxl:x.length≤281474976710656) :
  zb Tryz.prog LW 8 [n.av,zH before,zH after,s.av,zT l,xn x] (.bool true):=by
 refine zb.intro mixed [9] (nt:=161) Tryz.func8 rfl rfl (by simp) ?_
 refine Wk ?_
 refine cD (zfS) ?_
 refine Wk ?_
 refine cD (zi7 LW n hn before after hq1 hq2 hx1 hx2 s l) ?_
 cases g:jU n before after s l with
 | false=>
  repeat((conv=>whnf);first|refine sT ?_ )
  try(conv=>whnf)
  exact ze.mk rfl (za.bool rfl)
 | true=>
 obtain⟨f1,f2,f3,f4⟩:=zfz g
 cases g2:decide ((40:Int) < (x.length:Int)) with
 | true=>
  repeat((conv=>whnf);first|refine sT ?_|rw[List.length_map]|rw[g2])
  try(conv=>whnf)
  exact ze.mk rfl (za.bool rfl)
 | false=>
 repeat((conv=>whnf);first|refine sT ?_|rw[List.length_map]|rw[g2])
 try(conv=>whnf)
 refine cD (zq LW l (fun c=>decide (100 < c.slot)) 33 [] hl rfl rfl (fun x _=>zhx x)) ?_
 cases g3:l.any fun c=>decide (100 < c.slot) with
 | true=>
  repeat((conv=>whnf);first|refine sT ?_ )
  try(conv=>whnf)
  exact ze.mk rfl (za.bool rfl)
 | false=>
 repeat((conv=>whnf);first|refine sT ?_ )
 try(conv=>whnf)
 refine cD (Q7 n hn before after (by omega) (by omega) hx1 hx2 s (by omega) l hl) ?_
 by_cases hck:(xR n before after s l).2≠0
 ·have gc:((xR n before after s l).2 != 0)=true:=by simpa using hck
  repeat((conv=>whnf);first|refine sT ?_|rw[gc])
  try(conv=>whnf)
  exact ze.mk rfl (za.bool rfl)
 have gc:((xR n before after s l).2 != 0)=false:=by simpa using hck
 have hk:=ckOk (n:=n) (before:=before) (after:=after) (s:=s) (l:=l) (by simpa using hck)
 have hW:=qB hk.whole
 have hbo:=(xu hW.rb).2.2.1
 have hao:=(xu hW.ra).2.2.1
 have hbm:(yN before after).length≤281474976710656:=by
  unfold yN qf
  refine Nat.le_trans (List.length_filterMap_le _ _) ?_
  rw[List.length_range];omega
 repeat((conv=>whnf);first|refine sT ?_|rw[gc])
 try(conv=>whnf)
 obtain⟨R,hR⟩:∃R,R=(yy (yN before after) s l x 120).1:=⟨_,rfl⟩
 obtain⟨e,he⟩:∃e,e=(yy (yN before after) s l x 120).2:=⟨_,rfl⟩
 have hRl:=zco (l:=yN before after) (s:=s) (cs:=l) (x:=x) (slots:=120)
 rw[←hR]at hRl
 refine yF.Yg mixed [] [(1,zH before),(2,zH after),(4,zT l),(6,.ptr 0 0),(15,.ptr 2 0),(16,.int .i64 e)] ⟨kpS n s R,[],0,0,fun _=>0⟩ (zE (ct:=[10008]) mixed _ _ _ _ ?_) ?_
 ·refine Wk ?_
  refine zW.ym mixed (fun X=>X.bx[1]? = some (.cells s.av.cells 30)) [0,1,2,3,4,5,6,7,8,9] 3 rfl rfl (by decide) rfl rfl ?_
  iterate 2
   conv=>whnf
   apply vA
   ·rintro S' K' hI hh
    refine Wk ?_
    exact hh
  conv=>whnf
  apply vA
  ·rintro S' K' hI hh
   refine Wk ?_
   refine cD (zhG LW before after (by omega) (by omega)) ?_
   exact hh
  iterate 3
   conv=>whnf
   apply vA
   ·rintro S' K' hI hh
    repeat((conv=>whnf);first|refine sT ?_|erw [hI])
    try(conv=>whnf)
    exact hh
  conv=>whnf
  apply vA
  ·rintro S' K' hI hh
   refine Wk ?_
   refine cD (zcF (yN before after) s l x 120 hbm hl hxo hxl) ?_
   rw[←hR,←he]
   exact hh
  iterate 3
   conv=>whnf
   apply vA
   ·rintro S' K' hI hh
    refine Wk ?_
    exact hh
  conv=>whnf
  repeat' ((conv=>whnf);first|exact trivial|refine sJ ?_|refine aI (by first|exact trivial|exact Or.inr rfl|exact Or.inl rfl|kernel_rfl) ?_|refine And.intro ?_ ?_ )
  all_goals(conv=>whnf)
  all_goals
   refine fN ?_<;>repeat' (first|exact fQ|refine And.intro ?_ ?_|exact zn.zj _)
 by_cases hR2:e≠0
 ·have gR:(e != 0)=true:=by simpa using hR2
  repeat((conv=>whnf);first|refine sT ?_|rw[gR])
  try(conv=>whnf)
  exact ze.mk rfl (za.bool rfl)
 have gR:(e != 0)=false:=by simpa using hR2
 obtain⟨hrdy,_,hRp⟩:=KH (l:=yN before after) (s:=s) (cs:=l) (x:=x) (slots:=120) (by omega)
 have hRe:R=yf (yN before after) (fun t=>jd s l (t:Int)) x 120:=by rw[hR,hRp];rfl
 obtain⟨Br,hBr⟩:∃B,B=j0 n R:=⟨_,rfl⟩
 have hBl:Br.length≤281474976710656:=by
  rw[hBr,j0,if_pos hW.n0]
  have:=zby n R.atts R.atts.length
  omega
 repeat((conv=>whnf);first|refine sT ?_|rw[gR])
 try(conv=>whnf)
 refine cD (zdJ LW n hn R (by omega)) ?_
 rw[←hBr]
 repeat((conv=>whnf);first|refine sT ?_ )
 try(conv=>whnf)
 refine zt.run mixed [] (fun (k:Nat)=>k≤before.length) (fun k=>[(1,zH before),(2,zH after),(4,zT l),(15,.ptr 2 0),(17,zaF Br),(75,zH before),(76,.int .i64 before.length),(77,.int .i64 k)]) (fun k=>⟨kpS n s R,[],0,0,fun _=>0⟩) (fun k=>before.length-k) 0 (by omega) ?_ ?_
 ·refine fN ?_<;>repeat' (first|exact fQ|refine And.intro ?_ ?_|exact zn.zj _|exact za.int (by simp))
 rintro k hkk
 by_cases hkl:k < before.length
 rotate_left
 ·have gk:decide ((k:Int) < (before.length:Int))=false:=decide_eq_false (by omega)
  repeat((conv=>whnf);first|refine sT ?_|rw[gk])
  try(conv=>whnf)
  exact ze.mk rfl (za.bool rfl)
 obtain⟨q,hgq⟩:=zr hkl
 have hmq:=zk (f:=ye.av) hgq
 have hqm:=List.mem_of_getElem? hgq
 have gk:decide ((k:Int) < (before.length:Int))=true:=decide_eq_true (by omega)
 repeat((conv=>whnf);first|refine sJ ?_|refine aI (by first|exact trivial|exact zh hkl|kernel_rfl) ?_|rw[gk]|rw[hmq])
 try(conv=>whnf)
 refine cD (zfT LW before after q.flow.id (by omega) (by omega)) ?_
 cases hst:jH before after q.flow.id with
 | false=>
  repeat((conv=>whnf);first|refine sT ?_ )
  try(conv=>whnf)
  refine⟨k+1,by omega,by omega,?_⟩
  refine fN ?_<;>repeat' (first|exact fQ|refine And.intro ?_ ?_|exact zn.zj _|exact za.int (zu hkl (by omega)))
 | true=>
 rw[zbh hW]at hst
 obtain⟨⟨q',y⟩,hq0⟩:=Option.isSome_iff_exists.1 hst
 obtain⟨g4,g5⟩:=vB hq0
 have hqq:q'=q:=by
  have:=Zq (qK hW.rb).sorted hqm
  rw[this]at g4;exact(Option.some.inj g4).symm
 subst hqq
 have hym:=(zY g5).1
 have hfe:=hW.same q' hqm y g5
 have hqo:=zbt (hbo q' hqm)
 have hyo:=zbt (hao y hym)
 obtain⟨n2,n32⟩:=ku (xu hW.rb).2.2.2
 have hfl:yo 32 q'.flow=0:=zcd (hbo q' hqm).flow n32
 have hff:=yB hfl
 obtain⟨M,hM⟩:∃M,M=120-q'.flow.period+1:=⟨_,rfl⟩
 have w1:IntKind.i64.wrap (120-q'.flow.period)=120-q'.flow.period:=xw (by omega) (by omega)
 have w2:IntKind.i64.wrap (120-q'.flow.period+1)=120-q'.flow.period+1:=xw (by omega) (by omega)
 have hmx:(if 120-q'.flow.period+1 > 0 then 120-q'.flow.period+1 else 0)=max 0 M:=by rw[hM];split<;>omega
 repeat((conv=>whnf);first|refine sT ?_|rw[w1]|rw[w2]|rw[hmx])
 try(conv=>whnf)
 refine cD (zfV LW q'.flow (max 0 M) hfl (by omega) (by omega)) ?_
 obtain⟨m,hm⟩:∃m,m=Xu q'.flow (max 0 M):=⟨_,rfl⟩
 have hmM:=zbP (f:=q'.flow) (by omega) (by omega) (show 0≤max 0 M by omega)
 rw[←hm]at hmM ⊢
 repeat((conv=>whnf);first|refine sT ?_ )
 try(conv=>whnf)
 refine zt.run mixed [] (fun j:Nat=>j≤m) (fun j=>[(1,zH before),(2,zH after),(4,zT l),(15,.ptr 2 0),(17,zaF Br),(19,.ptr 3 0),(75,zH before),(76,.int .i64 before.length),(77,.int .i64 k),(102,zp (WO m)),(103,.int .i64 m),(104,.int .i64 j)]) (fun _=>⟨kpS n s R++[.cells (zea q') 49],[],0,0,fun _=>0⟩) (fun j=>m-j) 0 (by omega) ?_ ?_
 ·refine fN ?_<;>repeat' (first|exact fQ|refine And.intro ?_ ?_|exact zn.zj _|exact za.int (by simp[WO]))
 rintro j hj
 by_cases hjm:j < m
 rotate_left
 ·have gj:decide ((j:Int) < (m:Int))=false:=decide_eq_false (by omega)
  repeat((conv=>whnf);first|refine sT ?_|rw[gj])
  try(conv=>whnf)
  refine⟨k+1,by omega,by omega,?_⟩
  refine fN ?_<;>repeat' (first|exact fQ|refine And.intro ?_ ?_|exact zn.zj _|exact za.int (zu hkl (by omega)))
 have gj:decide ((j:Int) < (m:Int))=true:=decide_eq_true (by omega)
 have hgk:(WO m)[j]? = some (j:Int):=by simp[WO,hjm]
 have hmk:=zk (f:=zM) hgk
 have hul:j < (WO m).length:=by simp[WO,hjm]
 have hjj:IntKind.i64.wrap ((j:Int)+1)=((j+1:Nat):Int):=by rw[xw]<;>omega
 have hlt:=zbO (f:=q'.flow) (by omega) (M:=max 0 M) (k:=j) (by rw[←hm];exact hjm)
 have hk0:0≤(j:Int)*q'.flow.period:=Int.mul_nonneg (by omega) (by omega)
 obtain⟨first,hfi⟩:∃first,first=q'.flow.phase+(j:Int)*q'.flow.period:=⟨_,rfl⟩
 have hrel:=zij (f:=q'.flow) (frame:=(j:Int)) hfl (by omega) (by omega)
 have hwin:zc2 q'.flow (j:Int)=((first,first+q'.flow.period-1),0):=by unfold zc2;rw[hrel,if_neg (show ¬(0:Int)≠0 by decide),hfi]
 have hne:=zhc hk hq0 (slot:=first) (by omega) (by omega)
 obtain⟨r1,r2⟩:=zdo (l:=l) (slot:=first) hq0 hqo hyo
 have hlaw:=zfj hk hq0 x (N:=120) (k:=j) (by omega) (by omega)
 rw[←hRe,←hBr,←hfi]at hlaw
 obtain⟨rs,hrs⟩:∃rs,rs=qR before after l q'.flow.id first:=⟨_,rfl⟩
 rw[←hrs]at hne r1 r2 hlaw
 have grl:(((rs.map zp).length:Int)==0)=false:=by rw[List.length_map];cases rs with
  | nil=>exact absurd rfl hne
  | cons a b=>simp;omega
 repeat((conv=>whnf);first|refine sJ ?_|refine aI (by first|exact trivial|exact zh hul|kernel_rfl) ?_|rw[gj]|rw[hmk])
 try(conv=>whnf)
 refine cD (zhD LW q'.flow j) ?_
 rw[hwin]
 repeat((conv=>whnf);first|refine sT ?_ )
 try(conv=>whnf)
 refine cD (zfU before after (by omega) (by omega) l (by omega) q'.flow.id first (by omega) (by omega) hq0 hfe.symm (by omega) (by omega) hqo hyo) ?_
 rw[←hrs]
 repeat((conv=>whnf);first|refine sT ?_ )
 try(conv=>whnf)
 refine cB (XP LW Br (kF q'.flow.id j rs) 40 [.cptr q'.av 0,.cptr (.agg [.int .i64 j]) 0,.cptr (.agg [zZ rs]) 0] hBl rfl rfl (fun b hb=>zhw b q' j rs (by omega) (fun r hr=>by have:=r2 r hr;omega))) ?_
 repeat((conv=>whnf);first|refine sT ?_ )
 try(conv=>whnf)
 refine cD (zcD LW R q'.flow.id j (by omega)) ?_
 cases hbk:Br.any (kF q'.flow.id (j:Nat) rs) with
 | true=>
  repeat((conv=>whnf);first|refine sT ?_|rw[grl])
  try(conv=>whnf)
  refine⟨j+1,by omega,by omega,?_⟩
  refine fN ?_<;>repeat' (first|exact fQ|refine And.intro ?_ ?_|exact zn.zj _|exact za.int hjj)
 | false=>
  obtain⟨e1,e2,e3⟩:=hlaw hbk
  obtain⟨at_,hat⟩:∃a,a=(jB R q'.flow.id (j:Nat)).1:=⟨_,rfl⟩
  rw[←hat]at e2 e3 ⊢
  rw[e1]
  have v3:IntKind.i64.wrap (at_-first)=at_-first:=xw (by omega) (by omega)
  have v4:IntKind.i64.wrap (at_-first+1)=at_-first+1:=xw (by omega) (by omega)
  have v5:decide (q'.flow.dead < at_-first+1)=false:=decide_eq_false (by omega)
  repeat((conv=>whnf);first|refine sT ?_|rw[grl]|rw[v3]|rw[v4]|rw[v5])
  try(conv=>whnf)
  refine⟨j+1,by omega,by omega,?_⟩
  refine fN ?_<;>repeat' (first|exact fQ|refine And.intro ?_ ?_|exact zn.zj _|exact za.int hjj)
end HM
