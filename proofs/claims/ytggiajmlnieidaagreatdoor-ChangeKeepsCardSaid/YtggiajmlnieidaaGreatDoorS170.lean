/- Frames of a flow; breaches on the links of a route. -/
import Derived.Test.YtggiajmlnieidaaGreatDoorS31
import Derived.Test.YtggiajmlnieidaaGreatDoorS70
import Derived.Test.YtggiajmlnieidaaGreatDoorDc
import Derived.Test.YtggiajmlnieidaaGreatDoorS33
import Derived.Test.YtggiajmlnieidaaGreatDoorS69
import Derived.Test.YtggiajmlnieidaaGreatDoorDb
import Derived.Test.YtggiajmlnieidaaGreatDoorS1
import Derived.Test.YtggiajmlnieidaaGreatDoorDe
set_option maxHeartbeats 64000000
set_option maxRecDepth 100000
namespace HM
open Go Go.RowKit Go.Proofs
def K7 (l:List Int)(c:Nat):AV:=if l=[] then .nils else .own (l.map zM) c
def WO (k:Nat):List Int:=(List.range k).map fun i:Nat=>(i:Int)
theorem zba (k:Nat):WO (k+1)=WO k++[(k:Int)]:=by simp[WO,List.range_succ]
theorem KV (k:Nat):(WO k).length=k:=by simp[WO]
section
variable (L:World→Prop)
theorem Q5 (l:List xL)(p:xL→Bool)(g:Nat)(caps:List AV)(hl:l.length≤281474976710656)(hcb:zO Tryz.prog g=true)(hc:xo caps=some caps)(hp:∀x∈l,zb Tryz.prog L g (xL.av x :: caps) (.bool (p x))) :
  zb Tryz.prog L 104 [.sl false (l.map xL.av),.fn g caps] (.int .i64 (wu p l)):=by
 refine zb.intro mixed [] (nt:=19) Tryz.func104 rfl rfl (by simp) ?_
 refine Wk ?_
 refine zt.run mixed [] (fun (k:Nat)=>k≤l.length∧∀j x,j < k→l[j]? = some x→p x=false) (fun k=>[(0,.sl false (l.map xL.av)),(1,.fn g caps),(7,.int .i64 l.length),(8,.int .i64 k)]) (fun k=>St.none) (fun k=>l.length-k) 0 ⟨by simp,by simp⟩ ?_ ?_
 ·refine fN ?_<;>repeat' (first|exact fQ|refine And.intro ?_ ?_|exact za.int (by simp)|exact yz hc)
 rintro k ⟨hk,hinv⟩
 refine Wk ?_
 refine zx.mk (fun hb=>?_) (fun hb=>?_)<;>try rw[hb]
 ·have hlt:k < l.length:=by simpa using hb
  obtain⟨x,hgx⟩:=zr hlt
  have hmx:=zk (f:=xL.av) hgx
  repeat((conv=>whnf);first|refine sJ ?_|refine aI (by first|exact zh hlt|kernel_rfl) ?_|rw[hmx])
  try(conv=>whnf)
  refine zo.data hcb (hp x (List.mem_of_getElem? hgx)) (by show(match fz _,xo caps with|some a,some b=>some (a :: b)|_,_=>none)=_;rw[hc];rfl) ?_
  refine Wk ?_
  refine zx.mk (fun h2=>?_) (fun h2=>?_)<;>(try rw[h2])
  ·refine Wk ?_
   exact ze.mk rfl (za.int (yI hlt hinv hgx h2).symm)
  ·refine Wk ?_
   refine⟨k+1,⟨by omega,fun j y hj hy=>?_⟩,by omega,?_⟩
   ·rcases Nat.lt_succ_iff_lt_or_eq.1 hj with h|rfl
    ·exact hinv j y h hy
    ·rw[hgx]at hy;injection hy with hy;subst hy;exact h2
   ·refine fN ?_<;>repeat' (first|exact fQ|refine And.intro ?_ ?_|exact za.int (zu hlt hl)|exact yz hc)
 ·have hk':k=l.length:=by simp at hb;omega
  subst hk'
  refine Wk ?_
  exact ze.mk rfl (za.int (yY hinv).symm)
theorem XP (l:List xL)(p:xL→Bool)(g:Nat)(caps:List AV)(hl:l.length≤281474976710656)(hcb:zO Tryz.prog g=true)(hc:xo caps=some caps)(hp:∀x∈l,zb Tryz.prog L g (xL.av x :: caps) (.bool (p x))) :
  zb Tryz.prog L 39 [.sl false (l.map xL.av),.fn g caps] (.bool (l.any p)):=by
 refine zb.intro mixed [] (nt:=9) Tryz.func39 rfl rfl (by simp) ?_
 refine Wk ?_
 refine zo.data rfl (Q5 L l p g caps hl hcb hc hp) (by show(match fz _,xo [AV.fn g caps] with|some a,some b=>some (a :: b)|_,_=>none)=_;rw[show xo [AV.fn g caps] = some [AV.fn g caps] from by simp[fz,xo,hc]];rfl) ?_
 refine Wk ?_
 exact ze.mk rfl (za.bool (wU p l))
theorem zey (f:zf)(slot:Int)(hf:yo 32 f=0)(h0:0≤slot)(h1:slot≤4096):zb Tryz.prog L 94 [.int .i64 slot,.cptr f.av 0] (.int .i64 ((max (slot-f.phase) 0+f.period-1) / f.period)):=by
 obtain⟨q1,q2,q3,q4,q5,q6,q7,q8,q9,q10,q11,q12,q13⟩:=yB hf
 obtain⟨X,hX⟩:∃X,X=max (slot-f.phase) 0:=⟨_,rfl⟩
 have w1:IntKind.i64.wrap (slot-f.phase)=slot-f.phase:=xw (by omega) (by omega)
 have w2:IntKind.i64.wrap (X+f.period)=X+f.period:=xw (by omega) (by omega)
 have w3:IntKind.i64.wrap (X+f.period-1)=X+f.period-1:=xw (by omega) (by omega)
 have hq:(X+f.period-1).tdiv f.period=(X+f.period-1) / f.period:=Int.tdiv_eq_ediv_of_nonneg (by omega)
 have hb:(X+f.period-1) / f.period≤X+f.period-1:=Int.ediv_le_self _ (by omega)
 have hb0:0≤(X+f.period-1) / f.period:=Int.ediv_nonneg (by omega) (by omega)
 have w4:IntKind.i64.wrap ((X+f.period-1).tdiv f.period)=(X+f.period-1) / f.period:=by rw[hq,xw (by omega) (by omega)]
 refine zb.intro mixed [] (nt:=16) Tryz.func94 rfl rfl (by simp) ?_
 repeat((conv=>whnf);first|refine sJ ?_|refine aI (by first|exact(show f.period≠0 by omega)|kernel_rfl) ?_|rw[w1])
 try(conv=>whnf)
 have hmx:(if 0 > slot-f.phase then 0 else slot-f.phase)=max (slot-f.phase) 0:=by split<;>omega
 exact ze.mk rfl (za.int (by rw[hmx,←hX,w2,w3,w4]))
theorem zfV (f:zf)(M:Int)(hf:yo 32 f=0)(h0:0≤M)(h1:M≤512):zb Tryz.prog L 36 [f.av,.int .i64 0,.int .i64 M] (.tup [zp (WO (Xu f M)),.int .i64 0]):=by
 obtain⟨q1,q2,q3,q4,q5,q6,q7,q8,q9,q10,q11,q12,q13⟩:=yB hf
 have hm:=zbP q7 q9 h0
 have e0:(max ((0:Int)-f.phase) 0+f.period-1) / f.period=0:=Int.ediv_eq_zero_of_lt (by omega) (by omega)
 have e1:(max (M-f.phase) 0+f.period-1) / f.period=(Xu f M:Nat):=by
  have:0≤(max (M-f.phase) 0+f.period-1) / f.period:=Int.ediv_nonneg (by omega) (by omega)
  unfold Xu;omega
 obtain⟨m,hmd⟩:∃m,m=Xu f M:=⟨_,rfl⟩
 rw[←hmd]at e1 hm ⊢
 refine zb.intro mixed [1] (nt:=50) Tryz.func36 rfl rfl (by simp) ?_
 refine Wk ?_
 refine yF.sem mixed [] ?_
 refine Wk ?_
 refine zW.za5 0 rfl rfl ?_
 refine zE (ct:=[]) mixed _ _ _ _ ?_
 refine Wk ?_
 refine cD (zaK L f) ?_
 rw[hf]
 refine Wk ?_
 rw[decide_eq_false (show ¬M < 0 by omega)]
 refine Wk ?_
 rw[decide_eq_false (show ¬(1099511627776:Int) < M by omega)]
 refine Wk ?_
 refine cD (zey L f 0 hf (by omega) (by omega)) ?_
 rw[e0]
 refine Wk ?_
 refine cD (zey L f M hf h0 (by omega)) ?_
 rw[e1]
 have w0:IntKind.i64.wrap ((m:Int)-0)=(m:Int):=by rw[xw]<;>omega
 repeat((conv=>whnf);first|refine sT ?_|rw[w0])
 try(conv=>whnf)
 rw[decide_eq_false (show ¬(1024:Int) < (m:Int) by omega)]
 refine Wk ?_
 refine zt.run mixed [] (fun s:Nat×Nat×yC=>s.1≤m∧(s.1≠0→s.2.2[s.2.1]? = some (s.1,1))) (fun s=>[(9,.int .i64 0),(11,K7 (WO s.1) s.2.1),(38,.int .i64 m),(39,.int .i64 s.1)]) (fun s=>⟨[],s.2.2,0,0,fun _=>3⟩) (fun s=>m-s.1) (0,0,[]) ⟨by simp,fun h=>absurd rfl h⟩ ?_ ?_
 ·refine fN ?_<;>repeat' (first|exact fQ|refine And.intro ?_ ?_|exact y8.nil _|exact yh.zj _|exact zn.zj _|exact za.int (by simp))
 rintro⟨k,c,fr⟩ ⟨hk,hfr⟩
 dsimp only at hk hfr ⊢
 have hokk:∀kk,(K7 (WO k) c).okk kk fr.length:=fun kk=>by
  unfold K7
  split
  ·trivial
  ·rename_i h
   exact(List.getElem?_eq_some_iff.1 (hfr fun h0=>h (by subst h0;rfl))).1
 refine Wk ?_
 refine zx.mk (fun hb=>?_) (fun hb=>?_)<;>try rw[hb]
 ·have hkm:k < m:=by simpa using hb
  have wk:IntKind.i64.wrap ((0:Int)+(k:Int))=(k:Int):=by rw[xw]<;>omega
  have hkk:IntKind.i64.wrap ((k:Int)+1)=((k+1:Nat):Int):=by rw[xw]<;>omega
  by_cases hk0:k=0
  ·subst hk0
   rw[show K7 (WO 0) c=.nils from rfl]
   repeat((conv=>whnf);first|refine sT ?_|rw[wk])
   try(conv=>whnf)
   refine⟨(1,(fr++[(1,1)]).length,(fr++[(1,1)])++[(1,1)]),⟨by dsimp only;omega,fun _=>by simp⟩,by dsimp only;omega,?_⟩
   dsimp only
   refine fN ?_<;>repeat' (first|exact fQ|refine And.intro ?_ ?_|exact y8.zj _|exact y8.app _ _|exact je.qY (fun c=>(wn (wn (fun _=>rfl)) c).symm) _|exact(show(fr++[(1,1)]).length < ((fr++[(1,1)])++[(1,1)]).length by simp)|exact yh.zj _|exact zn.zj _|exact za.int hkk)
  ·have hfc:=hfr hk0
   have hne:WO k≠[]:=fun h=>hk0 (by have:=KV k;rw[h]at this;exact this.symm)
   rw[show K7 (WO k) c=.own ((WO k).map zM) c from if_neg hne]
   have hcl:=(List.getElem?_eq_some_iff.1 hfc).1
   have hlen:=KV k
   have hcq2:(fr++[(1,1)])[c]? = some ((List.map zM (WO k)).length,0+1):=by rw[List.getElem?_append_left hcl,List.length_map,hlen];exact hfc
   repeat((conv=>whnf);first|refine sJ ?_|refine aI (by first|exact trivial|exact xF.map (f:=zM) (fun _=>⟨rfl,rfl⟩)|exact(show _*8≤_ by simp only[List.length_map,List.length_cons,List.length_nil];omega)|exact(by simp only[List.length_map,List.length_cons,List.length_nil,maxLen];omega)|exact hcq2|exact wn (fun _=>rfl) _|kernel_rfl) ?_|rw[wk])
   try(conv=>whnf)
   refine⟨(k+1,c,(fr++[(1,1)]).set c ((List.map zM (WO k)++[AV.int .i64 (k:Int)]).length,0+1)),⟨by dsimp only;omega,fun _=>?_⟩,by dsimp only;omega,?_⟩
   ·dsimp only;rw[List.getElem?_set_self (by rw[List.length_append];omega)];simp[hlen]
   dsimp only
   rw[show K7 (WO (k+1)) c=.own (List.map zM (WO k)++[AV.int .i64 (k:Int)]) c from by unfold K7;rw[if_neg (by rw[zba];simp),zba,List.map_append];rfl]
   refine fN ?_<;>repeat' (first|exact fQ|refine And.intro ?_ ?_|exact y8.zj _|exact y8.app _ _|exact je.qY (fun c=>(wn (fun _=>rfl) c).symm) _|exact yh.zj _|exact zn.zj _|exact za.int hkk|exact(show c < ((fr++[(1,1)]).set c _).length by rw[List.length_set,List.length_append];omega))
 ·have hkm:k=m:=by simp at hb;omega
  subst hkm
  by_cases hk0:k=0
  ·subst hk0
   rw[show K7 (WO 0) c=.nils from rfl]
   refine Wk ?_
   exact ze.mk rfl (za.of_eq rfl)
  ·have hne:WO k≠[]:=fun h=>hk0 (by have:=KV k;rw[h]at this;exact this.symm)
   rw[show K7 (WO k) c=.own ((WO k).map zM) c from if_neg hne]
   refine Wk ?_
   exact ze.mk rfl (za.of_eq rfl)
end
section
variable (L:World→Prop)
theorem zhE (l:List zf)(id:Int)(hl:l.length≤281474976710656):zb Tryz.prog L 63 [zN l,.int .i64 id] (.int .i64 (xm l id)):=by
 refine zb.intro mixed [] (nt:=20) Tryz.func63 rfl rfl (by simp) ?_
 refine Wk ?_
 refine zt.run mixed [] (fun (k:Nat)=>k≤l.length∧∀(j:Nat) y,j < k→l[j]? = some y→(y.id==id)=false) (fun k=>[(0,zN l),(1,.int .i64 id),(5,.int .i64 k)]) (fun k=>St.none) (fun k=>l.length-k) 0 ⟨by simp,by simp⟩ ?_ ?_
 ·refine fN ?_<;>repeat' (first|exact fQ|refine And.intro ?_ ?_ )
 rintro k ⟨hk,hinv⟩
 refine Wk ?_
 refine zx.mk (fun hb=>?_) (fun hb=>?_)<;>try rw[hb]
 ·have hkt:k < l.length:=by simpa using hb
  obtain⟨f,hgf⟩:=zr hkt
  have hmf:=zk (f:=zf.av) hgf
  repeat((conv=>whnf);first|refine sJ ?_|refine aI (by first|exact zh hkt|kernel_rfl) ?_|rw[hmf])
  try(conv=>whnf)
  refine zx.mk (fun h2=>?_) (fun h2=>?_)<;>(try rw[h2])
  ·refine Wk ?_
   exact ze.mk rfl (za.int (yI (p:=fun f:zf=>f.id==id) hkt hinv hgf h2).symm)
  ·refine Wk ?_
   refine⟨k+1,⟨by omega,zgV (p:=fun y:zf=>y.id==id) hinv hgf h2⟩,by omega,?_⟩
   refine fN ?_<;>repeat' (first|exact fQ|refine And.intro ?_ ?_|exact za.int (zu hkt hl))
 ·have hkn:k=l.length:=by simp at hb;omega
  subst hkn
  refine Wk ?_
  exact ze.mk rfl (za.int (yY (p:=fun f:zf=>f.id==id) hinv).symm)
end
section
variable (L:World→Prop)
end
section
variable (L:World→Prop)
def ye.small (x:ye):Prop:=x.routes.length≤281474976710656∧∀r∈x.routes,r.length≤281474976710656
theorem zcx (q:List ye)(hq:q.length≤1099511627776):zb Tryz.prog L 158 [zH q] (zN (zL q)):=by
 refine zb.intro mixed [] (nt:=19) Tryz.func158 rfl rfl (by simp) ?_
 refine Wk ?_
 refine zt.born 3 6 46 rfl ?_
 refine zt.run mixed [] (fun (k:Nat)=>k≤q.length) (fun k=>[(3,.own ((zL (q.take k)).map zf.av) 0),(6,zH q),(7,.int .i64 q.length),(8,.int .i64 k)]) (fun k=>⟨[],[((zL (q.take k)).length,6)],0,0,fun k=>if k=0 then 46 else 0⟩) (fun k=>q.length-k) 0 (by simp) ?_ ?_
 ·refine fN ?_<;>repeat' (first|exact fQ|refine And.intro ?_ ?_|exact za.int (by simp))
 rintro k hk
 have hfl:(zL (q.take k)).length=k:=by simp[zL];omega
 refine Wk ?_
 refine zx.mk (fun hb=>?_) (fun hb=>?_)<;>try rw[hb]
 ·have hlt:k < q.length:=by simpa using hb
  obtain⟨x,hgx⟩:=zr hlt
  have hmx:=zk (f:=ye.av) hgx
  have hfs:zL (q.take (k+1))=zL (q.take k)++[x.flow]:=by rw[zK hgx];simp[zL]
  repeat((conv=>whnf);first|refine sJ ?_|refine aI (by first|exact zh hlt|exact xF.map (f:=zf.av) (fun _=>⟨rfl,rfl⟩)|exact(show _*48≤_ by simp only[List.length_map,List.length_cons,List.length_nil];omega)|exact(by simp only[List.length_map,List.length_cons,List.length_nil,maxLen];omega)|exact(show some (_,_)=some (_,_) by simp only[List.length_map])|kernel_rfl) ?_|rw[hmx])
  try(conv=>whnf)
  refine⟨k+1,by omega,by omega,?_⟩
  rw[hfs]
  refine fN ?_<;>repeat' (first|exact fQ|refine And.intro ?_ ?_|exact za.int (zu hlt (by omega))|exact za.own (by simp;rfl)|(show(_,_)=(_,_);simp only[List.length_append,List.length_map,List.length_cons,List.length_nil]))
 ·have hk':k=q.length:=by simp at hb;omega
  subst hk'
  rw[List.take_length]
  refine Wk ?_
  exact ze.mk rfl (za.of_eq rfl)
theorem zfW (a b:List Int)(ha:a.length≤281474976710656):zb Tryz.prog L 103 [zp a,zp b] (.bool (decide (a=b))):=by
 refine zb.intro mixed [] (nt:=26) Tryz.func103 rfl rfl (by simp) ?_
 refine Wk ?_
 refine zx.mk (fun h1=>?_) (fun h1=>?_)<;>(try rw[h1])
 ·have hne:a.length≠b.length:=by simp at h1;omega
  refine Wk ?_
  exact ze.mk rfl (za.bool (by rw[decide_eq_false (fun h=>hne (by rw[h]))]))
 have hl:a.length=b.length:=by simp at h1;omega
 refine Wk ?_
 refine zt.run mixed [] (fun (k:Nat)=>k≤a.length∧∀(j:Nat) x y,j < k→a[j]? = some x→b[j]? = some y→x=y) (fun k=>[(0,zp a),(1,zp b),(12,.int .i64 a.length),(13,.int .i64 k)]) (fun k=>St.none) (fun k=>a.length-k) 0 ⟨by simp,by simp⟩ ?_ ?_
 ·refine fN ?_<;>repeat' (first|exact fQ|refine And.intro ?_ ?_|exact za.int (by simp))
 rintro k ⟨hk,hinv⟩
 refine Wk ?_
 refine zx.mk (fun hb=>?_) (fun hb=>?_)<;>try rw[hb]
 ·have hkt:k < a.length:=by simpa using hb
  obtain⟨x,hgx⟩:=zr hkt
  obtain⟨y,hgy⟩:=zr (l:=b) (k:=k) (by omega)
  have hmx:=zk (f:=zM) hgx
  have hmy:=zk (f:=zM) hgy
  repeat((conv=>whnf);first|refine sJ ?_|refine aI (by first|exact zh hkt|exact zh (by omega:k < b.length)|kernel_rfl) ?_|rw[hmx]|rw[hmy])
  try(conv=>whnf)
  refine zx.mk (fun h2=>?_) (fun h2=>?_)<;>(try rw[h2])
  ·have hne:¬a=b:=fun h=>by
    subst h
    rw[hgx]at hgy
    injection hgy with hgy
    subst hgy
    simp at h2
   refine Wk ?_
   exact ze.mk rfl (za.bool (by rw[decide_eq_false hne]))
  ·have hxy:x=y:=by simpa using h2
   refine Wk ?_
   refine⟨k+1,⟨by omega,fun j x' y' hj hx' hy'=>?_⟩,by omega,?_⟩
   ·rcases Nat.lt_succ_iff_lt_or_eq.1 hj with h|rfl
    ·exact hinv j x' y' h hx' hy'
    ·rw[hgx]at hx';rw[hgy]at hy';injection hx' with hx';injection hy' with hy';rw[←hx',←hy',hxy]
   ·refine fN ?_<;>repeat' (first|exact fQ|refine And.intro ?_ ?_|exact za.int (zu hkt ha))
 ·have hkn:k=a.length:=by simp at hb;omega
  subst hkn
  refine Wk ?_
  exact ze.mk rfl (za.bool (by rw[decide_eq_true (zhg hl hinv)]))
theorem zbp {n:zF}{x:ye}{k:Nat}(h1:x.routes.length≠0)(h2:¬2 < x.routes.length)(hk:k < x.routes.length)(h0:∀j,j < k→xN n x j=0)(he:xN n x k≠0):vT n x=xN n x k:=by
 have hf:=xD h0 he hk
 rw[vT,if_neg h1,if_neg h2,hf,if_pos he]
theorem zbq {n:zF}{x:ye}(h1:x.routes.length≠0)(h2:¬2 < x.routes.length)(h0:∀j,j < x.routes.length→xN n x j=0):vT n x=if ZQ x.routes=true then 6 else 0:=by
 rw[vT,if_neg h1,if_neg h2,xk h0,if_neg (by simp)]
theorem JP (n:zF)(hn:n.small)(x:ye)(hx:x.small):zb Tryz.prog L 215 [n.av,x.av] (.int .i64 (vT n x)):=by
 obtain⟨hxl,hxr⟩:=hx
 refine zb.intro mixed [] (nt:=51) Tryz.func215 rfl rfl (by simp) ?_
 refine Wk ?_
 refine zx.mk (fun h1=>?_) (fun h1=>?_)<;>(try rw[h1])
 ·refine Wk ?_
  exact ze.mk rfl (za.int (by rw[vT,if_pos (by simpa using h1)]))
 have h1':x.routes.length≠0:=by simpa using h1
 refine Wk ?_
 refine zx.mk (fun h2=>?_) (fun h2=>?_)<;>(try rw[h2])
 ·refine Wk ?_
  exact ze.mk rfl (za.int (by rw[vT,if_neg h1',if_pos (by simp at h2;omega)]))
 have h2':¬2 < x.routes.length:=by simp at h2;omega
 refine Wk ?_
 refine zt.run mixed [] (fun (k:Nat)=>k≤x.routes.length∧∀j,j < k→xN n x j=0) (fun k=>[(2,.ptr 0 0),(3,.ptr 1 0),(17,zZ x.routes),(18,.int .i64 x.routes.length),(19,.int .i64 k)]) (fun k=>⟨[.cells n.cs 26,.cells x.cs 49],[],0,0,fun _=>0⟩) (fun k=>x.routes.length-k) 0 ⟨by simp,by simp⟩ ?_ ?_
 ·refine fN ?_<;>repeat' (first|exact fQ|refine And.intro ?_ ?_|exact za.int (by simp)|exact zn.zj _)
 rintro k ⟨hk,hinv⟩
 refine Wk ?_
 refine zx.mk (fun hb=>?_) (fun hb=>?_)<;>try rw[hb]
 ·have hlt:k < x.routes.length:=by simpa using hb
  obtain⟨r,hgr⟩:=zr hlt
  have hmr:=zk (f:=zp) hgr
  have hrt:xN n x k=kf n x.flow.src x.flow.dst r:=by unfold xN;rw[hgr]
  repeat((conv=>whnf);first|refine sJ ?_|refine aI (by first|exact zh hlt|kernel_rfl) ?_|rw[hmr])
  try(conv=>whnf)
  refine cD (zcC L n hn x.flow.src x.flow.dst r (hxr r (List.mem_of_getElem? hgr))) ?_
  rw[←hrt]
  refine Wk ?_
  refine zx.mk (fun h3=>?_) (fun h3=>?_)<;>(try rw[h3])
  ·have h3':xN n x k≠0:=by simpa using h3
   refine Wk ?_
   exact ze.mk rfl (za.int (by rw[zbp h1' h2' hlt hinv h3']))
  ·have h3':xN n x k=0:=by simpa using h3
   refine Wk ?_
   refine⟨k+1,⟨by omega,fun j hj=>?_⟩,by omega,?_⟩
   ·rcases Nat.lt_succ_iff_lt_or_eq.1 hj with h|rfl
    ·exact hinv j h
    ·exact h3'
   ·refine fN ?_<;>repeat' (first|exact fQ|refine And.intro ?_ ?_|exact za.int (zu hlt (by omega))|exact zn.zj _)
 ·have hk':k=x.routes.length:=by simp at hb;omega
  subst hk'
  have hE:=zbq h1' h2' hinv
  by_cases h4:x.routes.length=2
  ·obtain⟨a,b,hab⟩:∃a b,x.routes=[a,b]:=by
    match x.routes,h4 with
    | [a,b],_=>exact⟨a,b,rfl⟩
   have ha:=hxr a (by rw[hab];simp)
   have h4':(((x.routes.map zp).length:Int)==2)=true:=by simp;omega
   have m0:(x.routes.map zp)[Int.toNat 0]? = some (zp a):=by rw[hab];rfl
   have m1:(x.routes.map zp)[Int.toNat 1]? = some (zp b):=by rw[hab];rfl
   rw[hab]at hE
   repeat((conv=>whnf);first|refine sJ ?_|refine aI (by first|exact zh (k:=0) (by omega)|exact zh (k:=1) (by omega)|kernel_rfl) ?_|rw[h4']|rw[m0]|rw[m1])
   try(conv=>whnf)
   refine cD (zfW L a b ha) ?_
   refine Wk ?_
   refine zx.mk (fun h5=>?_) (fun h5=>?_)<;>(try rw[h5])
   ·refine Wk ?_
    exact ze.mk rfl (za.int (by rw[hE,if_pos (by simpa[ZQ] using h5)]))
   ·refine Wk ?_
    exact ze.mk rfl (za.int (by rw[hE,if_neg (by simpa[ZQ] using h5)]))
  ·have hts:ZQ x.routes=false:=by
    match hm:x.routes,h4,h1',h2' with
    | [a],_,_,_=>rfl
    | [a,b],h,_,_=>simp at h
    | [],_,h,_=>simp at h
    | a :: b :: c :: l,_,_,h=>simp at h
   have h4':(((x.routes.map zp).length:Int)==2)=false:=by simp;omega
   repeat((conv=>whnf);first|refine sT ?_|rw[h4'])
   try(conv=>whnf)
   exact ze.mk rfl (za.int (by rw[hE,hts,if_neg (by decide)]))
theorem zdG (n:zF)(hn:n.small)(q:List ye)(hq:q.length≤1099511627776)(hx:∀x∈q,x.small):zb Tryz.prog L 157 [n.av,zH q] (.tup [.int .i64 (wZ n q).1,.int .i64 (wZ n q).2]):=by
 refine zb.intro mixed [] (nt:=41) Tryz.func157 rfl rfl (by simp) ?_
 refine Wk ?_
 refine cD (we L n hn) ?_
 refine Wk ?_
 refine zx.mk (fun h0=>?_) (fun h0=>?_)<;>(try rw[h0])
 ·refine Wk ?_
  exact ze.mk rfl (za.of_eq (by rw[wZ,if_pos (by simpa using h0)]))
 have h0':¬yS n≠0:=by simpa using h0
 refine Wk ?_
 refine cD (zcx L q hq) ?_
 refine Wk ?_
 refine cD (ZE L n.nodes (zL q) (by simp[zL];omega)) ?_
 refine Wk ?_
 refine zx.mk (fun h1=>?_) (fun h1=>?_)<;>(try rw[h1])
 ·refine Wk ?_
  exact ze.mk rfl (za.of_eq (by rw[wZ,if_neg h0',if_pos (by simpa using h1)]))
 have h1':¬(yd n.nodes (zL q)).2≠0:=by simpa using h1
 have hE:wZ n q=zS (WU n q) q.length:=by rw[wZ,if_neg h0',if_neg h1']
 rw[hE]
 refine Wk ?_
 refine zt.run mixed [] (fun (k:Nat)=>k≤q.length∧∀j,j < k→WU n q j=0) (fun k=>[(2,.ptr 0 0),(26,zH q),(27,.int .i64 q.length),(28,.int .i64 k)]) (fun k=>⟨[.cells n.cs 26],[],0,0,fun _=>0⟩) (fun k=>q.length-k) 0 ⟨by simp,by simp⟩ ?_ ?_
 ·refine fN ?_<;>repeat' (first|exact fQ|refine And.intro ?_ ?_|exact za.int (by simp)|exact zn.zj _)
 rintro k ⟨hk,hinv⟩
 refine Wk ?_
 refine zx.mk (fun hb=>?_) (fun hb=>?_)<;>try rw[hb]
 ·have hlt:k < q.length:=by simpa using hb
  obtain⟨x,hgx⟩:=zr hlt
  have hmx:=zk (f:=ye.av) hgx
  have hrt:WU n q k=vT n x:=by unfold WU;rw[hgx]
  repeat((conv=>whnf);first|refine sJ ?_|refine aI (by first|exact zh hlt|kernel_rfl) ?_|rw[hmx])
  try(conv=>whnf)
  refine cD (JP L n hn x (hx x (List.mem_of_getElem? hgx))) ?_
  rw[←hrt]
  refine Wk ?_
  refine zx.mk (fun h3=>?_) (fun h3=>?_)<;>(try rw[h3])
  ·have h3':WU n q k≠0:=by simpa using h3
   refine Wk ?_
   exact ze.mk rfl (za.of_eq (by rw[xD hinv h3' hlt]))
  ·have h3':WU n q k=0:=by simpa using h3
   refine Wk ?_
   refine⟨k+1,⟨by omega,fun j hj=>?_⟩,by omega,?_⟩
   ·rcases Nat.lt_succ_iff_lt_or_eq.1 hj with h|rfl
    ·exact hinv j h
    ·exact h3'
   ·refine fN ?_<;>repeat' (first|exact fQ|refine And.intro ?_ ?_|exact za.int (zu hlt (by omega))|exact zn.zj _)
 ·have hk':k=q.length:=by simp at hb;omega
  subst hk'
  refine Wk ?_
  exact ze.mk rfl (za.of_eq (by rw[xk hinv]))
def YI:zc:=⟨0,0,[]⟩
end
section
variable (L:World→Prop)
theorem KL (q:List ye)(hq:q.length≤1099511627776):zb Tryz.prog L 46 [zH q] (zN (zL q)):=by
 refine zb.intro mixed [] (nt:=21) Tryz.func46 rfl rfl (by simp) ?_
 refine Wk ?_
 refine zt.run mixed [] (fun (k:Nat)=>k≤q.length) (fun k=>[(0,zH q),(3,.own ((zL (q.take k)).map zf.av) 0),(4,.int .i64 k)]) (fun k=>⟨[],[((zL (q.take k)).length,6)],0,0,fun _=>46⟩) (fun k=>q.length-k) 0 (by omega) ?_ ?_
 ·refine fN ?_<;>repeat' (first|exact fQ|refine And.intro ?_ ?_ )
 rintro k hk
 have hfl:(zL (q.take k)).length=k:=by simp[zL];omega
 refine Wk ?_
 refine zx.mk (fun hb=>?_) (fun hb=>?_)<;>try rw[hb]
 ·have hlt:k < q.length:=by simpa using hb
  obtain⟨x,hgx⟩:=zr hlt
  have hmx:=zk (f:=ye.av) hgx
  have hfs:zL (q.take (k+1))=zL (q.take k)++[x.flow]:=by rw[zK hgx];simp[zL]
  repeat((conv=>whnf);first|refine sJ ?_|refine aI (by first|exact zh hlt|exact xF.map (f:=zf.av) (fun _=>⟨rfl,rfl⟩)|exact(show _*48≤_ by simp only[List.length_map,List.length_cons,List.length_nil];omega)|exact(by simp only[List.length_map,List.length_cons,List.length_nil,maxLen];omega)|exact(show some (_,_)=some (_,_) by simp only[List.length_map])|kernel_rfl) ?_|rw[hmx])
  try(conv=>whnf)
  refine⟨k+1,by omega,by omega,?_⟩
  rw[hfs]
  refine fN ?_<;>repeat' (first|exact fQ|refine And.intro ?_ ?_|exact za.int (zu hlt (by omega))|exact za.own (by simp;rfl)|(show(_,_)=(_,_);simp only[List.length_append,List.length_map,List.length_cons,List.length_nil]))
 ·have hk':k=q.length:=by simp at hb;omega
  subst hk'
  rw[List.take_length]
  refine Wk ?_
  exact ze.mk rfl (za.of_eq rfl)
end
theorem zcb (a b:zf):(a.id==b.id&&(a.src==b.src&&(a.dst==b.dst&&(a.period==b.period&&(a.phase==b.phase&&(a.dead==b.dead&&true))))))=decide (a=b):=by
 rw[Bool.eq_iff_iff]
 simp only[Bool.and_eq_true,beq_iff_eq,and_true,decide_eq_true_eq]
 constructor
 ·rintro⟨h1,h2,h3,h4,h5,h6⟩
  cases a;cases b
  simp only at h1 h2 h3 h4 h5 h6
  subst h1;subst h2;subst h3;subst h4;subst h5;subst h6;rfl
 ·rintro rfl;exact⟨rfl,rfl,rfl,rfl,rfl,rfl⟩
section
variable (L:World→Prop)
theorem jm (q:List ye)(id:Int)(hq:q.length≤1099511627776):zb Tryz.prog L 59 [zH q,.int .i64 id] (.int .i64 (xm (zL q) id)):=by
 refine zb.intro mixed [] (nt:=9) Tryz.func59 rfl rfl (by simp) ?_
 refine Wk ?_
 refine cD (KL L q hq) ?_
 refine Wk ?_
 refine cD (zhE L (zL q) id (by unfold zL;rw[List.length_map];omega)) ?_
 refine Wk ?_
 exact ze.mk rfl (za.int rfl)
theorem zfT (before after:List ye)(id:Int)(hb:before.length≤1099511627776)(ha:after.length≤1099511627776):zb Tryz.prog L 15 [zH before,zH after,.int .i64 id] (.bool (jH before after id)):=by
 refine zb.intro mixed [] (nt:=34) Tryz.func15 rfl rfl (by simp) ?_
 refine Wk ?_
 refine cD (jm L before id hb) ?_
 refine Wk ?_
 refine cD (jm L after id ha) ?_
 rcases Z4 before id with ⟨e1,g1⟩|⟨i,x,e1,hx,g1⟩
 ·have gi:decide ((0:Int) ≤ -1)=false:=by decide
  rw[e1]
  have hr:jH before after id=false:=by unfold jH wz;rw[g1]
  repeat((conv=>whnf);first|refine sT ?_|rw[gi])
  try(conv=>whnf)
  exact ze.mk rfl (za.bool hr.symm)
 have hmx:=zk (f:=ye.av) hx
 have hil:=(List.getElem?_eq_some_iff.1 hx).1
 have gi:decide ((0:Int)≤(i:Int))=true:=decide_eq_true (by omega)
 rcases Z4 after id with ⟨e2,g2⟩|⟨j,y,e2,hy,g2⟩
 ·have gj:decide ((0:Int) ≤ -1)=false:=by decide
  rw[e1,e2]
  have hr:jH before after id=false:=by unfold jH wz;rw[g1,g2]
  repeat((conv=>whnf);first|refine sT ?_|rw[gi]|rw[gj])
  try(conv=>whnf)
  exact ze.mk rfl (za.bool hr.symm)
 have hmy:=zk (f:=ye.av) hy
 have hjl:=(List.getElem?_eq_some_iff.1 hy).1
 have gj:decide ((0:Int)≤(j:Int))=true:=decide_eq_true (by omega)
 rw[e1,e2]
 have hr:jH before after id=decide (x.flow=y.flow):=by unfold jH wz;rw[g1,g2]
 have he:=zcb x.flow y.flow
 repeat((conv=>whnf);first|refine sJ ?_|refine aI (by first|exact trivial|exact zh hil|exact zh hjl|kernel_rfl) ?_|rw[gi]|rw[gj]|rw[hmx]|rw[hmy])
 try(conv=>whnf)
 exact ze.mk rfl (za.bool (by rw[hr,←he]))
theorem zhG (before after:List ye)(hb:before.length≤1099511627776)(ha:after.length≤1099511627776):zb Tryz.prog L 28 [zH before,zH after] (zN (yN before after)):=by
 refine zb.intro mixed [] (nt:=41) Tryz.func28 rfl rfl (by simp) ?_
 refine Wk ?_
 refine zt.run mixed [] (fun (k:Nat)=>k≤256) (fun k=>[(0,zH before),(1,zH after),(5,.own ((qf before after k).map zf.av) 0),(6,.int .i64 k)]) (fun k=>⟨[],[((qf before after k).length,6)],0,0,fun _=>46⟩) (fun k=>256-k) 0 (by omega) ?_ ?_
 ·refine fN ?_<;>repeat' (first|exact fQ|refine And.intro ?_ ?_ )
 rintro k hk
 have hbl:(qf before after k).length≤k:=by
  unfold qf
  refine Nat.le_trans (List.length_filterMap_le _ _) ?_
  rw[List.length_range];exact Nat.le_refl _
 have hbs:=kH before after k
 by_cases hkl:k < 256
 rotate_left
 ·have hke:k=256:=by omega
  subst hke
  refine Wk ?_
  exact ze.mk rfl (za.of_eq rfl)
 have gk:decide ((k:Int) < 256)=true:=decide_eq_true (by omega)
 have hz1:(((qf before after k).map zf.av).length+1)*48≤140737488355328:=by rw[List.length_map];omega
 have hz2:((qf before after k).map zf.av).length+1≤maxLen:=by rw[List.length_map];unfold maxLen;omega
 repeat((conv=>whnf);first|refine sT ?_|rw[gk])
 try(conv=>whnf)
 refine cD (jm L before k hb) ?_
 refine Wk ?_
 refine cD (jm L after k ha) ?_
 rcases Z4 before k with ⟨e1,g1⟩|⟨i,x,e1,hx,g1⟩
 rotate_left
 ·have hmx:=zk (f:=ye.av) hx
  have hil:=(List.getElem?_eq_some_iff.1 hx).1
  have gi:decide ((0:Int)≤(i:Int))=true:=decide_eq_true (by omega)
  have hr:wF before after k=some x.flow:=by unfold wF;rw[g1]
  rw[hr]at hbs
  rw[e1]
  repeat((conv=>whnf);first|refine sJ ?_|refine aI (by first|exact trivial|exact zh hil|exact xF.map (f:=zf.av) (fun _=>⟨rfl,rfl⟩)|exact hz1|exact hz2|exact(show some (_,_)=some (_,_) by simp only[List.length_map])|kernel_rfl) ?_|rw[gi]|rw[hmx])
  try(conv=>whnf)
  refine⟨k+1,by omega,by omega,?_⟩
  rw[hbs]
  refine fN ?_<;>repeat' (first|exact fQ|refine And.intro ?_ ?_|exact za.int (zu hkl (by omega))|exact za.own (by simp;rfl)|(show(_,_)=(_,_);exact Prod.ext (by simp only[List.length_append,List.length_map,List.length_cons,List.length_nil,Option.toList_some]<;>omega) rfl))
 have gi:decide ((0:Int) ≤ -1)=false:=by decide
 rcases Z4 after k with ⟨e2,g2⟩|⟨j,y,e2,hy,g2⟩
 ·have hr:wF before after k=none:=by unfold wF;rw[g1,g2];rfl
  rw[hr]at hbs
  rw[e1,e2]
  repeat((conv=>whnf);first|refine sT ?_|rw[gi])
  try(conv=>whnf)
  refine⟨k+1,by omega,by omega,?_⟩
  rw[hbs]
  refine fN ?_<;>repeat' (first|exact fQ|refine And.intro ?_ ?_|exact za.int (zu hkl (by omega))|exact za.own (by simp)|(show(_,_)=(_,_);exact Prod.ext (by simp only[List.length_append,List.length_nil,Option.toList_none]<;>omega) rfl))
 ·have hmy:=zk (f:=ye.av) hy
  have hjl:=(List.getElem?_eq_some_iff.1 hy).1
  have gj:decide ((0:Int)≤(j:Int))=true:=decide_eq_true (by omega)
  have hr:wF before after k=some y.flow:=by unfold wF;rw[g1,g2];rfl
  rw[hr]at hbs
  rw[e1,e2]
  repeat((conv=>whnf);first|refine sJ ?_|refine aI (by first|exact trivial|exact zh hjl|exact xF.map (f:=zf.av) (fun _=>⟨rfl,rfl⟩)|exact hz1|exact hz2|exact(show some (_,_)=some (_,_) by simp only[List.length_map])|kernel_rfl) ?_|rw[gi]|rw[gj]|rw[hmy])
  try(conv=>whnf)
  refine⟨k+1,by omega,by omega,?_⟩
  rw[hbs]
  refine fN ?_<;>repeat' (first|exact fQ|refine And.intro ?_ ?_|exact za.int (zu hkl (by omega))|exact za.own (by simp;rfl)|(show(_,_)=(_,_);exact Prod.ext (by simp only[List.length_append,List.length_map,List.length_cons,List.length_nil,Option.toList_some]<;>omega) rfl))
theorem VF (a:List (List Int)){b:List (List Int)}{k:Nat}{r:List Int}(h:b[k]? = some r):xa a (b.take (k+1))=xa a (b.take k)++if (a.any fun x=>decide (x=r))=true then [] else [r]:=by
 unfold xa
 rw[zK h,List.filter_append,List.append_assoc]
 congr 2
 cases ha:a.any fun x=>decide (x=r)<;>simp[ha]
end
end HM
