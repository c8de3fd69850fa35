/- slices.DeleteFunc of changes behind 5 other objects. -/
import Derived.Test.YtggiajmlnieidaaGreatDoorS93
import Derived.Test.YtggiajmlnieidaaGreatDoorS164
import Derived.Test.YtggiajmlnieidaaGreatDoorDe
import Derived.Test.YtggiajmlnieidaaGreatDoorFh
import Derived.Test.YtggiajmlnieidaaGreatDoorS170
set_option maxHeartbeats 64000000
set_option maxRecDepth 100000
namespace HM
open Go Go.RowKit Go.Proofs
section
variable (L:World→Prop)
theorem zfs (o0 o1 o2 o3 o4:Ob)(n0 m0:Nat)(ty:Nat→TypeId)(l:List zJ)(p:zJ→Bool)(g:Nat)(caps fcaps:List AV)(d:Nat){K:AV→St→Prop}(hl:l.length≤281474976710656)(hcb:zO Tryz.prog g=true)(hc:xo fcaps=some fcaps)(hok:o0.okk 6 0∧o1.okk 6 0∧o2.okk 6 0∧o3.okk 6 0∧o4.okk 6 0∧wr 6 0 caps)
  (hfz:∀(x:List Ob) (n m:Nat) (ty':Nat→TypeId),wj ⟨o0 :: o1 :: o2 :: o3 :: o4 :: x,[],n,m,ty'⟩ caps=some fcaps) (hp:∀x∈l,zb Tryz.prog L g (zJ.av x :: fcaps) (.bool (p x)))
  (hK:∀ex:List AV,K (.vsl 5 0 (l.filter fun x=>!p x).length 7) ⟨[o0,o1,o2,o3,o4,.cells (zd ((l.filter fun x=>!p x).map zJ.av)++ex) 42],[],n0,m0,ty⟩) :
  zQ Tryz.prog L 85 [.vsl 5 0 l.length 7,.fn g caps] ⟨[o0,o1,o2,o3,o4,jz (l.map zJ.av) 7 d 42],[],n0,m0,ty⟩ K:=by
 have hall:∀x:zJ,(zJ.av x).cells.length=7:=fun x=>(yT).len x
 refine zQ.intro mixed [] (nt:=42) Tryz.func85 rfl rfl (by simp) ?_
 refine Wk ?_
 refine zo.box rfl (vu L l p g fcaps hl hcb hc hp) (Y0 ((yT).fzb rfl rfl) (Yd (hfz _ _ _ _))) rfl ?_
 refine Wk ?_
 refine zx.mk (fun h1=>?_) (fun h1=>?_)<;>(try rw[h1])
 ·refine Wk ?_
  have hnone:=wo (p:=p) (l:=l) (by simpa using h1)
  have hfil:(l.filter fun x=>!p x)=l:=List.filter_eq_self.2 fun x hx=>by
   obtain⟨j,hj⟩:=List.getElem?_of_mem hx
   simp[hnone j x hj]
  have:=hK (List.replicate (d*7) .undef)
  rw[hfil]at this
  exact this
 obtain⟨k,x,e1,e2,e3⟩:=vV (p:=p) (l:=l) (by simpa using h1)
 obtain⟨_,_,_,e4⟩:=vH e1
 have hklt:=(List.getElem?_eq_some_iff.1 e2).1
 rw[e1]
 refine Wk ?_
 refine zt.run mixed [] (fun s:List zJ×Nat×Nat=>kV p l s.1 s.2.1 s.2.2) (fun s=>[(0,.vsl 5 0 l.length 7),(1,.fn g caps),(5,.int .i64 s.2.1),(6,.int .i64 s.2.2)]) (fun s=>⟨[o0,o1,o2,o3,o4,.cells (zd (s.1.map zJ.av)++List.replicate (d*7) .undef) 42],[],6,0,ty⟩) (fun s=>l.length-s.2.2) (l,k,k+1) (kV.start e2 e3 e4) ?_ ?_
 ·refine fN ?_<;>repeat' (first|exact fQ|refine And.intro ?_ ?_|exact zn.zj _|exact yh.zj _|exact hok.1|exact hok.2.1|exact hok.2.2.1|exact hok.2.2.2.1|exact hok.2.2.2.2.1|exact hok.2.2.2.2.2|exact xc ((yT).okk _ _ _) (xq _ _ _)|exact za.int (zu hklt hl))
 rintro⟨a,i,j⟩ hkept
 simp only at hkept
 have hij:=hkept.ij
 have halen:=hkept.len
 refine Wk ?_
 refine zx.mk (fun hb=>?_) (fun hb=>?_)<;>try rw[hb]
 ·have hlt:j < l.length:=by simpa using hb
  obtain⟨y,hgy⟩:=zr hlt
  have hay:=hkept.get hgy
  have hld:=(yT).ld (List.replicate (d*7) .undef) hay
  have hft:=(yT).fit (l:=a) (List.replicate (d*7) .undef) (k:=j) (by omega)
  have hpy:=hp y (List.mem_of_getElem? hgy)
  repeat((conv=>whnf);first|refine sJ ?_|refine aI (by first|exact⟨by omega,by simp;omega⟩|kernel_rfl) ?_ )
  try(conv=>whnf)
  refine And.intro (show 0+(j:Int).toNat*7+7≤_ by rw[Nat.zero_add,Int.toNat_natCast];exact hft) ?_
  rw[(yT).ldr _ hay _ _ (by kernel_rfl) (by kernel_rfl)]
  refine Wk ?_
  refine zo.box hcb hpy (Y0 rfl (hfz _ _ _ _)) rfl ?_
  have hfi:=(yT).fit (l:=a) (List.replicate (d*7) .undef) (k:=i) (by omega)
  refine Wk ?_
  refine zx.mk (fun h2=>?_) (fun h2=>?_)<;>(try rw[h2])
  ·repeat((conv=>whnf);first|refine sJ ?_|refine aI (by first|exact⟨by omega,by simp;omega⟩|exact(show 0+(i:Int).toNat*7+7≤_ by rw[Nat.zero_add,Int.toNat_natCast];exact hfi)|kernel_rfl) ?_ )
   try(conv=>whnf)
   have hst:=(yT).st y (List.replicate (d*7) .undef) (l:=a) (k:=i) (by omega)
   refine⟨(a.set i y,i+1,j+1),hkept.keep hgy (by simpa using h2),by simp only;omega,?_⟩
   refine fN ?_<;>repeat' (first|exact fQ|refine And.intro ?_ ?_|exact yh.zj _|exact hok.1|exact hok.2.1|exact hok.2.2.1|exact hok.2.2.2.1|exact hok.2.2.2.2.1|exact hok.2.2.2.2.2|exact xc ((yT).okk _ _ _) (xq _ _ _)|exact za.int (zu hlt hl)|exact za.int (zu (by omega:i < l.length) hl)|exact zn.of_eq (by rw[Nat.zero_add,Int.toNat_natCast];exact hst))
  ·refine Wk ?_
   refine⟨(a,i,j+1),hkept.skip hgy (by simpa using h2),by simp only;omega,?_⟩
   refine fN ?_<;>repeat' (first|exact fQ|refine And.intro ?_ ?_|exact zn.zj _|exact yh.zj _|exact hok.1|exact hok.2.1|exact hok.2.2.1|exact hok.2.2.2.1|exact hok.2.2.2.2.1|exact hok.2.2.2.2.2|exact xc ((yT).okk _ _ _) (xq _ _ _)|exact za.int (zu hlt hl))
 ·have hj:j=l.length:=by simp at hb;omega
  subst hj
  have hfin:=hkept.fin
  have hflen:=(yT).flen a
  have hcl:0+(i:Int).toNat*7+(l.length-(i:Int).toNat)*7≤(zd (a.map zJ.av)++List.replicate (d*7) AV.undef).length:=by
   rw[List.length_append,hflen,Int.toNat_natCast,Nat.zero_add,←Nat.add_mul,show i+(l.length-i)=l.length by omega,halen]
   exact Nat.le_add_right _ _
  have hfl:(l.filter fun x=>!p x).length=i:=by rw[←hfin,List.length_take];omega
  repeat((conv=>whnf);first|refine sJ ?_|refine aI (by first|exact(show JB (i:Int) l.length from⟨by omega,by omega⟩)|exact⟨rfl,rfl,Nat.le_of_ble_eq_true rfl,hcl⟩|kernel_rfl) ?_ )
  try(conv=>whnf)
  rw[(yT).clr' (l:=a) (k:=i) _ _ _ _ (by kernel_rfl) (by rw[Int.toNat_natCast,halen]) (by omega) rfl]
  repeat((conv=>whnf);first|refine sJ ?_|refine aI (by first|exact⟨(by omega:(0:Int)≤(i:Int)),(yT).headLe (k:=i) _ _ rfl (by omega),Nat.le_of_ble_eq_true rfl⟩|kernel_rfl) ?_ )
  try(conv=>whnf)
  have hKK:=hK
  rw[hfl]at hKK
  rw[←hfin]at hKK
  exact hKK _
end
section
variable (L:World→Prop)
theorem jX (l:List (List Int))(hl:l.length≤1000)(hr:∀r∈l,r.length≤1000):zb Tryz.prog L 97 [zZ l] (zZ l):=by
 refine zb.intro mixed [] (nt:=19) Tryz.func97 rfl rfl (by simp) ?_
 refine Wk ?_
 refine zt.born 3 1 88 rfl ?_
 refine zt.run mixed [] (fun (k:Nat)=>k≤l.length) (fun k=>[(3,.own ((l.take k).map zp) 0),(6,zZ l),(7,.int .i64 l.length),(8,.int .i64 k)]) (fun k=>⟨[],[(k,1)],0,0,fun c=>if c=0 then 88 else 0⟩) (fun k=>l.length-k) 0 (by omega) ?_ ?_
 ·refine fN ?_<;>repeat' (first|exact fQ|refine And.intro ?_ ?_|exact za.int (by simp))
 rintro k hk
 by_cases hkl:k < l.length
 rotate_left
 ·have hke:k=l.length:=by omega
  subst hke
  have gk:decide ((l.length:Int) < (l.length:Int))=false:=decide_eq_false (by omega)
  rw[List.take_length]
  repeat((conv=>whnf);first|refine sT ?_|rw[gk])
  try(conv=>whnf)
  exact ze.mk rfl (za.of_eq rfl)
 obtain⟨r,hgr⟩:=zr hkl
 have hmr:=zk (f:=zp) hgr
 have hrl:=hr r (List.mem_of_getElem? hgr)
 have gk:decide ((k:Int) < (l.length:Int))=true:=decide_eq_true (by omega)
 have htl:((l.take k).map zp).length=k:=by rw[List.length_map,List.length_take];omega
 repeat((conv=>whnf);first|refine sJ ?_|refine aI (by first|exact trivial|exact zh hkl|kernel_rfl) ?_|rw[gk]|rw[hmr])
 try(conv=>whnf)
 refine cD (jY L r (by omega)) ?_
 repeat((conv=>whnf);first|refine sJ ?_|refine aI (by first|exact trivial|exact xF.map (f:=zp) (fun _=>⟨rfl,rfl⟩)|exact(show _*24≤_ by simp only[List.length_map,List.length_cons,List.length_nil,List.length_take];omega)|exact(by simp only[List.length_map,List.length_cons,List.length_nil,List.length_take,maxLen];omega)|exact(show some (_,_)=some (_,_) by rw[htl])|kernel_rfl) ?_ )
 try(conv=>whnf)
 refine⟨k+1,by omega,by omega,?_⟩
 rw[zK hgr]
 refine fN ?_<;>repeat' (first|exact fQ|refine And.intro ?_ ?_|exact za.int (zu hkl (by omega))|exact za.own (by simp;rfl)|(show(_,_)=(_,_);exact Prod.ext (by dsimp only;rw[List.length_append,htl];rfl) rfl))
end
theorem zki (c:zJ)(id:Int):zb Tryz.prog LW 99 [c.av,.cptr (.agg [.int .i64 id]) 0] (.bool (c.cell.flow != id)):=by
 refine zb.intro mixed [] (nt:=9) Tryz.func99 rfl rfl (by simp) ?_
 refine Wk ?_
 exact ze.mk rfl (za.bool rfl)
theorem qk (c:zJ)(u:Int):zb Tryz.prog LW 100 [c.av,.cptr (.agg [.int .i64 u]) 0] (.bool (decide (c.slot≤u))):=by
 refine zb.intro mixed [] (nt:=8) Tryz.func100 rfl rfl (by simp) ?_
 refine Wk ?_
 exact ze.mk rfl (za.bool rfl)
theorem ZD (c:zJ)(u:Int):zb Tryz.prog LW 101 [c.av,.cptr (.agg [.int .i64 u]) 0] (.bool (decide (u < c.slot))):=by
 refine zb.intro mixed [] (nt:=8) Tryz.func101 rfl rfl (by simp) ?_
 refine Wk ?_
 exact ze.mk rfl (za.bool rfl)
theorem zkk (L:World→Prop)(a b:List Int)(ha:a.length≤281474976710656):zb Tryz.prog L 103 [zp a,zp b] (.bool (decide (a=b))):=by
 refine zb.intro mixed [] (nt:=26) Tryz.func103 rfl rfl (by simp) ?_
 cases hl:(((a.map zM).length:Int) != ((b.map zM).length:Int)) with
 | true=>
  repeat((conv=>whnf);first|refine sT ?_|rw[hl])
  try(conv=>whnf)
  exact ze.mk rfl (za.bool (by symm;rw[decide_eq_false_iff_not];rintro rfl;simp at hl))
 | false=>
 have hln:a.length=b.length:=by simp only[List.length_map,bne_eq_false_iff_eq]at hl;omega
 repeat((conv=>whnf);first|refine sT ?_|rw[hl])
 try(conv=>whnf)
 refine zt.run mixed [] (fun (k:Nat)=>k≤a.length∧a.take k=b.take k) (fun k=>[(0,zp a),(1,zp b),(12,.int .i64 a.length),(13,.int .i64 k)]) (fun k=>St.none) (fun k=>a.length-k) 0 ⟨by simp,by simp⟩ ?_ ?_
 ·refine fN ?_<;>repeat' (first|exact fQ|refine And.intro ?_ ?_|exact za.int (by simp))
 rintro k ⟨hk,hinv⟩
 by_cases hkl:k < a.length
 rotate_left
 ·have hke:k=a.length:=by omega
  subst hke
  have gk:decide ((a.length:Int) < (a.length:Int))=false:=decide_eq_false (by omega)
  rw[List.take_length,hln,List.take_length]at hinv
  repeat((conv=>whnf);first|refine sT ?_|rw[gk])
  try(conv=>whnf)
  exact ze.mk rfl (za.bool (by simp[hinv]))
 obtain⟨x,hgx⟩:=zr hkl
 obtain⟨y,hgy⟩:=zr (l:=b) (k:=k) (by omega)
 have hmx:=zk (f:=zM) hgx
 have hmy:=zk (f:=zM) hgy
 have gk:decide ((k:Int) < (a.length:Int))=true:=decide_eq_true (by omega)
 cases he:(x != y) with
 | false=>
  have e:x=y:=by simpa using he
  repeat((conv=>whnf);first|refine sJ ?_|refine aI (by first|exact trivial|exact zh hkl|exact zh (by omega)|kernel_rfl) ?_|rw[gk]|rw[hmx]|rw[hmy]|rw[he])
  try(conv=>whnf)
  refine⟨k+1,⟨by omega,by rw[zK hgx,zK hgy,hinv,e]⟩,by omega,?_⟩
  refine fN ?_<;>repeat' (first|exact fQ|refine And.intro ?_ ?_|exact za.int (zu hkl (by omega)))
 | true=>
  have e:x≠y:=by simpa using he
  repeat((conv=>whnf);first|refine sJ ?_|refine aI (by first|exact trivial|exact zh hkl|exact zh (by omega)|kernel_rfl) ?_|rw[gk]|rw[hmx]|rw[hmy]|rw[he])
  try(conv=>whnf)
  exact ze.mk rfl (za.bool (by symm;rw[decide_eq_false_iff_not];rintro rfl;rw[hgx]at hgy;exact e (Option.some.inj hgy)))
theorem zhy (a b:List Int)(ha:a.length≤281474976710656):zb Tryz.prog LW 102 [zp a,.cptr (.agg [zp b]) 0] (.bool (decide (a=b))):=by
 refine zb.intro mixed [] (nt:=7) Tryz.func102 rfl rfl (by simp) ?_
 refine Wk ?_
 refine cD (zkk LW a b ha) ?_
 refine Wk ?_
 exact ze.mk rfl (za.bool rfl)
section
variable (L:World→Prop)
theorem Vj (l:List (List Int))(p:(List Int)→Bool)(g:Nat)(caps:List AV)(hl:l.length≤281474976710656)(hcb:zO Tryz.prog g=true)(hc:xo caps=some caps)(hp:∀x∈l,zb Tryz.prog L g (zp x :: caps) (.bool (p x))) :
  zb Tryz.prog L 105 [.sl false (l.map zp),.fn g caps] (.int .i64 (wu p l)):=by
 refine zb.intro mixed [] (nt:=19) Tryz.func105 rfl rfl (by simp) ?_
 refine Wk ?_
 refine zt.run mixed [] (fun (k:Nat)=>k≤l.length∧∀j x,j < k→l[j]? = some x→p x=false) (fun k=>[(0,.sl false (l.map zp)),(1,.fn g caps),(7,.int .i64 l.length),(8,.int .i64 k)]) (fun k=>St.none) (fun k=>l.length-k) 0 ⟨by simp,by simp⟩ ?_ ?_
 ·refine fN ?_<;>repeat' (first|exact fQ|refine And.intro ?_ ?_|exact za.int (by simp)|exact yz hc)
 rintro k ⟨hk,hinv⟩
 refine Wk ?_
 refine zx.mk (fun hb=>?_) (fun hb=>?_)<;>try rw[hb]
 ·have hlt:k < l.length:=by simpa using hb
  obtain⟨x,hgx⟩:=zr hlt
  have hmx:=zk (f:=zp) hgx
  repeat((conv=>whnf);first|refine sJ ?_|refine aI (by first|exact zh hlt|kernel_rfl) ?_|rw[hmx])
  try(conv=>whnf)
  refine zo.data hcb (hp x (List.mem_of_getElem? hgx)) (by show(match fz _,xo caps with|some a,some b=>some (a :: b)|_,_=>none)=_;rw[hc];rfl) ?_
  refine Wk ?_
  refine zx.mk (fun h2=>?_) (fun h2=>?_)<;>(try rw[h2])
  ·refine Wk ?_
   exact ze.mk rfl (za.int (yI hlt hinv hgx h2).symm)
  ·refine Wk ?_
   refine⟨k+1,⟨by omega,fun j y hj hy=>?_⟩,by omega,?_⟩
   ·rcases Nat.lt_succ_iff_lt_or_eq.1 hj with h|rfl
    ·exact hinv j y h hy
    ·rw[hgx]at hy;injection hy with hy;subst hy;exact h2
   ·refine fN ?_<;>repeat' (first|exact fQ|refine And.intro ?_ ?_|exact za.int (zu hlt hl)|exact yz hc)
 ·have hk':k=l.length:=by simp at hb;omega
  subst hk'
  refine Wk ?_
  exact ze.mk rfl (za.int (yY hinv).symm)
theorem w8 (l:List (List Int))(p:(List Int)→Bool)(g:Nat)(caps:List AV)(hl:l.length≤281474976710656)(hcb:zO Tryz.prog g=true)(hc:xo caps=some caps)(hp:∀x∈l,zb Tryz.prog L g (zp x :: caps) (.bool (p x))) :
  zb Tryz.prog L 41 [.sl false (l.map zp),.fn g caps] (.bool (l.any p)):=by
 refine zb.intro mixed [] (nt:=9) Tryz.func41 rfl rfl (by simp) ?_
 refine Wk ?_
 refine zo.data rfl (Vj L l p g caps hl hcb hc hp) (by show(match fz _,xo [AV.fn g caps] with|some a,some b=>some (a :: b)|_,_=>none)=_;rw[show xo [AV.fn g caps] = some [AV.fn g caps] from by simp[fz,xo,hc]];rfl) ?_
 refine Wk ?_
 exact ze.mk rfl (za.bool (wU p l))
end
def zea (x:ye):List AV:=[.int .i64 x.flow.id,.int .i64 x.flow.src,.int .i64 x.flow.dst,.int .i64 x.flow.period,.int .i64 x.flow.phase,.int .i64 x.flow.dead,zZ x.routes]
def ifS (id slot last:Int)(x y:ye):List Ob:=[.cells [.int .i64 id] 3,.cells [.int .i64 slot] 3,.cells (zea x) 49,.cells (zea y) 49,.cells [.int .i64 last] 3]
def zbC (l:List zJ)(id:Int):List zJ:=l.filter fun c=>!(c.cell.flow != id)
theorem zbB (l:List zJ)(id:Int)(p:Int→Bool):((zbC l id).any fun c=>p c.slot)=zbD l id p:=by
 unfold zbC zbD
 congr 1
 refine List.filter_congr fun c _=>?_
 unfold bne
 rw[Bool.not_not]
theorem zfU (before after:List ye)(hb:before.length≤1000)(ha:after.length≤1000)(l:List zJ)(hl:l.length≤1099511627776)(id slot:Int)(h0:0≤slot)(h1:slot≤1099511627776){x y:ye}(hq:wz before after id=some (x,y))(hf:x.flow=y.flow)(hp1:1≤x.flow.period)(hp2:x.flow.period≤512)
  (hx:x.routes.length≤1000∧∀r∈x.routes,r.length≤1000) (hy:y.routes.length≤1000∧∀r∈y.routes,r.length≤1000):zb Tryz.prog LW 38 [zH before,zH after,zT l,.int .i64 id,.int .i64 slot] (zZ (qR before after l id slot)):=by
 refine zb.intro mixed [10007,13] (nt:=136) Tryz.func38 rfl rfl (by simp) ?_
 obtain⟨g1,g2⟩:=vB hq
 have d1:getD before id=x:=by unfold getD;rw[g1];rfl
 have d2:getD after id=y:=by unfold getD;rw[g2];rfl
 have hfo:qR before after l id slot=if ((zbC l id).any fun c=>decide (c.slot≤slot+(x.flow.period-1)))=false then x.routes else if ((zbC l id).any fun c=>decide (slot < c.slot))=false then y.routes else xa x.routes y.routes:=by
  unfold qR
  rw[hq]
  simp only
  rw[←zbB l id (fun u=>decide (u≤slot+(x.flow.period-1))),←zbB l id (fun u=>decide (slot < u))]
 rw[hfo]
 have hol:(zbC l id).length≤l.length:=List.length_filter_le _ _
 have hfe:(x.flow.id==y.flow.id&&(x.flow.src==y.flow.src&&(x.flow.dst==y.flow.dst&&(x.flow.period==y.flow.period&&(x.flow.phase==y.flow.phase&&(x.flow.dead==y.flow.dead&&true))))))=true:=by rw[zcb];exact decide_eq_true hf
 have hmx:(if (-9223372036854775807:Int) > x.flow.period then(-9223372036854775807:Int) else x.flow.period)=x.flow.period:=if_neg (by omega)
 have hw1:IntKind.i64.wrap (x.flow.period-1)=x.flow.period-1:=by rw[xw]<;>omega
 have hw2:IntKind.i64.wrap (9223372036854775807-(x.flow.period-1))=9223372036854775807-(x.flow.period-1):=by rw[xw]<;>omega
 have hw3:IntKind.i64.wrap (slot+(x.flow.period-1))=slot+(x.flow.period-1):=by rw[xw]<;>omega
 have gd1:decide (9223372036854775807-(x.flow.period-1) < slot)=false:=decide_eq_false (by omega)
 have gd2:decide (x.flow.period-1 < 0)=false:=decide_eq_false (by omega)
 refine Wk ?_
 refine cD (kD LW before id (by omega)) ?_
 rw[d1,g1]
 repeat((conv=>whnf);first|refine sT ?_ )
 try(conv=>whnf)
 refine cD (kD LW after id (by omega)) ?_
 rw[d2,g2]
 repeat((conv=>whnf);first|refine sT ?_|rw[hfe])
 try(conv=>whnf)
 refine zW.ym mixed (fun X=>X.bx[1]? = some (.cells [.int .i64 slot] 3)∧X.bx[2]? = some (.cells (zea x) 49)) [0,1,2,3,4,5] 3 rfl rfl (by decide) rfl ⟨rfl,rfl⟩ ?_
 iterate 6
  conv=>whnf
  apply vA
  ·rintro S' K' hI hh
   repeat((conv=>whnf);first|refine sT ?_|erw [hI.1]|erw [hI.2]|rw[hmx]|rw[hw1])
   try(conv=>whnf)
   exact hh
 conv=>whnf
 repeat' ((conv=>whnf);first|exact trivial|refine sJ ?_|refine aI (by first|exact trivial|exact Or.inr ⟨rfl,rfl⟩|exact Or.inl rfl|kernel_rfl) ?_|refine And.intro ?_ ?_ )
 all_goals(conv=>whnf)
 refine yF.Yg mixed [18] [(2,zT l),(8,.ptr 0 0),(9,.ptr 1 0),(11,.ptr 2 0),(13,.ptr 3 0),(15,.ptr 4 0)] ⟨ifS id slot (slot+(x.flow.period-1)) x y,[],0,0,fun _=>0⟩ (zE (ct:=[]) mixed _ _ _ _ ?_) ?_
 ·cases gd0:decide (0 < x.flow.period-1)
  all_goals
   repeat((conv=>whnf);first|refine sT ?_|rw[gd0]|rw[hw1]|rw[hw2]|rw[gd1]|rw[gd2]|rw[hw3])
   try(conv=>whnf)
   refine fN ?_<;>repeat' (first|exact fQ|refine And.intro ?_ ?_|exact zn.zj _)
 obtain⟨last,hlast⟩:∃last,last=slot+(x.flow.period-1):=⟨_,rfl⟩
 rw[←hlast]
 by_cases hne:l=[]
 ·subst hne
  refine Wk ?_
  refine cD (Vd LW) ?_
  refine Wk ?_
  refine zo.inl rfl (zQ.intro mixed [] (nt:=42) Tryz.func85 rfl rfl (by simp) ?_)
  refine Wk ?_
  refine cB (vu LW [] (fun c=>c.cell.flow != id) 99 [.cptr (.agg [.int .i64 id]) 0] (by simp) rfl rfl (fun c hc=>by cases hc)) ?_
  refine Wk ?_
  rw[show zbC [] id=[] from rfl]at hol ⊢
  obtain⟨O,hO⟩:∃O:List zJ,O=[]:=⟨_,rfl⟩
  rw[←hO]
  replace hol:O.length≤0:=by rw[hO];exact Nat.le_refl _
  cases c1:O.any fun c=>decide (c.slot≤last)
  ·rw[if_pos rfl]
   refine yF.sem mixed [] ?_
   refine Wk ?_
   first
    | refine zo.box rfl (zq LW O (fun c=>decide (c.slot≤last)) 100 [.cptr (.agg [.int .i64 last]) 0] (by omega) rfl rfl (fun c _=>qk c last)) (Y0 (yT.fzb rfl rfl) (Yd rfl)) rfl ?_
    | refine zo.box rfl (zq LW O (fun c=>decide (c.slot≤last)) 100 [.cptr (.agg [.int .i64 last]) 0] (by omega) rfl rfl (fun c _=>qk c last)) rfl rfl ?_
   rw[c1]
   repeat((conv=>whnf);first|refine sT ?_ )
   try(conv=>whnf)
   refine cD (jX LW x.routes hx.1 hx.2) ?_
   refine Wk ?_
   exact ze.mk rfl (za.of_eq rfl)
  rw[if_neg (by decide)]
  cases c2:O.any fun c=>decide (slot < c.slot)
  ·rw[if_pos rfl]
   refine yF.sem mixed [] ?_
   refine Wk ?_
   first
    | refine zo.box rfl (zq LW O (fun c=>decide (c.slot≤last)) 100 [.cptr (.agg [.int .i64 last]) 0] (by omega) rfl rfl (fun c _=>qk c last)) (Y0 (yT.fzb rfl rfl) (Yd rfl)) rfl ?_
    | refine zo.box rfl (zq LW O (fun c=>decide (c.slot≤last)) 100 [.cptr (.agg [.int .i64 last]) 0] (by omega) rfl rfl (fun c _=>qk c last)) rfl rfl ?_
   rw[c1]
   repeat((conv=>whnf);first|refine sT ?_ )
   try(conv=>whnf)
   first
    | refine zo.box rfl (zq LW O (fun c=>decide (slot < c.slot)) 101 [.cptr (.agg [.int .i64 slot]) 0] (by omega) rfl rfl (fun c _=>ZD c slot)) (Y0 (yT.fzb rfl rfl) (Yd rfl)) rfl ?_
    | refine zo.box rfl (zq LW O (fun c=>decide (slot < c.slot)) 101 [.cptr (.agg [.int .i64 slot]) 0] (by omega) rfl rfl (fun c _=>ZD c slot)) rfl rfl ?_
   rw[c2]
   repeat((conv=>whnf);first|refine sT ?_ )
   try(conv=>whnf)
   refine cD (jX LW y.routes hy.1 hy.2) ?_
   refine Wk ?_
   exact ze.mk rfl (za.of_eq rfl)
  rw[if_neg (by decide)]
  refine yF.Yg mixed [] [(11,.ptr 2 0),(13,.ptr 3 0)] ⟨ifS id slot last x y,[],0,0,fun _=>0⟩ (zE (ct:=[]) mixed _ _ _ _ ?_) ?_
  ·refine Wk ?_
   first
    | refine zo.box rfl (zq LW O (fun c=>decide (c.slot≤last)) 100 [.cptr (.agg [.int .i64 last]) 0] (by omega) rfl rfl (fun c _=>qk c last)) (Y0 (yT.fzb rfl rfl) (Yd rfl)) rfl ?_
    | refine zo.box rfl (zq LW O (fun c=>decide (c.slot≤last)) 100 [.cptr (.agg [.int .i64 last]) 0] (by omega) rfl rfl (fun c _=>qk c last)) rfl rfl ?_
   rw[c1]
   repeat((conv=>whnf);first|refine sT ?_ )
   try(conv=>whnf)
   first
    | refine zo.box rfl (zq LW O (fun c=>decide (slot < c.slot)) 101 [.cptr (.agg [.int .i64 slot]) 0] (by omega) rfl rfl (fun c _=>ZD c slot)) (Y0 (yT.fzb rfl rfl) (Yd rfl)) rfl ?_
    | refine zo.box rfl (zq LW O (fun c=>decide (slot < c.slot)) 101 [.cptr (.agg [.int .i64 slot]) 0] (by omega) rfl rfl (fun c _=>ZD c slot)) rfl rfl ?_
   rw[c2]
   repeat((conv=>whnf);first|refine sT ?_ )
   try(conv=>whnf)
   refine fN ?_<;>repeat' (first|exact fQ|refine And.intro ?_ ?_|exact zn.zj _)
  refine Wk ?_
  refine zo.inl rfl (zQ.intro mixed [] (nt:=19) Tryz.func97 rfl rfl (by simp) ?_)
  refine Wk ?_
  refine zt.born 3 1 88 rfl ?_
  refine zt.run mixed [] (fun (k:Nat)=>k≤x.routes.length) (fun k=>[(3,.own ((x.routes.take k).map zp) 0),(6,zZ x.routes),(7,.int .i64 x.routes.length),(8,.int .i64 k)]) (fun k=>⟨ifS id slot last x y,[(k,1)],5,0,fun c=>if c=0 then 88 else 0⟩) (fun k=>x.routes.length-k) 0 (by omega) ?_ ?_
  ·refine fN ?_<;>repeat' (first|exact fQ|refine And.intro ?_ ?_|exact zn.zj _|exact za.int (by simp)|exact okI5 _ _ _ _ _ _ _)
  rintro k hk
  have htl:((x.routes.take k).map zp).length=k:=by rw[List.length_map,List.length_take];omega
  by_cases hkl:k < x.routes.length
  ·obtain⟨r,hgr⟩:=zr hkl
   have hmr:=zk (f:=zp) hgr
   have hrl:=hx.2 r (List.mem_of_getElem? hgr)
   have gk:decide ((k:Int) < (x.routes.length:Int))=true:=decide_eq_true (by omega)
   repeat((conv=>whnf);first|refine sJ ?_|refine aI (by first|exact trivial|exact zh hkl|kernel_rfl) ?_|rw[gk]|rw[hmr])
   try(conv=>whnf)
   refine cD (jY LW r (by omega)) ?_
   repeat((conv=>whnf);first|refine sJ ?_|refine aI (by first|exact trivial|exact xF.map (f:=zp) (fun _=>⟨rfl,rfl⟩)|exact(show _*24≤_ by simp only[List.length_map,List.length_cons,List.length_nil,List.length_take];omega)|exact(by simp only[List.length_map,List.length_cons,List.length_nil,List.length_take,maxLen];omega)|exact(show some (_,_)=some (_,_) by rw[htl])|kernel_rfl) ?_ )
   try(conv=>whnf)
   refine⟨k+1,by omega,by omega,?_⟩
   rw[zK hgr]
   refine fN ?_<;>repeat' (first|exact fQ|refine And.intro ?_ ?_|exact zn.zj _|exact za.int (zu hkl (by omega))|exact za.own (by simp;rfl)|(show(_,_)=(_,_);exact Prod.ext (by dsimp only;rw[List.length_append,htl];rfl) rfl))
  have hke:k=x.routes.length:=by omega
  subst hke
  have gk:decide ((x.routes.length:Int) < (x.routes.length:Int))=false:=decide_eq_false (by omega)
  rw[List.take_length]
  repeat((conv=>whnf);first|refine sT ?_|rw[gk])
  try(conv=>whnf)
  refine cD (jX LW y.routes hy.1 hy.2) ?_
  repeat((conv=>whnf);first|refine sT ?_ )
  try(conv=>whnf)
  refine zt.run mixed [] (fun (k:Nat)=>k≤y.routes.length) (fun k=>[(11,.ptr 2 0),(18,.own ((xa x.routes (y.routes.take k)).map zp) 0),(119,zZ y.routes),(120,.int .i64 y.routes.length),(121,.int .i64 k)]) (fun k=>⟨ifS id slot last x y,[((xa x.routes (y.routes.take k)).length,1)],0,0,fun c=>if c=0 then 88 else 0⟩) (fun k=>y.routes.length-k) 0 (by omega) ?_ ?_
  ·refine fN ?_<;>repeat' (first|exact fQ|refine And.intro ?_ ?_|exact zn.zj _|exact za.int (by simp)|exact za.own (by simp[xa])|(show(_,_)=(_,_);exact Prod.ext (by simp[xa]) rfl))
  rintro k hk2
  have hul:(xa x.routes (y.routes.take k)).length≤2000:=by
   unfold xa
   have:=List.length_filter_le (fun r=>!(x.routes.any fun z=>decide (z=r))) (y.routes.take k)
   rw[List.length_append]
   rw[List.length_take]at this
   omega
  by_cases hkl:k < y.routes.length
  rotate_left
  ·have hke:k=y.routes.length:=by omega
   subst hke
   have gk:decide ((y.routes.length:Int) < (y.routes.length:Int))=false:=decide_eq_false (by omega)
   rw[List.take_length]
   repeat((conv=>whnf);first|refine sT ?_|rw[gk])
   try(conv=>whnf)
   exact ze.mk rfl (za.of_eq rfl)
  obtain⟨r,hgr⟩:=zr hkl
  have hmr:=zk (f:=zp) hgr
  have hus:=VF x.routes hgr
  have gk:decide ((k:Int) < (y.routes.length:Int))=true:=decide_eq_true (by omega)
  repeat((conv=>whnf);first|refine sJ ?_|refine aI (by first|exact trivial|exact zh hkl|kernel_rfl) ?_|rw[gk]|rw[hmr])
  try(conv=>whnf)
  refine cB (w8 LW x.routes (fun a=>decide (a=r)) 102 [.cptr (.agg [zp r]) 0] (by omega) rfl rfl (fun a ha=>zhy a r (by have:=hx.2 a ha;omega))) ?_
  cases hp:(x.routes.any fun a=>decide (a=r)) with
  | true=>
   rw[hp,if_pos rfl,List.append_nil]at hus
   repeat((conv=>whnf);first|refine sT ?_ )
   try(conv=>whnf)
   refine⟨k+1,by omega,by omega,?_⟩
   rw[hus]
   refine fN ?_<;>repeat' (first|exact fQ|refine And.intro ?_ ?_|exact zn.zj _|exact za.int (zu hkl (by omega)))
  | false=>
   rw[hp,if_neg (by decide)]at hus
   repeat((conv=>whnf);first|refine sJ ?_|refine aI (by first|exact trivial|exact xF.map (f:=zp) (fun _=>⟨rfl,rfl⟩)|exact(show _*24≤_ by simp only[List.length_map,List.length_cons,List.length_nil];omega)|exact(by simp only[List.length_map,List.length_cons,List.length_nil,maxLen];omega)|exact(show some (_,_)=some (_,_) by simp only[List.length_map])|kernel_rfl) ?_ )
   try(conv=>whnf)
   refine⟨k+1,by omega,by omega,?_⟩
   rw[hus]
   refine fN ?_<;>repeat' (first|exact fQ|refine And.intro ?_ ?_|exact zn.zj _|exact za.int (zu hkl (by omega))|exact za.own (by simp;rfl)|(show(_,_)=(_,_);exact Prod.ext (by simp only[List.length_append,List.length_map,List.length_cons,List.length_nil]<;>omega) rfl))
 refine Wk ?_
 refine zo.fresh rfl (Q6 LW l hne (by omega)) (by rfl) (yT.els _) (yT.scal (fun _=>rfl) _) (fun h=>absurd (by simpa using h) hne) (fun d=>?_)
 repeat((conv=>whnf);first|refine sT ?_ )
 try(conv=>whnf)
 rw[List.length_map]
 refine zo.inl rfl (zfs LW _ _ _ _ _ _ _ _ l (fun c=>c.cell.flow != id) _ [.ptr 0 0] [.cptr (.agg [.int .i64 id]) 0] d (by omega) rfl rfl ⟨?_,?_,?_,?_,?_,?_⟩ (fun _ _ _ _=>rfl) (fun c _=>zki c id) fun ex=>?_)
 ·exact⟨trivial,trivial⟩
 ·exact⟨trivial,trivial⟩
 ·exact⟨trivial,trivial,trivial,trivial,trivial,trivial,yz (es:=[zZ x.routes]) rfl⟩
 ·exact⟨trivial,trivial,trivial,trivial,trivial,trivial,yz (es:=[zZ y.routes]) rfl⟩
 ·exact⟨trivial,trivial⟩
 ·exact⟨(by decide:0 < 6),trivial⟩
 rw[show(l.filter fun c=>!(c.cell.flow != id))=zbC l id from rfl]
 obtain⟨O,hO⟩:∃O,O=zbC l id:=⟨_,rfl⟩
 rw[←hO]at hol ⊢
 repeat((conv=>whnf);first|refine sT ?_ )
 try(conv=>whnf)
 cases c1:O.any fun c=>decide (c.slot≤last)
 ·rw[if_pos rfl]
  refine yF.sem mixed [] ?_
  refine Wk ?_
  first
   | refine zo.box rfl (zq LW O (fun c=>decide (c.slot≤last)) 100 [.cptr (.agg [.int .i64 last]) 0] (by omega) rfl rfl (fun c _=>qk c last)) (Y0 (yT.fzb rfl rfl) (Yd rfl)) rfl ?_
   | refine zo.box rfl (zq LW O (fun c=>decide (c.slot≤last)) 100 [.cptr (.agg [.int .i64 last]) 0] (by omega) rfl rfl (fun c _=>qk c last)) rfl rfl ?_
  rw[c1]
  repeat((conv=>whnf);first|refine sT ?_ )
  try(conv=>whnf)
  refine cD (jX LW x.routes hx.1 hx.2) ?_
  refine Wk ?_
  exact ze.mk rfl (za.of_eq rfl)
 rw[if_neg (by decide)]
 cases c2:O.any fun c=>decide (slot < c.slot)
 ·rw[if_pos rfl]
  refine yF.sem mixed [] ?_
  refine Wk ?_
  first
   | refine zo.box rfl (zq LW O (fun c=>decide (c.slot≤last)) 100 [.cptr (.agg [.int .i64 last]) 0] (by omega) rfl rfl (fun c _=>qk c last)) (Y0 (yT.fzb rfl rfl) (Yd rfl)) rfl ?_
   | refine zo.box rfl (zq LW O (fun c=>decide (c.slot≤last)) 100 [.cptr (.agg [.int .i64 last]) 0] (by omega) rfl rfl (fun c _=>qk c last)) rfl rfl ?_
  rw[c1]
  repeat((conv=>whnf);first|refine sT ?_ )
  try(conv=>whnf)
  first
   | refine zo.box rfl (zq LW O (fun c=>decide (slot < c.slot)) 101 [.cptr (.agg [.int .i64 slot]) 0] (by omega) rfl rfl (fun c _=>ZD c slot)) (Y0 (yT.fzb rfl rfl) (Yd rfl)) rfl ?_
   | refine zo.box rfl (zq LW O (fun c=>decide (slot < c.slot)) 101 [.cptr (.agg [.int .i64 slot]) 0] (by omega) rfl rfl (fun c _=>ZD c slot)) rfl rfl ?_
  rw[c2]
  repeat((conv=>whnf);first|refine sT ?_ )
  try(conv=>whnf)
  refine cD (jX LW y.routes hy.1 hy.2) ?_
  refine Wk ?_
  exact ze.mk rfl (za.of_eq rfl)
 rw[if_neg (by decide)]
 refine yF.Yg mixed [] [(11,.ptr 2 0),(13,.ptr 3 0)] ⟨ifS id slot last x y,[],0,0,fun _=>0⟩ (zE (ct:=[]) mixed _ _ _ _ ?_) ?_
 ·refine Wk ?_
  first
   | refine zo.box rfl (zq LW O (fun c=>decide (c.slot≤last)) 100 [.cptr (.agg [.int .i64 last]) 0] (by omega) rfl rfl (fun c _=>qk c last)) (Y0 (yT.fzb rfl rfl) (Yd rfl)) rfl ?_
   | refine zo.box rfl (zq LW O (fun c=>decide (c.slot≤last)) 100 [.cptr (.agg [.int .i64 last]) 0] (by omega) rfl rfl (fun c _=>qk c last)) rfl rfl ?_
  rw[c1]
  repeat((conv=>whnf);first|refine sT ?_ )
  try(conv=>whnf)
  first
   | refine zo.box rfl (zq LW O (fun c=>decide (slot < c.slot)) 101 [.cptr (.agg [.int .i64 slot]) 0] (by omega) rfl rfl (fun c _=>ZD c slot)) (Y0 (yT.fzb rfl rfl) (Yd rfl)) rfl ?_
   | refine zo.box rfl (zq LW O (fun c=>decide (slot < c.slot)) 101 [.cptr (.agg [.int .i64 slot]) 0] (by omega) rfl rfl (fun c _=>ZD c slot)) rfl rfl ?_
  rw[c2]
  repeat((conv=>whnf);first|refine sT ?_ )
  try(conv=>whnf)
  refine fN ?_<;>repeat' (first|exact fQ|refine And.intro ?_ ?_|exact zn.zj _)
 refine Wk ?_
 refine zo.inl rfl (zQ.intro mixed [] (nt:=19) Tryz.func97 rfl rfl (by simp) ?_)
 refine Wk ?_
 refine zt.born 3 1 88 rfl ?_
 refine zt.run mixed [] (fun (k:Nat)=>k≤x.routes.length) (fun k=>[(3,.own ((x.routes.take k).map zp) 0),(6,zZ x.routes),(7,.int .i64 x.routes.length),(8,.int .i64 k)]) (fun k=>⟨ifS id slot last x y,[(k,1)],5,0,fun c=>if c=0 then 88 else 0⟩) (fun k=>x.routes.length-k) 0 (by omega) ?_ ?_
 ·refine fN ?_<;>repeat' (first|exact fQ|refine And.intro ?_ ?_|exact zn.zj _|exact za.int (by simp)|exact okI5 _ _ _ _ _ _ _)
 rintro k hk
 have htl:((x.routes.take k).map zp).length=k:=by rw[List.length_map,List.length_take];omega
 by_cases hkl:k < x.routes.length
 ·obtain⟨r,hgr⟩:=zr hkl
  have hmr:=zk (f:=zp) hgr
  have hrl:=hx.2 r (List.mem_of_getElem? hgr)
  have gk:decide ((k:Int) < (x.routes.length:Int))=true:=decide_eq_true (by omega)
  repeat((conv=>whnf);first|refine sJ ?_|refine aI (by first|exact trivial|exact zh hkl|kernel_rfl) ?_|rw[gk]|rw[hmr])
  try(conv=>whnf)
  refine cD (jY LW r (by omega)) ?_
  repeat((conv=>whnf);first|refine sJ ?_|refine aI (by first|exact trivial|exact xF.map (f:=zp) (fun _=>⟨rfl,rfl⟩)|exact(show _*24≤_ by simp only[List.length_map,List.length_cons,List.length_nil,List.length_take];omega)|exact(by simp only[List.length_map,List.length_cons,List.length_nil,List.length_take,maxLen];omega)|exact(show some (_,_)=some (_,_) by rw[htl])|kernel_rfl) ?_ )
  try(conv=>whnf)
  refine⟨k+1,by omega,by omega,?_⟩
  rw[zK hgr]
  refine fN ?_<;>repeat' (first|exact fQ|refine And.intro ?_ ?_|exact zn.zj _|exact za.int (zu hkl (by omega))|exact za.own (by simp;rfl)|(show(_,_)=(_,_);exact Prod.ext (by dsimp only;rw[List.length_append,htl];rfl) rfl))
 have hke:k=x.routes.length:=by omega
 subst hke
 have gk:decide ((x.routes.length:Int) < (x.routes.length:Int))=false:=decide_eq_false (by omega)
 rw[List.take_length]
 repeat((conv=>whnf);first|refine sT ?_|rw[gk])
 try(conv=>whnf)
 refine cD (jX LW y.routes hy.1 hy.2) ?_
 repeat((conv=>whnf);first|refine sT ?_ )
 try(conv=>whnf)
 refine zt.run mixed [] (fun (k:Nat)=>k≤y.routes.length) (fun k=>[(11,.ptr 2 0),(18,.own ((xa x.routes (y.routes.take k)).map zp) 0),(119,zZ y.routes),(120,.int .i64 y.routes.length),(121,.int .i64 k)]) (fun k=>⟨ifS id slot last x y,[((xa x.routes (y.routes.take k)).length,1)],0,0,fun c=>if c=0 then 88 else 0⟩) (fun k=>y.routes.length-k) 0 (by omega) ?_ ?_
 ·refine fN ?_<;>repeat' (first|exact fQ|refine And.intro ?_ ?_|exact zn.zj _|exact za.int (by simp)|exact za.own (by simp[xa])|(show(_,_)=(_,_);exact Prod.ext (by simp[xa]) rfl))
 rintro k hk2
 have hul:(xa x.routes (y.routes.take k)).length≤2000:=by
  unfold xa
  have:=List.length_filter_le (fun r=>!(x.routes.any fun z=>decide (z=r))) (y.routes.take k)
  rw[List.length_append]
  rw[List.length_take]at this
  omega
 by_cases hkl:k < y.routes.length
 rotate_left
 ·have hke:k=y.routes.length:=by omega
  subst hke
  have gk:decide ((y.routes.length:Int) < (y.routes.length:Int))=false:=decide_eq_false (by omega)
  rw[List.take_length]
  repeat((conv=>whnf);first|refine sT ?_|rw[gk])
  try(conv=>whnf)
  exact ze.mk rfl (za.of_eq rfl)
 obtain⟨r,hgr⟩:=zr hkl
 have hmr:=zk (f:=zp) hgr
 have hus:=VF x.routes hgr
 have gk:decide ((k:Int) < (y.routes.length:Int))=true:=decide_eq_true (by omega)
 repeat((conv=>whnf);first|refine sJ ?_|refine aI (by first|exact trivial|exact zh hkl|kernel_rfl) ?_|rw[gk]|rw[hmr])
 try(conv=>whnf)
 refine cB (w8 LW x.routes (fun a=>decide (a=r)) 102 [.cptr (.agg [zp r]) 0] (by omega) rfl rfl (fun a ha=>zhy a r (by have:=hx.2 a ha;omega))) ?_
 cases hp:(x.routes.any fun a=>decide (a=r)) with
 | true=>
  rw[hp,if_pos rfl,List.append_nil]at hus
  repeat((conv=>whnf);first|refine sT ?_ )
  try(conv=>whnf)
  refine⟨k+1,by omega,by omega,?_⟩
  rw[hus]
  refine fN ?_<;>repeat' (first|exact fQ|refine And.intro ?_ ?_|exact zn.zj _|exact za.int (zu hkl (by omega)))
 | false=>
  rw[hp,if_neg (by decide)]at hus
  repeat((conv=>whnf);first|refine sJ ?_|refine aI (by first|exact trivial|exact xF.map (f:=zp) (fun _=>⟨rfl,rfl⟩)|exact(show _*24≤_ by simp only[List.length_map,List.length_cons,List.length_nil];omega)|exact(by simp only[List.length_map,List.length_cons,List.length_nil,maxLen];omega)|exact(show some (_,_)=some (_,_) by simp only[List.length_map])|kernel_rfl) ?_ )
  try(conv=>whnf)
  refine⟨k+1,by omega,by omega,?_⟩
  rw[hus]
  refine fN ?_<;>repeat' (first|exact fQ|refine And.intro ?_ ?_|exact zn.zj _|exact za.int (zu hkl (by omega))|exact za.own (by simp;rfl)|(show(_,_)=(_,_);exact Prod.ext (by simp only[List.length_append,List.length_map,List.length_cons,List.length_nil]<;>omega) rfl))
end HM
