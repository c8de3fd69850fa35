/- Changes: how many there are up to a slot. -/
import Derived.Test.YtggiajmlnieidaaGreatDoorS54
import Derived.Test.YtggiajmlnieidaaGreatDoorFh
import Derived.Test.YtggiajmlnieidaaGreatDoorS79
import Derived.Test.YtggiajmlnieidaaGreatDoorDb
set_option maxHeartbeats 64000000
set_option maxRecDepth 100000
namespace HM
open Go Go.RowKit Go.Proofs
section
variable (L:World→Prop)
theorem yT:yH zJ.av 7:=⟨fun _=>rfl,fun _=>rfl,fun _=>rfl,fun _=>rfl,by decide⟩
theorem Vd:zb Tryz.prog L 17 [.sl false (([]:List zJ).map zJ.av)] (.sl false (([]:List zJ).map zJ.av)):=by
 refine zb.intro mixed [] (nt:=8) Tryz.func17 rfl rfl (by simp) ?_
 refine Wk ?_
 intro b
 cases b
 ·repeat((conv=>whnf);first|refine sJ ?_|refine aI (by first|exact xF.map (f:=zJ.av) (fun x=>⟨(yT).len x,(yT).cell x⟩)|kernel_rfl) ?_ )
  try(conv=>whnf)
  exact ze.mk rfl (za.of_eq rfl)
 ·refine Wk ?_
  exact ze.mk rfl (za.of_eq rfl)
theorem Q6 (l:List zJ)(hne:l≠[])(hl:l.length≤1099511627776):Ju Tryz.prog L 17 [.sl false (l.map zJ.av)] (l.map zJ.av) 7 42:=by
 refine Ju.X4 (zQ.intro mixed [] (nt:=8) Tryz.func17 rfl rfl (by simp) ?_)
 refine Wk ?_
 refine zx.mk (fun h=>?_) (fun h=>?_)<;>(try rw[h])
 ·exact absurd (by simpa using h) hne
 ·repeat((conv=>whnf);first|refine sJ ?_|refine aI (by first|exact xF.map (f:=zJ.av) (fun x=>⟨(yT).len x,(yT).cell x⟩)|exact(show _*56≤_ by simp only[List.length_map,List.length_nil];omega)|exact(by simp only[List.length_map,List.length_nil,maxLen];omega)|kernel_rfl) ?_ )
  try(conv=>whnf)
  exact⟨_,rfl,rfl,rfl⟩
theorem vu (l:List zJ)(p:zJ→Bool)(g:Nat)(caps:List AV)(hl:l.length≤281474976710656)(hcb:zO Tryz.prog g=true)(hc:xo caps=some caps)(hp:∀x∈l,zb Tryz.prog L g (zJ.av x :: caps) (.bool (p x))) :
  zb Tryz.prog L 58 [.sl false (l.map zJ.av),.fn g caps] (.int .i64 (wu p l)):=by
 refine zb.intro mixed [] (nt:=19) Tryz.func58 rfl rfl (by simp) ?_
 refine Wk ?_
 refine zt.run mixed [] (fun (k:Nat)=>k≤l.length∧∀j x,j < k→l[j]? = some x→p x=false) (fun k=>[(0,.sl false (l.map zJ.av)),(1,.fn g caps),(7,.int .i64 l.length),(8,.int .i64 k)]) (fun k=>St.none) (fun k=>l.length-k) 0 ⟨by simp,by simp⟩ ?_ ?_
 ·refine fN ?_<;>repeat' (first|exact fQ|refine And.intro ?_ ?_|exact za.int (by simp)|exact yz hc)
 rintro k ⟨hk,hinv⟩
 refine Wk ?_
 refine zx.mk (fun hb=>?_) (fun hb=>?_)<;>try rw[hb]
 ·have hlt:k < l.length:=by simpa using hb
  obtain⟨x,hgx⟩:=zr hlt
  have hmx:=zk (f:=zJ.av) hgx
  repeat((conv=>whnf);first|refine sJ ?_|refine aI (by first|exact zh hlt|kernel_rfl) ?_|rw[hmx])
  try(conv=>whnf)
  refine zo.data hcb (hp x (List.mem_of_getElem? hgx)) (by show(match fz _,xo caps with|some a,some b=>some (a :: b)|_,_=>none)=_;rw[hc];rfl) ?_
  refine Wk ?_
  refine zx.mk (fun h2=>?_) (fun h2=>?_)<;>(try rw[h2])
  ·refine Wk ?_
   exact ze.mk rfl (za.int (yI hlt hinv hgx h2).symm)
  ·refine Wk ?_
   refine⟨k+1,⟨by omega,fun j y hj hy=>?_⟩,by omega,?_⟩
   ·rcases Nat.lt_succ_iff_lt_or_eq.1 hj with h|rfl
    ·exact hinv j y h hy
    ·rw[hgx]at hy;injection hy with hy;subst hy;exact h2
   ·refine fN ?_<;>repeat' (first|exact fQ|refine And.intro ?_ ?_|exact za.int (zu hlt hl)|exact yz hc)
 ·have hk':k=l.length:=by simp at hb;omega
  subst hk'
  refine Wk ?_
  exact ze.mk rfl (za.int (yY hinv).symm)
theorem zhB (c:zJ)(n:Int):zb Tryz.prog L 86 [c.av,.cptr (.agg [.int .i64 n]) 0] (.bool (decide (n < c.slot))):=by
 refine zb.intro mixed [] (nt:=8) Tryz.func86 rfl rfl (by simp) ?_
 refine Wk ?_
 exact ze.mk rfl (za.bool rfl)
structure Upd (S S1:St)(b:Nat):Prop where
 bx:∀(id:Nat) (o:Ob),id≠b→S.bx[id]? = some o→S1.bx[id]? = some o
 fr:S1.fr=S.fr
 ty:S1.ty=S.ty
theorem Upd.refl (S:St)(b:Nat):Upd S S b:=⟨fun _ _ _ h=>h,rfl,rfl⟩
theorem Upd.setB {S S1:St}{b:Nat}(h:Upd S S1 b)(o:Ob):Upd S (S1.setB b o) b:=⟨fun id o' hne h1=>by rw[St.zi hne.symm];exact h.bx id o' hne h1,h.fr,h.ty⟩
theorem zdm {S:St}{nb:Nat}{n:Int}(h:S.bx[nb]? = some (.cells [.int .i64 n] 3)):wj S [.ptr nb 0] = some [.cptr (.agg [.int .i64 n]) 0]:=by
 simp[wj,fzb,h,xo,fz]
theorem zg4 (S:St)(b nb:Nat)(l:List zJ)(n:Int)(d:Nat){K:AV→St→Prop}(hl:l.length≤281474976710656)(hb:S.bx[b]? = some (jz (l.map zJ.av) 7 d 42))(hn:S.bx[nb]? = some (.cells [.int .i64 n] 3))(hne:nb≠b)
  (hK:∀S',Upd S S' b→K (.vsl b 0 (l.filter fun x=>!decide (n < x.slot)).length 7) S') :
  zQ Tryz.prog L 85 [.vsl b 0 l.length 7,.fn 86 [.ptr nb 0]] S K:=by
 have hp:∀x∈l,zb Tryz.prog L 86 (x.av :: [.cptr (.agg [.int .i64 n]) 0]) (.bool (decide (n < x.slot))):=fun x _=>zhB L x n
 refine zQ.intro mixed [] (nt:=42) Tryz.func85 rfl rfl (by simp) ?_
 refine Wk ?_
 refine zo.box rfl (vu L l (fun x=>decide (n < x.slot)) 86 [.cptr (.agg [.int .i64 n]) 0] hl rfl rfl hp) (Y0 (yT.fzb hb rfl) (Yd (zdm hn))) rfl ?_
 refine Wk ?_
 refine zx.mk (fun h1=>?_) (fun h1=>?_)<;>(try rw[h1])
 ·refine Wk ?_
  have hnone:=wo (p:=fun x:zJ=>decide (n < x.slot)) (l:=l) (by simpa using h1)
  have hfil:(l.filter fun x=>!decide (n < x.slot))=l:=List.filter_eq_self.2 fun x hx=>by
   obtain⟨j,hj⟩:=List.getElem?_of_mem hx
   simpa using hnone j x hj
  have:=hK S (Upd.refl S b)
  rw[hfil]at this
  exact this
 obtain⟨k,x,e1,e2,e3⟩:=vV (p:=fun x:zJ=>decide (n < x.slot)) (l:=l) (by simpa using h1)
 obtain⟨_,_,_,e4⟩:=vH e1
 have hklt:=(List.getElem?_eq_some_iff.1 e2).1
 rw[e1]
 refine Wk ?_
 refine zt.za3 mixed [] (fun (s:List zJ×Nat×Nat) S1=>kV (fun x:zJ=>decide (n < x.slot)) l s.1 s.2.1 s.2.2∧Upd S S1 b∧S1.bx[b]? = some (.cells (zd (s.1.map zJ.av)++List.replicate (d*7) AV.undef) 42)) (fun s=>[(0,.vsl b 0 l.length 7),(1,.fn 86 [.ptr nb 0]),(5,.int .i64 s.2.1),(6,.int .i64 s.2.2)]) (fun s=>l.length-s.2.2) (l,k,k+1) ⟨kV.start e2 e3 e4,⟨fun _ _ _ h=>h,rfl,rfl⟩,hb⟩ ?_ ?_
 ·exact⟨za.of_eq rfl,za.of_eq rfl,za.of_eq rfl,za.int (zu hklt hl),trivial⟩
 rintro⟨a,i,j⟩ S1 ⟨hkept,hu,hb1⟩
 simp only at hkept hb1
 have hij:=hkept.ij
 have halen:=hkept.len
 have hn1:=hu.bx nb _ hne hn
 refine Wk ?_
 refine zx.mk (fun hb=>?_) (fun hb=>?_)<;>try rw[hb]
 ·have hlt:j < l.length:=by simpa using hb
  obtain⟨y,hgy⟩:=zr hlt
  have hay:=hkept.get hgy
  have hld:=yT.ld (List.replicate (d*7) AV.undef) hay
  have hft:=yT.fit (l:=a) (List.replicate (d*7) AV.undef) (k:=j) (by omega)
  have hpy:=hp y (List.mem_of_getElem? hgy)
  repeat((conv=>whnf);first|refine sJ ?_|refine aI (by first|exact⟨by omega,by simp;omega⟩|kernel_rfl) ?_|rw[hb1])
  try(conv=>whnf)
  refine And.intro (show 0+(j:Int).toNat*7+7≤_ by rw[Nat.zero_add,Int.toNat_natCast];exact hft) ?_
  rw[yT.ldr _ hay _ _ (by kernel_rfl) (by kernel_rfl)]
  have hA:∀o,(S1.addB o).bx[S1.bx.length]? = some o:=fun o=>St.zP S1 o
  have hA2:∀o o',((S1.addB o).setB S1.bx.length o').bx[S1.bx.length]? = some o':=fun o o'=>St.zw (St.zP S1 o)
  repeat((conv=>whnf);first|refine sT ?_|rw[hA]|rw[hA2])
  try(conv=>whnf)
  have hbl:=(List.getElem?_eq_some_iff.1 hb1).1
  have hnl:=(List.getElem?_eq_some_iff.1 hn1).1
  have hB:∀o o',((S1.addB o).setB S1.bx.length o').bx[b]? = some (.cells (zd (a.map zJ.av)++List.replicate (d*7) AV.undef) 42):=fun o o'=>by
   rw[St.zi (by omega)];exact St.zm hb1
  have hcap:∀o o',wj ((S1.addB o).setB S1.bx.length o') [.ptr nb 0] = some [.cptr (.agg [.int .i64 n]) 0]:=fun o o'=>zdm (by
   rw[St.zi (by omega)];exact St.zm hn1)
  have hu2:∀o o',Upd S ((S1.addB o).setB S1.bx.length o') b:=fun o o'=>⟨fun id o2 hne h1=>by
   have h2:=hu.bx id o2 hne h1
   have:=(List.getElem?_eq_some_iff.1 h2).1
   rw[St.zi (by omega)];exact St.zm h2,hu.fr,hu.ty⟩
  refine zo.box rfl hpy (Y0 rfl (hcap _ _)) rfl ?_
  have hfi:=yT.fit (l:=a) (List.replicate (d*7) AV.undef) (k:=i) (by omega)
  refine Wk ?_
  refine zx.mk (fun h2=>?_) (fun h2=>?_)<;>(try rw[h2])
  ·repeat((conv=>whnf);first|refine sJ ?_|refine aI (by first|exact⟨by omega,by simp;omega⟩|kernel_rfl) ?_|rw[hA2]|rw[hB])
   try(conv=>whnf)
   refine And.intro (show 0+(i:Int).toNat*7+7≤_ by rw[Nat.zero_add,Int.toNat_natCast];exact hfi) ?_
   have hst:=yT.st y (List.replicate (d*7) AV.undef) (l:=a) (k:=i) (by omega)
   refine Wk ?_
   refine⟨(a.set i y,i+1,j+1),⟨hkept.keep hgy (by simpa using h2),(hu2 _ _).setB _,?_⟩,by simp only;omega,?_⟩
   ·rw[St.zw (hB _ _)]
    rw[←hst,Nat.zero_add,Int.toNat_natCast]
    rfl
   ·exact⟨za.of_eq rfl,za.of_eq rfl,za.int (zu (by omega:i < l.length) hl),za.int (zu hlt hl),trivial⟩
  ·refine Wk ?_
   refine⟨(a,i,j+1),⟨hkept.skip hgy (by simpa using h2),hu2 _ _,hB _ _⟩,by simp only;omega,?_⟩
   exact⟨za.of_eq rfl,za.of_eq rfl,za.of_eq rfl,za.int (zu hlt hl),trivial⟩
 ·have hj:j=l.length:=by simp at hb;omega
  subst hj
  have hfin:=hkept.fin
  have hflen:=yT.flen a
  have hcl:0+(i:Int).toNat*7+(l.length-(i:Int).toNat)*7≤(zd (a.map zJ.av)++List.replicate (d*7) AV.undef).length:=by
   rw[List.length_append,hflen,Int.toNat_natCast,Nat.zero_add,←Nat.add_mul,show i+(l.length-i)=l.length by omega,halen]
   exact Nat.le_add_right _ _
  have hfl:(l.filter fun x=>!decide (n < x.slot)).length=i:=by rw[←hfin,List.length_take];omega
  repeat((conv=>whnf);first|refine sJ ?_|refine aI (by first|exact(show JB (i:Int) l.length from⟨by omega,by omega⟩)|exact⟨rfl,rfl,Nat.le_of_ble_eq_true rfl,hcl⟩|kernel_rfl) ?_|rw[hb1]|rw[St.zw hb1])
  try(conv=>whnf)
  rw[yT.clr' (l:=a) (k:=i) _ _ _ _ (by kernel_rfl) (by rw[Int.toNat_natCast,halen]) (by omega) rfl]
  refine And.intro ⟨by omega,?_⟩ ?_
  ·unfold kY
   rw[St.zw hb1]
   exact⟨yT.headLe (k:=i) _ _ rfl (by omega),by decide⟩
  refine Wk ?_
  have hu3:=fun o=>hu.setB (S:=S) (S1:=S1) o
  have hK2:∀S',Upd S S' b→K (.vsl b 0 i 7) S':=fun S' h=>by
   have:=hK S' h
   rw[hfl]at this
   exact this
  refine hK2 _ ?_
  exact⟨(hu3 _).bx,hu.fr,hu.ty⟩
end
def ziQ (s:zc):List Ob:=[.cells s.av.cells 30,.cells [.nils,.nils] 74]
theorem zcF (l:List zf)(s:zc)(cs:List zJ)(x:List zD)(slots:Int)(hl:l.length≤281474976710656)(hcs:cs.length≤281474976710656)(hx:∀r∈x,r.outs.length≤281474976710656)(hxl:x.length≤281474976710656) :
  zb Tryz.prog LW 34 [zN l,s.av,zT cs,xn x,.int .i64 slots] (.tup [(yy l s cs x slots).1.av,.int .i64 (yy l s cs x slots).2]):=by
 refine zb.intro mixed [19,26] (nt:=105) Tryz.func34 rfl rfl (by simp) ?_
 repeat((conv=>whnf);first|refine sT ?_ )
 try(conv=>whnf)
 refine cD (ziX l s x slots hl hx hxl) ?_
 repeat((conv=>whnf);first|refine sT ?_ )
 try(conv=>whnf)
 refine zx.mk (fun h1=>?_) (fun h1=>?_)<;>(try rw[h1])
 ·have h1':wq l s x slots≠0:=by simpa using h1
  have hpm:yy l s cs x slots=(⟨[],[]⟩,wq l s x slots):=by rw[yy,if_pos h1']
  repeat((conv=>whnf);first|refine sT ?_ )
  try(conv=>whnf)
  rw[hpm]
  exact ze.mk rfl (za.of_eq rfl)
 have h1':wq l s x slots=0:=by simpa using h1
 obtain⟨hfl,hform,hscr,hs0,hs1⟩:=We h1'
 have hF:=YQ hfl
 repeat((conv=>whnf);first|refine sT ?_ )
 try(conv=>whnf)
 refine zx.mk (fun h2=>?_) (fun h2=>?_)<;>(try rw[h2])
 ·have h2':1024 < cs.length:=by simp at h2;omega
  have hpm:yy l s cs x slots=(⟨[],[]⟩,8):=by rw[yy,if_neg (by simp[h1']),if_pos h2']
  repeat((conv=>whnf);first|refine sT ?_ )
  try(conv=>whnf)
  rw[hpm]
  exact ze.mk rfl (za.of_eq rfl)
 have h2':¬1024 < cs.length:=by simp at h2;omega
 repeat((conv=>whnf);first|refine sT ?_ )
 try(conv=>whnf)
 refine yF.zjM mixed [26] (fun (bs:List zc) S3=>xj none s cs=(bs,0)∧S3=⟨ziQ s,[((s :: bs).length,3)],0,0,fun k=>if k=0 then 30 else 0⟩) (fun bs=>[(0,zN l),(2,zT cs),(3,xn x),(4,.int .i64 slots),(6,.ptr 0 0),(10,.ptr 1 0),(13,.own ((s :: bs).map zc.av) 0)]) ?_ ?_
 ·repeat((conv=>whnf);first|refine sT ?_ )
  try(conv=>whnf)
  refine zt.run mixed [15] (fun q:Nat×List zc=>YY s cs q.1 q.2) (fun q=>[(0,zN l),(2,zT cs),(3,xn x),(4,.int .i64 slots),(6,.ptr 0 0),(10,.ptr 1 0),(11,.int .i64 0),(13,.own ((s :: q.2).map zc.av) 0),(35,zT cs),(36,.int .i64 cs.length),(37,.int .i64 q.1)]) (fun q=>⟨ziQ s,[((s :: q.2).length,3)],0,0,fun k=>if k=0 then 30 else 0⟩) (fun q=>cs.length-q.1) (0,[]) (YY.zero s cs) ?_ ?_
  ·refine fN ?_<;>repeat' (first|exact fQ|refine And.intro ?_ ?_|exact zn.zj _|exact za.int (by simp))
  rintro⟨k,bs⟩ hB
  simp only at hB
  refine Wk ?_
  refine zx.mk (fun hb=>?_) (fun hb=>?_)<;>try rw[hb]
  ·have hkt:k < cs.length:=by simpa using hb
   obtain⟨c,hgc⟩:=zr hkt
   have hmc:=zk (f:=zJ.av) hgc
   have hwk:IntKind.i64.wrap ((k:Int)+1)=((k+1:Nat):Int):=by rw[xw]<;>omega
   repeat((conv=>whnf);first|refine sJ ?_|refine aI (by first|exact zh hkt|kernel_rfl) ?_|rw[hmc])
   try(conv=>whnf)
   refine zx.mk (fun hb2=>?_) (fun hb2=>?_)<;>(try rw[hb2])
   ·have hneg:c.slot < 0:=by simpa using hb2
    have he:=hB.err1 hgc (by rw[zcm hneg];decide)
    rw[zcm hneg]at he
    have hpm:yy l s cs x slots=(⟨[],[]⟩,2):=by rw[yy,if_neg (by simp[h1']),if_neg h2',if_pos (by rw[he];decide),he]
    repeat((conv=>whnf);first|refine sT ?_ )
    try(conv=>whnf)
    rw[hpm]
    exact ze.mk rfl (za.of_eq rfl)
   have hneg:¬c.slot < 0:=by simpa using hb2
   have hsound:∀e,wV (qm cs k) c=e→e≠0→yy l s cs x slots=(⟨[],[]⟩,e):=fun e h3 h4=>by
    have he:=hB.err1 hgc (by rw[h3];exact h4)
    rw[h3]at he
    rw[yy,if_neg (by simp[h1']),if_neg h2',if_pos (by rw[he];exact h4),he]
   repeat((conv=>whnf);first|refine sT ?_ )
   try(conv=>whnf)
   have hlast:=hB.last
   have hlb:=hB.len
   have hml:=zk (f:=zc.av) hlast
   have hkb:k < (s :: bs).length:=by rw[List.length_cons];omega
   refine zx.mk (fun g1=>?_) (fun g1=>?_)<;>(try rw[g1])
   ·have hpos:0 < k:=by simpa using g1
    obtain⟨d,hgd⟩:=zr (l:=cs) (k:=k-1) (by omega)
    have hmd:=zk (f:=zJ.av) hgd
    have hw1:IntKind.i64.wrap ((k:Int)-1)=((k-1:Nat):Int):=by rw[xw]<;>omega
    have hce:=zfI (cs:=cs) (j:=k-1) hneg hgd
    rw[show k-1+1=k from by omega]at hce
    repeat((conv=>whnf);first|refine sJ ?_|refine aI (by first|exact zh hkt|(rw[hw1];exact zh (by omega:k-1 < cs.length))|kernel_rfl) ?_|rw[hw1]|rw[hmd])
    try(conv=>whnf)
    refine zx.mk (fun g2=>?_) (fun g2=>?_)<;>(try rw[g2])
    ·have hpm:=hsound 5 (by rw[hce,if_pos (by simpa using g2)]) (by decide)
     repeat((conv=>whnf);first|refine sT ?_ )
     try(conv=>whnf)
     rw[hpm]
     exact ze.mk rfl (za.of_eq rfl)
    rw[if_neg (by simpa using g2)]at hce
    repeat((conv=>whnf);first|refine sT ?_ )
    try(conv=>whnf)
    refine yF.Yg mixed [] [(0,zN l),(2,zT cs),(3,xn x),(4,.int .i64 slots),(6,.ptr 0 0),(10,.ptr 1 0),(11,.int .i64 0),(13,.own ((s :: bs).map zc.av) 0),(16,.ptr 3 0),(17,.int .i64 (yi (bs.getLastD s) c).2),(35,zT cs),(36,.int .i64 cs.length),(37,.int .i64 k)] ⟨ziQ s++[.cells c.av.cells 42,.cells (yi (bs.getLastD s) c).1.av.cells 30],[((s :: bs).length,3)],0,0,fun k=>if k=0 then 30 else 0⟩ (zW.Z9 mixed [0,1,2,3,4,5,6,7,8] 3 rfl rfl (by decide) rfl ?_) ?_
    ·repeat((conv=>whnf);first|refine sJ ?_|refine aI (by first|exact zh hkb|kernel_rfl) ?_|rw[hml])
     try(conv=>whnf)
     refine cD (KK LW (bs.getLastD s) c) ?_
     repeat((conv=>whnf);first|refine sT ?_ )
     try(conv=>whnf)
     repeat' ((conv=>whnf);first|exact trivial|refine sJ ?_|refine aI (by first|exact trivial|exact wN.pre rfl rfl|kernel_rfl) ?_|refine And.intro ?_ ?_ )
     all_goals refine X3.mk' rfl rfl rfl rfl ?_ ?_ ?_ ?_ ?_
     all_goals repeat' (first|exact trivial|refine And.intro ?_ ?_|exact za.of_eq rfl|exact zfh rfl|rfl|exact zn.zj _)
    repeat((conv=>whnf);first|refine sT ?_ )
    try(conv=>whnf)
    refine zx.mk (fun h3=>?_) (fun h3=>?_)<;>(try rw[h3])
    ·have hbe:=hB.err2 hgc hce (by simpa using h3)
     have hpm:yy l s cs x slots=(⟨[],[]⟩,(yi (bs.getLastD s) c).2):=by rw[yy,if_neg (by simp[h1']),if_neg h2',if_pos (by rw[hbe];simpa using h3),hbe]
     repeat((conv=>whnf);first|refine sT ?_ )
     try(conv=>whnf)
     rw[hpm]
     exact ze.mk rfl (za.of_eq rfl)
    have hstep:=hB.step hgc hce (by simpa using h3)
    repeat((conv=>whnf);first|refine sJ ?_|refine aI (by first|exact xF.map (f:=zc.av) (fun _=>⟨rfl,rfl⟩)|exact(show _*40≤_ by simp only[List.length_map,List.length_cons,List.length_nil];omega)|exact(by simp only[List.length_map,List.length_cons,List.length_nil,maxLen];omega)|exact(by rw[List.length_map];rfl)|kernel_rfl) ?_ )
    try(conv=>whnf)
    refine⟨(k+1,bs++[(yi (bs.getLastD s) c).1]),hstep,by simp only;omega,?_⟩
    refine fN ?_<;>repeat' (first|exact fQ|refine And.intro ?_ ?_|exact zn.zj _|exact za.int hwk|exact za.own (by simp;rfl)|(show(_,_)=(_,_);simp only[List.length_append,List.length_map,List.length_cons,List.length_nil]))
   ·have hk0:k=0:=by simp at g1;omega
    have hce:wV (qm cs k) c=0:=by rw[hk0];exact zdB hneg
    repeat((conv=>whnf);first|refine sT ?_ )
    try(conv=>whnf)
    refine yF.Yg mixed [] [(0,zN l),(2,zT cs),(3,xn x),(4,.int .i64 slots),(6,.ptr 0 0),(10,.ptr 1 0),(11,.int .i64 0),(13,.own ((s :: bs).map zc.av) 0),(16,.ptr 3 0),(17,.int .i64 (yi (bs.getLastD s) c).2),(35,zT cs),(36,.int .i64 cs.length),(37,.int .i64 k)] ⟨ziQ s++[.cells c.av.cells 42,.cells (yi (bs.getLastD s) c).1.av.cells 30],[((s :: bs).length,3)],0,0,fun k=>if k=0 then 30 else 0⟩ (zW.Z9 mixed [0,1,2,3,4,5,6,7,8] 3 rfl rfl (by decide) rfl ?_) ?_
    ·repeat((conv=>whnf);first|refine sJ ?_|refine aI (by first|exact zh hkb|kernel_rfl) ?_|rw[hml])
     try(conv=>whnf)
     refine cD (KK LW (bs.getLastD s) c) ?_
     repeat((conv=>whnf);first|refine sT ?_ )
     try(conv=>whnf)
     repeat' ((conv=>whnf);first|exact trivial|refine sJ ?_|refine aI (by first|exact trivial|exact wN.pre rfl rfl|kernel_rfl) ?_|refine And.intro ?_ ?_ )
     all_goals refine X3.mk' rfl rfl rfl rfl ?_ ?_ ?_ ?_ ?_
     all_goals repeat' (first|exact trivial|refine And.intro ?_ ?_|exact za.of_eq rfl|exact zfh rfl|rfl|exact zn.zj _)
    repeat((conv=>whnf);first|refine sT ?_ )
    try(conv=>whnf)
    refine zx.mk (fun h3=>?_) (fun h3=>?_)<;>(try rw[h3])
    ·have hbe:=hB.err2 hgc hce (by simpa using h3)
     have hpm:yy l s cs x slots=(⟨[],[]⟩,(yi (bs.getLastD s) c).2):=by rw[yy,if_neg (by simp[h1']),if_neg h2',if_pos (by rw[hbe];simpa using h3),hbe]
     repeat((conv=>whnf);first|refine sT ?_ )
     try(conv=>whnf)
     rw[hpm]
     exact ze.mk rfl (za.of_eq rfl)
    have hstep:=hB.step hgc hce (by simpa using h3)
    repeat((conv=>whnf);first|refine sJ ?_|refine aI (by first|exact xF.map (f:=zc.av) (fun _=>⟨rfl,rfl⟩)|exact(show _*40≤_ by simp only[List.length_map,List.length_cons,List.length_nil];omega)|exact(by simp only[List.length_map,List.length_cons,List.length_nil,maxLen];omega)|exact(by rw[List.length_map];rfl)|kernel_rfl) ?_ )
    try(conv=>whnf)
    refine⟨(k+1,bs++[(yi (bs.getLastD s) c).1]),hstep,by simp only;omega,?_⟩
    refine fN ?_<;>repeat' (first|exact fQ|refine And.intro ?_ ?_|exact zn.zj _|exact za.int hwk|exact za.own (by simp;rfl)|(show(_,_)=(_,_);simp only[List.length_append,List.length_map,List.length_cons,List.length_nil]))
  ·have hk':k=cs.length:=by have:=hB.le;simp at hb;omega
   subst hk'
   refine Wk ?_
   exact⟨bs,⟨hB.fin,rfl⟩,za.of_eq rfl,za.of_eq rfl,za.of_eq rfl,za.of_eq rfl,za.of_eq rfl,za.of_eq rfl,za.of_eq rfl,trivial⟩
 rintro bs S0 ⟨hbeh,rfl⟩
 have hb2:(xj none s cs).2=0:=by rw[hbeh]
 have hb1:(xj none s cs).1=bs:=by rw[hbeh]
 have hpm:=zho h1' h2' hb2
 obtain⟨sc,hsc⟩:∃sc:Nat→zc,sc=fun n:Nat=>jd s cs (n:Int):=⟨_,rfl⟩
 rw[←hsc]at hpm
 have hscl:∀n,(sc n).cells.length≤512:=fun n=>by rw[hsc];exact(xC (zbI hform cs n)).2.1
 refine zE (ct:=[26]) mixed _ _ _ _ ?_
 repeat((conv=>whnf);first|refine sT ?_ )
 try(conv=>whnf)
 refine zo.inl rfl ?_
 refine zb0 LW (kx:=Qm 1) _ l s x hF.len (fun e he=>?_) fun S1 pb sv hN=>?_
 ·obtain rfl:e=_:=List.mem_singleton.1 he
  rfl
 have hp1:=hN.p
 repeat((conv=>whnf);first|refine sT ?_ )
 try(conv=>whnf)
 refine yF.zjM mixed [] (fun (_:Unit) S3=>∃s1,Jp (jE (Qm 1)) S3 pb S1.fr.length l s1 x (wx l sc x slots.toNat)) (fun _=>[(10,.ptr 1 0),(18,.ptr pb 0)]) ?_ ?_
 rotate_left
 ·rintro⟨⟩ S2 ⟨s1,g2,sv2,dv2,hP2⟩
  rw[hpm]
  have hp2:=hP2.p
  have hr2:S2.bx[1]? = some (.cells [.nils,.nils] 74):=hP2.k (1,[.nils,.nils],74) (List.mem_singleton.2 rfl)
  rcases hP2.d with ⟨h3,h4⟩|⟨db,ex,h3,h4⟩
  ·rw[h4]at hp2
   refine zW.vR (id:=pb) (.cells (X6 l s1 x sv2 (.own ((wx l sc x slots.toNat).atts.map y9.av) S1.fr.length) .nils) 137) hp2 rfl ⟨rfl,za.zj _,za.zj _,za.zj _,za.zj _,za.zj _,za.zj _,za.zj _,za.zkC,trivial⟩ ?_
   have hne:pb≠1:=yP hp2 hr2 (show(137:Nat)≠74 by decide)
   have hr3:∀o,(S2.setB pb o).bx[1]? = some (.cells [.nils,.nils] 74):=fun o=>by rw[St.zi hne];exact hr2
   refine zE (ct:=[]) mixed _ _ _ _ ?_
   repeat((conv=>whnf);first|refine sT ?_|rw[St.zw hp2]|rw[hr3]|rw[St.zw (hr3 _)])
   try(conv=>whnf)
   rw[h3]
   exact ze.mk rfl (za.of_eq rfl)
  ·rw[h3]at hp2
   have hne:1≠db:=yP hr2 h4 (show(74:Nat)≠161 by decide)
   refine zE (ct:=[]) mixed _ _ _ _ ?_
   repeat((conv=>whnf);first|refine sT ?_|rw[hp2]|rw[hr2]|rw[St.zw hr2])
   try(conv=>whnf)
   exact zgz ((St.zi hne).trans h4) rfl
 repeat((conv=>whnf);first|refine sT ?_ )
 try(conv=>whnf)
 refine zt.zh0 pb 6 8 141 hp1 rfl ?_
 refine zt.vR (id:=pb) (.cells (X6 l s x sv (.own [] S1.fr.length) (.grown .nils 0)) 137) (St.zw (S:=S1.addF (0,8) _) hp1) rfl ⟨rfl,za.zj _,za.zj _,za.zj _,za.zj _,za.zj _,za.zj _,za.zj _,za.zjk,trivial⟩ ?_
 refine zt.za3 mixed [23] (fun (k:Nat) S2=>(k:Int)≤slots∧∃s1,Jp (jE (Qm 1)) S2 pb S1.fr.length l s1 x (wx l sc x k)) (fun k=>[(2,zT cs),(10,.ptr 1 0),(13,.sl false ((s :: bs).map zc.av)),(18,.ptr pb 0),(82,.int .i64 slots),(83,.int .i64 k)]) (fun k=>slots.toNat-k) 0 ⟨by omega,s,hN.start⟩ ?_ ?_
 ·exact⟨za.of_eq rfl,za.of_eq rfl,za.elems rfl,za.of_eq rfl,za.of_eq rfl,za.of_eq rfl,trivial⟩
 rintro k S2 ⟨hk,s1,hI2⟩
 refine Wk ?_
 refine zx.mk (fun hb=>?_) (fun hb=>?_)<;>try rw[hb]
 ·have hlt:(k:Int) < slots:=by simpa using hb
  have hwk:IntKind.i64.wrap ((k:Int)+1)=((k+1:Nat):Int):=by rw[xw]<;>omega
  have hnow:(s :: bs)[Yi cs k]? = some (sc k):=by have:=zj1 (s:=s) (cs:=cs) (k:Int) hb2;rw[hb1]at this;rw[this,hsc]
  have hmn:=zk (f:=zc.av) hnow
  have hnl:=(List.getElem?_eq_some_iff.1 hnow).1
  have hsim:=zad hF sc x k (by omega)
  have hpl:=zbA (l:=l) sc x (m:=512) hscl k
  repeat((conv=>whnf);first|refine sT ?_|rw[St.zP])
  try(conv=>whnf)
  refine yF.jf mixed [] [] (fun (nb:Nat) S3=>S3.bx[nb]? = some (.cells [.int .i64 k] 3)∧Jp (jE (Qm 1)) S3 pb S1.fr.length l s1 x (wx l sc x k)) (fun nb=>[(2,zT cs),(10,.ptr 1 0),(13,.sl false ((s :: bs).map zc.av)),(18,.ptr pb 0),(19,.ptr nb 0),(82,.int .i64 slots),(83,.int .i64 k)]) ?_ ?_
  ·repeat((conv=>whnf);first|refine sT ?_|rw[St.zP])
   try(conv=>whnf)
   obtain⟨g2,sv2,dv2,hP2⟩:=hI2
   refine⟨_,⟨St.zw (St.zP _ _),g2,sv2,dv2,hP2.more (fun id o ho=>?_) rfl rfl⟩,za.of_eq rfl,za.of_eq rfl,za.of_eq rfl,za.of_eq rfl,za.of_eq rfl,za.of_eq rfl,za.of_eq rfl,trivial⟩
   have:=(List.getElem?_eq_some_iff.1 ho).1
   rw[St.zi (by omega)];exact St.zm ho
  rintro nb S3 ⟨hn3,g3,sv3,dv3,hP3⟩
  have hp3:=hP3.p
  have hnp:nb≠pb:=yP hn3 hp3 (show(3:Nat)≠137 by decide)
  repeat((conv=>whnf);first|refine sT ?_ )
  try(conv=>whnf)
  by_cases hne:cs=[]
  ·subst hne
   refine cD (Vd LW) ?_
   repeat((conv=>whnf);first|refine sT ?_ )
   try(conv=>whnf)
   refine zo.inl rfl (zQ.intro mixed [] (nt:=42) Tryz.func85 rfl rfl (by simp) ?_)
   repeat((conv=>whnf);first|refine sT ?_ )
   try(conv=>whnf)
   refine zo.box rfl (vu LW [] (fun x=>decide ((k:Int) < x.slot)) 86 [.cptr (.agg [.int .i64 k]) 0] (by simp) rfl rfl (fun c _=>zhB LW c k)) (Y0 rfl (Yd (zdm hn3))) rfl ?_
   have hp4:(S3.inner.outer S3).bx[pb]? = some (.cells (X6 l s1 x sv3 (.own ((wx l sc x k).atts.map y9.av) S1.fr.length) dv3) 137):=hp3
   have hn4:(S3.inner.outer S3).bx[nb]? = some (.cells [.int .i64 k] 3):=hn3
   repeat((conv=>whnf);first|refine sJ ?_|refine aI (by first|exact trivial|exact zh hnl|kernel_rfl) ?_|rw[hmn]|rw[hp4]|rw[St.zi hnp.symm]|rw[hn4])
   try(conv=>whnf)
   have hsk:sc k=s:=by rw[hsc];rfl
   have hP4:xx (jE (Qm 1)) (S3.inner.outer S3) pb S1.fr.length l s1 x (wx l sc x k) g3 sv3 dv3:=hP3.more (fun _ _ ho=>ho) rfl rfl
   refine zo.inl rfl ?_
   refine zg3 LW (kx:=Qm 1) _ pb S1.fr.length l (sc k) x (wx l sc x k) k _ ?_ hF hscr hsim (by omega) (by have:=hscl k;omega) (by omega) (by omega) fun S5 hI5=>?_
   ·rw[hsk]
    exact⟨g3,sv3,dv3,hP4.setP s (wx l sc x k).atts hP4.a rfl rfl⟩
   repeat((conv=>whnf);first|refine sT ?_ )
   try(conv=>whnf)
   exact⟨k+1,⟨by omega,sc k,hI5⟩,by omega,za.of_eq rfl,za.of_eq rfl,za.of_eq rfl,za.of_eq rfl,za.of_eq rfl,za.int hwk,trivial⟩
  ·refine zo.fresh rfl (Q6 LW cs hne (by omega)) (by rfl) (yT.els _) (yT.scal (fun _=>rfl) _) (fun h=>absurd (by simpa using h) hne) (fun d=>?_)
   repeat((conv=>whnf);first|refine sT ?_ )
   try(conv=>whnf)
   rw[List.length_map]
   refine zo.inl rfl ?_
   refine zg4 LW _ S3.bx.length nb cs k d (by omega) (St.zP S3 _) (St.zm hn3) (by have:=(List.getElem?_eq_some_iff.1 hn3).1;omega) fun S4 hu=>?_
   have hu':∀(id:Nat) (o:Ob),S3.bx[id]? = some o→S4.bx[id]? = some o:=fun id o ho=>hu.bx id o (by have:=(List.getElem?_eq_some_iff.1 ho).1;omega) (St.zm ho)
   have hp4:=hu' _ _ hp3
   have hn4:=hu' _ _ hn3
   rw[KU]
   repeat((conv=>whnf);first|refine sJ ?_|refine aI (by first|exact trivial|exact zh hnl|kernel_rfl) ?_|rw[hmn]|rw[hp4]|rw[St.zi hnp.symm]|rw[hn4])
   try(conv=>whnf)
   have hP4:=hP3.more hu' (show S4.fr[S1.fr.length]? = S3.fr[S1.fr.length]? by rw[hu.fr];rfl) (show S4.ty S1.fr.length=S3.ty S1.fr.length by rw[hu.ty];rfl)
   refine zo.inl rfl ?_
   refine zg3 LW (kx:=Qm 1) _ pb S1.fr.length l (sc k) x (wx l sc x k) k _ ?_ hF hscr hsim (by omega) (by have:=hscl k;omega) (by omega) (by omega) fun S5 hI5=>?_
   ·exact⟨g3,sv3,dv3,hP4.setP (sc k) (wx l sc x k).atts hP4.a rfl rfl⟩
   repeat((conv=>whnf);first|refine sT ?_ )
   try(conv=>whnf)
   exact⟨k+1,⟨by omega,sc k,hI5⟩,by omega,za.of_eq rfl,za.of_eq rfl,za.of_eq rfl,za.of_eq rfl,za.of_eq rfl,za.int hwk,trivial⟩
 ·have hk':(k:Int)=slots:=by simp at hb;omega
  have hkn:slots.toNat=k:=by omega
  rw[←hkn]at hI2
  refine Wk ?_
  exact⟨(),⟨s1,hI2⟩,za.of_eq rfl,za.of_eq rfl,trivial⟩
end HM
