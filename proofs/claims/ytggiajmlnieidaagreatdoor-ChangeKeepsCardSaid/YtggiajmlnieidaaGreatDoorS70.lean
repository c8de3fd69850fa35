/- Frames of flows: the program. -/
import Derived.Test.YtggiajmlnieidaaGreatDoorS31
import Derived.Test.YtggiajmlnieidaaGreatDoorDa
import Derived.Test.YtggiajmlnieidaaGreatDoorS1
import Derived.Test.YtggiajmlnieidaaGreatDoorFh
import Derived.Test.YtggiajmlnieidaaGreatDoorS6
import Derived.Test.YtggiajmlnieidaaGreatDoorS30
set_option maxHeartbeats 64000000
set_option maxRecDepth 100000
namespace HM
open Go Go.RowKit Go.Proofs
section
variable (L:World→Prop)
theorem zaK (f:zf):zb Tryz.prog L 93 [f.av] (.int .i64 (yo 32 f)):=by
 refine zb.intro mixed [] (nt:=5) Tryz.func93 rfl rfl (by simp) ?_
 refine Wk ?_
 refine cD (zct L 32 f) ?_
 refine Wk ?_
 exact ze.mk rfl (za.int rfl)
theorem zfX (f:zf)(slot:Int)(hs:-9223372036854775808≤slot):zb Tryz.prog L 201 [f.av,.int .i64 slot] (.tup [.int .i64 (yq f slot).1,.bool (yq f slot).2]):=by
 refine zb.intro mixed [] (nt:=26) Tryz.func201 rfl rfl (by simp) ?_
 refine Wk ?_
 refine cD (zaK L f) ?_
 refine Wk ?_
 refine zx.mk (fun h1=>?_) (fun h1=>?_)<;>(try rw[h1])
 ·refine Wk ?_
  exact ze.mk rfl (za.of_eq (by rw[yq,if_pos (.inl (by simpa using h1))]))
 have h1':yo 32 f=0:=by simpa using h1
 obtain⟨q1,q2,q3,q4,q5,q6,q7,q8,q9,q10,q11,q12,q13⟩:=yB h1'
 refine Wk ?_
 refine zx.mk (fun h2=>?_) (fun h2=>?_)<;>(try rw[h2])
 ·refine Wk ?_
  exact ze.mk rfl (za.of_eq (by rw[yq,if_pos (.inr (.inl (by simpa using h2)))]))
 refine Wk ?_
 refine zx.mk (fun h3=>?_) (fun h3=>?_)<;>(try rw[h3])
 ·refine Wk ?_
  exact ze.mk rfl (za.of_eq (by rw[yq,if_pos (.inr (.inr (by simpa using h3)))]))
 have h2':f.phase≤slot:=by simpa using h2
 have h3':slot≤1099511627776:=by simpa using h3
 have hw:IntKind.i64.wrap (slot-f.phase)=slot-f.phase:=xw (by omega) (by omega)
 have hq:(slot-f.phase).tdiv f.period=(slot-f.phase) / f.period:=Int.tdiv_eq_ediv_of_nonneg (by omega)
 have hb:(slot-f.phase) / f.period≤slot-f.phase:=Int.ediv_le_self _ (by omega)
 have hb0:0≤(slot-f.phase) / f.period:=Int.ediv_nonneg (by omega) (by omega)
 have hw2:IntKind.i64.wrap ((slot-f.phase).tdiv f.period)=(slot-f.phase) / f.period:=by rw[hq,xw (by omega) (by omega)]
 repeat((conv=>whnf);first|refine sJ ?_|refine aI (by first|exact(show f.period≠0 by omega)|kernel_rfl) ?_|rw[hw]|rw[hw2])
 try(conv=>whnf)
 exact ze.mk rfl (za.of_eq (by rw[yq,if_neg (by omega)]))
theorem zkh (f:zf)(frame:Int):zb Tryz.prog L 95 [f.av,.int .i64 frame] (.tup [.int .i64 (jt f frame).1,.int .i64 (jt f frame).2]):=by
 refine zb.intro mixed [] (nt:=32) Tryz.func95 rfl rfl (by simp) ?_
 refine Wk ?_
 refine cD (zaK L f) ?_
 refine Wk ?_
 refine zx.mk (fun h1=>?_) (fun h1=>?_)<;>(try rw[h1])
 ·refine Wk ?_
  exact ze.mk rfl (za.of_eq (by rw[jt,if_pos (by simpa using h1)]))
 have h1':yo 32 f=0:=by simpa using h1
 obtain⟨q1,q2,q3,q4,q5,q6,q7,q8,q9,q10,q11,q12,q13⟩:=yB h1'
 refine Wk ?_
 refine zx.mk (fun h2=>?_) (fun h2=>?_)<;>(try rw[h2])
 ·refine Wk ?_
  exact ze.mk rfl (za.of_eq (by rw[jt,if_neg (by omega),if_pos (.inl (by simpa using h2))]))
 refine Wk ?_
 refine zx.mk (fun h3=>?_) (fun h3=>?_)<;>(try rw[h3])
 ·refine Wk ?_
  exact ze.mk rfl (za.of_eq (by rw[jt,if_neg (by omega),if_pos (.inr (.inl (by simpa using h3)))]))
 have h2':0≤frame:=by simpa using h2
 have h3':frame≤1099511627776:=by simpa using h3
 have hm1:frame*f.period≤1099511627776*512:=Int.mul_le_mul h3' (by omega) (by omega) (by omega)
 have hm0:0≤frame*f.period:=Int.mul_nonneg h2' (by omega)
 have hw1:IntKind.i64.wrap (frame*f.period)=frame*f.period:=xw (by omega) (by omega)
 have hw2:IntKind.i64.wrap (f.phase+frame*f.period)=f.phase+frame*f.period:=xw (by omega) (by omega)
 repeat((conv=>whnf);first|refine sT ?_|rw[hw1]|rw[hw2])
 try(conv=>whnf)
 refine zx.mk (fun h4=>?_) (fun h4=>?_)<;>(try rw[h4])
 ·refine Wk ?_
  exact ze.mk rfl (za.of_eq (by rw[jt,if_neg (by omega),if_pos (.inr (.inr (by simpa using h4)))]))
 have h4':f.phase+frame*f.period≤1099511627776:=by simpa using h4
 repeat((conv=>whnf);first|refine sT ?_|rw[hw1]|rw[hw2])
 try(conv=>whnf)
 exact ze.mk rfl (za.of_eq (by rw[jt,if_neg (by omega),if_neg (by omega)]))
theorem kS (l:List zf)(p:zf→Bool)(g:Nat)(caps:List AV)(hl:l.length≤281474976710656)(hcb:zO Tryz.prog g=true)(hc:xo caps=some caps)(hp:∀x∈l,zb Tryz.prog L g (zf.av x :: caps) (.bool (p x))) :
  zb Tryz.prog L 125 [.sl false (l.map zf.av),.fn g caps] (.int .i64 (wu p l)):=by
 refine zb.intro mixed [] (nt:=19) Tryz.func125 rfl rfl (by simp) ?_
 refine Wk ?_
 refine zt.run mixed [] (fun (k:Nat)=>k≤l.length∧∀j x,j < k→l[j]? = some x→p x=false) (fun k=>[(0,.sl false (l.map zf.av)),(1,.fn g caps),(7,.int .i64 l.length),(8,.int .i64 k)]) (fun k=>St.none) (fun k=>l.length-k) 0 ⟨by simp,by simp⟩ ?_ ?_
 ·refine fN ?_<;>repeat' (first|exact fQ|refine And.intro ?_ ?_|exact za.int (by simp)|exact yz hc)
 rintro k ⟨hk,hinv⟩
 refine Wk ?_
 refine zx.mk (fun hb=>?_) (fun hb=>?_)<;>try rw[hb]
 ·have hlt:k < l.length:=by simpa using hb
  obtain⟨x,hgx⟩:=zr hlt
  have hmx:=zk (f:=zf.av) hgx
  repeat((conv=>whnf);first|refine sJ ?_|refine aI (by first|exact zh hlt|kernel_rfl) ?_|rw[hmx])
  try(conv=>whnf)
  refine zo.data hcb (hp x (List.mem_of_getElem? hgx)) (by show(match fz _,xo caps with|some a,some b=>some (a :: b)|_,_=>none)=_;rw[hc];rfl) ?_
  refine Wk ?_
  refine zx.mk (fun h2=>?_) (fun h2=>?_)<;>(try rw[h2])
  ·refine Wk ?_
   exact ze.mk rfl (za.int (yI hlt hinv hgx h2).symm)
  ·refine Wk ?_
   refine⟨k+1,⟨by omega,fun j y hj hy=>?_⟩,by omega,?_⟩
   ·rcases Nat.lt_succ_iff_lt_or_eq.1 hj with h|rfl
    ·exact hinv j y h hy
    ·rw[hgx]at hy;injection hy with hy;subst hy;exact h2
   ·refine fN ?_<;>repeat' (first|exact fQ|refine And.intro ?_ ?_|exact za.int (zu hlt hl)|exact yz hc)
 ·have hk':k=l.length:=by simp at hb;omega
  subst hk'
  refine Wk ?_
  exact ze.mk rfl (za.int (yY hinv).symm)
theorem ziZ (f:zf)(id:Int):zb Tryz.prog L 126 [f.av,.cptr (.agg [.int .i64 id]) 0] (.bool (f.id==id)):=by
 refine zb.intro mixed [] (nt:=8) Tryz.func126 rfl rfl (by simp) ?_
 refine Wk ?_
 exact ze.mk rfl (za.bool rfl)
theorem zdI (l:List zf)(id:Int)(hl:l.length≤281474976710656):zb Tryz.prog L 61 [zN l,.int .i64 id] (.int .i64 (xm l id)):=by
 refine zb.intro mixed [] (nt:=8) Tryz.func61 rfl rfl (by simp) ?_
 refine Wk ?_
 refine cB (kS L l (fun f=>f.id==id) 126 [.cptr (.agg [.int .i64 id]) 0] hl rfl rfl (fun f _=>ziZ L f id)) ?_
 refine Wk ?_
 exact ze.mk rfl (za.int rfl)
end
section
variable (L:World→Prop)
theorem zhs (s:zc)(slot:Int):zb Tryz.prog L 79 [s.av,.int .i64 slot] (.fn 143 [.cptr s.av 0,.cptr (.agg [.int .i64 slot]) 0]):=by
 refine zb.intro mixed [] (nt:=6) Tryz.func79 rfl rfl (by simp) ?_
 refine Wk ?_
 exact ze.mk rfl (za.of_eq rfl)
theorem c_At (s:zc)(slot:Int)(hc:s.cells.length≤281474976710656)(h63:slot≤9223372036854775807):zb Tryz.prog L 29 [s.av,.int .i64 slot] (zy (Jh s slot)):=by
 refine zb.intro mixed [] (nt:=30) Tryz.func29 rfl rfl (by simp) ?_
 refine Wk ?_
 refine cD (c_form L s) ?_
 refine Wk ?_
 refine zx.mk (fun h1=>?_) (fun h1=>?_)<;>(try rw[h1])
 ·have h1':yc s=false:=by simpa using h1
  refine Wk ?_
  exact ze.mk rfl (za.of_eq (by rw[Jh,if_pos (.inl h1')];rfl))
 have h1':yc s=true:=by simpa using h1
 obtain⟨hsz,hcl,hfm⟩:=xC h1'
 have hsb:=vj hsz
 refine Wk ?_
 refine zx.mk (fun h2=>?_) (fun h2=>?_)<;>(try rw[h2])
 ·have h2':slot < 0:=by simpa using h2
  refine Wk ?_
  exact ze.mk rfl (za.of_eq (by rw[Jh,if_pos (.inr h2')];rfl))
 have h2':¬slot < 0:=by simpa using h2
 rw[show Jh s slot=s.cells.filter fun c=>c.slot==slot % s.len from by rw[Jh,if_neg (by simp[h1',h2'])]]
 obtain⟨m,hm⟩:∃m,m=slot % s.len:=⟨_,rfl⟩
 have hmod:slot.tmod s.len=m:=by rw[hm];exact Int.tmod_eq_emod_of_nonneg (by omega)
 have hmb:0≤m∧m < s.len:=⟨hm▸Int.emod_nonneg _ (by omega),hm▸Int.emod_lt_of_pos _ (by omega)⟩
 rw[←hm]
 have hwm:IntKind.i64.wrap m=m:=xw (by omega) (by omega)
 repeat((conv=>whnf);first|refine sJ ?_|refine aI (by first|exact(show s.len≠0 by omega)|kernel_rfl) ?_|rw[hmod]|rw[hwm])
 try(conv=>whnf)
 refine cD (zhs L s m) ?_
 refine Wk ?_
 refine yW.zc0 1 5 40 _ rfl ?_
 refine yW.weak (l:=[(2,.ptr 0 0),(5,.ptr 1 0),(19,.fn 143 [.cptr s.av 0,.cptr (.agg [.int .i64 m]) 0])]) (S1:=⟨[.cells [.int .i64 s.len,.int .i64 s.offs,zy s.cells] 30,.cells [.own [] 0] 28],[(0,5)],0,0,fun _=>40⟩) ?_ ?_
 ·refine fN ?_<;>repeat' (first|exact fQ|refine And.intro ?_ ?_|exact zn.zj _)
 refine yW.Jx rfl rfl fun Lp hLp=>?_
 have hok:∀k m',2≤k→Ob.okk k m' (.loop Lp):=fun k m' hk=>vp (l:=[(2,.ptr 0 0),(5,.ptr 1 0),(19,.fn 143 [.cptr s.av 0,.cptr (.agg [.int .i64 m]) 0])]) (by rw[hLp]) (by simp[okL,AV.okk,wr];omega)
 refine zQ.intro mixed [] (nt:=25) Tryz.func143 rfl rfl (by simp) ?_
 refine Wk ?_
 refine zt.run mixed [] (fun (k:Nat)=>k≤s.cells.length) (fun k=>[(0,.yld 2),(1,.cptr s.av 0),(2,.cptr (.agg [.int .i64 m]) 0),(7,zy s.cells),(8,.int .i64 s.cells.length),(9,.int .i64 k)]) (fun k=>⟨[.cells [.int .i64 s.len,.int .i64 s.offs,zy s.cells] 30,.cells [.own (((s.cells.take k).filter fun c=>c.slot==m).map zg.av) 0] 28,.loop Lp],[(((s.cells.take k).filter fun c=>c.slot==m).length,5)],3,1,fun _=>40⟩) (fun k=>s.cells.length-k) 0 (by omega) ?_ ?_
 ·refine fN ?_<;>repeat' (first|exact fQ|refine And.intro ?_ ?_|exact hok _ _ (y6 rfl)|exact zn.zj _|exact yh.zj _|exact za.int (by simp))
 rintro k hk
 have hfl:((s.cells.take k).filter fun c=>c.slot==m).length≤512:=Nat.le_trans (List.length_filter_le _ _) (by rw[List.length_take];omega)
 refine Wk ?_
 refine zx.mk (fun hb=>?_) (fun hb=>?_)<;>try rw[hb]
 ·have hlt:k < s.cells.length:=by simpa using hb
  obtain⟨c,hgc⟩:=zr hlt
  have hmc:=zk (f:=zg.av) hgc
  have htk:=zK hgc
  repeat((conv=>whnf);first|refine sJ ?_|refine aI (by first|exact zh hlt|kernel_rfl) ?_|rw[hmc])
  try(conv=>whnf)
  refine zx.mk (fun h3=>?_) (fun h3=>?_)<;>(try rw[h3])
  ·refine Wk ?_
   refine zo.round mixed [] hLp rfl rfl rfl ?_
   clear hLp
   repeat((conv=>whnf);first|refine sJ ?_|refine aI (by first|exact zh hlt|exact xF.map (f:=zg.av) (fun _=>⟨rfl,rfl⟩)|exact(show _*40≤_ by simp only[List.length_map,List.length_cons,List.length_nil];omega)|exact(by simp only[List.length_map,List.length_cons,List.length_nil,maxLen];omega)|exact(show some (_,_)=some (_,_) by simp only[List.length_map])|kernel_rfl) ?_|rw[hmc])
   try(conv=>whnf)
   have hsl:(c.slot==m)=true:=h3
   have hfs:((s.cells.take (k+1)).filter fun c=>c.slot==m)=((s.cells.take k).filter fun c=>c.slot==m)++[c]:=by rw[htk,List.filter_append];simp[hsl]
   refine⟨k+1,by omega,by omega,?_⟩
   rw[hfs]
   refine fN ?_<;>repeat' (first|exact fQ|refine And.intro ?_ ?_|exact hok _ _ (y6 rfl)|exact yh.zj _|exact za.int (zu hlt (by omega))|exact za.own (by simp;rfl)|(show(_,_)=(_,_);simp only[List.length_append,List.length_map,List.length_cons,List.length_nil]))
  ·have hsl:(c.slot==m)=false:=h3
   have hfs:((s.cells.take (k+1)).filter fun c=>c.slot==m)=((s.cells.take k).filter fun c=>c.slot==m):=by rw[htk,List.filter_append];simp[hsl]
   refine Wk ?_
   refine⟨k+1,by omega,by omega,?_⟩
   rw[hfs]
   refine fN ?_<;>repeat' (first|exact fQ|refine And.intro ?_ ?_|exact hok _ _ (y6 rfl)|exact yh.zj _|exact zn.zj _|exact za.int (zu hlt (by omega)))
 ·have hk':k=s.cells.length:=by simp at hb;omega
  subst hk'
  refine Wk ?_
  rw[show Lp.st=.ready from by rw[hLp],show Lp.pend=none from by rw[hLp]]
  rw[List.take_length]
  refine Wk ?_
  exact ze.mk rfl (za.of_eq rfl)
end
theorem ziX (l:List zf)(s:zc)(x:List zD)(slots:Int)(hl:l.length≤281474976710656)(hx:∀r∈x,r.outs.length≤281474976710656)(hxl:x.length≤281474976710656) :
  zb Tryz.prog LW 82 [zN l,s.av,xn x,.int .i64 slots] (.int .i64 (wq l s x slots)):=by
 refine zb.intro mixed [] (nt:=42) Tryz.func82 rfl rfl (by simp) ?_
 refine Wk ?_
 refine cD (ZE LW 32 l hl) ?_
 refine Wk ?_
 refine zx.mk (fun h1=>?_) (fun h1=>?_)<;>(try rw[h1])
 ·refine Wk ?_
  exact ze.mk rfl (za.int (by rw[wq,if_pos (.inl (by simpa using h1))]))
 have h1':(yd 32 l).2=0:=by simpa using h1
 refine Wk ?_
 refine cD (zez s) ?_
 refine Wk ?_
 cases hf:yc s with
 | false=>
  refine Wk ?_
  exact ze.mk rfl (za.int (by rw[wq,if_pos (.inr (.inl hf))]))
 | true=>
  refine Wk ?_
  refine cD (zhC LW x hx hxl) ?_
  refine Wk ?_
  refine zx.mk (fun h2=>?_) (fun h2=>?_)<;>(try rw[h2])
  ·refine Wk ?_
   exact ze.mk rfl (za.int (by rw[wq,if_pos (.inr (.inr (by simpa using h2)))]))
  have h2':(y0 x).2=0:=by simpa using h2
  have hno:¬((yd 32 l).2≠0∨yc s=false∨(y0 x).2≠0):=by simp[h1',hf,h2']
  refine Wk ?_
  refine zx.mk (fun h3=>?_) (fun h3=>?_)<;>(try rw[h3])
  ·refine Wk ?_
   exact ze.mk rfl (za.int (by rw[wq,if_neg hno,if_pos (.inl (by simpa using h3))]))
  refine Wk ?_
  refine zx.mk (fun h4=>?_) (fun h4=>?_)<;>(try rw[h4])
  ·refine Wk ?_
   exact ze.mk rfl (za.int (by rw[wq,if_neg hno,if_pos (.inr (by simpa using h4))]))
  ·refine Wk ?_
   exact ze.mk rfl (za.int (by rw[wq,if_neg hno,if_neg (by simp at h3 h4;omega)]))
section
variable (L:World→Prop)
theorem zcD (r:wK)(flow frame:Int)(hr:r.dels.length≤281474976710656):zb Tryz.prog L 44 [r.av,.int .i64 flow,.int .i64 frame] (.tup [.int .i64 (jB r flow frame).1,.bool (jB r flow frame).2]):=by
 refine zb.intro mixed [] (nt:=30) Tryz.func44 rfl rfl (by simp) ?_
 refine Wk ?_
 refine zt.run mixed [] (fun (k:Nat)=>k≤r.dels.length∧∀j y,j < k→r.dels[j]? = some y→(y.flow==flow&&y.frame==frame)=false) (fun k=>[(1,.int .i64 flow),(2,.int .i64 frame),(11,zeo r.dels),(12,.int .i64 r.dels.length),(13,.int .i64 k)]) (fun k=>St.none) (fun k=>r.dels.length-k) 0 ⟨by simp,by simp⟩ ?_ ?_
 ·refine fN ?_<;>repeat' (first|exact fQ|refine And.intro ?_ ?_|exact za.int (by simp))
 rintro k ⟨hk,hinv⟩
 refine Wk ?_
 refine zx.mk (fun hb=>?_) (fun hb=>?_)<;>try rw[hb]
 ·have hlt:k < r.dels.length:=by simpa using hb
  obtain⟨d,hgd⟩:=zr hlt
  have hmd:=zk (f:=xd.av) hgd
  have hnext:(d.flow==flow&&d.frame==frame)=false→∀j y,j < k+1→r.dels[j]? = some y→(y.flow==flow&&y.frame==frame)=false:=fun h0 j y hj hy=>by
   rcases Nat.lt_succ_iff_lt_or_eq.1 hj with h|rfl
   ·exact hinv j y h hy
   ·rw[hgd]at hy;injection hy with hy;subst hy;exact h0
  repeat((conv=>whnf);first|refine sJ ?_|refine aI (by first|exact zh hlt|kernel_rfl) ?_|rw[hmd])
  try(conv=>whnf)
  refine zx.mk (fun h1=>?_) (fun h1=>?_)<;>(try rw[h1])
  ·refine Wk ?_
   refine zx.mk (fun h2=>?_) (fun h2=>?_)<;>(try rw[h2])
   ·have hd:=QP (p:=fun d:xd=>d.flow==flow&&d.frame==frame) hinv hgd (by simp only[h1,h2,Bool.and_self])
    refine Wk ?_
    exact ze.mk rfl (za.of_eq (by rw[jB,hd]))
   ·refine Wk ?_
    refine⟨k+1,⟨by omega,hnext (by simp only[h1,h2,Bool.and_false])⟩,by omega,?_⟩
    refine fN ?_<;>repeat' (first|exact fQ|refine And.intro ?_ ?_|exact za.int (zu hlt hr))
  ·refine Wk ?_
   refine⟨k+1,⟨by omega,hnext (by simp only[h1,Bool.false_and])⟩,by omega,?_⟩
   refine fN ?_<;>repeat' (first|exact fQ|refine And.intro ?_ ?_|exact za.int (zu hlt hr))
 ·have hk':r.dels.length≤k:=by simpa using hb
  have hd:=Kz (p:=fun d:xd=>d.flow==flow&&d.frame==frame) fun j y hy=>hinv j y (by have:=(List.getElem?_eq_some_iff.1 hy).1;omega) hy
  refine Wk ?_
  exact ze.mk rfl (za.of_eq (by rw[jB,hd]))
end
end HM
