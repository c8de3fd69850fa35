/- The references on networks, flows and routes. -/
import Derived.Test.YtggiajmlnieidaaGreatDoorS31
import Derived.Test.YtggiajmlnieidaaGreatDoorS79
import Derived.Test.YtggiajmlnieidaaGreatDoorDa
set_option maxRecDepth 100000
namespace HM
open Go Go.RowKit Go.Proofs
section
variable (L:World→Prop)
end
section
variable (L:World→Prop)
theorem kE:zb Tryz.prog L 66 [.sl false (([]:List zg).map zg.av)] (.sl false (([]:List zg).map zg.av)):=by
 refine zb.intro mixed [] (nt:=8) Tryz.func66 rfl rfl (by simp) ?_
 refine Wk ?_
 intro b
 cases b
 ·repeat((conv=>whnf);first|refine sJ ?_|refine aI (by first|exact xF.map (f:=zg.av) (fun x=>⟨(z8).len x,(z8).cell x⟩)|kernel_rfl) ?_ )
  try(conv=>whnf)
  exact ze.mk rfl (za.of_eq rfl)
 ·refine Wk ?_
  exact ze.mk rfl (za.of_eq rfl)
theorem jo (l:List zg)(hne:l≠[])(hl:l.length≤1099511627776):Ju Tryz.prog L 66 [.sl false (l.map zg.av)] (l.map zg.av) 5 40:=by
 refine Ju.X4 (zQ.intro mixed [] (nt:=8) Tryz.func66 rfl rfl (by simp) ?_)
 refine Wk ?_
 refine zx.mk (fun h=>?_) (fun h=>?_)<;>(try rw[h])
 ·exact absurd (by simpa using h) hne
 ·repeat((conv=>whnf);first|refine sJ ?_|refine aI (by first|exact xF.map (f:=zg.av) (fun x=>⟨(z8).len x,(z8).cell x⟩)|exact(show _*40≤_ by simp only[List.length_map,List.length_nil];omega)|exact(by simp only[List.length_map,List.length_nil,maxLen];omega)|kernel_rfl) ?_ )
  try(conv=>whnf)
  exact⟨_,rfl,rfl,rfl⟩
theorem XB (o1 o2:Ob)(n0 m0:Nat)(ty:Nat→TypeId)(l:List zg)(p:zg→Bool)(g:Nat)(caps fcaps:List AV)(d:Nat){K:AV→St→Prop}(hl:l.length≤281474976710656)(hcb:zO Tryz.prog g=true)(hc:xo fcaps=some fcaps)(hok:o1.okk 3 0∧o2.okk 3 0∧wr 3 0 caps)
  (hfz:∀(x:List Ob) (n m:Nat) (ty':Nat→TypeId),wj ⟨o1 :: o2 :: x,[],n,m,ty'⟩ caps=some fcaps) (hp:∀x∈l,zb Tryz.prog L g (zg.av x :: fcaps) (.bool (p x)))
  (hK:∀ex:List AV,K (.vsl 2 0 (l.filter fun x=>!p x).length 5) ⟨[o1,o2,.cells (zd ((l.filter fun x=>!p x).map zg.av)++ex) 40],[],n0,m0,ty⟩) :
  zQ Tryz.prog L 115 [.vsl 2 0 l.length 5,.fn g caps] ⟨[o1,o2,jz (l.map zg.av) 5 d 40],[],n0,m0,ty⟩ K:=by
 have hall:∀x:zg,(zg.av x).cells.length=5:=fun x=>(z8).len x
 refine zQ.intro mixed [] (nt:=42) Tryz.func115 rfl rfl (by simp) ?_
 refine Wk ?_
 refine zo.box rfl (ql L l p g fcaps hl hcb hc hp) (Y0 ((z8).fzb rfl rfl) (Yd (hfz _ _ _ _))) rfl ?_
 refine Wk ?_
 refine zx.mk (fun h1=>?_) (fun h1=>?_)<;>(try rw[h1])
 ·refine Wk ?_
  have hnone:=wo (p:=p) (l:=l) (by simpa using h1)
  have hfil:(l.filter fun x=>!p x)=l:=List.filter_eq_self.2 fun x hx=>by
   obtain⟨j,hj⟩:=List.getElem?_of_mem hx
   simp[hnone j x hj]
  have:=hK (List.replicate (d*5) .undef)
  rw[hfil]at this
  exact this
 obtain⟨k,x,e1,e2,e3⟩:=vV (p:=p) (l:=l) (by simpa using h1)
 obtain⟨_,_,_,e4⟩:=vH e1
 have hklt:=(List.getElem?_eq_some_iff.1 e2).1
 rw[e1]
 refine Wk ?_
 refine zt.run mixed [] (fun s:List zg×Nat×Nat=>kV p l s.1 s.2.1 s.2.2) (fun s=>[(0,.vsl 2 0 l.length 5),(1,.fn g caps),(5,.int .i64 s.2.1),(6,.int .i64 s.2.2)]) (fun s=>⟨[o1,o2,.cells (zd (s.1.map zg.av)++List.replicate (d*5) .undef) 40],[],3,0,ty⟩) (fun s=>l.length-s.2.2) (l,k,k+1) (kV.start e2 e3 e4) ?_ ?_
 ·refine fN ?_<;>repeat' (first|exact fQ|refine And.intro ?_ ?_|exact zn.zj _|exact yh.zj _|exact hok.1|exact hok.2.1|exact hok.2.2|exact xc ((z8).okk _ _ _) (xq _ _ _)|exact za.int (zu hklt hl))
 rintro⟨a,i,j⟩ hkept
 simp only at hkept
 have hij:=hkept.ij
 have halen:=hkept.len
 refine Wk ?_
 refine zx.mk (fun hb=>?_) (fun hb=>?_)<;>try rw[hb]
 ·have hlt:j < l.length:=by simpa using hb
  obtain⟨y,hgy⟩:=zr hlt
  have hay:=hkept.get hgy
  have hld:=(z8).ld (List.replicate (d*5) .undef) hay
  have hft:=(z8).fit (l:=a) (List.replicate (d*5) .undef) (k:=j) (by omega)
  have hpy:=hp y (List.mem_of_getElem? hgy)
  repeat((conv=>whnf);first|refine sJ ?_|refine aI (by first|exact⟨by omega,by simp;omega⟩|kernel_rfl) ?_ )
  try(conv=>whnf)
  refine And.intro (show 0+(j:Int).toNat*5+5≤_ by rw[Nat.zero_add,Int.toNat_natCast];exact hft) ?_
  rw[(z8).ldr _ hay _ _ (by kernel_rfl) (by kernel_rfl)]
  refine Wk ?_
  refine zo.box hcb hpy (Y0 rfl (hfz _ _ _ _)) rfl ?_
  have hfi:=(z8).fit (l:=a) (List.replicate (d*5) .undef) (k:=i) (by omega)
  refine Wk ?_
  refine zx.mk (fun h2=>?_) (fun h2=>?_)<;>(try rw[h2])
  ·repeat((conv=>whnf);first|refine sJ ?_|refine aI (by first|exact⟨by omega,by simp;omega⟩|exact(show 0+(i:Int).toNat*5+5≤_ by rw[Nat.zero_add,Int.toNat_natCast];exact hfi)|kernel_rfl) ?_ )
   try(conv=>whnf)
   have hst:=(z8).st y (List.replicate (d*5) .undef) (l:=a) (k:=i) (by omega)
   refine⟨(a.set i y,i+1,j+1),hkept.keep hgy (by simpa using h2),by simp only;omega,?_⟩
   refine fN ?_<;>repeat' (first|exact fQ|refine And.intro ?_ ?_|exact yh.zj _|exact hok.1|exact hok.2.1|exact hok.2.2|exact xc ((z8).okk _ _ _) (xq _ _ _)|exact za.int (zu hlt hl)|exact za.int (zu (by omega:i < l.length) hl)|exact zn.of_eq (by rw[Nat.zero_add,Int.toNat_natCast];exact hst))
  ·refine Wk ?_
   refine⟨(a,i,j+1),hkept.skip hgy (by simpa using h2),by simp only;omega,?_⟩
   refine fN ?_<;>repeat' (first|exact fQ|refine And.intro ?_ ?_|exact zn.zj _|exact yh.zj _|exact hok.1|exact hok.2.1|exact hok.2.2|exact xc ((z8).okk _ _ _) (xq _ _ _)|exact za.int (zu hlt hl))
 ·have hj:j=l.length:=by simp at hb;omega
  subst hj
  have hfin:=hkept.fin
  have hflen:=(z8).flen a
  have hcl:0+(i:Int).toNat*5+(l.length-(i:Int).toNat)*5≤(zd (a.map zg.av)++List.replicate (d*5) AV.undef).length:=by
   rw[List.length_append,hflen,Int.toNat_natCast,Nat.zero_add,←Nat.add_mul,show i+(l.length-i)=l.length by omega,halen]
   exact Nat.le_add_right _ _
  have hfl:(l.filter fun x=>!p x).length=i:=by rw[←hfin,List.length_take];omega
  repeat((conv=>whnf);first|refine sJ ?_|refine aI (by first|exact(show JB (i:Int) l.length from⟨by omega,by omega⟩)|exact⟨rfl,rfl,Nat.le_of_ble_eq_true rfl,hcl⟩|kernel_rfl) ?_ )
  try(conv=>whnf)
  rw[(z8).clr' (l:=a) (k:=i) _ _ _ _ (by kernel_rfl) (by rw[Int.toNat_natCast,halen]) (by omega) rfl]
  repeat((conv=>whnf);first|refine sJ ?_|refine aI (by first|exact⟨(by omega:(0:Int)≤(i:Int)),(z8).headLe (k:=i) _ _ rfl (by omega),Nat.le_of_ble_eq_true rfl⟩|kernel_rfl) ?_ )
  try(conv=>whnf)
  have hKK:=hK
  rw[hfl]at hKK
  rw[←hfin]at hKK
  exact hKK _
theorem KI (w:JU)(l:yX)(c:zg):zb Tryz.prog L 296 [c.av,.cptr w.av 0,.cptr l.av 0] (.bool (jL w.f.id l.src l.dst c)):=by
 refine zb.intro mixed [] (nt:=25) Tryz.func296 rfl rfl (by simp) ?_
 refine Wk ?_
 refine zx.mk (fun h1=>?_) (fun h1=>?_)<;>(try rw[h1])
 ·refine Wk ?_
  exact ze.mk rfl (za.bool (by unfold jL;rw[h1];rfl))
 ·refine Wk ?_
  refine zx.mk (fun h2=>?_) (fun h2=>?_)<;>(try rw[h2])
  ·refine Wk ?_
   exact ze.mk rfl (za.bool (by unfold jL;rw[h1,h2];rfl))
  ·refine Wk ?_
   exact ze.mk rfl (za.bool (by unfold jL;rw[h1,h2];rfl))
theorem zcs (w:JU)(l:yX)(hl:w.s.cells.length≤1099511627776):zb Tryz.prog L 289 [w.av,l.av] (zy (yp w.s w.f l.src l.dst)):=by
 by_cases hne:w.s.cells=[]
 ·obtain⟨n,⟨len,offs,cells⟩,f,r,more⟩:=w
  simp only at hne
  subst hne
  refine zb.intro mixed [] (nt:=11) Tryz.func289 rfl rfl (by simp) ?_
  refine Wk ?_
  refine cD (kE L) ?_
  refine Wk ?_
  refine zo.inl rfl (zQ.intro mixed [] (nt:=42) Tryz.func115 rfl rfl (by simp) ?_)
  refine Wk ?_
  refine zo.box rfl (ql L [] (jL f.id l.src l.dst) 296 [.cptr (JU.av ⟨n,⟨len,offs,[]⟩,f,r,more⟩) 0,.cptr l.av 0] (by simp) rfl rfl (fun c _=>KI L _ l c)) (Y0 rfl (Yd rfl)) rfl ?_
  refine Wk ?_
  exact ze.mk rfl (za.of_eq rfl)
 ·refine zb.intro mixed [] (nt:=11) Tryz.func289 rfl rfl (by simp) ?_
  refine Wk ?_
  refine zo.fresh rfl (jo L w.s.cells hne hl) (by rfl) (z8.els _) (z8.scal (fun _=>rfl) _) (fun h=>absurd (by simpa using h) hne) (fun d=>?_)
  refine Wk ?_
  rw[List.length_map]
  refine zo.inl rfl (XB L _ _ 0 0 _ w.s.cells (jL w.f.id l.src l.dst) _ [.ptr 0 0,.ptr 1 0] [.cptr w.av 0,.cptr l.av 0] d (by omega) rfl rfl ⟨?_,?_,?_⟩ (fun _ _ _ _=>rfl) (fun c _=>KI L w l c) fun ex=>?_)
  ·exact yz (es:=w.av.cells) rfl
  ·exact yz (es:=l.av.cells) rfl
  ·exact⟨(by decide:0 < 3),(by decide:1 < 3),trivial⟩
  ·refine Wk ?_
   exact⟨_,z8.fzb rfl rfl,za.zj _⟩
theorem QJ {nodes:Int}(h:2≤nodes∧nodes≤32)(f:zf):(yd nodes [f]).2=0↔yo nodes f=0:=by
 rw[yd,if_neg (by omega),if_neg (by simp),yw]
 constructor
 ·intro hh
  have:=hh 0 (by simp)
  unfold wv at this
  simp only[List.getElem?_cons_zero]at this
  by_cases e:yo nodes f=0
  ·exact e
  ·rw[if_pos e]at this;exact absurd this e
 ·intro hh j hj
  have:j=0:=by simpa using hj
  subst this
  unfold wv
  simp[hh,Yz]
theorem Vr {a b:Int}(h:0≤a):a.tmod b=a % b:=Int.tmod_eq_emod_of_nonneg h
end
theorem zcr (w:JU)(hn:w.n.small)(_hc:w.s.cells.length≤281474976710656)(hr:w.r.length≤281474976710656):zb Tryz.prog LW 162 [w.av] (.int .i64 (vx w.n w.s w.f w.r)):=by
 refine zb.intro mixed [] (nt:=50) Tryz.func162 rfl rfl (by simp) ?_
 refine Wk ?_
 refine cD (we LW w.n hn) ?_
 refine Wk ?_
 refine zx.mk (fun h1=>?_) (fun h1=>?_)<;>(try rw[h1])
 ·refine Wk ?_
  exact ze.mk rfl (za.int (by rw[vx,if_pos (.inl (by simpa using h1))]))
 have h0:yS w.n=0:=by simpa using h1
 have hok:=vo h0
 refine Wk ?_
 refine cD (zez w.s) ?_
 refine Wk ?_
 refine zx.mk (fun h2=>?_) (fun h2=>?_)<;>(try rw[h2])
 ·refine Wk ?_
  exact ze.mk rfl (za.int (by rw[vx,if_pos (.inr (.inl (by cases hf:yc w.s with|false=>rfl|true=>simp[hf]at h2)))]))
 have hf:yc w.s=true:=by cases hf:yc w.s with|true=>rfl|false=>simp[hf]at h2
 have hsb:=vj (xC hf).1
 refine Wk ?_
 refine cD (ZE LW w.n.nodes [w.f] (by simp)) ?_
 refine Wk ?_
 refine zx.mk (fun h3=>?_) (fun h3=>?_)<;>(try rw[h3])
 ·refine Wk ?_
  have h3':yo w.n.nodes w.f≠0:=fun h=>by rw[(QJ hok.nodes w.f).2 h]at h3;cases h3
  exact ze.mk rfl (za.int (by rw[vx,if_pos (.inr (.inr h3'))]))
 have h3':yo w.n.nodes w.f=0:=(QJ hok.nodes w.f).1 (by simpa using h3)
 have hfb:=yB h3'
 have e1:¬(yS w.n≠0∨yc w.s=false∨yo w.n.nodes w.f≠0):=by simp[h0,hf,h3']
 repeat((conv=>whnf);first|refine sJ ?_|refine aI (by first|exact(show w.f.period≠0 by omega)|kernel_rfl) ?_ )
 try(conv=>whnf)
 rw[Vr (by omega)]
 refine zx.mk (fun h4=>?_) (fun h4=>?_)<;>(try rw[h4])
 ·refine Wk ?_
  exact ze.mk rfl (za.int (by rw[vx,if_neg e1,if_pos (by simpa using h4)]))
 refine Wk ?_
 refine cD (zcC LW w.n hn w.f.src w.f.dst w.r hr) ?_
 refine Wk ?_
 exact ze.mk rfl (za.int (by rw[vx,if_neg e1,if_neg (by simpa using h4)]))
theorem Q3 (w:JU):zb Tryz.prog LW 288 [w.av] (.fn 295 [.cptr w.av 0]):=by
 refine zb.intro mixed [] (nt:=4) Tryz.func288 rfl rfl (by simp) ?_
 refine Wk ?_
 exact ze.mk rfl (za.of_eq rfl)
theorem zfL (w:JU)(rel:Int):zb Tryz.prog LW 268 [w.av,.int .i64 rel] (.fn 287 [.cptr (.agg [.int .i64 rel]) 0,.cptr w.av 0]):=by
 refine zb.intro mixed [] (nt:=6) Tryz.func268 rfl rfl (by simp) ?_
 refine Wk ?_
 exact ze.mk rfl (za.of_eq rfl)
end HM
