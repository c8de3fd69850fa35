/- A player: new frames. -/
import Derived.Test.YtggiajmlnieidaaGreatDoorS76
import Derived.Test.YtggiajmlnieidaaGreatDoorDb
import Derived.Test.YtggiajmlnieidaaGreatDoorDa
set_option maxHeartbeats 64000000
set_option maxRecDepth 100000
namespace HM
open Go Go.RowKit Go.Proofs
def Vp (id:Nat)(S X:St):Prop:=∀o,S.bx[id]? = some o→X.bx[id]? = some o
theorem Vp.refl (id:Nat)(S:St):Vp id S S:=fun _ h=>h
theorem Vp.addB {id:Nat}{S X:St}{o:Ob}(h:Vp id S X):Vp id S (X.addB o):=fun o' ho=>St.zm (h o' ho)
theorem Vp.zkt {id id':Nat}{S X:St}{o:Ob}(h:Vp id S X)(hi:S.bx.length≤id'):Vp id S (X.setB id' o):=fun o' ho=>by
 have:=(List.getElem?_eq_some_iff.1 ho).1
 rw[St.zi (by omega)];exact h o' ho
section
variable (L:World→Prop) {kx:KX}
theorem zfq (S:St)(pb ch:Nat)(l:List zf)(s:zc)(x:List zD)(Q:PL)(slot:Int){K:AV→St→Prop}(hI:Jp (jE kx) S pb ch l s x Q)(hl:l.length≤16)(hQ:Q.sts.length=l.length)(hsl:0≤slot∧slot≤1099511627776)(hfl:∀(k:Nat) f,l[k]? = some f→yo 32 f=0)
  (hK0:∀S',Jp (jE kx) S' pb ch l s x ⟨xp l slot Q.sts,Q.atts,Q.dels⟩→K (.tup []) S') :
  zQ Tryz.prog L 147 [.ptr pb 0,.int .i64 slot] S K:=by
 refine zQ.intro mixed [] (nt:=53) Tryz.func147 rfl rfl (by simp) ?_
 have hp':∃sv dv,S.inner.bx[pb]? = some (.cells (X6 l s x sv (.own (Q.atts.map y9.av) ch) dv) 137):=by
  obtain⟨g,sv,dv,hI⟩:=hI
  exact⟨sv,dv,hI.p⟩
 obtain⟨sv,dv,hp'⟩:=hp'
 repeat((conv=>whnf);first|refine sT ?_|rw[hp'])
 try(conv=>whnf)
 refine zt.za3 mixed [6] (fun (k:Nat) S1=>k≤l.length∧Jp (jE kx) S1 pb ch l s x ⟨w5 l slot Q.sts k,Q.atts,Q.dels⟩) (fun k=>[(0,.ptr pb 0),(1,.int .i64 slot),(11,zN l),(12,.int .i64 l.length),(13,.int .i64 k)]) (fun k=>l.length-k) 0 ⟨by omega,?_⟩ ?_ ?_
 ·obtain⟨g,sv,dv,hI⟩:=hI
  exact⟨g,sv,dv,hI.more (fun _ _ h=>h) rfl rfl⟩
 ·exact⟨za.of_eq rfl,za.of_eq rfl,za.of_eq rfl,za.int (by simp),za.of_eq rfl,trivial⟩
 rintro k S1 ⟨hk,g,sv1,dv1,hI1⟩
 refine Wk ?_
 refine zx.mk (fun hb=>?_) (fun hb=>?_)<;>try rw[hb]
 ·have hlt:k < l.length:=by simpa using hb
  obtain⟨f,hgf⟩:=zr hlt
  have hmf:=zk (f:=zf.av) hgf
  have hQk:(w5 l slot Q.sts k).length=l.length:=by rw[Xn,hQ]
  obtain⟨p,hgp⟩:=zr (l:=w5 l slot Q.sts k) (k:=k) (by omega)
  obtain⟨qb,ex,hsv,hq1⟩:∃qb ex,sv1=.vsl qb 0 (w5 l slot Q.sts k).length 5∧S1.bx[qb]? = some (.cells (zd (zA g (w5 l slot Q.sts k))++ex) 198):=by
   rcases hI1.q with ⟨hh,_⟩|hh
   ·have hh:w5 l slot Q.sts k=[]:=hh
    rw[hh]at hgp;cases hgp
   ·exact hh
  have hstep:=ze7 hgf hgp
  have hfe:=hfl k f hgf
  repeat((conv=>whnf);first|refine sT ?_ )
  try(conv=>whnf)
  refine yF.jf mixed [4] [] (fun (_:Unit) S2=>Jp (jE kx) S2 pb ch l s x ⟨w5 l slot Q.sts (k+1),Q.atts,Q.dels⟩) (fun _=>[(0,.ptr pb 0),(1,.int .i64 slot),(11,zN l),(12,.int .i64 l.length),(13,.int .i64 k)]) ?_ ?_
  ·repeat((conv=>whnf);first|refine sJ ?_|refine aI (by first|exact trivial|exact zh hlt|kernel_rfl) ?_|rw[hmf]|rw[St.zP]|rw[St.zw (St.zP _ _)])
   try(conv=>whnf)
   refine yF.jf mixed [] [10005] (fun (z:Nat) S2=>xx (jE kx) S2 pb ch l s x ⟨w5 l slot Q.sts k,Q.atts,Q.dels⟩ g sv1 dv1∧S2.bx[z]? = some (.cells f.av.cells 46)∧S2.bx[qb]? = some (.cells (zd (zA g (w5 l slot Q.sts k))++ex) 198)) (fun z=>[(0,.ptr pb 0),(1,.int .i64 slot),(4,.int .i64 k),(5,.ptr z 0),(6,.int .i64 (yq f slot).1),(7,.bool (yq f slot).2),(11,zN l),(12,.int .i64 l.length),(13,.int .i64 k)]) ?_ ?_
   ·repeat((conv=>whnf);first|refine sT ?_|rw[St.zw (St.zP _ _)])
    try(conv=>whnf)
    refine cD (zfX L f slot (by omega)) ?_
    repeat((conv=>whnf);first|refine sT ?_ )
    try(conv=>whnf)
    have hold:∀(id:Nat) (o:Ob) (o1 o2:Ob),S1.bx[id]? = some o→((S1.addB o1).setB S1.bx.length o2).bx[id]? = some o:=fun id o o1 o2 ho=>by
     have:=(List.getElem?_eq_some_iff.1 ho).1
     rw[St.zi (by omega)]
     exact St.zm ho
    exact⟨S1.bx.length,⟨hI1.more (fun id o ho=>hold id o _ _ ho) rfl rfl,St.zw (St.zP _ _),hold _ _ _ _ hq1⟩,za.of_eq rfl,za.of_eq rfl,za.of_eq rfl,za.of_eq rfl,za.of_eq rfl,za.of_eq rfl,za.of_eq rfl,za.of_eq rfl,za.of_eq rfl,trivial⟩
   ·rintro z S2 ⟨hI2,hz,hq2⟩
    have hp2:=hI2.p
    have hd0:∀n j':Nat,n=5→j'=0→(zd (zA g (w5 l slot Q.sts k))++ex)[0+(k:Int).toNat*n+j']? = some (.int .i64 p.frame):=fun n j' hn hj=>by
     subst hn;subst hj
     rw[Nat.zero_add,Int.toNat_natCast];exact(x7 g _).ld ex (v6 hgp) (by decide)
    have hib:InB (k:Int) (w5 l slot Q.sts k).length:=⟨by omega,by omega⟩
    rw[hsv]at hp2
    repeat((conv=>whnf);first|refine sJ ?_|refine aI (by first|exact trivial|exact hib|kernel_rfl) ?_|rw[hp2]|rw[hq2]|rw[hz]|(rw[hd0];rotate_left;rfl;rfl))
    try(conv=>whnf)
    have hskip:VZ f slot p=p→Jp (jE kx) S2 pb ch l s x ⟨w5 l slot Q.sts (k+1),Q.atts,Q.dels⟩:=fun he=>by
     rw[hstep,he,Xh hgp]
     exact⟨_,_,_,hI2⟩
    cases hcur:(yq f slot).2 with
    | false=>
     repeat((conv=>whnf);first|refine sJ ?_|refine aI (by first|exact trivial|exact hib|kernel_rfl) ?_|rw[hcur]|rw[hp2]|rw[hq2]|rw[hz]|(rw[hd0];rotate_left;rfl;rfl))
     try(conv=>whnf)
     exact⟨(),hskip (by unfold VZ;rw[if_neg (by rw[hcur];simp)]),za.of_eq rfl,za.of_eq rfl,za.of_eq rfl,za.of_eq rfl,za.of_eq rfl,trivial⟩
    | true=>
     repeat((conv=>whnf);first|refine sJ ?_|refine aI (by first|exact trivial|exact hib|kernel_rfl) ?_|rw[hcur]|rw[hp2]|rw[hq2]|rw[hz]|(rw[hd0];rotate_left;rfl;rfl))
     try(conv=>whnf)
     refine zx.mk (fun h4=>?_) (fun h4=>?_)<;>(try rw[h4])
     ·have h4':(yq f slot).1≠p.frame:=by simpa using h4
      have hrel:VZ f slot p=⟨(yq f slot).1,IM.none.set [f.src] slot,.none,.none,false⟩:=by unfold VZ;rw[if_pos ⟨hcur,h4'⟩]
      have h0:¬(⟨(yq f slot).1,IM.none.set [f.src] slot,.none,.none,false⟩:PS).frame < 0:=by
       have:=zhm hfe hcur
       show ¬(yq f slot).1 < 0
       omega
      have ht2:Y9 Tryz.prog 196=some (some 2,3):=by kernel_rfl
      have ht1:Y9 Tryz.prog 109=some (none,3):=by kernel_rfl
      conv=>whnf
      refine zW.Ya mixed (ZL (jE kx) S2) [0,1,2,3,4,5,7,8,9,15] 7 rfl rfl (by decide) rfl (ZL.refl (jE kx) S2) ?_
      iterate 10
       conv=>whnf
       apply exJ
       ·intro S' K' hI' hh
        repeat((conv=>whnf);first|refine sJ ?_|refine aI (by first|exact trivial|exact hib|kernel_rfl) ?_|rw[hI' _ _ _ (show(137:Nat)≠198 by decide) hp2]|rw[hI' _ _ _ (show(46:Nat)≠198 by decide) hz])
        try(conv=>whnf)
        exact hh
      have hqX:∀X:St,Vp qb S2 X→X.bx[qb]? = some (.cells (zd (zA g (w5 l slot Q.sts k))++ex) 198):=fun X h=>h _ hq2
      have hle:0+(k:Int).toNat*5+5≤(zd (zA g (w5 l slot Q.sts k))++ex).length:=by
       have h5:=(x7 g (w5 l slot Q.sts k)).flen
       rw[Zd]at h5
       rw[List.length_append,h5,Int.toNat_natCast]
       omega
      have hleaf:=@xx.leaf (jE kx) S2 pb ch l s x ⟨w5 l slot Q.sts k,Q.atts,Q.dels⟩ g sv1 dv1 hI2 qb ex hsv hq2 k p ⟨(yq f slot).1,IM.none.set [f.src] slot,.none,.none,false⟩ hgp h0
      rw[hstep,hrel]
      repeat' ((conv=>whnf);first|exact trivial|refine sJ ?_|refine aI (by first|exact trivial|exact hle|((repeat' (first|exact ZL.refl (jE kx) S2|refine ZL.addB ?_|refine ZL.setQ ?_ hq2|refine ZL.zkt ?_ (by first|exact St.zkB _|exact St.zkA _ _|exact St.zk2 _ _ _)));done)|kernel_rfl) ?_|refine And.intro ?_ ?_|rw[ht1]|rw[ht2]|rw[qa mo0]|rw[qa mo1]|rw[qa mo2]|(rw[hqX];rotate_left;focus ((repeat' (first|exact Vp.refl _ _|refine Vp.addB ?_|refine Vp.zkt ?_ (by first|exact St.zkB _|exact St.zkA _ _|exact St.zk2 _ _ _)));done)))
      all_goals(conv=>whnf)
      all_goals first
       | (refine⟨(),hleaf [.map none (yu [] [f.src]) (setVs [] [] [f.src] (.int .i64 slot)),.map (some 2) [] [],.map (some 2) [] []] ?_ 0 1 2 rfl rfl rfl (by decide) (by decide) (by decide) ?_ ?_ ?_ (show 0+(k:Int).toNat*5=k*5 by simp),za.of_eq rfl,za.of_eq rfl,za.of_eq rfl,za.of_eq rfl,za.of_eq rfl,trivial⟩<;>(simp[St.addB,St.setB];done))
       | (refine⟨(),hleaf [.map none (yu [] [f.src]) (setVs [] [] [f.src] (.int .i64 slot)),.map (some 2) [] [],.map (some 2) [] []] ?_ 0 2 1 rfl rfl rfl (by decide) (by decide) (by decide) ?_ ?_ ?_ (show 0+(k:Int).toNat*5=k*5 by simp),za.of_eq rfl,za.of_eq rfl,za.of_eq rfl,za.of_eq rfl,za.of_eq rfl,trivial⟩<;>(simp[St.addB,St.setB];done))
       | (refine⟨(),hleaf [.map (some 2) [] [],.map none (yu [] [f.src]) (setVs [] [] [f.src] (.int .i64 slot)),.map (some 2) [] []] ?_ 1 0 2 rfl rfl rfl (by decide) (by decide) (by decide) ?_ ?_ ?_ (show 0+(k:Int).toNat*5=k*5 by simp),za.of_eq rfl,za.of_eq rfl,za.of_eq rfl,za.of_eq rfl,za.of_eq rfl,trivial⟩<;>(simp[St.addB,St.setB];done))
       | (refine⟨(),hleaf [.map (some 2) [] [],.map none (yu [] [f.src]) (setVs [] [] [f.src] (.int .i64 slot)),.map (some 2) [] []] ?_ 1 2 0 rfl rfl rfl (by decide) (by decide) (by decide) ?_ ?_ ?_ (show 0+(k:Int).toNat*5=k*5 by simp),za.of_eq rfl,za.of_eq rfl,za.of_eq rfl,za.of_eq rfl,za.of_eq rfl,trivial⟩<;>(simp[St.addB,St.setB];done))
       | (refine⟨(),hleaf [.map (some 2) [] [],.map (some 2) [] [],.map none (yu [] [f.src]) (setVs [] [] [f.src] (.int .i64 slot))] ?_ 2 0 1 rfl rfl rfl (by decide) (by decide) (by decide) ?_ ?_ ?_ (show 0+(k:Int).toNat*5=k*5 by simp),za.of_eq rfl,za.of_eq rfl,za.of_eq rfl,za.of_eq rfl,za.of_eq rfl,trivial⟩<;>(simp[St.addB,St.setB];done))
       | (refine⟨(),hleaf [.map (some 2) [] [],.map (some 2) [] [],.map none (yu [] [f.src]) (setVs [] [] [f.src] (.int .i64 slot))] ?_ 2 1 0 rfl rfl rfl (by decide) (by decide) (by decide) ?_ ?_ ?_ (show 0+(k:Int).toNat*5=k*5 by simp),za.of_eq rfl,za.of_eq rfl,za.of_eq rfl,za.of_eq rfl,za.of_eq rfl,trivial⟩<;>(simp[St.addB,St.setB];done))
     ·have h4':(yq f slot).1=p.frame:=by simpa using h4
      refine Wk ?_
      exact⟨(),hskip (by unfold VZ;rw[if_neg (by rw[h4'];simp)]),za.of_eq rfl,za.of_eq rfl,za.of_eq rfl,za.of_eq rfl,za.of_eq rfl,trivial⟩
  ·rintro⟨⟩ S2 hI2
   refine Wk ?_
   refine⟨k+1,⟨by omega,hI2⟩,by omega,za.of_eq rfl,za.of_eq rfl,za.of_eq rfl,za.of_eq rfl,za.int (zu hlt (by omega)),trivial⟩
 ·have hk':k=l.length:=by simp at hb;omega
  subst hk'
  refine Wk ?_
  refine hK0 _ ?_
  rw[zgB l slot Q.sts hQ]at hI1
  exact⟨g,sv1,dv1,hI1.more (fun _ _ h=>h) rfl rfl⟩
end
end HM
