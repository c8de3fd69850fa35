/- Changes: the reference's step and Check. -/
import Derived.Test.YtggiajmlnieidaaGreatDoorS267
import Derived.Test.YtggiajmlnieidaaGreatDoorDe
import Derived.Test.YtggiajmlnieidaaGreatDoorFh
set_option maxHeartbeats 64000000
set_option maxRecDepth 100000
namespace HM
open Go Go.RowKit Go.Proofs
theorem route_len {n:Net}{a b:Int}{r:List Int}(h:routeF n a b r=0):r.length≤9:=by
 unfold routeF at h
 split at h
 ·cases h
 split at h
 ·cases h
 ·omega
theorem reqOk_small {n:Net}{x:Req}(h:ReqOk n x):x.routes.length≤1000∧∀r∈x.routes,r.length≤1000:=
 ⟨by have:=h.len.2;omega,fun r hr=>by have:=route_len (h.route r hr);omega⟩
def stepS (done:List Chg)(s:Sched)(c:Chg):Sched:=if chgE (lastSlot done) c≠0 then s else(chgM s c).1
section
variable (L:World→Prop)
theorem c_step42 (n:Net)(hn:n.small)(before after:List Req){s0:Sched}(hW:WholeOk n before after s0)(s:Sched)(hlen:s.len=s0.len)(hc:s.cells.length≤281474976710000)(l:List Chg)(i:Nat)(c:Chg)(hi:l[i]? = some c)(hl:l.length≤281474976710656) :
  PCall Tryz.prog L 56 [n.av,encReqs before,encReqs after,s.av,encChgs l,.int .i64 i] (.tup [(stepS (l.take i) s c).av,.int .i64 (stepC n before after (l.take i) s c)]):=by
 refine PCall.intro mixed [10007,10008] (nt:=90) Tryz.func56 rfl rfl (by simp) ?_
 have hbl:=(reqE_ok hW.rb).2.1
 have hal:=(reqE_ok hW.ra).2.1
 have hbo:=(reqE_ok hW.rb).2.2.1
 have hao:=(reqE_ok hW.ra).2.2.1
 have hil:=(List.getElem?_eq_some_iff.1 hi).1
 have hmc:=getMap (f:=Chg.av) hi
 by_cases h1:c.slot < 0
 ·have g1:decide (c.slot < 0)=true:=decide_eq_true h1
  have he:chgE (lastSlot (l.take i)) c=2:=by unfold chgE;rw[if_pos h1]
  repeat((conv=>whnf);first|refine sJ ?_|refine aI (by first|exact trivial|exact inbMap hil|kernel_rfl) ?_|rw[hmc]|rw[g1])
  try(conv=>whnf)
  exact resP.mk rfl (Sees.of_eq (by unfold stepS stepC;rw[he,if_pos (by decide),if_pos (by decide)];rfl))
 have g1:decide (c.slot < 0)=false:=decide_eq_false h1
 have hord:(chgE (lastSlot (l.take i)) c=5∧∃k d,i=k+1∧l[k]? = some d∧c.slot < d.slot)∨(chgE (lastSlot (l.take i)) c=0∧(i=0∨∃k d,i=k+1∧l[k]? = some d∧¬c.slot < d.slot)):=by
  cases i with
  | zero=>exact .inr ⟨chgE_of (by omega) (fun q hq=>by cases hq),.inl rfl⟩
  | succ k=>
   obtain⟨d,hd⟩:=getLt (l:=l) (k:=k) (by omega)
   rw[lastSlot_take hd]
   unfold chgE
   rw[if_neg h1]
   simp only
   by_cases h2:c.slot < d.slot
   ·exact .inl ⟨if_pos h2,k,d,rfl,hd,h2⟩
   ·exact .inr ⟨if_neg h2,.inr ⟨k,d,rfl,hd,h2⟩⟩
 rcases hord with ⟨he,k,d,rfl,hd,h2⟩|⟨he,hx⟩
 ·have hmd:=getMap (f:=Chg.av) hd
  have hdl:=(List.getElem?_eq_some_iff.1 hd).1
  have gi:decide ((0:Int) < ((k+1:Nat):Int))=true:=decide_eq_true (by omega)
  have hw:IntKind.i64.wrap (((k+1:Nat):Int)-1)=(k:Int):=by rw[w64]<;>omega
  have g2:decide (c.slot < d.slot)=true:=decide_eq_true h2
  repeat((conv=>whnf);first|refine sJ ?_|refine aI (by first|exact trivial|exact inbMap hil|(rw[hw];exact inbMap hdl)|kernel_rfl) ?_|rw[hmc]|rw[g1]|rw[gi]|rw[hw]|rw[hmd]|rw[g2])
  try(conv=>whnf)
  exact resP.mk rfl (Sees.of_eq (by unfold stepS stepC;rw[he,if_pos (by decide),if_pos (by decide)];rfl))
 have hst:stepS (l.take i) s c=(chgM s c).1:=by unfold stepS;rw[he,if_neg (by decide)]
 have hse:stepC n before after (l.take i) s c=if (chgM s c).2≠0 then(chgM s c).2 else if earlyB before after (l.take i) c=true then 12 else if (schedE n (bothM before after) (chgM s c).1).2≠0 then 16 else if keepB n before after (chgM s c).1=false then 15 else 0:=by unfold stepC;rw[he,if_neg (by decide)]
 rw[hst,hse]
 have hcl:=chgM_len s c
 obtain⟨X,hX⟩:∃X,X=chgM s c:=⟨_,rfl⟩
 have hAR:(c.add=true→addM s c.cell=X)∧(c.add=false→remM s c.cell=X):=by
  rw[hX];unfold chgM
  exact⟨fun h=>by rw[if_pos h],fun h=>by rw[if_neg (by rw[h];decide)]⟩
 rw[←hX]at hcl ⊢
 have hlX:X.2=0→X.1.len=s0.len:=fun h=>by rw[hX];rw[hX]at h;rw[chg_len h,hlen]
 clear hX hst hse he
 have hpre:∃v:Bool,v=c.add:=⟨_,rfl⟩
 have hx2:(decide ((0:Int) < (i:Int))=false)∨∃(k:Nat) (d:Chg),decide ((0:Int) < (i:Int))=true∧IntKind.i64.wrap ((i:Int)-1)=(k:Int)∧k < l.length∧(l.map Chg.av)[(k:Int).toNat]? = some d.av∧decide (c.slot < d.slot)=false:=by
  rcases hx with rfl|⟨k,d,rfl,hd,h2⟩
  ·exact .inl rfl
  ·exact .inr ⟨k,d,decide_eq_true (by omega),by rw[w64]<;>omega,(List.getElem?_eq_some_iff.1 hd).1,getMap (f:=Chg.av) hd,decide_eq_false h2⟩
 clear hx
 have hbm:(bothM before after).length≤281474976710656:=by
  unfold bothM bothN
  refine Nat.le_trans (List.length_filterMap_le _ _) ?_
  rw[List.length_range];omega
 have hkw:X.2=0→(schedE n (bothM before after) X.1).2=0→(∀x∈before,∀y,getQ after x.flow.id=some y→stayB before after x.flow.id=true→∀r∈unionM x.routes y.routes,WayOk n X.1 x.flow r)∧keepB n before after X.1=keptR n before after X.1:=fun h0 hv=>by
  have hf:=(schedE_ok hv).form
  refine⟨fun x hxm y hy _ r hr=>?_,keep_iff hW (hlX h0) hf⟩
  have hym:=(getQ_some hy).1
  unfold unionM at hr
  rcases List.mem_append.1 hr with hr|hr
  ·exact wayE_ok (way_zero hW.n0 hf (hbo x hxm) (by rw[hlX h0];exact hW.pb x hxm) rfl ((hbo x hxm).route r hr))
  ·have hfe:=hW.same x hxm y hy
   exact wayE_ok (way_zero hW.n0 hf (hao y hym) (by rw[hlX h0];exact hW.pa y hym) hfe.symm (by rw[←hfe];exact(hao y hym).route r (List.mem_filter.1 hr).1))
 rcases hx2 with gi|⟨k,d,gi,hw,hkl,hmd,g2⟩
 all_goals
  cases hca:c.add
  all_goals
   repeat((conv=>whnf);first|refine sJ ?_|refine aI (by first|exact trivial|exact inbMap hil|(rw[hw];exact inbMap hkl)|kernel_rfl) ?_|rw[hmc]|rw[g1]|rw[gi]|rw[hw]|rw[hmd]|rw[g2]|rw[hca])
   try(conv=>whnf)
   refine SemK.regionFin mixed (fun X=>X.bx[1]? = some (.cells s.av.cells 30)) [0,1,2,3,4,5,6,7,8] 3 rfl rfl (by decide) rfl rfl ?_
   iterate 6
    conv=>whnf
    apply exV
    ·rintro S' K' hI hh
     repeat((conv=>whnf);first|refine sJ ?_|refine aI (by first|exact trivial|exact inbMap hil|kernel_rfl) ?_|rw[hmc]|erw [hI])
     try(conv=>whnf)
     exact hh
   conv=>whnf
   apply exV
   ·rintro S' K' hI hh
    refine Wk ?_
    first
     | (refine CallK.data rfl (c_Add35 L s c.cell) rfl ?_;rw[hAR.1 hca])
     | (refine CallK.data rfl (c_Remove35 L s c.cell) rfl ?_;rw[hAR.2 hca])
    exact hh
   iterate 2
    conv=>whnf
    apply exV
    ·rintro S' K' hI hh
     refine Wk ?_
     exact hh
   conv=>whnf
   repeat' ((conv=>whnf);first|exact trivial|refine sJ ?_|refine aI (by first|exact trivial|exact Or.inr rfl|exact Or.inl rfl|kernel_rfl) ?_|refine And.intro ?_ ?_ )
   all_goals(conv=>whnf)
   all_goals
    by_cases h2:X.2≠0
    ·have gX:(X.2 != 0)=true:=by simpa using h2
     repeat((conv=>whnf);first|refine sT ?_|rw[gX])
     try(conv=>whnf)
     exact resP.mk rfl (Sees.of_eq (by rw[if_pos h2];rfl))
    have gX:(X.2 != 0)=false:=by simpa using h2
    repeat((conv=>whnf);first|refine sT ?_|rw[gX])
    try(conv=>whnf)
    refine cD (c_early42 L before after hW l i c hi hl) ?_
    cases he:earlyB before after (l.take i) c with
    | true=>
     repeat((conv=>whnf);first|refine sT ?_ )
     try(conv=>whnf)
     exact resP.mk rfl (Sees.of_eq (by rw[if_neg h2,if_pos rfl];rfl))
    | false=>
    repeat((conv=>whnf);first|refine sT ?_ )
    try(conv=>whnf)
    refine cD (c_Both42 L before after (by omega) (by omega)) ?_
    repeat((conv=>whnf);first|refine sT ?_ )
    try(conv=>whnf)
    refine cD (c_Valid35 L n hn (bothM before after) hbm X.1 (by omega)) ?_
    cases hv:((schedE n (bothM before after) X.1).2==0) with
    | false=>
     have h3:(schedE n (bothM before after) X.1).2≠0:=by simpa using hv
     repeat((conv=>whnf);first|refine sT ?_ )
     try(conv=>whnf)
     exact resP.mk rfl (Sees.of_eq (by rw[if_neg h2,if_neg (by decide),if_pos h3];rfl))
    | true=>
    have h3:(schedE n (bothM before after) X.1).2=0:=by simpa using hv
    obtain⟨w1,w2⟩:=hkw (by omega) h3
    repeat((conv=>whnf);first|refine sT ?_ )
    try(conv=>whnf)
    refine cD (c_Kept42 L n hn.2.2.1 before after X.1 (by omega) (by omega) (fun x hxm=>reqOk_small (hbo x hxm)) (fun x hxm=>(reqOk_small (hao x hxm)).1) w1) ?_
    rw[←w2]
    cases hkp:keepB n before after X.1 with
    | false=>
     repeat((conv=>whnf);first|refine sT ?_ )
     try(conv=>whnf)
     exact resP.mk rfl (Sees.of_eq (by rw[if_neg h2,if_neg (by decide),if_neg (by omega),if_pos rfl];rfl))
    | true=>
     repeat((conv=>whnf);first|refine sT ?_ )
     try(conv=>whnf)
     exact resP.mk rfl (Sees.of_eq (by rw[if_neg h2,if_neg (by decide),if_neg (by omega),if_neg (by decide)];rfl))
end
end HM
