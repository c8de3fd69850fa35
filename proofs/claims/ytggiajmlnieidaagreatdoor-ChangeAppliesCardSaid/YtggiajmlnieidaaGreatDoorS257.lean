/- A change is made. -/
import Derived.Test.YtggiajmlnieidaaGreatDoorS256
import Derived.Test.YtggiajmlnieidaaGreatDoorFh
set_option maxHeartbeats 64000000
set_option maxRecDepth 100000
namespace HM
open Go Go.RowKit Go.Proofs
theorem remM_len (s:Sched)(c:Cell):(remM s c).1.cells.length≤s.cells.length:=by
 unfold remM
 repeat' split
 all_goals simp[delAt]
 all_goals omega
theorem addM_len (s:Sched)(c:Cell):(addM s c).1.cells.length≤s.cells.length+1:=by
 unfold addM
 repeat' split
 all_goals simp[insAt]
 all_goals omega
theorem chgM_len (s:Sched)(c:Chg):(chgM s c).1.cells.length≤s.cells.length+1:=by
 unfold chgM
 split
 ·exact addM_len s c.cell
 ·have:=remM_len s c.cell;omega
theorem afterC_len (s:Sched):∀l:List Chg,(afterC s l).cells.length≤s.cells.length+l.length:=fun l=>by
 unfold afterC
 induction l generalizing s with
 | nil=>simp
 | cons c l ih=>
  have h1:=ih (chgM s c).1
  have h2:=chgM_len s c
  simp only[List.foldl_cons,List.length_cons]
  omega
theorem i_takes (n:Net)(before after:List Req)(fl dn:AV)(s:Sched)(c:Chg)(S:St)(mb:Nat)(hb:S.bx[mb]? = some (mvO n before after fl s dn)){K:AV→St→Prop}
  (h:∀S',S'.fr=S.fr→S'.ty=S.ty→S'.bx[mb]? = some (mvO n before after fl (if (chgM s c).2=0 then(chgM s c).1 else s) dn)→(∀id o,id≠mb→S.bx[id]? = some o→S'.bx[id]? = some o)→K (.int .i64 (chgM s c).2) S') :
  ICall Tryz.prog LW 50 [.ptr mb 0,c.av] S K:=by
 refine ICall.intro mixed [10001] (nt:=23) Tryz.func50 rfl rfl (by simp) ?_
 have hap:=c_appliedC LW s c
 have hi:=(List.getElem?_eq_some_iff.1 hb).1
 have hA:∀(S:St) o,(S.addB o).bx[S.bx.length]? = some o:=fun S o=>St.addB_get S o
 have hB1:∀o:Ob,(S.inner.addB o).bx[mb]? = some (mvO n before after fl s dn):=fun o=>St.addB_old hb
 have hl:∀o:Ob,(S.inner.addB o).bx.length=S.bx.length+1:=fun o=>St.addB_len _ _
 have hD:∀o o' o2:Ob,(((S.inner.addB o).addB o').setB (S.inner.addB o).bx.length o2).bx[(S.inner.addB o).bx.length]? = some o2:=fun o o' o2=>St.setB_get (hA _ _)
 have hE:∀o o' o2:Ob,(((S.inner.addB o).addB o').setB (S.inner.addB o).bx.length o2).bx[mb]? = some (mvO n before after fl s dn):=fun o o' o2=>by rw[St.setB_ne (by rw[hl];omega)];exact St.addB_old (hB1 o)
 have hF:∀o o' o2:Ob,(((S.inner.addB o).addB o').setB (S.inner.addB o).bx.length o2).bx[S.bx.length]? = some o:=fun o o' o2=>by rw[St.setB_ne (by rw[hl];omega)];exact St.addB_old (hA S.inner o)
 refine Wk ?_
 refine SemK.regionFin mixed (fun X=>X.bx[mb]? = some (mvO n before after fl s dn)∧X.bx[S.bx.length]? = some (.cells c.av.cells 42)) [0,1,2,3,4,5,6,7,8] 3 rfl rfl (by decide) rfl ⟨hB1 _,hA _ _⟩ ?_
 iterate 5
  conv=>whnf
  apply exV
  ·rintro S' K' hI hh
   repeat((conv=>whnf);first|refine sT ?_|erw [hI.1]|erw [hI.2])
   try(conv=>whnf)
   exact hh
 conv=>whnf
 apply exV
 ·rintro S' K' hI hh
  refine Wk ?_
  refine cD (hap) ?_
  exact hh
 iterate 3
  conv=>whnf
  apply exV
  ·rintro S' K' hI hh
   refine Wk ?_
   exact hh
 conv=>whnf
 repeat' ((conv=>whnf);first|exact trivial|refine sJ ?_|refine aI (by first|exact trivial|exact Or.inr (And.intro (St.addB_old (hB1 _)) (St.addB_old (hA S.inner _)))|exact Or.inr (And.intro (hE _ _ _) (hF _ _ _))|exact Or.inl rfl|kernel_rfl) ?_|refine And.intro ?_ ?_|rw[hA])
 all_goals(conv=>whnf)
 all_goals
  by_cases he:(chgM s c).2=0
  ·have g:((chgM s c).2==0)=true:=by rw[he];rfl
   rw[if_pos he]at h
   rw[g]
   repeat((conv=>whnf);first|refine sT ?_|rw[hD]|rw[hE])
   try(conv=>whnf)
   refine h _ rfl rfl (St.setB_get (hE _ _ _)) fun id o hid ho=>?_
   have hlt:=(List.getElem?_eq_some_iff.1 ho).1
   refine(St.setB_ne (Ne.symm hid)).trans ((St.setB_ne ?_).trans (St.addB_old (St.addB_old (S:=S.inner) ho)))
   rw[hl];omega
  ·have g:((chgM s c).2==0)=false:=by simpa using he
   rw[if_neg he]at h
   rw[g]
   refine Wk ?_
   refine h _ rfl rfl (hE _ _ _) fun id o hid ho=>?_
   have hlt:=(List.getElem?_eq_some_iff.1 ho).1
   refine(St.setB_ne (by rw[hl];omega)).trans ?_
   exact St.addB_old (St.addB_old (S:=S.inner) ho)
end HM
