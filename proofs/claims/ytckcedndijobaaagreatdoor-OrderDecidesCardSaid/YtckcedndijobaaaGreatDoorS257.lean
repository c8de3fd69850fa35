/- A change is made. -/
import Derived.Test.YtckcedndijobaaaGreatDoorS256
import Derived.Test.YtckcedndijobaaaGreatDoorFh
import Derived.Test.YtckcedndijobaaaGreatDoorS250
import Derived.Test.YtckcedndijobaaaGreatDoorS34
import Derived.Test.YtckcedndijobaaaGreatDoorS103
import Derived.Test.YtckcedndijobaaaGreatDoorDe
set_option maxHeartbeats 64000000
set_option maxRecDepth 100000
namespace HM
open Go Go.RowKit Go.Proofs
theorem remM_len (s:Sched)(c:Cell):(remM s c).1.cells.length≤s.cells.length:=by
 unfold remM
 repeat' split
 all_goals simp[delAt]
 all_goals omega
theorem addM_len (s:Sched)(c:Cell):(addM s c).1.cells.length≤s.cells.length+1:=by
 unfold addM
 repeat' split
 all_goals simp[insAt]
 all_goals omega
theorem chgM_len (s:Sched)(c:Chg):(chgM s c).1.cells.length≤s.cells.length+1:=by
 unfold chgM
 split
 ·exact addM_len s c.cell
 ·have:=remM_len s c.cell;omega
theorem afterC_len (s:Sched):∀l:List Chg,(afterC s l).cells.length≤s.cells.length+l.length:=fun l=>by
 unfold afterC
 induction l generalizing s with
 | nil=>simp
 | cons c l ih=>
  have h1:=ih (chgM s c).1
  have h2:=chgM_len s c
  simp only[List.foldl_cons,List.length_cons]
  omega
theorem i_takes (n:Net)(before after:List Req)(fl dn:AV)(s:Sched)(c:Chg)(S:St)(mb:Nat)(hb:S.bx[mb]? = some (mvO n before after fl s dn)){K:AV→St→Prop}
  (h:∀S',S'.fr=S.fr→S'.ty=S.ty→S'.bx[mb]? = some (mvO n before after fl (if (chgM s c).2=0 then(chgM s c).1 else s) dn)→(∀id o,id≠mb→S.bx[id]? = some o→S'.bx[id]? = some o)→K (.int .i64 (chgM s c).2) S') :
  ICall Tryz.prog LW 53 [.ptr mb 0,c.av] S K:=by
 refine ICall.intro mixed [10001] (nt:=23) Tryz.func53 rfl rfl (by simp) ?_
 have hap:=c_appliedC LW s c
 have hi:=(List.getElem?_eq_some_iff.1 hb).1
 have hA:∀(S:St) o,(S.addB o).bx[S.bx.length]? = some o:=fun S o=>St.addB_get S o
 have hB1:∀o:Ob,(S.inner.addB o).bx[mb]? = some (mvO n before after fl s dn):=fun o=>St.addB_old hb
 have hl:∀o:Ob,(S.inner.addB o).bx.length=S.bx.length+1:=fun o=>St.addB_len _ _
 have hD:∀o o' o2:Ob,(((S.inner.addB o).addB o').setB (S.inner.addB o).bx.length o2).bx[(S.inner.addB o).bx.length]? = some o2:=fun o o' o2=>St.setB_get (hA _ _)
 have hE:∀o o' o2:Ob,(((S.inner.addB o).addB o').setB (S.inner.addB o).bx.length o2).bx[mb]? = some (mvO n before after fl s dn):=fun o o' o2=>by rw[St.setB_ne (by rw[hl];omega)];exact St.addB_old (hB1 o)
 have hF:∀o o' o2:Ob,(((S.inner.addB o).addB o').setB (S.inner.addB o).bx.length o2).bx[S.bx.length]? = some o:=fun o o' o2=>by rw[St.setB_ne (by rw[hl];omega)];exact St.addB_old (hA S.inner o)
 refine Wk ?_
 refine SemK.regionFin mixed (fun X=>X.bx[mb]? = some (mvO n before after fl s dn)∧X.bx[S.bx.length]? = some (.cells c.av.cells 54)) [0,1,2,3,4,5,6,7,8] 3 rfl rfl (by decide) rfl ⟨hB1 _,hA _ _⟩ ?_
 iterate 5
  conv=>whnf
  apply exV
  ·rintro S' K' hI hh
   repeat((conv=>whnf);first|refine sT ?_|erw [hI.1]|erw [hI.2])
   try(conv=>whnf)
   exact hh
 conv=>whnf
 apply exV
 ·rintro S' K' hI hh
  refine Wk ?_
  refine cD (hap) ?_
  exact hh
 iterate 3
  conv=>whnf
  apply exV
  ·rintro S' K' hI hh
   refine Wk ?_
   exact hh
 conv=>whnf
 repeat' ((conv=>whnf);first|exact trivial|refine sJ ?_|refine aI (by first|exact trivial|exact Or.inr (And.intro (St.addB_old (hB1 _)) (St.addB_old (hA S.inner _)))|exact Or.inr (And.intro (hE _ _ _) (hF _ _ _))|exact Or.inl rfl|kernel_rfl) ?_|refine And.intro ?_ ?_|rw[hA])
 all_goals(conv=>whnf)
 all_goals
  by_cases he:(chgM s c).2=0
  ·have g:((chgM s c).2==0)=true:=by rw[he];rfl
   rw[if_pos he]at h
   rw[g]
   repeat((conv=>whnf);first|refine sT ?_|rw[hD]|rw[hE])
   try(conv=>whnf)
   refine h _ rfl rfl (St.setB_get (hE _ _ _)) fun id o hid ho=>?_
   have hlt:=(List.getElem?_eq_some_iff.1 ho).1
   refine(St.setB_ne (Ne.symm hid)).trans ((St.setB_ne ?_).trans (St.addB_old (St.addB_old (S:=S.inner) ho)))
   rw[hl];omega
  ·have g:((chgM s c).2==0)=false:=by simpa using he
   rw[if_neg he]at h
   rw[g]
   refine Wk ?_
   refine h _ rfl rfl (hE _ _ _) fun id o hid ho=>?_
   have hlt:=(List.getElem?_eq_some_iff.1 ho).1
   refine(St.setB_ne (by rw[hl];omega)).trans ?_
   exact St.addB_old (St.addB_old (S:=S.inner) ho)
theorem Sees.nilSl:Sees .nils (.sl false []):=⟨fun _ _ _ _v hv=>⟨none,0,hv,by simp,by simp,by simp⟩⟩
theorem SemK.freezeG {P:Program}{L:World→Prop}{nt:Nat}{c:Code}{a:Nat→AV}{S:St}{Q:Exit→(Nat→AV)→St→Prop}{n:Net}{before after:List Req}{s:Sched}{mb:Nat}{v:AV}{l:List Flow}(h0:S.bx[mb]? = some (mvO n before after v s .nils))(hG:GNf mb S v l)
  (ha:∀id k ds,(fun t=>frzv id k 6 ds (a t))=a) (h:∀S2,S2.bx[mb]? = some (mvO n before after (encFlows l) s .nils)→SemK P L nt c a S2 Q):SemK P L nt c a S Q:=by
 rcases hG with ⟨rfl,rfl⟩|⟨id,ex,hid,rfl,hbx⟩
 ·refine SemK.recast (id:=mb) (mvO n before after (encFlows []) s .nils) h0 rfl ⟨rfl,Sees.rfl' _,Sees.rfl' _,Sees.rfl' _,Sees.rfl' _,Sees.rfl' _,Sees.rfl' _,Sees.rfl' _,Sees.rfl' _,Sees.nilSl,Sees.rfl' _,Sees.rfl' _,Sees.rfl' _,Sees.rfl' _,trivial⟩ ?_
  exact h _ (St.setB_get h0)
 ·refine SemK.freezeV id 6 hbx (fun e he=>?_) ?_
  ·obtain⟨f,_,rfl⟩:=List.mem_map.1 he
   exact⟨_,rfl,rfl,rfl⟩
  rw[List.length_map,ha]
  refine h _ ?_
  show(frzvB id l.length 6 (l.map Flow.av) 0 S.bx)[mb]? = _
  rw[frzvB_get,h0,Nat.zero_add,Option.map_some,if_neg (Ne.symm hid)]
  simp[mvO,movCs,frzvO,frzvs,frzv,encFlows,encRows,encLinks,encIs,encReqs,encCells]
theorem ofL_frz {id k z:Nat}{ds:List AV}:∀{l:List (Nat×AV)},(∀p∈l,frzv id k z ds p.2=p.2)→(fun t=>frzv id k z ds (ofL l t))=ofL l:=fun {l} h=>by
 funext t
 induction l with
 | nil=>rfl
 | cons p l ih=>
  obtain⟨s,v⟩:=p
  simp only[ofL]
  split
  ·exact h _ (List.mem_cons_self ..)
  ·exact ih fun q hq=>h q (List.mem_cons_of_mem _ hq)
def movPre (n:Net)(before after:List Req)(v:AV)(s:Sched):List AV:=[.int .i64 n.nodes,encRows n.power,.int .i64 n.noise,.int .i64 n.thr,encLinks n.links,encIs n.margin,encReqs before,encReqs after,v,.int .i64 s.len,.int .i64 s.offs,encCells s.cells]
theorem fzb_mv {S:St}{n:Net}{before after:List Req}{fl:List Flow}{s:Sched}{done:List Chg}{mb ch:Nat}(h:S.bx[mb]? = some (mvO n before after (encFlows fl) s (.own (done.map Chg.av) ch))):fzb S (.ptr mb 0)=some (.cptr (movAv n before after fl s done) 0):=by
 simp only[fzb,h]
 rfl
theorem fzb_mv2 {S:St}{n:Net}{before after:List Req}{fl:List Flow}{s:Sched}{done:List Chg}{mb ch:Nat}(h:S.bx[mb]? = some (mvO n before after (encFlows fl) s (.own (done.map Chg.av) ch)))(c:Chg):fzbs S [.ptr mb 0,c.av] = some [.cptr (movAv n before after fl s done) 0,c.av]:=by
 rw[fzbs,fzb_mv h]
 rfl
def cndO (mb:Nat):Ob:=.cells [.bfn 52 mb 0,.bfn 53 mb 0,.bfn 54 mb 0,.bfn 55 mb 0,.bfn 56 mb 0] 95
theorem check_whole {n:Net}{before after:List Req}{s:Sched}{l:List Chg}(h:wholeC n before after s≠0):checkC n before after s l=(-1,wholeC n before after s):=by unfold checkC;rw[if_pos h]
theorem check_long {n:Net}{before after:List Req}{s:Sched}{l:List Chg}(h:wholeC n before after s=0)(h2:1024 < l.length):checkC n before after s l=(-1,8):=by unfold checkC;rw[if_neg (by omega),if_pos h2]
theorem check_hit {n:Net}{before after:List Req}{s:Sched}{l:List Chg}(h:wholeC n before after s=0)(h2:¬1024 < l.length){k:Nat}(hk:k < l.length)(h0:∀j,j < k→faultC n before after s l j=0){e:Int}(he:faultC n before after s l k=e)(hne:e≠0):checkC n before after s l=((k:Int),e):=by
 have:=firstAt_hit h0 (by rw[he];exact hne) hk
 unfold checkC
 rw[if_neg (by omega),if_neg h2,this,if_pos (by rw[he];exact hne),he]
theorem check_end {n:Net}{before after:List Req}{s:Sched}{l:List Chg}(h:wholeC n before after s=0)(h2:¬1024 < l.length)(h0:∀j,j < l.length→faultC n before after s l j=0):checkC n before after s l=(-1,endE n after (afterC s l)):=by
 have:=firstAt_zero h0
 unfold checkC endE
 rw[if_neg (by omega),if_neg h2,this,if_neg (by simp)]
 cases endsB n after (afterC s l)<;>simp
theorem c_CheckC (n:Net)(hn:n.small)(before after:List Req)(hq1:before.length≤1099511627776)(hq2:after.length≤1099511627776)(hx1:∀x∈before,x.small)(hx2:∀x∈after,x.small)(s:Sched)(hc:s.cells.length≤1000000)(l:List Chg)(hl:l.length≤281474976710656) :
  PCall Tryz.prog LW 24 [n.av,encReqs before,encReqs after,s.av,encChgs l] (.tup [.int .i64 (checkC n before after s l).1,.int .i64 (checkC n before after s l).2]):=by
 refine PCall.intro mixed [5,10018] (nt:=81) Tryz.func24 rfl rfl (by simp) ?_
 refine Wk ?_
 refine SeqK.cutNT mixed [] (fun (v:AV) (S1:St)=>wholeC n before after s=0∧S1.bx[2]? = some (mvO n before after v s .nils)∧GNf 2 S1 v (bothM before after)) (fun _=>[(4,encChgs l),(12,.ptr 2 0)]) ?_ ?_
 ·refine Wk ?_
  refine CallK.inl rfl (i_whole n hn before after hq1 hq2 hx1 hx2 s (by omega) _ 2 rfl (fun S' hw=>?_) (fun S' v hw hB hG=>?_))
  ·have g:(wholeC n before after s != 0)=true:=by simpa using hw
   repeat((conv=>whnf);first|refine sT ?_|rw[g])
   try(conv=>whnf)
   exact resP.mk rfl (Sees.of_eq (by rw[check_whole hw]))
  ·refine Wk ?_
   exact⟨v,⟨hw,hB,hG⟩,Sees.of_eq rfl,Sees.of_eq rfl,trivial⟩
 rintro v S1 ⟨hw,hB1,hG1⟩
 refine SemK.freezeG hB1 hG1 (fun id k ds=>ofL_frz fun p hp=>?_) fun S2 hB2=>?_
 ·simp only[List.mem_cons,List.not_mem_nil,or_false]at hp
  rcases hp with rfl|rfl<;>rfl
 refine twC_sound (ct:=[10018]) mixed _ _ _ _ ?_
 by_cases hl2:1024 < l.length
 ·have g:decide ((1024:Int) < (l.length:Int))=true:=decide_eq_true (by omega)
  repeat((conv=>whnf);first|refine sT ?_|rw[List.length_map]|rw[g])
  try(conv=>whnf)
  exact resP.mk rfl (Sees.of_eq (by rw[check_long hw hl2]))
 have g:decide ((1024:Int) < (l.length:Int))=false:=decide_eq_false (by omega)
 have hA:∀(S:St) o,(S.addB o).bx[S.bx.length]? = some o:=fun S o=>St.addB_get S o
 have hi2:=(List.getElem?_eq_some_iff.1 hB2).1
 repeat((conv=>whnf);first|refine sT ?_|rw[List.length_map]|rw[g]|rw[hA])
 try(conv=>whnf)
 have hB3:∀o o':Ob,((S2.addB o).setB S2.bx.length o').bx[2]? = some (mvO n before after (encFlows (bothM before after)) s .nils):=fun o o'=>by rw[St.setB_ne (by omega)];exact St.addB_old hB2
 have hB4:∀o o':Ob,((S2.addB o).setB S2.bx.length o').bx[S2.bx.length]? = some o':=fun o o'=>St.setB_get (hA S2 o)
 refine⟨SemK.bornO 2 7 54 92 (movPre n before after (encFlows (bothM before after)) s) (hB3 _ _) (LoopK.out ?_)⟩
 have hC4:∀(o o':Ob) x e o2,((((S2.addB o).setB S2.bx.length o').addF x e).setB 2 o2).bx[S2.bx.length]? = some o':=fun o o' x e o2=>(St.setB_ne (by omega)).trans (hB4 o o')
 obtain⟨B,hBe⟩:∃B,B=bothM before after:=⟨_,rfl⟩
 obtain⟨ch,hch⟩:∃ch,ch=S2.fr.length:=⟨_,rfl⟩
 obtain⟨cb,hcb⟩:∃cb,cb=S2.bx.length:=⟨_,rfl⟩
 refine LoopK.runS mixed [10018] (fun (k:Nat) (S3:St)=>k≤l.length∧S3.bx[2]? = some (mvO n before after (encFlows B) (afterC s (l.take k)) (.own ((l.take k).map Chg.av) ch))∧S3.fr[ch]? = some (k,7)∧S3.ty ch=54∧S3.bx[cb]? = some (cndO 2)∧∀j,j < k→faultC n before after s l j=0) (fun k=>[(12,.ptr 2 0),(14,.ptr cb 0),(46,encChgs l),(47,.int .i64 l.length),(48,.int .i64 k)]) (fun k=>l.length-k) 0 ⟨by simp,?_,?_,?_,?_,by simp⟩ ?_ ?_
 ·rw[hBe,hch];exact St.setB_get (hB3 _ _)
 ·rw[hch];exact(by simp[St.setB,St.addF,St.addB])
 ·rw[hch];exact(by simp[St.setB,St.addF,St.addB,updT])
 ·rw[hcb];exact hC4 _ _ _ _ _
 ·rw[hcb];exact⟨Sees.of_eq rfl,Sees.of_eq rfl,Sees.of_eq rfl,Sees.int (by simp),Sees.int (by simp),trivial⟩
 have hpar:(makeM n before s).2.2=0∧(reqE n after).2=0:=by
  have hw2:=hw
  unfold wholeC at hw2
  split at hw2
  ·cases hw2
  ·omega
 obtain⟨hrq,hv,_,_⟩:=make_parts hpar.1
 obtain⟨hok,hq16,hreq,_⟩:=reqE_ok hrq
 obtain⟨_,hqa16,hreqa,_⟩:=reqE_ok hpar.2
 have hbl:=both_len (reqsOk hrq) (reqsOk hpar.2)
 rintro k S3 ⟨hk,hB5,hfr,hty,hcd,hinv⟩
 have hcb2:cb≠2:=by omega
 clear hC4 hB4 hB3 hB2 hi2 hG1 hB1
 have hi5:=(List.getElem?_eq_some_iff.1 hB5).1
 by_cases hkl:k < l.length
 rotate_left
 ·have hke:k=l.length:=by omega
  subst hke
  have gk:decide ((l.length:Int) < (l.length:Int))=false:=decide_eq_false (by omega)
  rw[List.take_length]at hB5
  have hca:=afterC_len s l
  have hen:=c_endsC n hn before after B (afterC s l) (by omega) l hqa16 hx2
  repeat((conv=>whnf);first|refine sT ?_|rw[gk])
  try(conv=>whnf)
  refine CallK.box rfl hen (by show fzbs S3 [.ptr 2 0] = _;rw[fzbs,fzb_mv hB5];rfl) rfl ?_
  have hce:=check_end hw hl2 hinv
  by_cases he:endE n after (afterC s l)=0
  ·have g2:(endE n after (afterC s l) != 0)=false:=by simpa using he
   repeat((conv=>whnf);first|refine sT ?_|rw[g2])
   try(conv=>whnf)
   exact resP.mk rfl (Sees.of_eq (by rw[hce,he]))
  ·have g2:(endE n after (afterC s l) != 0)=true:=by simpa using he
   repeat((conv=>whnf);first|refine sT ?_|rw[g2])
   try(conv=>whnf)
   exact resP.mk rfl (Sees.of_eq (by rw[hce]))
 obtain⟨c,hgc⟩:=getLt hkl
 have hmc:=getMap (f:=Chg.av) hgc
 have gk:decide ((k:Int) < (l.length:Int))=true:=decide_eq_true (by omega)
 obtain⟨sk,hsk⟩:∃sk,sk=afterC s (l.take k):=⟨_,rfl⟩
 obtain⟨dn,hdn⟩:∃dn,dn=l.take k:=⟨_,rfl⟩
 rw[←hsk,←hdn]at hB5
 have hb6:∀o o':Ob,((S3.addB o).setB S3.bx.length o').bx[2]? = some (mvO n before after (encFlows B) sk (.own (dn.map Chg.av) ch)):=fun o o'=>by rw[St.setB_ne (by omega)];exact St.addB_old hB5
 have hi6:=(List.getElem?_eq_some_iff.1 hcd).1
 have hc6:∀o o':Ob,((S3.addB o).setB S3.bx.length o').bx[cb]? = some (cndO 2):=fun o o'=>by rw[St.setB_ne (by omega)];exact St.addB_old hcd
 have hx6:∀o o':Ob,((S3.addB o).setB S3.bx.length o').bx[S3.bx.length]? = some o':=fun o o'=>St.setB_get (hA S3 o)
 repeat((conv=>whnf);first|refine sJ ?_|refine aI (by first|exact trivial|exact inbMap hkl|kernel_rfl) ?_|rw[gk]|rw[hmc]|rw[hA]|rw[hc6])
 try(conv=>whnf)
 obtain⟨xb,hxb⟩:∃xb,xb=S3.bx.length:=⟨_,rfl⟩
 refine LoopK.runS mixed [10018] (fun (j:Nat) (S4:St)=>j≤5∧S4.bx[2]? = some (mvO n before after (encFlows B) (if j < 2 then sk else(chgM sk c).1) (.own (dn.map Chg.av) ch))∧S4.fr[ch]? = some (k,7)∧S4.ty ch=54∧S4.bx[cb]? = some (cndO 2)∧S4.bx[xb]? = some (.cells c.av.cells 54)∧(1≤j→chgE (lastSlot dn) c=0)∧(2≤j→(chgM sk c).2=0)∧(3≤j→earlyB before after dn c=false)∧(4≤j→(schedE n B (chgM sk c).1).2=0)∧(5≤j→keepB n before after (chgM sk c).1=true)) (fun j=>[(12,.ptr 2 0),(14,.ptr cb 0),(15,.int .i64 k),(16,.ptr xb 0),(46,encChgs l),(47,.int .i64 l.length),(48,.int .i64 k),(53,.agg [.bfn 52 2 0,.bfn 53 2 0,.bfn 54 2 0,.bfn 55 2 0,.bfn 56 2 0]),(54,.int .i64 j)]) (fun j=>5-j) 0 ⟨by decide,hb6 _ _,hfr,hty,hc6 _ _,by rw[hxb];exact hx6 _ _,by omega,by omega,by omega,by omega,by omega⟩ ?_ ?_
 ·rw[hxb];exact⟨Sees.of_eq rfl,Sees.of_eq rfl,Sees.of_eq rfl,Sees.of_eq rfl,Sees.of_eq rfl,Sees.of_eq rfl,Sees.of_eq rfl,Sees.of_eq rfl,Sees.of_eq rfl,trivial⟩
 rintro j S4 ⟨hj,hB7,hfr7,hty7,hcd7,hx7,p0,p1,p2,p3,p4⟩
 have hxb2:xb≠2:=by omega
 clear hx6 hc6 hb6 hcd hB5 hi5 hi6
 have hdl:dn.length=k:=by rw[hdn,List.length_take];omega
 have hskl:sk.cells.length≤1001024:=by
  have:=afterC_len s (l.take k)
  rw[←hsk,←hdn,hdl]at this
  omega
 have hsl1:=chgM_len sk c
 have hflt:faultC n before after s l k=stepC n before after dn sk c:=by unfold faultC;rw[hgc,hsk,hdn]
 have hBl:B.length≤281474976710656:=by
  rw[hBe]
  unfold wholeC at hw
  repeat' (first|omega|split at hw)
  all_goals first|omega|cases hw
 have hret:∀e:Int,stepC n before after dn sk c=e→e≠0→checkC n before after s l=((k:Int),e):=fun e h1 h2=>check_hit hw hl2 hkl hinv (hflt.trans h1) h2
 have hj6:j=0∨j=1∨j=2∨j=3∨j=4∨j=5:=by omega
 rcases hj6 with rfl|rfl|rfl|rfl|rfl|rfl
 ·rw[if_pos (by decide)]at hB7
  repeat((conv=>whnf);first|refine sJ ?_|refine aI (by first|exact trivial|exact⟨by decide,by decide⟩|kernel_rfl) ?_|rw[hx7])
  try(conv=>whnf)
  refine CallK.boundD rfl (c_placedC LW n before after B sk dn c (by omega)) (fzb_mv2 hB7 c) rfl ?_
  by_cases he:chgE (lastSlot dn) c=0
  ·have g2:(chgE (lastSlot dn) c != 0)=false:=by simpa using he
   repeat((conv=>whnf);first|refine sT ?_|rw[g2])
   try(conv=>whnf)
   exact⟨1,⟨by decide,by rw[if_pos (by decide)];exact hB7,hfr7,hty7,hcd7,hx7,fun _=>he,by omega,by omega,by omega,by omega⟩,by decide,Sees.of_eq rfl,Sees.of_eq rfl,Sees.of_eq rfl,Sees.of_eq rfl,Sees.of_eq rfl,Sees.of_eq rfl,Sees.of_eq rfl,Sees.of_eq rfl,Sees.of_eq rfl,trivial⟩
  ·have g2:(chgE (lastSlot dn) c != 0)=true:=by simpa using he
   repeat((conv=>whnf);first|refine sT ?_|rw[g2])
   try(conv=>whnf)
   exact resP.mk rfl (Sees.of_eq (by rw[hret _ (by unfold stepC;rw[if_pos he]) he]))
 ·rw[if_pos (by decide)]at hB7
  repeat((conv=>whnf);first|refine sJ ?_|refine aI (by first|exact trivial|exact⟨by decide,by decide⟩|kernel_rfl) ?_|rw[hx7])
  try(conv=>whnf)
  refine CallK.bound rfl (i_takes n before after (encFlows B) (.own (dn.map Chg.av) ch) sk c S4 2 hB7 fun S5 h1 h2 h3 h4=>?_)
  by_cases he:(chgM sk c).2=0
  ·have g2:((chgM sk c).2 != 0)=false:=by simpa using he
   rw[if_pos he]at h3
   repeat((conv=>whnf);first|refine sT ?_|rw[g2])
   try(conv=>whnf)
   exact⟨2,⟨by decide,by rw[if_neg (by decide)];exact h3,by rw[h1];exact hfr7,by rw[h2];exact hty7,h4 cb _ hcb2 hcd7,h4 xb _ hxb2 hx7,fun _=>p0 (by omega),fun _=>he,by omega,by omega,by omega⟩,by decide,Sees.of_eq rfl,Sees.of_eq rfl,Sees.of_eq rfl,Sees.of_eq rfl,Sees.of_eq rfl,Sees.of_eq rfl,Sees.of_eq rfl,Sees.of_eq rfl,Sees.of_eq rfl,trivial⟩
  ·have g2:((chgM sk c).2 != 0)=true:=by simpa using he
   repeat((conv=>whnf);first|refine sT ?_|rw[g2])
   try(conv=>whnf)
   exact resP.mk rfl (Sees.of_eq (by rw[hret _ (by unfold stepC;rw[if_neg (by have:=p0 (by omega);omega),if_pos he]) he]))
 ·rw[if_neg (by decide)]at hB7
  repeat((conv=>whnf);first|refine sJ ?_|refine aI (by first|exact trivial|exact⟨by decide,by decide⟩|kernel_rfl) ?_|rw[hx7])
  try(conv=>whnf)
  refine CallK.boundD rfl (c_waits LW n before after B (chgM sk c).1 dn c (by omega) hq16 hqa16 (fun x hx=>(hreq x hx).len.2) (fun x hx=>(hreqa x hx).len.2)) (fzb_mv2 hB7 c) rfl ?_
  unfold waitE
  cases he:earlyB before after dn c with
  | false=>
   repeat((conv=>whnf);first|refine sT ?_ )
   try(conv=>whnf)
   exact⟨3,⟨by decide,by rw[if_neg (by decide)];exact hB7,hfr7,hty7,hcd7,hx7,fun _=>p0 (by omega),fun _=>p1 (by omega),fun _=>by first|exact he|rfl,by omega,by omega⟩,by decide,Sees.of_eq rfl,Sees.of_eq rfl,Sees.of_eq rfl,Sees.of_eq rfl,Sees.of_eq rfl,Sees.of_eq rfl,Sees.of_eq rfl,Sees.of_eq rfl,Sees.of_eq rfl,trivial⟩
  | true=>
   repeat((conv=>whnf);first|refine sT ?_ )
   try(conv=>whnf)
   exact resP.mk rfl (Sees.of_eq (by rw[hret 12 (by unfold stepC;rw[if_neg (by have:=p0 (by omega);omega),if_neg (by have:=p1 (by omega);omega),if_pos he]) (by decide)];rfl))
 ·rw[if_neg (by decide)]at hB7
  repeat((conv=>whnf);first|refine sJ ?_|refine aI (by first|exact trivial|exact⟨by decide,by decide⟩|kernel_rfl) ?_|rw[hx7])
  try(conv=>whnf)
  refine CallK.boundD rfl (c_valid LW n hn before after B hBl (chgM sk c).1 (by omega) dn c) (fzb_mv2 hB7 c) rfl ?_
  by_cases he:(schedE n B (chgM sk c).1).2=0
  ·rw[if_neg (by omega)]
   repeat((conv=>whnf);first|refine sT ?_ )
   try(conv=>whnf)
   exact⟨4,⟨by decide,by rw[if_neg (by decide)];exact hB7,hfr7,hty7,hcd7,hx7,fun _=>p0 (by omega),fun _=>p1 (by omega),fun _=>p2 (by omega),fun _=>he,by omega⟩,by decide,Sees.of_eq rfl,Sees.of_eq rfl,Sees.of_eq rfl,Sees.of_eq rfl,Sees.of_eq rfl,Sees.of_eq rfl,Sees.of_eq rfl,Sees.of_eq rfl,Sees.of_eq rfl,trivial⟩
  ·rw[if_pos he]
   repeat((conv=>whnf);first|refine sT ?_ )
   try(conv=>whnf)
   exact resP.mk rfl (Sees.of_eq (by rw[hret 16 (by unfold stepC;rw[if_neg (by have:=p0 (by omega);omega),if_neg (by have:=p1 (by omega);omega),if_neg (by rw[p2 (by omega)];decide),if_pos (by rw[←hBe];exact he)]) (by decide)]))
 ·rw[if_neg (by decide)]at hB7
  repeat((conv=>whnf);first|refine sJ ?_|refine aI (by first|exact trivial|exact⟨by decide,by decide⟩|kernel_rfl) ?_|rw[hx7])
  try(conv=>whnf)
  refine CallK.boundD rfl (c_keeps n hn before after B hBl (chgM sk c).1 (by omega) dn c hq16 hqa16 (fun x hx=>⟨(hreq x hx).len.2,fun r hr=>(routeF_ok ((hreq x hx).route r hr)).1.2⟩) (fun x hx=>⟨(hreqa x hx).len.2,fun r hr=>(routeF_ok ((hreqa x hx).route r hr)).1.2⟩)) (fzb_mv2 hB7 c) rfl ?_
  have hkb:B.all (keepF n before after (chgM sk c).1)=keepB n before after (chgM sk c).1:=by rw[hBe];rfl
  rw[hkb]
  cases he:keepB n before after (chgM sk c).1 with
  | true=>
   repeat((conv=>whnf);first|refine sT ?_ )
   try(conv=>whnf)
   exact⟨5,⟨by decide,by rw[if_neg (by decide)];exact hB7,hfr7,hty7,hcd7,hx7,fun _=>p0 (by omega),fun _=>p1 (by omega),fun _=>p2 (by omega),fun _=>p3 (by omega),fun _=>by first|exact he|rfl⟩,by decide,Sees.of_eq rfl,Sees.of_eq rfl,Sees.of_eq rfl,Sees.of_eq rfl,Sees.of_eq rfl,Sees.of_eq rfl,Sees.of_eq rfl,Sees.of_eq rfl,Sees.of_eq rfl,trivial⟩
  | false=>
   repeat((conv=>whnf);first|refine sT ?_ )
   try(conv=>whnf)
   exact resP.mk rfl (Sees.of_eq (by rw[hret 15 (by unfold stepC;rw[if_neg (by have:=p0 (by omega);omega),if_neg (by have:=p1 (by omega);omega),if_neg (by rw[p2 (by omega)];decide),if_neg (by rw[←hBe];have:=p3 (by omega);omega),if_pos he]) (by decide)];rfl))
 ·rw[if_neg (by decide)]at hB7
  repeat((conv=>whnf);first|refine sT ?_|rw[hx7])
  try(conv=>whnf)
  have hi7:=(List.getElem?_eq_some_iff.1 hB7).1
  refine SemK.regionFin mixed (fun X=>X.bx[2]? = some (mvO n before after (encFlows B) (chgM sk c).1 (.own (dn.map Chg.av) ch))∧X.bx[xb]? = some (.cells c.av.cells 54)) [0,1,2,3,4,5,6] 4 rfl rfl (by decide) rfl ⟨hB7,hx7⟩ ?_
  iterate 7
   conv=>whnf
   apply exV
   ·rintro S' K' hI hh
    repeat((conv=>whnf);first|refine sT ?_|erw [hI.1]|erw [hI.2])
    try(conv=>whnf)
    exact hh
  conv=>whnf
  have hlm:(dn.map Chg.av).length=k:=by rw[List.length_map,hdl]
  have hfr8:S4.fr[ch]? = some ((dn.map Chg.av).length,6+1):=by rw[hlm];exact hfr7
  have hsz1:((dn.map Chg.av).length+1)*56≤140737488355328:=by rw[hlm];omega
  have hsz2:(dn.map Chg.av).length+1≤maxLen:=by rw[hlm];unfold maxLen;omega
  have hB8:∀x,(S4.setF ch x).bx[2]? = some (mvO n before after (encFlows B) (chgM sk c).1 (.own (dn.map Chg.av) ch)):=fun x=>hB7
  have hx8:∀x,(S4.setF ch x).bx[xb]? = some (.cells c.av.cells 54):=fun x=>hx7
  repeat' ((conv=>whnf);first|exact trivial|refine sJ ?_|refine aI (by first|exact trivial|exact Or.inl rfl|exact Or.inr (And.intro hB7 hx7)|exact Or.inr (And.intro (hB8 _) (hx8 _))|exact Els.map (f:=Chg.av) (fun _=>⟨rfl,rfl⟩)|exact hsz1|exact hsz2|exact hfr8|exact hty7|kernel_rfl) ?_|refine And.intro ?_ ?_|rw[hB8])
  all_goals(conv=>whnf)
  all_goals
   refine⟨k+1,⟨hkl,?_,?_,hty7,(St.setB_ne (Ne.symm hcb2)).trans hcd7,fun j hj=>?_⟩,by omega,Sees.of_eq rfl,Sees.of_eq rfl,Sees.of_eq rfl,Sees.of_eq rfl,Sees.int (succI hkl (by omega)),trivial⟩
   ·rw[afterC_snoc hgc,take_succ hgc,List.map_append,←hsk,←hdn]
    exact St.setB_get (hB8 _)
   ·show(S4.fr.set ch _)[ch]? = _
    rw[List.getElem?_set_self (List.getElem?_eq_some_iff.1 hfr7).1,List.length_append,hlm]
    rfl
   ·rcases Nat.lt_succ_iff_lt_or_eq.1 hj with h'|rfl
    ·exact hinv j h'
    ·rw[hflt]
     unfold stepC
     have e0:=p0 (by omega)
     have e1:=p1 (by omega)
     have e3:=p3 (by omega)
     rw[if_neg (by omega),if_neg (by omega),if_neg (by rw[p2 (by omega)];decide),if_neg (by rw[←hBe];omega),if_neg (by rw[p4 (by omega)];decide)]
section
variable (L:World→Prop)
theorem i_DelCell3 (o0 o1 o2:Ob)(n0 m0:Nat)(ty:Nat→TypeId)(l:List Cell)(p:Cell→Bool)(g:Nat)(caps fcaps:List AV)(d:Nat){K:AV→St→Prop}(hl:l.length≤281474976710656)(hcb:callable Tryz.prog g=true)(hc:fzs fcaps=some fcaps)(hok:o0.okk 4 0∧o1.okk 4 0∧o2.okk 4 0∧okks 4 0 caps)
  (hfz:∀(x:List Ob) (n m:Nat) (ty':Nat→TypeId),fzbs ⟨o0 :: o1 :: o2 :: x,[],n,m,ty'⟩ caps=some fcaps) (hp:∀x∈l,PCall Tryz.prog L g (Cell.av x :: fcaps) (.bool (p x)))
  (hK:∀ex:List AV,K (.vsl 3 0 (l.filter fun x=>!p x).length 5) ⟨[o0,o1,o2,.cells (flatE ((l.filter fun x=>!p x).map Cell.av)++ex) 52],[],n0,m0,ty⟩) :
  ICall Tryz.prog L 98 [.vsl 3 0 l.length 5,.fn g caps] ⟨[o0,o1,o2,freshO (l.map Cell.av) 5 d 52],[],n0,m0,ty⟩ K:=by
 have hall:∀x:Cell,(Cell.av x).cells.length=5:=fun x=>(cellOk).len x
 refine ICall.intro mixed [] (nt:=42) Tryz.func98 rfl rfl (by simp) ?_
 refine Wk ?_
 refine CallK.box rfl (c_IndexFuncCell L l p g fcaps hl hcb hc hp) (fz2 ((cellOk).fzb rfl rfl) (fzf1 (hfz _ _ _ _))) rfl ?_
 refine Wk ?_
 refine BrK.mk (fun h1=>?_) (fun h1=>?_)<;>(try rw[h1])
 ·refine Wk ?_
  have hnone:=idxF_none_iff (p:=p) (l:=l) (by simpa using h1)
  have hfil:(l.filter fun x=>!p x)=l:=List.filter_eq_self.2 fun x hx=>by
   obtain⟨j,hj⟩:=List.getElem?_of_mem hx
   simp[hnone j x hj]
  have:=hK (List.replicate (d*5) .undef)
  rw[hfil]at this
  exact this
 obtain⟨k,x,e1,e2,e3⟩:=idxF_at (p:=p) (l:=l) (by simpa using h1)
 obtain⟨_,_,_,e4⟩:=idxF_first e1
 have hklt:=(List.getElem?_eq_some_iff.1 e2).1
 rw[e1]
 refine Wk ?_
 refine LoopK.run mixed [] (fun s:List Cell×Nat×Nat=>Kept p l s.1 s.2.1 s.2.2) (fun s=>[(0,.vsl 3 0 l.length 5),(1,.fn g caps),(5,.int .i64 s.2.1),(6,.int .i64 s.2.2)]) (fun s=>⟨[o0,o1,o2,.cells (flatE (s.1.map Cell.av)++List.replicate (d*5) .undef) 52],[],4,0,ty⟩) (fun s=>l.length-s.2.2) (l,k,k+1) (Kept.start e2 e3 e4) ?_ ?_
 ·refine fN ?_<;>repeat' (first|exact fQ|refine And.intro ?_ ?_|exact SeesL.rfl' _|exact SeesO.rfl' _|exact hok.1|exact hok.2.1|exact hok.2.2.1|exact hok.2.2.2|exact okks_append ((cellOk).okk _ _ _) (okks_undef _ _ _)|exact Sees.int (succI hklt hl))
 rintro⟨a,i,j⟩ hkept
 simp only at hkept
 have hij:=hkept.ij
 have halen:=hkept.len
 refine Wk ?_
 refine BrK.mk (fun hb=>?_) (fun hb=>?_)<;>try rw[hb]
 ·have hlt:j < l.length:=by simpa using hb
  obtain⟨y,hgy⟩:=getLt hlt
  have hay:=hkept.get hgy
  have hld:=(cellOk).ld (List.replicate (d*5) .undef) hay
  have hft:=(cellOk).fit (l:=a) (List.replicate (d*5) .undef) (k:=j) (by omega)
  have hpy:=hp y (List.mem_of_getElem? hgy)
  repeat((conv=>whnf);first|refine sJ ?_|refine aI (by first|exact⟨by omega,by simp;omega⟩|kernel_rfl) ?_ )
  try(conv=>whnf)
  refine And.intro (show 0+(j:Int).toNat*5+5≤_ by rw[Nat.zero_add,Int.toNat_natCast];exact hft) ?_
  rw[(cellOk).ldr _ hay _ _ (by kernel_rfl) (by kernel_rfl)]
  refine Wk ?_
  refine CallK.box hcb hpy (fz2 rfl (hfz _ _ _ _)) rfl ?_
  have hfi:=(cellOk).fit (l:=a) (List.replicate (d*5) .undef) (k:=i) (by omega)
  refine Wk ?_
  refine BrK.mk (fun h2=>?_) (fun h2=>?_)<;>(try rw[h2])
  ·repeat((conv=>whnf);first|refine sJ ?_|refine aI (by first|exact⟨by omega,by simp;omega⟩|exact(show 0+(i:Int).toNat*5+5≤_ by rw[Nat.zero_add,Int.toNat_natCast];exact hfi)|kernel_rfl) ?_ )
   try(conv=>whnf)
   have hst:=(cellOk).st y (List.replicate (d*5) .undef) (l:=a) (k:=i) (by omega)
   refine⟨(a.set i y,i+1,j+1),hkept.keep hgy (by simpa using h2),by simp only;omega,?_⟩
   refine fN ?_<;>repeat' (first|exact fQ|refine And.intro ?_ ?_|exact SeesO.rfl' _|exact hok.1|exact hok.2.1|exact hok.2.2.1|exact hok.2.2.2|exact okks_append ((cellOk).okk _ _ _) (okks_undef _ _ _)|exact Sees.int (succI hlt hl)|exact Sees.int (succI (by omega:i < l.length) hl)|exact SeesL.of_eq (by rw[Nat.zero_add,Int.toNat_natCast];exact hst))
  ·refine Wk ?_
   refine⟨(a,i,j+1),hkept.skip hgy (by simpa using h2),by simp only;omega,?_⟩
   refine fN ?_<;>repeat' (first|exact fQ|refine And.intro ?_ ?_|exact SeesL.rfl' _|exact SeesO.rfl' _|exact hok.1|exact hok.2.1|exact hok.2.2.1|exact hok.2.2.2|exact okks_append ((cellOk).okk _ _ _) (okks_undef _ _ _)|exact Sees.int (succI hlt hl))
 ·have hj:j=l.length:=by simp at hb;omega
  subst hj
  have hfin:=hkept.fin
  have hflen:=(cellOk).flen a
  have hcl:0+(i:Int).toNat*5+(l.length-(i:Int).toNat)*5≤(flatE (a.map Cell.av)++List.replicate (d*5) AV.undef).length:=by
   rw[List.length_append,hflen,Int.toNat_natCast,Nat.zero_add,←Nat.add_mul,show i+(l.length-i)=l.length by omega,halen]
   exact Nat.le_add_right _ _
  have hfl:(l.filter fun x=>!p x).length=i:=by rw[←hfin,List.length_take];omega
  repeat((conv=>whnf);first|refine sJ ?_|refine aI (by first|exact(show InC (i:Int) l.length from⟨by omega,by omega⟩)|exact⟨rfl,rfl,Nat.le_of_ble_eq_true rfl,hcl⟩|kernel_rfl) ?_ )
  try(conv=>whnf)
  rw[(cellOk).clr' (l:=a) (k:=i) _ _ _ _ (by kernel_rfl) (by rw[Int.toNat_natCast,halen]) (by omega) rfl]
  repeat((conv=>whnf);first|refine sJ ?_|refine aI (by first|exact⟨(by omega:(0:Int)≤(i:Int)),(cellOk).headLe (k:=i) _ _ rfl (by omega),Nat.le_of_ble_eq_true rfl⟩|kernel_rfl) ?_ )
  try(conv=>whnf)
  have hKK:=hK
  rw[hfl]at hKK
  rw[←hfin]at hKK
  exact hKK _
end
def prA (n:Net)(s:Sched)(fl:List Flow)(st:List Req)(L:List Chg)(x y:AV):List AV:=n.cs++[.int .i64 s.len,.int .i64 s.offs,encCells s.cells,encFlows fl,encReqs st,encChgs L,x,y]
section
variable (L:World→Prop)
theorem c_ContainsFuncReqC (l:List Req)(p:Req→Bool)(g:Nat)(caps:List AV)(hl:l.length≤281474976710656)(hcb:callable Tryz.prog g=true)(hc:fzs caps=some caps)(hp:∀x∈l,PCall Tryz.prog L g (Req.av x :: caps) (.bool (p x))) :
  PCall Tryz.prog L 118 [.sl false (l.map Req.av),.fn g caps] (.bool (l.any p)):=by
 refine PCall.intro mixed [] (nt:=9) Tryz.func118 rfl rfl (by simp) ?_
 refine Wk ?_
 refine CallK.data rfl (c_IndexFuncReqC L l p g caps hl hcb hc hp) (by show(match fz _,fzs [AV.fn g caps] with|some a,some b=>some (a :: b)|_,_=>none)=_;rw[show fzs [AV.fn g caps] = some [AV.fn g caps] from by simp[fz,fzs,hc]];rfl) ?_
 refine Wk ?_
 exact resP.mk rfl (Sees.bool (idxF_any p l))
theorem c_lastO11 (x:Req)(c:Cell):PCall Tryz.prog L 119 [x.av,.cptr (.agg c.av.cells) 0] (.bool (x.flow.id==c.flow)):=by
 refine PCall.intro mixed [] (nt:=10) Tryz.func119 rfl rfl (by simp) ?_
 refine Wk ?_
 exact resP.mk rfl (Sees.bool rfl)
theorem c_lastO1 (c:Cell)(after:List Req)(ha:after.length≤281474976710656):PCall Tryz.prog L 117 [c.av,.cptr (.agg [encReqs after]) 0] (.bool (!(getQ after c.flow).isSome)):=by
 have he:after.any (fun x=>x.flow.id==c.flow)=(getQ after c.flow).isSome:=by unfold getQ;rw[Bool.eq_iff_iff,List.find?_isSome,List.any_eq_true]
 refine PCall.intro mixed [] (nt:=8) Tryz.func117 rfl rfl (by simp) ?_
 refine Wk ?_
 refine cB (c_ContainsFuncReqC L after (fun x=>x.flow.id==c.flow) 119 [.cptr (.agg c.av.cells) 0] ha rfl rfl (fun x _=>c_lastO11 L x c)) ?_
 rw[he]
 refine Wk ?_
 exact resP.mk rfl (Sees.bool rfl)
end
def lastB (n:Net)(after:List Req)(fl:List Flow)(t:Sched):Bool:=(schedE n fl t).2==0&&endsB n after t
theorem c_lastO (n:Net)(hn:n.small)(after:List Req)(ha:after.length≤1000)(hx:∀x∈after,x.small)(s:Sched)(fl:List Flow)(hfl:fl.length≤281474976710656)(st:List Req)(LL:List Chg)(u v:AV)(t:Sched)(ht:t.cells.length≤1048576) :
  PCall Tryz.prog LW 74 [.cptr (.agg (prA n s fl st LL u v)) 0,encReqs after,t.av] (.bool (lastB n after fl t)):=by
 refine PCall.intro mixed [10001,10006] (nt:=48) Tryz.func74 rfl rfl (by simp) ?_
 have hmk:=c_Make n hn after (by omega) hx (ownQ after t) (by have:=List.length_filter_le (fun c:Cell=>(getQ after c.flow).isSome) t.cells;show(t.cells.filter _).length≤_;omega)
 have hck:=c_SCheck LW n hn fl hfl t (by omega)
 refine Wk ?_
 refine SemK.regionFin mixed (fun X=>X.bx[0]? = some (.cells [encReqs after] 37)∧X.bx[1]? = some (.cells t.av.cells 24)) [0,1,2,3,4,5,6,7,8,9,10,11,12,13,14] 0 rfl rfl (by decide) rfl ⟨rfl,rfl⟩ ?_
 iterate 8
  conv=>whnf
  apply exV
  ·rintro S' K' hI hh
   repeat((conv=>whnf);first|refine sT ?_ )
   try(conv=>whnf)
   exact hh
 conv=>whnf
 apply exV
 ·rintro S' K' hI hh
  repeat((conv=>whnf);first|refine sT ?_|erw [hI.2])
  try(conv=>whnf)
  exact hh
 conv=>whnf
 apply exV
 ·rintro S' K' hI hh
  refine Wk ?_
  refine cD (hck) ?_
  exact hh
 iterate 5
  conv=>whnf
  apply exV
  ·rintro S' K' hI hh
   refine Wk ?_
   exact hh
 conv=>whnf
 by_cases h1:(schedE n fl t).2=0
 rotate_left
 ·have g1:((schedE n fl t).2 != 0)=true:=by simpa using h1
  repeat((conv=>whnf);first|refine sT ?_|rw[g1])
  try(conv=>whnf)
  exact resP.mk rfl (Sees.bool (by unfold lastB;simp[h1]))
 have g1:((schedE n fl t).2 != 0)=false:=by simpa using h1
 have h0:((schedE n fl t).2==0)=true:=by simpa using h1
 by_cases hne:t.cells=[]
 ·obtain⟨len,offs,cells⟩:=t
  simp only at hne
  subst hne
  repeat((conv=>whnf);first|refine sT ?_|rw[g1])
  try(conv=>whnf)
  refine cD (c_Clone0Cell LW) ?_
  refine Wk ?_
  refine CallK.inl rfl (ICall.intro mixed [] (nt:=42) Tryz.func98 rfl rfl (by simp) ?_)
  refine Wk ?_
  refine CallK.box rfl (c_IndexFuncCell LW [] (fun c=>!(getQ after c.flow).isSome) 117 [.cptr (.agg [encReqs after]) 0] (by simp) rfl rfl (fun c _=>c_lastO1 LW c after (by omega))) (fz2 rfl (fzf1 rfl)) rfl ?_
  refine Wk ?_
  refine SemK.regionFin mixed (fun X=>X.bx[0]? = some (.cells [encReqs after] 37)∧X.bx[2]? = some (.cells [.int .i64 len,.int .i64 offs,.sl false []] 24)) [0,1,2,3,4,5,6,7,8,9,10,11,12,13] 0 rfl rfl (by decide) rfl ⟨rfl,rfl⟩ ?_
  iterate 6
   conv=>whnf
   apply exV
   ·rintro S' K' hI hh
    repeat((conv=>whnf);first|refine sT ?_|erw [hI.1]|erw [hI.2])
    try(conv=>whnf)
    exact hh
  conv=>whnf
  apply exV
  ·rintro S' K' hI hh
   refine Wk ?_
   refine cD (hmk) ?_
   exact hh
  iterate 7
   conv=>whnf
   apply exV
   ·rintro S' K' hI hh
    refine Wk ?_
    exact hh
  conv=>whnf
  by_cases h:(makeM n after (ownQ after (⟨len,offs,[]⟩:Sched))).2.2=0
  ·have g:((makeM n after (ownQ after (⟨len,offs,[]⟩:Sched))).2.2==0)=true:=by simpa using h
   repeat((conv=>whnf);first|refine sT ?_|rw[g])
   try(conv=>whnf)
   exact resP.mk rfl (Sees.bool (by unfold lastB endsB;rw[h0];simp[h]))
  ·have g:((makeM n after (ownQ after (⟨len,offs,[]⟩:Sched))).2.2==0)=false:=by simpa using h
   repeat((conv=>whnf);first|refine sT ?_|rw[g])
   try(conv=>whnf)
   exact resP.mk rfl (Sees.bool (by unfold lastB endsB;rw[h0];simp[h]))
 ·repeat((conv=>whnf);first|refine sT ?_|rw[g1])
  try(conv=>whnf)
  refine CallK.fresh rfl (c_CloneCell LW t.cells hne (by omega)) (by rfl) (cellOk.els _) (cellOk.scal (fun _=>rfl) _) (fun h=>absurd (by simpa using h) hne) (fun d=>?_)
  refine Wk ?_
  rw[List.length_map]
  refine CallK.inl rfl (i_DelCell3 LW _ _ _ _ _ _ t.cells (fun c=>!(getQ after c.flow).isSome) _ [.ptr 0 0] [.cptr (.agg [encReqs after]) 0] d (by omega) rfl rfl ⟨?_,?_,?_,?_⟩ (fun _ _ _ _=>rfl) (fun c _=>c_lastO1 LW c after (by omega)) fun ex=>?_)
  ·exact fzs_okk (es:=[encReqs after]) rfl
  ·exact⟨trivial,trivial,fzs_okk (es:=[encCells t.cells]) rfl⟩
  ·exact⟨trivial,trivial,fzs_okk (es:=[encCells t.cells]) rfl⟩
  ·exact⟨(by decide:0 < 4),trivial⟩
  have hfil:(t.cells.filter fun c=>!(!(getQ after c.flow).isSome))=(ownQ after t).cells:=by unfold ownQ;simp only[Bool.not_not]
  rw[hfil]
  refine Wk ?_
  refine SemK.regionFin mixed (fun X=>X.bx[0]? = some (.cells [encReqs after] 37)∧X.bx[2]? = some (.cells [.int .i64 t.len,.int .i64 t.offs,.vsl 3 0 (ownQ after t).cells.length 5] 24)∧X.bx[3]? = some (.cells (flatE ((ownQ after t).cells.map Cell.av)++ex) 52)) [0,1,2,3,4,5,6,7,8,9,10,11,12,13] 0 rfl rfl (by decide) rfl ⟨rfl,rfl,rfl⟩ ?_
  iterate 6
   conv=>whnf
   apply exV
   ·rintro S' K' hI hh
    repeat((conv=>whnf);first|refine sT ?_|erw [hI.1]|erw [hI.2.1])
    try(conv=>whnf)
    exact hh
  conv=>whnf
  apply exV
  ·rintro S' K' hI hh
   have e0:=cellOk.fzb hI.2.2 rfl
   refine Wk ?_
   refine CallK.boxU rfl hmk (fz2 rfl (fz2 rfl (fz2 ?_ rfl))) ?_
   ·show Option.map AV.agg (fzbs S' [.int .i64 t.len,.int .i64 t.offs,.vsl 3 0 (ownQ after t).cells.length 5])=_
    rw[show fzbs S' [.int .i64 t.len,.int .i64 t.offs,.vsl 3 0 (ownQ after t).cells.length 5] = some [.int .i64 t.len,.int .i64 t.offs,.sl false ((ownQ after t).cells.map Cell.av)] from fz2 rfl (fz2 rfl (fz2 e0 rfl))]
    rfl
   exact hh
  iterate 7
   conv=>whnf
   apply exV
   ·rintro S' K' hI hh
    refine Wk ?_
    exact hh
  conv=>whnf
  by_cases h:(makeM n after (ownQ after t)).2.2=0
  ·have g:((makeM n after (ownQ after t)).2.2==0)=true:=by simpa using h
   repeat((conv=>whnf);first|refine sT ?_|rw[g])
   try(conv=>whnf)
   exact resP.mk rfl (Sees.bool (by unfold lastB endsB;rw[h0];simp[h]))
  ·have g:((makeM n after (ownQ after t)).2.2==0)=false:=by simpa using h
   repeat((conv=>whnf);first|refine sT ?_|rw[g])
   try(conv=>whnf)
   exact resP.mk rfl (Sees.bool (by unfold lastB endsB;rw[h0];simp[h]))
theorem k_cmpFlO (x y:Flow)(W:World):Calls Tryz.prog 72 #[.agg x.enc.toArray,.agg y.enc.toArray] W fun e w'=>e=.returned (.int .i64 (cfFl x y))∧∃q os',w'=Go.Sort.grow (W.drewN q) os':=by
 have hcon:=fun W'=>Tryz.cmp_Compare_int x.id y.id W'
 unfold cfFl
 generalize Lib.compareInt x.id y.id=r at hcon ⊢
 unfold Flow.enc
 go_enter Tryz.func72,Tryz.ntmps72
 go_wp2_with (go_at_call 73;refine(hcon _).mono ?_;rintro e w' ⟨rfl,rfl⟩)
 go_ret
 exact⟨rfl,0,_,by rw[Go.Sort.alloc_eq_grow,Go.Sort.alloc_eq_grow,Go.Sort.grow_grow];rfl⟩
theorem k_sortFlO (blk off cap:Nat)(d:Array (Flow×Unit))(w:World)(hH:Go.Sort.HoldsK (fun p:Flow×Unit=>p.1.enc) 6 w blk off d)(hblk:blk < w.heap.size)(hsz:d.size < 4611686018427387904) :
  Calls Tryz.prog 71 #[.slice (some ⟨blk,off,none⟩) d.size cap,.func (.func 72) #[] #[]] w fun e w'=>e=.returned (.tuple #[])∧∃d' n os,Go.Sort.PermIn 0 d.size d d'∧Go.Sort.SortedIn (fun p q:Flow×Unit=>ltOf cfFl p.1 q.1) 0 d.size d'∧w'=sortWorldK (fun p:Flow×Unit=>p.1.enc) 6 w blk off n d' os:=
 AnyQ.slices_SortFunc Tryz.sort71 6 Tryz.isAgg78 Tryz.sizeOf78 (fun p:Flow×Unit=>p.1.enc) (fun _=>rfl) (fun x v hv=>by simp[Flow.enc]at hv;rcases hv with rfl|rfl|rfl|rfl|rfl|rfl<;>rfl) (fun p q:Flow×Unit=>cfFl p.1 q.1) ⟨fun x=>swoFl.irrefl x.1,fun x y z=>swoFl.trans x.1 y.1 z.1,fun x y z=>swoFl.ntrans x.1 y.1 z.1⟩ 72 #[] blk off cap d w
  (enters_of Tryz.func72 (by kernel_rfl) rfl) (fun _ _ _ _ x y=>k_cmpFlO x.1 y.1 _) hH hblk hsz
theorem i_sortFlO {L:World→Prop}{S:St}{id:Nat}{ex:List AV}{ds:List Flow}{ty:TypeId}(hb:S.bx[id]? = some (.cells (flatE (ds.map Flow.av)++ex) ty))(hl:ds.length < 4611686018427387904){n:Nat}(hn:n=ds.length){K:AV→St→Prop}
  (hK:∀ds':List Flow,ds'.Perm ds→(ds'.Pairwise fun a b=>¬b.id < a.id)→K (.tup []) (S.setB id (.cells (flatE (ds'.map Flow.av)++ex) ty))):ICall Tryz.prog L 71 [.vsl id 0 n 6,.fn 72 []] S K:=
 ICall.sort (k:=6) (α:=Flow) (av:=Flow.av) (enc:=Flow.enc) (lt:=ltOf cfFl) (pre:=[]) (by decide) (fun _=>rfl) Flow.enc_ok k_sortFlO k_sortFl0 (by simpa using hb) hl rfl hn fun ds' h1 h2=>by
  have:=hK ds' h1 (h2.imp fun {a b} h=>by rw[ltFl]at h;simpa using h)
  simpa using this
section
variable (L:World→Prop)
theorem c_byID (a b:Req):PCall Tryz.prog L 69 [a.av,b.av] (.int .i64 (cmpI a.flow.id b.flow.id)):=by
 refine PCall.intro mixed [] (nt:=12) Tryz.func69 rfl rfl (by simp) ?_
 refine Wk ?_
 refine cD (c_cmp L a.flow.id b.flow.id) ?_
 refine Wk ?_
 exact resP.mk rfl (Sees.int rfl)
theorem c_BinReqO (l:List Req)(t:Req)(g:Nat)(c:Req→Int)(hl:l.length≤281474976710656)(hcb:callable Tryz.prog g=true)(hm:Mono c l)(hp:∀x∈l,PCall Tryz.prog L g [Req.av x,Req.av t] (.int .i64 (c x))) :
  PCall Tryz.prog L 68 [.sl false (l.map Req.av),Req.av t,.fn g []] (.tup [.int .i64 (posB c l),.bool (hasB c l)]):=by
 refine PCall.intro mixed [] (nt:=49) Tryz.func68 rfl rfl (by simp) ?_
 refine Wk ?_
 refine LoopK.run mixed [] (fun s:Nat×Nat=>s.1≤s.2∧s.2≤l.length∧(∀i x,i < s.1→l[i]? = some x→c x < 0)∧(∀x,l[s.2]? = some x→¬c x < 0)) (fun s=>[(0,.sl false (l.map Req.av)),(2,.fn g []),(4,.ptr 0 0),(8,.int .i64 l.length),(9,.int .i64 s.1),(10,.int .i64 s.2)]) (fun _=>⟨[.cells (Req.av t).cells 81],[],0,0,fun _=>0⟩) (fun s=>s.2-s.1) (0,l.length) ⟨by simp,by simp,by simp,by simp⟩ ?_ ?_
 ·refine fN ?_<;>repeat' (first|exact fQ|refine And.intro ?_ ?_|exact Sees.int (by simp))
 rintro⟨i,j⟩ ⟨h1,h2,h3,h4⟩
 simp only at h1 h2 h3 h4
 refine Wk ?_
 refine BrK.mk (fun hb=>?_) (fun hb=>?_)<;>try rw[hb]
 ·have hlt:i < j:=by simpa using hb
  have hw1:IntKind.i64.wrap ((i:Int)+(j:Int))=((i+j:Nat):Int):=by rw[w64]<;>omega
  have hw2:IntKind.i64.wrap ((IntKind.u64.wrap ((i+j:Nat):Int)).fdiv (2 ^ (min (1:Int).toNat IntKind.u64.bits)))=(((i+j) / 2:Nat):Int):=half_ok (by omega)
  obtain⟨m,hmid⟩:∃m,m=(i+j) / 2:=⟨_,rfl⟩
  have hml:m < l.length:=by omega
  obtain⟨x,hgx⟩:=getLt hml
  have hmx:=getMap (f:=Req.av) hgx
  have hpx:=hp x (List.mem_of_getElem? hgx)
  rw[←hmid]at hw2
  repeat((conv=>whnf);first|refine sJ ?_|refine aI (by first|exact(show(0:Int)≤1 by decide)|exact inbMap hml|kernel_rfl) ?_|rw[hw1]|rw[hw2]|rw[hmx])
  try(conv=>whnf)
  refine CallP.data hcb hpx (by rfl) ?_
  refine Wk ?_
  refine BrK.mk (fun h5=>?_) (fun h5=>?_)<;>(try rw[h5])
  ·refine Wk ?_
   refine⟨(m+1,j),⟨by simp only;omega,by simp only;omega,fun k y hk hy=>?_,h4⟩,by simp only;omega,?_⟩
   ·rcases Nat.lt_succ_iff_lt_or_eq.1 hk with hk|rfl
    ·exact hm k m y x hk hy hgx (by simpa using h5)
    ·rw[hgx]at hy;injection hy with hy;subst hy;simpa using h5
   ·refine fN ?_<;>repeat' (first|exact fQ|refine And.intro ?_ ?_|exact Sees.int (by rw[w64]<;>omega))
  ·refine Wk ?_
   refine⟨(i,m),⟨by simp only;omega,by simp only;omega,h3,fun y hy=>?_⟩,by simp only;omega,?_⟩
   ·rw[hgx]at hy;injection hy with hy;subst hy;simpa using h5
   ·refine fN ?_<;>repeat' (first|exact fQ|refine And.intro ?_ ?_ )
 ·have hij:i=j:=by simp at hb;omega
  subst hij
  have hpos:posB c l=i:=posB_uniq h2 h3 h4
  refine Wk ?_
  refine BrK.mk (fun h6=>?_) (fun h6=>?_)<;>(try rw[h6])
  ·have hlt:i < l.length:=by simpa using h6
   obtain⟨x,hgx⟩:=getLt hlt
   have hmx:=getMap (f:=Req.av) hgx
   have hpx:=hp x (List.mem_of_getElem? hgx)
   repeat((conv=>whnf);first|refine sJ ?_|refine aI (by first|exact inbMap hlt|kernel_rfl) ?_|rw[hmx])
   try(conv=>whnf)
   refine CallP.data hcb hpx (by rfl) ?_
   refine Wk ?_
   exact resP.mk rfl (Sees.of_eq (by simp only[hasB,hpos,hgx]))
  ·refine Wk ?_
   have:l.length≤i:=by simpa using h6
   exact resP.mk rfl (Sees.of_eq (by simp only[hasB,hpos,List.getElem?_eq_none this]))
end
def prO (n:Net)(s:Sched)(v w:AV)(LL:List Chg):Ob:=.cells [.int .i64 n.nodes,encRows n.power,.int .i64 n.noise,.int .i64 n.thr,encLinks n.links,encIs n.margin,.int .i64 s.len,.int .i64 s.offs,encCells s.cells,v,w,encChgs LL,.mp 6,.mp 7] 76
theorem SeqK.cutNQ {P:Program}{L:World→Prop}{nt:Nat}{c d:Code}{a:Nat→AV}{S:St}{Q:Exit→(Nat→AV)→St→Prop}{σ:Type}(I:σ→St→Prop)(sl:σ→List (Nat×AV))
  (hc:SemK P L nt c a S (seqQ (fun a' S'=>∃s,I s S'∧FitN a' (sl s)) Q)) (hd:∀s S,I s S→SemK P L nt d (ofL (sl s)) S Q):SeqK P L nt c d a S Q:=by
 refine⟨⟨fun w0 G act w hR=>?_⟩⟩
 refine wpIn_seq (Go.wpIn_mono (hc.out w0 G act w hR) fun e a' w' ⟨G',a1,S',hR',hq⟩=>?_)
 cases e with
 | normal=>
  obtain⟨s,hI,hfit⟩:=hq
  exact(hd s S' hI).out w0 _ a' w' (hR'.slots hfit)
 | _=>exact⟨G',a1,S',hR',hq⟩
structure OpI (n:Net)(s:Sched)(LL:List Chg)(S:St)(v:AV)(fl:List Flow)(st:List Req)(ch:Nat):Prop where
 p:S.bx[8]? = some (prO n s v (.own (st.map Req.av) ch) LL)
 m1:S.bx[6]? = some (.map none [] [])
 m2:S.bx[7]? = some (.map none [] [])
 gv:GVf 8 S v fl
 fr:S.fr[ch]? = some (st.length,7)
 ty:S.ty ch=81
theorem old_box (S:St)(o o':Ob):∀(id:Nat) (x:Ob),S.bx[id]? = some x→((S.addB o).setB S.bx.length o').bx[id]? = some x:=fun id x h=>by
 have:=(List.getElem?_eq_some_iff.1 h).1
 rw[St.setB_ne (by omega)]
 exact St.addB_old h
section
variable {n:Net} {s:Sched} {LL:List Chg} {S S':St} {v:AV} {fl:List Flow} {st:List Req} {ch:Nat}
theorem GVf.more {mb:Nat}(h:GVf mb S v fl)(hx:∀(id:Nat) (o:Ob),S.bx[id]? = some o→S'.bx[id]? = some o):GVf mb S' v fl:=by
 rcases h with h|⟨id,d,h1,h2,h3⟩
 ·exact .inl h
 ·exact .inr ⟨id,d,h1,h2,hx _ _ h3⟩
theorem OpI.lt (h:OpI n s LL S v fl st ch):8 < S.bx.length:=(List.getElem?_eq_some_iff.1 h.p).1
theorem OpI.more (h:OpI n s LL S v fl st ch)(hx:∀(id:Nat) (o:Ob),S.bx[id]? = some o→S'.bx[id]? = some o)(hf:S'.fr=S.fr)(ht:S'.ty=S.ty):OpI n s LL S' v fl st ch:=
 ⟨hx _ _ h.p,hx _ _ h.m1,hx _ _ h.m2,h.gv.more hx,by rw[hf];exact h.fr,by rw[ht];exact h.ty⟩
theorem OpI.grow (h:OpI n s LL S v fl st ch){X:List AV}{l':List Flow}{d k:Nat}(hX:X=flatE (l'.map Flow.av)++List.replicate (d*6) .undef)(hk:k=l'.length) :
  OpI n s LL ((S.addB (.cells X 78)).setB 8 (prO n s (.vsl S.bx.length 0 k 6) (.own (st.map Req.av) ch) LL)) (.vsl S.bx.length 0 k 6) l' st ch:=by
 subst hX;subst hk
 have h8:=h.lt
 refine⟨St.setB_get (St.addB_old h.p),(St.setB_ne (by omega)).trans (St.addB_old h.m1),(St.setB_ne (by omega)).trans (St.addB_old h.m2),.inr ⟨S.bx.length,d,by omega,rfl,?_⟩,h.fr,h.ty⟩
 exact(St.setB_ne (by omega)).trans (St.addB_get _ _)
theorem OpI.room {id:Nat}(h:OpI n s LL S v fl st ch)(hid:id≠8){Y:List AV}(hb:S.bx[id]? = some (.cells Y 78)){X:List AV}{l':List Flow}{d k:Nat}(hX:X=flatE (l'.map Flow.av)++List.replicate (d*6) .undef)(hk:k=l'.length) :
  OpI n s LL ((S.setB id (.cells X 78)).setB 8 (prO n s (.vsl id 0 k 6) (.own (st.map Req.av) ch) LL)) (.vsl id 0 k 6) l' st ch:=by
 subst hX;subst hk
 have n6:=ne_cm hb h.m1
 have n7:=ne_cm hb h.m2
 refine⟨St.setB_get ((St.setB_ne hid).trans h.p),(St.setB_ne (by omega)).trans ((St.setB_ne n6).trans h.m1),(St.setB_ne (by omega)).trans ((St.setB_ne n7).trans h.m2),.inr ⟨id,d,hid,rfl,?_⟩,h.fr,h.ty⟩
 exact(St.setB_ne hid.symm).trans (St.setB_get hb)
theorem OpI.stay (h:OpI n s LL S v fl st ch){w:List AV}{st':List Req}{k:Nat}(hw:w=st'.map Req.av)(hk:k=st'.length) :
  OpI n s LL ((S.setF ch (k,7)).setB 8 (prO n s v (.own w ch) LL)) v fl st' ch:=by
 subst hw;subst hk
 refine⟨St.setB_get (S:=S.setF ch _) h.p,(St.setB_ne (S:=S.setF ch _) (by omega)).trans h.m1,(St.setB_ne (S:=S.setF ch _) (by omega)).trans h.m2,?_,?_,h.ty⟩
 ·rcases h.gv with g|⟨id,d,h1,h2,h3⟩
  ·exact .inl g
  ·exact .inr ⟨id,d,h1,h2,(St.setB_ne (S:=S.setF ch _) (Ne.symm h1)).trans h3⟩
 ·show(S.fr.set ch _)[ch]? = _
  rw[List.getElem?_set_self (List.getElem?_eq_some_iff.1 h.fr).1]
structure OpN (n:Net)(s:Sched)(LL:List Chg)(S:St)(v:AV)(fl:List Flow)(st:List Req)(ch:Nat):Prop where
 p:S.bx[8]? = some (prO n s v (.own (st.map Req.av) ch) LL)
 m1:S.bx[6]? = some (.map none [] [])
 m2:S.bx[7]? = some (.map none [] [])
 gv:GNf 8 S v fl
theorem OpI.sorted {id d k:Nat}(h:OpI n s LL S (.vsl id 0 k 6) fl st ch)(hid:id≠8)(hb:S.bx[id]? = some (.cells (flatE (fl.map Flow.av)++List.replicate (d*6) .undef) 78)){fl':List Flow}(hk:k=fl'.length) :
  OpN n s LL (S.setB id (.cells (flatE (fl'.map Flow.av)++List.replicate (d*6) .undef) 78)) (.vsl id 0 k 6) fl' st ch:=by
 subst hk
 have n6:=ne_cm hb h.m1
 have n7:=ne_cm hb h.m2
 exact⟨(St.setB_ne hid).trans h.p,(St.setB_ne n6).trans h.m1,(St.setB_ne n7).trans h.m2,.inr ⟨id,_,hid,rfl,St.setB_get hb⟩⟩
theorem SemK.freezeO {P:Program}{L:World→Prop}{nt:Nat}{c:Code}{a:Nat→AV}{Q:Exit→(Nat→AV)→St→Prop}(h:OpN n s LL S v fl st ch)
  (ha:∀id k ds,(fun t=>frzv id k 6 ds (a t))=a) (hn:∀S2:St,S2.bx[8]? = some (.cells (prC n s fl st LL 6 7) 76)→S2.bx[6]? = some (.map none [] [])→S2.bx[7]? = some (.map none [] [])→SemK P L nt c a S2 Q):SemK P L nt c a S Q:=by
 have fin:∀S1:St,S1.bx[8]? = some (prO n s (encFlows fl) (.own (st.map Req.av) ch) LL)→S1.bx[6]? = some (.map none [] [])→S1.bx[7]? = some (.map none [] [])→SemK P L nt c a S1 Q:=fun S1 h8 h6 h7=>by
  refine SemK.recast (id:=8) (prO n s (encFlows fl) (encReqs st) LL) h8 rfl ⟨rfl,Sees.rfl' _,Sees.rfl' _,Sees.rfl' _,Sees.rfl' _,Sees.rfl' _,Sees.rfl' _,Sees.rfl' _,Sees.rfl' _,Sees.rfl' _,Sees.rfl' _,Sees.elems rfl,Sees.rfl' _,Sees.rfl' _,Sees.rfl' _,trivial⟩ ?_
  exact hn _ (St.setB_get h8) ((St.setB_ne (by decide)).trans h6) ((St.setB_ne (by decide)).trans h7)
 rcases h.gv with ⟨rfl,rfl⟩|⟨id,ex,hid,rfl,hbx⟩
 ·refine SemK.recast (id:=8) (prO n s (encFlows []) (.own (st.map Req.av) ch) LL) h.p rfl ⟨rfl,Sees.rfl' _,Sees.rfl' _,Sees.rfl' _,Sees.rfl' _,Sees.rfl' _,Sees.rfl' _,Sees.rfl' _,Sees.rfl' _,Sees.rfl' _,Sees.nilSl,Sees.rfl' _,Sees.rfl' _,Sees.rfl' _,Sees.rfl' _,trivial⟩ ?_
  exact fin _ (St.setB_get h.p) ((St.setB_ne (by decide)).trans h.m1) ((St.setB_ne (by decide)).trans h.m2)
 ·refine SemK.freezeV id 6 hbx (fun e he=>?_) ?_
  ·obtain⟨f,_,rfl⟩:=List.mem_map.1 he
   exact⟨_,rfl,rfl,rfl⟩
  rw[List.length_map,ha]
  have n6:=ne_cm hbx h.m1
  have n7:=ne_cm hbx h.m2
  refine fin _ ?_ ?_ ?_
  ·show(frzvB id fl.length 6 (fl.map Flow.av) 0 S.bx)[8]? = _
   rw[frzvB_get,h.p,Nat.zero_add,Option.map_some,if_neg (Ne.symm hid)]
   simp[prO,frzvO,frzvs,frzv,encFlows,encRows,encLinks,encIs,encCells,encChgs]
  ·show(frzvB id fl.length 6 (fl.map Flow.av) 0 S.bx)[6]? = _
   rw[frzvB_get,h.m1,Nat.zero_add,Option.map_some,if_neg (Ne.symm n6)]
   rfl
  ·show(frzvB id fl.length 6 (fl.map Flow.av) 0 S.bx)[7]? = _
   rw[frzvB_get,h.m2,Nat.zero_add,Option.map_some,if_neg (Ne.symm n7)]
   rfl
end
theorem fz_pr {n:Net}{s:Sched}{LL:List Chg}{S:St}{fl:List Flow}{st:List Req}{pb ip iw:Nat}{tp:TypeId}(h8:S.bx[pb]? = some (.cells (prC n s fl st LL ip iw) tp)){u1 u2:AV}(e1:fzb S (.mp ip)=some u1)(e2:fzb S (.mp iw)=some u2) :
  fzN S 1 (.ptr pb 0)=some (.cptr (.agg (prA n s fl st LL u1 u2)) 0):=by
 show(match S.bx[pb]? with
  | some (.cells cs _)=>(mapQ (fzN S 0) cs).map fun cs=>AV.cptr (.agg cs) 0
  | _=>none)=_
 rw[h8]
 have h:mapQ (fzN S 0) (prC n s fl st LL ip iw)=some (prA n s fl st LL u1 u2):=
  mapQ2 rfl (mapQ2 rfl (mapQ2 rfl (mapQ2 rfl (mapQ2 rfl (mapQ2 rfl (mapQ2 rfl (mapQ2 rfl (mapQ2 rfl (mapQ2 rfl (mapQ2 rfl (mapQ2 rfl (mapQ2 e1 (mapQ2 e2 rfl)))))))))))))
 show Option.map (fun cs=>AV.cptr (.agg cs) 0) (mapQ (fzN S 0) (prC n s fl st LL ip iw))=_
 rw[h]
 rfl
theorem fzb_mp {S:St}{id:Nat}{sh:Option Nat}{ks:List (List Int)}{vs vs':List AV}(h:S.bx[id]? = some (.map sh ks vs))(hv:fzs vs=some vs'):fzb S (.mp id)=some (.cmp sh ks vs'):=by
 simp only[fzb,h,hv,Option.map_some]
theorem fzs_bool:∀l:List Bool,fzs (l.map AV.bool)=some (l.map AV.bool)
 | []=>rfl
 | b :: l=>by
  show(match fz (.bool b),fzs (l.map AV.bool) with|some a,some b=>some (a :: b)|_,_=>none)=_
  rw[fzs_bool l];rfl
theorem fzs_encI:∀l:List Int,fzs (l.map encI)=some (l.map encI)
 | []=>rfl
 | b :: l=>by
  show(match fz (encI b),fzs (l.map encI) with|some a,some b=>some (a :: b)|_,_=>none)=_
  rw[fzs_encI l];rfl
end HM
