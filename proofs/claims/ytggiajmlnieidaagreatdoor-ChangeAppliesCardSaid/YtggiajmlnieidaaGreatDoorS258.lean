/- The check of a list of changes. -/
import Derived.Test.YtggiajmlnieidaaGreatDoorS257
import Derived.Test.YtggiajmlnieidaaGreatDoorS43
set_option maxHeartbeats 64000000
set_option maxRecDepth 100000
namespace HM
open Go Go.RowKit Go.Proofs
theorem Sees.nilSl:Sees .nils (.sl false []):=⟨fun _ _ _ _v hv=>⟨none,0,hv,by simp,by simp,by simp⟩⟩
theorem SemK.freezeG {P:Program}{L:World→Prop}{nt:Nat}{c:Code}{a:Nat→AV}{S:St}{Q:Exit→(Nat→AV)→St→Prop}{n:Net}{before after:List Req}{s:Sched}{mb:Nat}{v:AV}{l:List Flow}(h0:S.bx[mb]? = some (mvO n before after v s .nils))(hG:GNf mb S v l)
  (ha:∀id k ds,(fun t=>frzv id k 6 ds (a t))=a) (h:∀S2,S2.bx[mb]? = some (mvO n before after (encFlows l) s .nils)→SemK P L nt c a S2 Q):SemK P L nt c a S Q:=by
 rcases hG with ⟨rfl,rfl⟩|⟨id,ex,hid,rfl,hbx⟩
 ·refine SemK.recast (id:=mb) (mvO n before after (encFlows []) s .nils) h0 rfl ⟨rfl,Sees.rfl' _,Sees.rfl' _,Sees.rfl' _,Sees.rfl' _,Sees.rfl' _,Sees.rfl' _,Sees.rfl' _,Sees.rfl' _,Sees.nilSl,Sees.rfl' _,Sees.rfl' _,Sees.rfl' _,Sees.rfl' _,trivial⟩ ?_
  exact h _ (St.setB_get h0)
 ·refine SemK.freezeV id 6 hbx (fun e he=>?_) ?_
  ·obtain⟨f,_,rfl⟩:=List.mem_map.1 he
   exact⟨_,rfl,rfl,rfl⟩
  rw[List.length_map,ha]
  refine h _ ?_
  show(frzvB id l.length 6 (l.map Flow.av) 0 S.bx)[mb]? = _
  rw[frzvB_get,h0,Nat.zero_add,Option.map_some,if_neg (Ne.symm hid)]
  simp[mvO,movCs,frzvO,frzvs,frzv,encFlows,encRows,encLinks,encIs,encReqs,encCells]
theorem ofL_frz {id k z:Nat}{ds:List AV}:∀{l:List (Nat×AV)},(∀p∈l,frzv id k z ds p.2=p.2)→(fun t=>frzv id k z ds (ofL l t))=ofL l:=fun {l} h=>by
 funext t
 induction l with
 | nil=>rfl
 | cons p l ih=>
  obtain⟨s,v⟩:=p
  simp only[ofL]
  split
  ·exact h _ (List.mem_cons_self ..)
  ·exact ih fun q hq=>h q (List.mem_cons_of_mem _ hq)
def movPre (n:Net)(before after:List Req)(v:AV)(s:Sched):List AV:=[.int .i64 n.nodes,encRows n.power,.int .i64 n.noise,.int .i64 n.thr,encLinks n.links,encIs n.margin,encReqs before,encReqs after,v,.int .i64 s.len,.int .i64 s.offs,encCells s.cells]
theorem fzb_mv {S:St}{n:Net}{before after:List Req}{fl:List Flow}{s:Sched}{done:List Chg}{mb ch:Nat}(h:S.bx[mb]? = some (mvO n before after (encFlows fl) s (.own (done.map Chg.av) ch))):fzb S (.ptr mb 0)=some (.cptr (movAv n before after fl s done) 0):=by
 simp only[fzb,h]
 rfl
theorem fzb_mv2 {S:St}{n:Net}{before after:List Req}{fl:List Flow}{s:Sched}{done:List Chg}{mb ch:Nat}(h:S.bx[mb]? = some (mvO n before after (encFlows fl) s (.own (done.map Chg.av) ch)))(c:Chg):fzbs S [.ptr mb 0,c.av] = some [.cptr (movAv n before after fl s done) 0,c.av]:=by
 rw[fzbs,fzb_mv h]
 rfl
def cndO (mb:Nat):Ob:=.cells [.bfn 49 mb 0,.bfn 50 mb 0,.bfn 51 mb 0,.bfn 52 mb 0,.bfn 53 mb 0] 103
theorem check_whole {n:Net}{before after:List Req}{s:Sched}{l:List Chg}(h:wholeC n before after s≠0):checkC n before after s l=(-1,wholeC n before after s):=by unfold checkC;rw[if_pos h]
theorem check_long {n:Net}{before after:List Req}{s:Sched}{l:List Chg}(h:wholeC n before after s=0)(h2:1024 < l.length):checkC n before after s l=(-1,8):=by unfold checkC;rw[if_neg (by omega),if_pos h2]
theorem check_hit {n:Net}{before after:List Req}{s:Sched}{l:List Chg}(h:wholeC n before after s=0)(h2:¬1024 < l.length){k:Nat}(hk:k < l.length)(h0:∀j,j < k→faultC n before after s l j=0){e:Int}(he:faultC n before after s l k=e)(hne:e≠0):checkC n before after s l=((k:Int),e):=by
 have:=firstAt_hit h0 (by rw[he];exact hne) hk
 unfold checkC
 rw[if_neg (by omega),if_neg h2,this,if_pos (by rw[he];exact hne),he]
theorem check_end {n:Net}{before after:List Req}{s:Sched}{l:List Chg}(h:wholeC n before after s=0)(h2:¬1024 < l.length)(h0:∀j,j < l.length→faultC n before after s l j=0):checkC n before after s l=(-1,endE n after (afterC s l)):=by
 have:=firstAt_zero h0
 unfold checkC endE
 rw[if_neg (by omega),if_neg h2,this,if_neg (by simp)]
 cases endsB n after (afterC s l)<;>simp
theorem c_CheckC (n:Net)(hn:n.small)(before after:List Req)(hq1:before.length≤1099511627776)(hq2:after.length≤1099511627776)(hx1:∀x∈before,x.small)(hx2:∀x∈after,x.small)(s:Sched)(hc:s.cells.length≤1000000)(l:List Chg)(hl:l.length≤281474976710656) :
  PCall Tryz.prog LW 11 [n.av,encReqs before,encReqs after,s.av,encChgs l] (.tup [.int .i64 (checkC n before after s l).1,.int .i64 (checkC n before after s l).2]):=by
 refine PCall.intro mixed [5,10018] (nt:=81) Tryz.func11 rfl rfl (by simp) ?_
 refine Wk ?_
 refine SeqK.cutNT mixed [] (fun (v:AV) (S1:St)=>wholeC n before after s=0∧S1.bx[2]? = some (mvO n before after v s .nils)∧GNf 2 S1 v (bothM before after)) (fun _=>[(4,encChgs l),(12,.ptr 2 0)]) ?_ ?_
 ·refine Wk ?_
  refine CallK.inl rfl (i_whole n hn before after hq1 hq2 hx1 hx2 s (by omega) _ 2 rfl (fun S' hw=>?_) (fun S' v hw hB hG=>?_))
  ·have g:(wholeC n before after s != 0)=true:=by simpa using hw
   repeat((conv=>whnf);first|refine sT ?_|rw[g])
   try(conv=>whnf)
   exact resP.mk rfl (Sees.of_eq (by rw[check_whole hw]))
  ·refine Wk ?_
   exact⟨v,⟨hw,hB,hG⟩,Sees.of_eq rfl,Sees.of_eq rfl,trivial⟩
 rintro v S1 ⟨hw,hB1,hG1⟩
 refine SemK.freezeG hB1 hG1 (fun id k ds=>ofL_frz fun p hp=>?_) fun S2 hB2=>?_
 ·simp only[List.mem_cons,List.not_mem_nil,or_false]at hp
  rcases hp with rfl|rfl<;>rfl
 refine twC_sound (ct:=[10018]) mixed _ _ _ _ ?_
 by_cases hl2:1024 < l.length
 ·have g:decide ((1024:Int) < (l.length:Int))=true:=decide_eq_true (by omega)
  repeat((conv=>whnf);first|refine sT ?_|rw[List.length_map]|rw[g])
  try(conv=>whnf)
  exact resP.mk rfl (Sees.of_eq (by rw[check_long hw hl2]))
 have g:decide ((1024:Int) < (l.length:Int))=false:=decide_eq_false (by omega)
 have hA:∀(S:St) o,(S.addB o).bx[S.bx.length]? = some o:=fun S o=>St.addB_get S o
 have hi2:=(List.getElem?_eq_some_iff.1 hB2).1
 repeat((conv=>whnf);first|refine sT ?_|rw[List.length_map]|rw[g]|rw[hA])
 try(conv=>whnf)
 have hB3:∀o o':Ob,((S2.addB o).setB S2.bx.length o').bx[2]? = some (mvO n before after (encFlows (bothM before after)) s .nils):=fun o o'=>by rw[St.setB_ne (by omega)];exact St.addB_old hB2
 have hB4:∀o o':Ob,((S2.addB o).setB S2.bx.length o').bx[S2.bx.length]? = some o':=fun o o'=>St.setB_get (hA S2 o)
 refine⟨SemK.bornO 2 7 42 100 (movPre n before after (encFlows (bothM before after)) s) (hB3 _ _) (LoopK.out ?_)⟩
 have hC4:∀(o o':Ob) x e o2,((((S2.addB o).setB S2.bx.length o').addF x e).setB 2 o2).bx[S2.bx.length]? = some o':=fun o o' x e o2=>(St.setB_ne (by omega)).trans (hB4 o o')
 obtain⟨B,hBe⟩:∃B,B=bothM before after:=⟨_,rfl⟩
 obtain⟨ch,hch⟩:∃ch,ch=S2.fr.length:=⟨_,rfl⟩
 obtain⟨cb,hcb⟩:∃cb,cb=S2.bx.length:=⟨_,rfl⟩
 refine LoopK.runS mixed [10018] (fun (k:Nat) (S3:St)=>k≤l.length∧S3.bx[2]? = some (mvO n before after (encFlows B) (afterC s (l.take k)) (.own ((l.take k).map Chg.av) ch))∧S3.fr[ch]? = some (k,7)∧S3.ty ch=42∧S3.bx[cb]? = some (cndO 2)∧∀j,j < k→faultC n before after s l j=0) (fun k=>[(12,.ptr 2 0),(14,.ptr cb 0),(46,encChgs l),(47,.int .i64 l.length),(48,.int .i64 k)]) (fun k=>l.length-k) 0 ⟨by simp,?_,?_,?_,?_,by simp⟩ ?_ ?_
 ·rw[hBe,hch];exact St.setB_get (hB3 _ _)
 ·rw[hch];exact(by simp[St.setB,St.addF,St.addB])
 ·rw[hch];exact(by simp[St.setB,St.addF,St.addB,updT])
 ·rw[hcb];exact hC4 _ _ _ _ _
 ·rw[hcb];exact⟨Sees.of_eq rfl,Sees.of_eq rfl,Sees.of_eq rfl,Sees.int (by simp),Sees.int (by simp),trivial⟩
 have hpar:(makeM n before s).2.2=0∧(reqE n after).2=0:=by
  have hw2:=hw
  unfold wholeC at hw2
  split at hw2
  ·cases hw2
  ·omega
 obtain⟨hrq,hv,_,_⟩:=make_parts hpar.1
 obtain⟨hok,hq16,hreq,_⟩:=reqE_ok hrq
 obtain⟨_,hqa16,hreqa,_⟩:=reqE_ok hpar.2
 have hbl:=both_len (reqsOk hrq) (reqsOk hpar.2)
 rintro k S3 ⟨hk,hB5,hfr,hty,hcd,hinv⟩
 have hcb2:cb≠2:=by omega
 clear hC4 hB4 hB3 hB2 hi2 hG1 hB1
 have hi5:=(List.getElem?_eq_some_iff.1 hB5).1
 by_cases hkl:k < l.length
 rotate_left
 ·have hke:k=l.length:=by omega
  subst hke
  have gk:decide ((l.length:Int) < (l.length:Int))=false:=decide_eq_false (by omega)
  rw[List.take_length]at hB5
  have hca:=afterC_len s l
  have hen:=c_endsC n hn before after B (afterC s l) (by omega) l hqa16 hx2
  repeat((conv=>whnf);first|refine sT ?_|rw[gk])
  try(conv=>whnf)
  refine CallK.box rfl hen (by show fzbs S3 [.ptr 2 0] = _;rw[fzbs,fzb_mv hB5];rfl) rfl ?_
  have hce:=check_end hw hl2 hinv
  by_cases he:endE n after (afterC s l)=0
  ·have g2:(endE n after (afterC s l) != 0)=false:=by simpa using he
   repeat((conv=>whnf);first|refine sT ?_|rw[g2])
   try(conv=>whnf)
   exact resP.mk rfl (Sees.of_eq (by rw[hce,he]))
  ·have g2:(endE n after (afterC s l) != 0)=true:=by simpa using he
   repeat((conv=>whnf);first|refine sT ?_|rw[g2])
   try(conv=>whnf)
   exact resP.mk rfl (Sees.of_eq (by rw[hce]))
 obtain⟨c,hgc⟩:=getLt hkl
 have hmc:=getMap (f:=Chg.av) hgc
 have gk:decide ((k:Int) < (l.length:Int))=true:=decide_eq_true (by omega)
 obtain⟨sk,hsk⟩:∃sk,sk=afterC s (l.take k):=⟨_,rfl⟩
 obtain⟨dn,hdn⟩:∃dn,dn=l.take k:=⟨_,rfl⟩
 rw[←hsk,←hdn]at hB5
 have hb6:∀o o':Ob,((S3.addB o).setB S3.bx.length o').bx[2]? = some (mvO n before after (encFlows B) sk (.own (dn.map Chg.av) ch)):=fun o o'=>by rw[St.setB_ne (by omega)];exact St.addB_old hB5
 have hi6:=(List.getElem?_eq_some_iff.1 hcd).1
 have hc6:∀o o':Ob,((S3.addB o).setB S3.bx.length o').bx[cb]? = some (cndO 2):=fun o o'=>by rw[St.setB_ne (by omega)];exact St.addB_old hcd
 have hx6:∀o o':Ob,((S3.addB o).setB S3.bx.length o').bx[S3.bx.length]? = some o':=fun o o'=>St.setB_get (hA S3 o)
 repeat((conv=>whnf);first|refine sJ ?_|refine aI (by first|exact trivial|exact inbMap hkl|kernel_rfl) ?_|rw[gk]|rw[hmc]|rw[hA]|rw[hc6])
 try(conv=>whnf)
 obtain⟨xb,hxb⟩:∃xb,xb=S3.bx.length:=⟨_,rfl⟩
 refine LoopK.runS mixed [10018] (fun (j:Nat) (S4:St)=>j≤5∧S4.bx[2]? = some (mvO n before after (encFlows B) (if j < 2 then sk else(chgM sk c).1) (.own (dn.map Chg.av) ch))∧S4.fr[ch]? = some (k,7)∧S4.ty ch=42∧S4.bx[cb]? = some (cndO 2)∧S4.bx[xb]? = some (.cells c.av.cells 42)∧(1≤j→chgE (lastSlot dn) c=0)∧(2≤j→(chgM sk c).2=0)∧(3≤j→earlyB before after dn c=false)∧(4≤j→(schedE n B (chgM sk c).1).2=0)∧(5≤j→keepB n before after (chgM sk c).1=true)) (fun j=>[(12,.ptr 2 0),(14,.ptr cb 0),(15,.int .i64 k),(16,.ptr xb 0),(46,encChgs l),(47,.int .i64 l.length),(48,.int .i64 k),(53,.agg [.bfn 49 2 0,.bfn 50 2 0,.bfn 51 2 0,.bfn 52 2 0,.bfn 53 2 0]),(54,.int .i64 j)]) (fun j=>5-j) 0 ⟨by decide,hb6 _ _,hfr,hty,hc6 _ _,by rw[hxb];exact hx6 _ _,by omega,by omega,by omega,by omega,by omega⟩ ?_ ?_
 ·rw[hxb];exact⟨Sees.of_eq rfl,Sees.of_eq rfl,Sees.of_eq rfl,Sees.of_eq rfl,Sees.of_eq rfl,Sees.of_eq rfl,Sees.of_eq rfl,Sees.of_eq rfl,Sees.of_eq rfl,trivial⟩
 rintro j S4 ⟨hj,hB7,hfr7,hty7,hcd7,hx7,p0,p1,p2,p3,p4⟩
 have hxb2:xb≠2:=by omega
 clear hx6 hc6 hb6 hcd hB5 hi5 hi6
 have hdl:dn.length=k:=by rw[hdn,List.length_take];omega
 have hskl:sk.cells.length≤1001024:=by
  have:=afterC_len s (l.take k)
  rw[←hsk,←hdn,hdl]at this
  omega
 have hsl1:=chgM_len sk c
 have hflt:faultC n before after s l k=stepC n before after dn sk c:=by unfold faultC;rw[hgc,hsk,hdn]
 have hBl:B.length≤281474976710656:=by
  rw[hBe]
  unfold wholeC at hw
  repeat' (first|omega|split at hw)
  all_goals first|omega|cases hw
 have hret:∀e:Int,stepC n before after dn sk c=e→e≠0→checkC n before after s l=((k:Int),e):=fun e h1 h2=>check_hit hw hl2 hkl hinv (hflt.trans h1) h2
 have hj6:j=0∨j=1∨j=2∨j=3∨j=4∨j=5:=by omega
 rcases hj6 with rfl|rfl|rfl|rfl|rfl|rfl
 ·rw[if_pos (by decide)]at hB7
  repeat((conv=>whnf);first|refine sJ ?_|refine aI (by first|exact trivial|exact⟨by decide,by decide⟩|kernel_rfl) ?_|rw[hx7])
  try(conv=>whnf)
  refine CallK.boundD rfl (c_placedC LW n before after B sk dn c (by omega)) (fzb_mv2 hB7 c) rfl ?_
  by_cases he:chgE (lastSlot dn) c=0
  ·have g2:(chgE (lastSlot dn) c != 0)=false:=by simpa using he
   repeat((conv=>whnf);first|refine sT ?_|rw[g2])
   try(conv=>whnf)
   exact⟨1,⟨by decide,by rw[if_pos (by decide)];exact hB7,hfr7,hty7,hcd7,hx7,fun _=>he,by omega,by omega,by omega,by omega⟩,by decide,Sees.of_eq rfl,Sees.of_eq rfl,Sees.of_eq rfl,Sees.of_eq rfl,Sees.of_eq rfl,Sees.of_eq rfl,Sees.of_eq rfl,Sees.of_eq rfl,Sees.of_eq rfl,trivial⟩
  ·have g2:(chgE (lastSlot dn) c != 0)=true:=by simpa using he
   repeat((conv=>whnf);first|refine sT ?_|rw[g2])
   try(conv=>whnf)
   exact resP.mk rfl (Sees.of_eq (by rw[hret _ (by unfold stepC;rw[if_pos he]) he]))
 ·rw[if_pos (by decide)]at hB7
  repeat((conv=>whnf);first|refine sJ ?_|refine aI (by first|exact trivial|exact⟨by decide,by decide⟩|kernel_rfl) ?_|rw[hx7])
  try(conv=>whnf)
  refine CallK.bound rfl (i_takes n before after (encFlows B) (.own (dn.map Chg.av) ch) sk c S4 2 hB7 fun S5 h1 h2 h3 h4=>?_)
  by_cases he:(chgM sk c).2=0
  ·have g2:((chgM sk c).2 != 0)=false:=by simpa using he
   rw[if_pos he]at h3
   repeat((conv=>whnf);first|refine sT ?_|rw[g2])
   try(conv=>whnf)
   exact⟨2,⟨by decide,by rw[if_neg (by decide)];exact h3,by rw[h1];exact hfr7,by rw[h2];exact hty7,h4 cb _ hcb2 hcd7,h4 xb _ hxb2 hx7,fun _=>p0 (by omega),fun _=>he,by omega,by omega,by omega⟩,by decide,Sees.of_eq rfl,Sees.of_eq rfl,Sees.of_eq rfl,Sees.of_eq rfl,Sees.of_eq rfl,Sees.of_eq rfl,Sees.of_eq rfl,Sees.of_eq rfl,Sees.of_eq rfl,trivial⟩
  ·have g2:((chgM sk c).2 != 0)=true:=by simpa using he
   repeat((conv=>whnf);first|refine sT ?_|rw[g2])
   try(conv=>whnf)
   exact resP.mk rfl (Sees.of_eq (by rw[hret _ (by unfold stepC;rw[if_neg (by have:=p0 (by omega);omega),if_pos he]) he]))
 ·rw[if_neg (by decide)]at hB7
  repeat((conv=>whnf);first|refine sJ ?_|refine aI (by first|exact trivial|exact⟨by decide,by decide⟩|kernel_rfl) ?_|rw[hx7])
  try(conv=>whnf)
  refine CallK.boundD rfl (c_waits LW n before after B (chgM sk c).1 dn c (by omega) hq16 hqa16 (fun x hx=>(hreq x hx).len.2) (fun x hx=>(hreqa x hx).len.2)) (fzb_mv2 hB7 c) rfl ?_
  unfold waitE
  cases he:earlyB before after dn c with
  | false=>
   repeat((conv=>whnf);first|refine sT ?_ )
   try(conv=>whnf)
   exact⟨3,⟨by decide,by rw[if_neg (by decide)];exact hB7,hfr7,hty7,hcd7,hx7,fun _=>p0 (by omega),fun _=>p1 (by omega),fun _=>by first|exact he|rfl,by omega,by omega⟩,by decide,Sees.of_eq rfl,Sees.of_eq rfl,Sees.of_eq rfl,Sees.of_eq rfl,Sees.of_eq rfl,Sees.of_eq rfl,Sees.of_eq rfl,Sees.of_eq rfl,Sees.of_eq rfl,trivial⟩
  | true=>
   repeat((conv=>whnf);first|refine sT ?_ )
   try(conv=>whnf)
   exact resP.mk rfl (Sees.of_eq (by rw[hret 12 (by unfold stepC;rw[if_neg (by have:=p0 (by omega);omega),if_neg (by have:=p1 (by omega);omega),if_pos he]) (by decide)];rfl))
 ·rw[if_neg (by decide)]at hB7
  repeat((conv=>whnf);first|refine sJ ?_|refine aI (by first|exact trivial|exact⟨by decide,by decide⟩|kernel_rfl) ?_|rw[hx7])
  try(conv=>whnf)
  refine CallK.boundD rfl (c_valid LW n hn before after B hBl (chgM sk c).1 (by omega) dn c) (fzb_mv2 hB7 c) rfl ?_
  by_cases he:(schedE n B (chgM sk c).1).2=0
  ·rw[if_neg (by omega)]
   repeat((conv=>whnf);first|refine sT ?_ )
   try(conv=>whnf)
   exact⟨4,⟨by decide,by rw[if_neg (by decide)];exact hB7,hfr7,hty7,hcd7,hx7,fun _=>p0 (by omega),fun _=>p1 (by omega),fun _=>p2 (by omega),fun _=>he,by omega⟩,by decide,Sees.of_eq rfl,Sees.of_eq rfl,Sees.of_eq rfl,Sees.of_eq rfl,Sees.of_eq rfl,Sees.of_eq rfl,Sees.of_eq rfl,Sees.of_eq rfl,Sees.of_eq rfl,trivial⟩
  ·rw[if_pos he]
   repeat((conv=>whnf);first|refine sT ?_ )
   try(conv=>whnf)
   exact resP.mk rfl (Sees.of_eq (by rw[hret 16 (by unfold stepC;rw[if_neg (by have:=p0 (by omega);omega),if_neg (by have:=p1 (by omega);omega),if_neg (by rw[p2 (by omega)];decide),if_pos (by rw[←hBe];exact he)]) (by decide)]))
 ·rw[if_neg (by decide)]at hB7
  repeat((conv=>whnf);first|refine sJ ?_|refine aI (by first|exact trivial|exact⟨by decide,by decide⟩|kernel_rfl) ?_|rw[hx7])
  try(conv=>whnf)
  refine CallK.boundD rfl (c_keeps n hn before after B hBl (chgM sk c).1 (by omega) dn c hq16 hqa16 (fun x hx=>⟨(hreq x hx).len.2,fun r hr=>(routeF_ok ((hreq x hx).route r hr)).1.2⟩) (fun x hx=>⟨(hreqa x hx).len.2,fun r hr=>(routeF_ok ((hreqa x hx).route r hr)).1.2⟩)) (fzb_mv2 hB7 c) rfl ?_
  have hkb:B.all (keepF n before after (chgM sk c).1)=keepB n before after (chgM sk c).1:=by rw[hBe];rfl
  rw[hkb]
  cases he:keepB n before after (chgM sk c).1 with
  | true=>
   repeat((conv=>whnf);first|refine sT ?_ )
   try(conv=>whnf)
   exact⟨5,⟨by decide,by rw[if_neg (by decide)];exact hB7,hfr7,hty7,hcd7,hx7,fun _=>p0 (by omega),fun _=>p1 (by omega),fun _=>p2 (by omega),fun _=>p3 (by omega),fun _=>by first|exact he|rfl⟩,by decide,Sees.of_eq rfl,Sees.of_eq rfl,Sees.of_eq rfl,Sees.of_eq rfl,Sees.of_eq rfl,Sees.of_eq rfl,Sees.of_eq rfl,Sees.of_eq rfl,Sees.of_eq rfl,trivial⟩
  | false=>
   repeat((conv=>whnf);first|refine sT ?_ )
   try(conv=>whnf)
   exact resP.mk rfl (Sees.of_eq (by rw[hret 15 (by unfold stepC;rw[if_neg (by have:=p0 (by omega);omega),if_neg (by have:=p1 (by omega);omega),if_neg (by rw[p2 (by omega)];decide),if_neg (by rw[←hBe];have:=p3 (by omega);omega),if_pos he]) (by decide)];rfl))
 ·rw[if_neg (by decide)]at hB7
  repeat((conv=>whnf);first|refine sT ?_|rw[hx7])
  try(conv=>whnf)
  have hi7:=(List.getElem?_eq_some_iff.1 hB7).1
  refine SemK.regionFin mixed (fun X=>X.bx[2]? = some (mvO n before after (encFlows B) (chgM sk c).1 (.own (dn.map Chg.av) ch))∧X.bx[xb]? = some (.cells c.av.cells 42)) [0,1,2,3,4,5,6] 4 rfl rfl (by decide) rfl ⟨hB7,hx7⟩ ?_
  iterate 7
   conv=>whnf
   apply exV
   ·rintro S' K' hI hh
    repeat((conv=>whnf);first|refine sT ?_|erw [hI.1]|erw [hI.2])
    try(conv=>whnf)
    exact hh
  conv=>whnf
  have hlm:(dn.map Chg.av).length=k:=by rw[List.length_map,hdl]
  have hfr8:S4.fr[ch]? = some ((dn.map Chg.av).length,6+1):=by rw[hlm];exact hfr7
  have hsz1:((dn.map Chg.av).length+1)*56≤140737488355328:=by rw[hlm];omega
  have hsz2:(dn.map Chg.av).length+1≤maxLen:=by rw[hlm];unfold maxLen;omega
  have hB8:∀x,(S4.setF ch x).bx[2]? = some (mvO n before after (encFlows B) (chgM sk c).1 (.own (dn.map Chg.av) ch)):=fun x=>hB7
  have hx8:∀x,(S4.setF ch x).bx[xb]? = some (.cells c.av.cells 42):=fun x=>hx7
  repeat' ((conv=>whnf);first|exact trivial|refine sJ ?_|refine aI (by first|exact trivial|exact Or.inl rfl|exact Or.inr (And.intro hB7 hx7)|exact Or.inr (And.intro (hB8 _) (hx8 _))|exact Els.map (f:=Chg.av) (fun _=>⟨rfl,rfl⟩)|exact hsz1|exact hsz2|exact hfr8|exact hty7|kernel_rfl) ?_|refine And.intro ?_ ?_|rw[hB8])
  all_goals(conv=>whnf)
  all_goals
   refine⟨k+1,⟨hkl,?_,?_,hty7,(St.setB_ne (Ne.symm hcb2)).trans hcd7,fun j hj=>?_⟩,by omega,Sees.of_eq rfl,Sees.of_eq rfl,Sees.of_eq rfl,Sees.of_eq rfl,Sees.int (succI hkl (by omega)),trivial⟩
   ·rw[afterC_snoc hgc,take_succ hgc,List.map_append,←hsk,←hdn]
    exact St.setB_get (hB8 _)
   ·show(S4.fr.set ch _)[ch]? = _
    rw[List.getElem?_set_self (List.getElem?_eq_some_iff.1 hfr7).1,List.length_append,hlm]
    rfl
   ·rcases Nat.lt_succ_iff_lt_or_eq.1 hj with h'|rfl
    ·exact hinv j h'
    ·rw[hflt]
     unfold stepC
     have e0:=p0 (by omega)
     have e1:=p1 (by omega)
     have e3:=p3 (by omega)
     rw[if_neg (by omega),if_neg (by omega),if_neg (by rw[p2 (by omega)];decide),if_neg (by rw[←hBe];omega),if_neg (by rw[p4 (by omega)];decide)]
end HM
