/- Lists of changes without a fault: what their Check says; ChangeBegins and ChangeEarliest in plain words. -/
import Derived.Test.YtggiajmlnieidaaGreatDoorDd
import Derived.Test.YtggiajmlnieidaaGreatDoorDc
import Derived.Test.YtggiajmlnieidaaGreatDoorDa
import Derived.Test.YtggiajmlnieidaaGreatDoorDb
namespace HM
open Go Go.RowKit
theorem step_zero {n:Net}{before after:List Req}{done:List Chg}{s:Sched}{c:Chg}:stepC n before after done s c=0↔chgE (lastSlot done) c=0∧(chgM s c).2=0∧earlyB before after done c=false∧(schedE n (bothM before after) (chgM s c).1).2=0∧keepB n before after (chgM s c).1=true:=by
 unfold stepC
 constructor
 ·intro h
  split at h
  ·rename_i h1;exact absurd h h1
  split at h
  ·rename_i h1;exact absurd h h1
  split at h
  ·cases h
  split at h
  ·cases h
  split at h
  ·cases h
  rename_i h1 h2 h3 h4 h5
  exact⟨by omega,by omega,by simpa using h3,by omega,by simpa using h5⟩
 ·rintro⟨h1,h2,h3,h4,h5⟩
  rw[if_neg (by omega),if_neg (by omega),if_neg (by rw[h3];decide),if_neg (by omega),if_neg (by rw[h5];decide)]
theorem lastSlot_snoc (l:List Chg)(c:Chg):lastSlot (l++[c])=some c.slot:=by unfold lastSlot;simp
section
variable {n:Net} {before after:List Req} {s:Sched} {l:List Chg}
end
theorem stayQ_some {before after:List Req}{id:Int}{x y:Req}(h:stayQ before after id=some (x,y)):getQ before id=some x∧getQ after id=some y:=by
 unfold stayQ at h
 cases hb:getQ before id with
 | none=>rw[hb]at h;cases h
 | some x'=>
  cases ha:getQ after id with
  | none=>rw[hb,ha]at h;cases h
  | some y'=>rw[hb,ha]at h;cases h;exact⟨rfl,rfl⟩
theorem stayB_at {n:Net}{before after:List Req}{s:Sched}(hW:WholeOk n before after s)(id:Int):stayB before after id=(stayQ before after id).isSome:=by
 unfold stayB
 cases h:stayQ before after id with
 | none=>rfl
 | some p=>
  obtain⟨x,y⟩:=p
  obtain⟨h1,h2⟩:=stayQ_some h
  obtain⟨m1,m2⟩:=getQ_some h1
  simp[hW.same x m1 y (by rw[m2];exact h2)]
section
variable {flows:List Flow} {fr:Int} {l o:List Chg}
theorem lastSlot_take {k:Nat}{d:Chg}(h:o[k]? = some d):lastSlot (o.take (k+1))=some d.slot:=by rw[take_succ h,lastSlot_snoc]
theorem chgE_of {p:Option Int}{c:Chg}(h0:0≤c.slot)(h:∀q,p=some q→q≤c.slot):chgE p c=0:=by
 unfold chgE
 rw[if_neg (by omega)]
 cases p with
 | none=>rfl
 | some q=>simp only;rw[if_neg (by have:=h q rfl;omega)]
end
section
variable {n:Net} {before after:List Req} {s:Sched} {l o:List Chg} {fr:Int}
end
section
variable {s:Sched} {c:Chg} {f:Flow}
theorem chg_len (h:(chgM s c).2=0):(chgM s c).1.len=s.len:=by
 unfold chgM at h ⊢
 split at h
 ·rename_i hc
  rw[if_pos hc]
  rw[(addM_ok (t:=(addM s c.cell).1) (by rw[←h])).2.2.2.2]
 ·rename_i hc
  rw[if_neg hc]
  unfold remM at h ⊢
  split at h
  ·cases h
  split at h
  ·cases h
  rename_i h1 h2
  rw[if_neg h1,if_neg h2]
end
section
variable {n:Net} {before after:List Req} {s:Sched} {l:List Chg} {f:Flow}
end
def wholeM (n:Net)(l:List Flow)(s:Sched):Int:=
 if netE n≠0∨(flowsE n.nodes l).2≠0 then 1 else if sizedB s=false then 2 else if l.any (mism s) then 11 else if 512 < s.cells.length then 8 else 0
theorem schedE_whole {n:Net}{l:List Flow}{s:Sched}(h:wholeM n l s≠0):schedE n l s=(-1,wholeM n l s):=by
 unfold wholeM at h ⊢
 unfold schedE
 split
 ·rfl
 rename_i h1;rw[if_neg h1]at h
 split
 ·rfl
 rename_i h2;rw[if_neg h2]at h
 split
 ·rfl
 rename_i h3;rw[if_neg h3]at h
 split
 ·rfl
 rename_i h4;rw[if_neg h4]at h
 exact absurd rfl h
theorem schedE_parts {n:Net}{l:List Flow}{s:Sched}(h:wholeM n l s=0):netE n=0∧(flowsE n.nodes l).2=0∧sizedB s=true∧s.cells.length≤512∧schedE n l s=if (firstAt (cellF n l s) s.cells.length).2≠0 then firstAt (cellF n l s) s.cells.length
 else if (firstAt (twI s.cells) s.cells.length).2≠0 then firstAt (twI s.cells) s.cells.length
 else firstAt (dsI n s.cells) s.cells.length:=by
 unfold wholeM at h
 split at h
 ·cases h
 rename_i h1
 split at h
 ·cases h
 rename_i h2
 split at h
 ·cases h
 rename_i h3
 split at h
 ·cases h
 rename_i h4
 exact⟨by omega,by omega,by simpa using h2,by omega,by unfold schedE;rw[if_neg h1,if_neg h2,if_neg h3,if_neg h4]⟩
theorem once_rest {cs:List Cell}(h:∀j,j < cs.length→twI cs j=0){i:Nat}{c:Cell}(hc:cs[i]? = some c):∀d∈cs.eraseIdx i,d.slot=c.slot→touchB c d=false:=by
 intro d hd hs
 obtain⟨j,hne,hj⟩:=List.mem_eraseIdx_iff_getElem?.1 hd
 have key:∀{a b:Nat} {x y:Cell},a < b→cs[a]? = some x→cs[b]? = some y→x.slot=y.slot→touchB y x=false:=fun {a b x y} hab hx hy hxy=>by
  have h1:=h b (List.getElem?_eq_some_iff.1 hy).1
  have h2:twiceM cs b=false:=by
   unfold twI at h1
   cases ht:twiceM cs b with
   | false=>rfl
   | true=>rw[ht]at h1;simp at h1
  unfold twiceM at h2
  rw[hy]at h2
  simp only at h2
  have h3:=List.any_eq_false.1 h2 a (List.mem_range.2 hab)
  unfold twAt at h3
  rw[hx]at h3
  simpa[hxy] using h3
 rcases Nat.lt_or_gt_of_ne hne with hlt|hgt
 ·exact key hlt hj hc hs
 ·rw[touchB_comm];exact key hgt hc hj hs.symm
theorem share_fault {n:Net}{cs:List Cell}{c:Cell}{i:Nat}(h:cs[i]? = some c)(hg:goodL n c.src c.dst=true)(ht:∀d∈cs.eraseIdx i,d.slot=c.slot→touchB c d=false):faultyM n (shareL cs c) (shareAt cs c i)=disturbB n cs i:=by
 have hp:shareB c c=true:=by simp[shareB]
 obtain⟨e1,e2⟩:=filter_erase (p:=shareB c) h hp
 have hf:faultyM n (shareL cs c) (shareAt cs c i)=faultyC n c ((cs.eraseIdx i).filter (shareB c)):=by
  unfold shareL shareAt
  rw[faultyM_rest e2,e1]
 rw[hf]
 have h1:faultyC n c ((cs.eraseIdx i).filter (shareB c))=false↔disturbB n cs i=false:=by
  rw[faultyC_iff,disturb_iff h]
  constructor
  ·exact fun hh=>hh.2.2
  ·exact fun hh=>⟨hg,fun d hd=>ht d (List.mem_filter.1 hd).1 (by have:=(List.mem_filter.1 hd).2;simp[shareB]at this;exact this.1),hh⟩
 cases ha:faultyC n c ((cs.eraseIdx i).filter (shareB c))<;>cases hb:disturbB n cs i<;>simp_all
theorem findF_ids (l:List Flow)(id:Int):decide (findF l id < 0)=!idsB l id:=by
 unfold idsB
 cases h:l.any fun f=>f.id==id with
 | false=>
  have h1:findF l id=-1:=idxF_none fun j y hj hy=>by
   have:=List.any_eq_false.1 h y (List.mem_of_getElem? hy)
   simpa using this
  rw[h1];rfl
 | true=>
  have h1:¬findF l id < 0:=fun hneg=>by
   obtain⟨f,hf,he⟩:=List.any_eq_true.1 h
   exact findF_neg hneg f hf (by simpa using he)
  rw[decide_eq_false h1];rfl
def shareT (cs:List Cell)(c:Cell)(k:Nat):List Cell:=(cs.take k).filter (shareB c)
theorem shareT_succ {cs:List Cell}{c d:Cell}{k:Nat}(h:cs[k]? = some d):shareT cs c (k+1)=shareT cs c k++if shareB c d=true then [d] else []:=by
 unfold shareT
 rw[take_succ h,List.filter_append]
 congr 1
 simp only[List.filter_cons,List.filter_nil]
theorem shareT_len (cs:List Cell)(c:Cell)(k:Nat):(shareT cs c k).length≤cs.length:=Nat.le_trans (List.length_filter_le _ _) (by rw[List.length_take];omega)
theorem good_nodes {n:Net}(hok:NetOk n){a b:Int}(h:goodL n a b=true):0≤a∧a < 32∧0≤b∧b < 32∧a≠b:=by
 unfold goodL at h
 simp only[Bool.and_eq_true,decide_eq_true_eq]at h
 obtain⟨k,l,e1,e2,e3,e4⟩:=findL_at h.1.1.1
 have hb:=linkR_bd (hok.link k l e2).1
 have hn:=hok.nodes
 rw[←e3,←e4]
 omega
theorem once_apart {cs:List Cell}(h:∀j,j < cs.length→twI cs j=0):ApartS cs:=by
 unfold ApartS
 rw[List.pairwise_iff_getElem]
 intro i j hi hj hij hs
 have h1:=h j hj
 unfold twI twiceM at h1
 rw[List.getElem?_eq_getElem hj]at h1
 simp only at h1
 split at h1
 ·cases h1
 rename_i g
 have g2:=List.any_eq_false.1 (Bool.eq_false_iff.2 g) i (by simpa using hij)
 unfold twAt at g2
 rw[List.getElem?_eq_getElem hi]at g2
 rw[touchB_comm]
 cases ht:touchB cs[j] cs[i] with
 | false=>rfl
 | true=>simp[hs,ht]at g2
theorem share_few {n:Net}(hok:NetOk n){cs:List Cell}(h:∀j,j < cs.length→twI cs j=0)(hg:∀(i:Nat) c,cs[i]? = some c→goodL n c.src c.dst=true)(c:Cell):(shareL cs c).length≤32:=by
 have h1:=slotA_len (once_apart h) (fun d hd=>by
  obtain⟨i,hi⟩:=List.getElem?_of_mem hd
  exact good_nodes hok (hg i d hi)) c.slot
 have h2:(cs.filter (shareB c)).length≤(cs.filter fun d=>d.slot==c.slot).length:=by
  rw[←List.countP_eq_length_filter,←List.countP_eq_length_filter]
  exact List.countP_mono_left fun x _ hx=>by unfold shareB at hx;simp only[Bool.and_eq_true]at hx;exact hx.1
 unfold shareL
 omega
end HM
