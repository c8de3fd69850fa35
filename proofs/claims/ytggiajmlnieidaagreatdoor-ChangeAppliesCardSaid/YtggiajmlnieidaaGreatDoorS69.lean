/- Scripts: the definition of Check; the guard. -/
import Derived.Test.YtggiajmlnieidaaGreatDoorS68
import Derived.Test.YtggiajmlnieidaaGreatDoorS33
import Derived.Test.YtggiajmlnieidaaGreatDoorDb
import Derived.Test.YtggiajmlnieidaaGreatDoorS93
import Derived.Test.YtggiajmlnieidaaGreatDoorDd
set_option maxHeartbeats 64000000
set_option maxRecDepth 100000
namespace HM
open Go Go.RowKit Go.Proofs
section
variable (L:World→Prop)
end
section
variable (L:World→Prop)
theorem c_Find32 (l:List Flow)(id:Int)(hl:l.length≤281474976710656):PCall Tryz.prog L 63 [encFlows l,.int .i64 id] (.int .i64 (findF l id)):=by
 refine PCall.intro mixed [] (nt:=20) Tryz.func63 rfl rfl (by simp) ?_
 refine Wk ?_
 refine LoopK.run mixed [] (fun (k:Nat)=>k≤l.length∧∀(j:Nat) y,j < k→l[j]? = some y→(y.id==id)=false) (fun k=>[(0,encFlows l),(1,.int .i64 id),(5,.int .i64 k)]) (fun k=>St.none) (fun k=>l.length-k) 0 ⟨by simp,by simp⟩ ?_ ?_
 ·refine fN ?_<;>repeat' (first|exact fQ|refine And.intro ?_ ?_ )
 rintro k ⟨hk,hinv⟩
 refine Wk ?_
 refine BrK.mk (fun hb=>?_) (fun hb=>?_)<;>try rw[hb]
 ·have hkt:k < l.length:=by simpa using hb
  obtain⟨f,hgf⟩:=getLt hkt
  have hmf:=getMap (f:=Flow.av) hgf
  repeat((conv=>whnf);first|refine sJ ?_|refine aI (by first|exact inbMap hkt|kernel_rfl) ?_|rw[hmf])
  try(conv=>whnf)
  refine BrK.mk (fun h2=>?_) (fun h2=>?_)<;>(try rw[h2])
  ·refine Wk ?_
   exact resP.mk rfl (Sees.int (idxF_some (p:=fun f:Flow=>f.id==id) hkt hinv hgf h2).symm)
  ·refine Wk ?_
   refine⟨k+1,⟨by omega,inv_snoc (p:=fun y:Flow=>y.id==id) hinv hgf h2⟩,by omega,?_⟩
   refine fN ?_<;>repeat' (first|exact fQ|refine And.intro ?_ ?_|exact Sees.int (succI hkt hl))
 ·have hkn:k=l.length:=by simp at hb;omega
  subst hkn
  refine Wk ?_
  exact resP.mk rfl (Sees.int (idxF_none (p:=fun f:Flow=>f.id==id) hinv).symm)
end
theorem chg_eqv (a b:Chg):(a.slot==b.slot&&(a.add==b.add&&((a.cell.slot==b.cell.slot&&(a.cell.off==b.cell.off&&(a.cell.src==b.cell.src&&(a.cell.dst==b.cell.dst&&(a.cell.flow==b.cell.flow&&true)))))&&true)))=decide (a=b):=by
 rw[Bool.eq_iff_iff]
 simp only[Bool.and_eq_true,beq_iff_eq,and_true,decide_eq_true_eq]
 constructor
 ·rintro⟨h1,h2,h3,h4,h5,h6,h7⟩
  obtain⟨a1,a2,⟨a3,a4,a5,a6,a7⟩⟩:=a
  obtain⟨b1,b2,⟨b3,b4,b5,b6,b7⟩⟩:=b
  simp only at h1 h2 h3 h4 h5 h6 h7
  subst h1;subst h2;subst h3;subst h4;subst h5;subst h6;subst h7;rfl
 ·rintro rfl;exact⟨rfl,rfl,rfl,rfl,rfl,rfl,rfl⟩
theorem c_SameChg42 (a b:List Chg)(ha:a.length≤281474976710656):PCall Tryz.prog LW 21 [encChgs a,encChgs b] (.bool (decide (a=b))):=by
 refine PCall.intro mixed [] (nt:=26) Tryz.func21 rfl rfl (by simp) ?_
 cases hl:(((a.map Chg.av).length:Int) != ((b.map Chg.av).length:Int)) with
 | true=>
  repeat((conv=>whnf);first|refine sT ?_|rw[hl])
  try(conv=>whnf)
  exact resP.mk rfl (Sees.bool (by symm;rw[decide_eq_false_iff_not];rintro rfl;simp at hl))
 | false=>
 have hln:a.length=b.length:=by simp only[List.length_map,bne_eq_false_iff_eq]at hl;omega
 repeat((conv=>whnf);first|refine sT ?_|rw[hl])
 try(conv=>whnf)
 refine LoopK.run mixed [] (fun (k:Nat)=>k≤a.length∧a.take k=b.take k) (fun k=>[(0,encChgs a),(1,encChgs b),(5,.int .i64 k)]) (fun k=>St.none) (fun k=>a.length-k) 0 ⟨by simp,by simp⟩ ?_ ?_
 ·refine fN ?_<;>repeat' (first|exact fQ|refine And.intro ?_ ?_ )
 rintro k ⟨hk,hinv⟩
 by_cases hkl:k < a.length
 rotate_left
 ·have hke:k=a.length:=by omega
  subst hke
  have gk:decide ((a.length:Int) < ((a.map Chg.av).length:Int))=false:=decide_eq_false (by rw[List.length_map];omega)
  repeat((conv=>whnf);first|refine sT ?_|rw[gk])
  try(conv=>whnf)
  rw[List.take_length,hln,List.take_length]at hinv
  exact resP.mk rfl (Sees.bool (by simp[hinv]))
 obtain⟨x,hgx⟩:=getLt hkl
 obtain⟨y,hgy⟩:=getLt (l:=b) (k:=k) (by omega)
 have hmx:=getMap (f:=Chg.av) hgx
 have hmy:=getMap (f:=Chg.av) hgy
 have gk:decide ((k:Int) < ((a.map Chg.av).length:Int))=true:=decide_eq_true (by rw[List.length_map];omega)
 by_cases e:x=y
 ·have he:decide (x=y)=true:=decide_eq_true e
  repeat((conv=>whnf);first|refine sJ ?_|refine aI (by first|exact trivial|exact inbMap hkl|exact inbMap (by omega)|kernel_rfl) ?_|rw[gk]|rw[hmx]|rw[hmy])
  try(conv=>whnf)
  rw[chg_eqv x y,he]
  repeat((conv=>whnf);first|refine sT ?_ )
  try(conv=>whnf)
  refine⟨k+1,⟨by omega,by rw[take_succ hgx,take_succ hgy,hinv,e]⟩,by omega,?_⟩
  refine fN ?_<;>repeat' (first|exact fQ|refine And.intro ?_ ?_|exact Sees.int (succI hkl (by omega)))
 ·have he:decide (x=y)=false:=decide_eq_false e
  repeat((conv=>whnf);first|refine sJ ?_|refine aI (by first|exact trivial|exact inbMap hkl|exact inbMap (by omega)|kernel_rfl) ?_|rw[gk]|rw[hmx]|rw[hmy])
  try(conv=>whnf)
  rw[chg_eqv x y,he]
  repeat((conv=>whnf);first|refine sT ?_ )
  try(conv=>whnf)
  exact resP.mk rfl (Sees.bool (by symm;rw[decide_eq_false_iff_not];rintro rfl;rw[hgx]at hgy;exact e (Option.some.inj hgy)))
theorem c_Time42 (flows:List Flow)(hfl:flows.length≤281474976710656)(l:List Chg)(hl:l.length≤281474976710656)(fr:Int):PCall Tryz.prog LW 18 [encFlows flows,encChgs l,.int .i64 fr] (.tup [encChgs (timeM flows l fr).1,.int .i64 (timeM flows l fr).2]):=by
 refine PCall.intro mixed [] (nt:=115) Tryz.func18 rfl rfl (by simp) ?_
 refine Wk ?_
 refine cD (c_FCheck32 LW 32 flows hfl) ?_
 by_cases h1:(flowsE 32 flows).2≠0
 ·have g:((flowsE 32 flows).2 != 0)=true:=by simpa using h1
  repeat((conv=>whnf);first|refine sT ?_|rw[g])
  try(conv=>whnf)
  exact resP.mk rfl (Sees.of_eq (by unfold timeM;rw[if_pos h1];rfl))
 have g:((flowsE 32 flows).2 != 0)=false:=by simpa using h1
 by_cases h2:fr < 0
 ·have g2:decide (fr < 0)=true:=decide_eq_true h2
  repeat((conv=>whnf);first|refine sT ?_|rw[g]|rw[g2])
  try(conv=>whnf)
  exact resP.mk rfl (Sees.of_eq (by unfold timeM;rw[if_neg h1,if_pos (.inl h2)];rfl))
 have g2:decide (fr < 0)=false:=decide_eq_false h2
 by_cases h3:1048576 < fr
 ·have g3:decide (1048576 < fr)=true:=decide_eq_true h3
  repeat((conv=>whnf);first|refine sT ?_|rw[g]|rw[g2]|rw[g3])
  try(conv=>whnf)
  exact resP.mk rfl (Sees.of_eq (by unfold timeM;rw[if_neg h1,if_pos (.inr h3)];rfl))
 have g3:decide (1048576 < fr)=false:=decide_eq_false h3
 by_cases h4:1024 < l.length
 ·have g4:decide ((1024:Int) < (l.length:Int))=true:=decide_eq_true (by omega)
  repeat((conv=>whnf);first|refine sT ?_|rw[g]|rw[g2]|rw[g3]|rw[List.length_map]|rw[g4])
  try(conv=>whnf)
  exact resP.mk rfl (Sees.of_eq (by unfold timeM;rw[if_neg h1,if_neg (by omega),if_pos h4];rfl))
 have g4:decide ((1024:Int) < (l.length:Int))=false:=decide_eq_false (by omega)
 have htm:timeM flows l fr=match timeG flows fr [] l with
  | none=>([],2)
  | some o=>(o,0):=by unfold timeM;rw[if_neg h1,if_neg (by omega),if_neg h4];cases timeG flows fr [] l<;>rfl
 rw[htm]
 have hfa:=(flowsE_all (l:=flows) (by omega)).2
 repeat((conv=>whnf);first|refine sT ?_|rw[g]|rw[g2]|rw[g3]|rw[List.length_map]|rw[g4])
 try(conv=>whnf)
 refine LoopK.run mixed [] (fun q:Nat×List Chg×Int=>TmI flows l fr q.1 q.2.1 q.2.2∧q.2.1.Pairwise (fun a b=>a.slot≤b.slot)∧∀d∈q.2.1,d.slot≤q.2.2) (fun q=>[(0,encFlows flows),(1,encChgs l),(10,.own (q.2.1.map Chg.av) 0),(11,.int .i64 q.2.2),(12,.int .i64 q.1)]) (fun q=>⟨[],[(q.1,7)],0,0,fun _=>42⟩) (fun q=>l.length-q.1) (0,[],fr) ⟨TmI.zero (by omega) (by omega),by simp,by simp⟩ ?_ ?_
 ·refine fN ?_<;>repeat' (first|exact fQ|refine And.intro ?_ ?_|exact Sees.int (by simp))
 rintro⟨k,o,t⟩ ⟨hI,hso,hto⟩
 dsimp only at hI hso hto ⊢
 by_cases hkl:k < l.length
 rotate_left
 ·have hke:k=l.length:=by have:=hI.le;omega
  subst hke
  have gk:decide ((l.length:Int) < ((l.map Chg.av).length:Int))=false:=decide_eq_false (by rw[List.length_map];omega)
  have hd:=hI.done
  repeat((conv=>whnf);first|refine sT ?_|rw[gk])
  try(conv=>whnf)
  exact resP.mk rfl (Sees.of_eq (by rw[hd];rfl))
 obtain⟨c,hgc⟩:=getLt hkl
 have hmc:=getMap (f:=Chg.av) hgc
 have gk:decide ((k:Int) < ((l.map Chg.av).length:Int))=true:=decide_eq_true (by rw[List.length_map];omega)
 repeat((conv=>whnf);first|refine sJ ?_|refine aI (by first|exact trivial|exact inbMap hkl|kernel_rfl) ?_|rw[gk]|rw[hmc])
 try(conv=>whnf)
 refine cD (c_Find32 LW flows c.cell.flow hfl) ?_
 repeat((conv=>whnf);first|refine sT ?_ )
 try(conv=>whnf)
 have hol:(o.map Chg.av).length=k:=by rw[List.length_map,hI.len]
 have hF:=inF_take (flows:=flows) (c:=c) (t:=t) hso
 refine LoopK.run mixed [] (fun j:Nat=>j≤k) (fun j=>[(0,encFlows flows),(1,encChgs l),(10,.own (o.map Chg.av) 0),(11,.int .i64 (inF flows c t (o.take j))),(12,.int .i64 k),(13,.int .i64 (findF flows c.cell.flow)),(14,.int .i64 j)]) (fun _=>⟨[],[(k,7)],0,0,fun _=>42⟩) (fun j=>k-j) 0 (by omega) ?_ ?_
 ·refine fN ?_<;>repeat' (first|exact fQ|refine And.intro ?_ ?_|exact Sees.int (by simp))
 rintro j hj
 by_cases hjk:j < k
 ·have gj:decide ((j:Int) < (k:Int))=true:=decide_eq_true (by omega)
  obtain⟨d,hgd⟩:=getLt (l:=o) (k:=j) (by rw[hI.len];exact hjk)
  have hmd:=getMap (f:=Chg.av) hgd
  have hds:=hI.sl d (List.mem_of_getElem? hgd)
  have hst:inF flows c t (o.take (j+1))=inS flows c (inF flows c t (o.take j)) d:=by rw[take_succ hgd,inF_snoc]
  have hib:=inbMap (f:=Chg.av) (l:=o) (k:=j) (by rw[hI.len];exact hjk)
  cases hca:c.add with
  | true=>
   have hnx:inF flows c t (o.take (j+1))=inF flows c t (o.take j):=by rw[hst];unfold inS;rw[hca];rfl
   repeat((conv=>whnf);first|refine sJ ?_|refine aI (by first|exact trivial|exact inbMap hkl|kernel_rfl) ?_|rw[gj]|rw[hmc]|rw[hca])
   try(conv=>whnf)
   refine⟨j+1,by omega,by omega,?_⟩
   rw[hnx]
   refine fN ?_<;>repeat' (first|exact fQ|refine And.intro ?_ ?_|exact Sees.int (succI hjk (by omega)))
  | false=>
  rcases flowOf_find flows c.cell.flow with ⟨hf,hfo⟩|⟨i,f,hf,hgf,hfo⟩
  ·have gi:decide ((0:Int) ≤ -1)=false:=by decide
   have hnx:inF flows c t (o.take (j+1))=inF flows c t (o.take j):=by rw[hst];unfold inS;rw[hca,hfo];rfl
   rw[hf]
   repeat((conv=>whnf);first|refine sJ ?_|refine aI (by first|exact trivial|exact inbMap hkl|kernel_rfl) ?_|rw[gj]|rw[hmc]|rw[hca]|rw[gi])
   try(conv=>whnf)
   refine⟨j+1,by omega,by omega,?_⟩
   rw[hnx]
   refine fN ?_<;>repeat' (first|exact fQ|refine And.intro ?_ ?_|exact Sees.int (succI hjk (by omega)))
  have gi:decide ((0:Int)≤(i:Int))=true:=decide_eq_true (by omega)
  have hmf:=getMap (f:=Flow.av) hgf
  have hil:=(List.getElem?_eq_some_iff.1 hgf).1
  have hpe:=flowE_ok (hfa i f hgf).1
  rw[hf]
  cases hda:d.add with
  | false=>
   have hnx:inF flows c t (o.take (j+1))=inF flows c t (o.take j):=by rw[hst];unfold inS;rw[hca,hfo,hda];rfl
   repeat((conv=>whnf);first|refine sJ ?_|refine aI (by first|exact trivial|exact inbMap hkl|exact hib|kernel_rfl) ?_|rw[gj]|rw[hmc]|rw[hca]|rw[gi]|rw[hmd]|rw[hda])
   try(conv=>whnf)
   refine⟨j+1,by omega,by omega,?_⟩
   rw[hnx]
   refine fN ?_<;>repeat' (first|exact fQ|refine And.intro ?_ ?_|exact Sees.int (succI hjk (by omega)))
  | true=>
  cases hfe:(d.cell.flow==c.cell.flow) with
  | false=>
   have hnx:inF flows c t (o.take (j+1))=inF flows c t (o.take j):=by rw[hst];unfold inS;rw[hca,hfo,hda,hfe];rfl
   repeat((conv=>whnf);first|refine sJ ?_|refine aI (by first|exact trivial|exact inbMap hkl|exact hib|kernel_rfl) ?_|rw[gj]|rw[hmc]|rw[hca]|rw[gi]|rw[hmd]|rw[hda]|rw[hfe])
   try(conv=>whnf)
   refine⟨j+1,by omega,by omega,?_⟩
   rw[hnx]
   refine fN ?_<;>repeat' (first|exact fQ|refine And.intro ?_ ?_|exact Sees.int (succI hjk (by omega)))
  | true=>
   have hnx:inF flows c t (o.take (j+1))=max (inF flows c t (o.take j)) (d.slot+f.period):=by rw[hst];unfold inS;rw[hca,hfo,hda,hfe];rfl
   have hw:IntKind.i64.wrap (d.slot+f.period)=d.slot+f.period:=by rw[w64]<;>omega
   obtain⟨u,hu⟩:∃u,u=inF flows c t (o.take j):=⟨_,rfl⟩
   rw[←hu]at hnx ⊢
   have hmx:(if d.slot+f.period > u then d.slot+f.period else u)=max u (d.slot+f.period):=by rw[Int.max_def];split<;>split<;>omega
   repeat((conv=>whnf);first|refine sJ ?_|refine aI (by first|exact trivial|exact inbMap hkl|exact hib|exact inbMap hil|kernel_rfl) ?_|rw[gj]|rw[hmc]|rw[hca]|rw[gi]|rw[hmd]|rw[hda]|rw[hfe]|rw[hmf]|rw[hw]|rw[hmx])
   try(conv=>whnf)
   refine⟨j+1,by omega,by omega,?_⟩
   rw[hnx]
   refine fN ?_<;>repeat' (first|exact fQ|refine And.intro ?_ ?_|exact Sees.int (succI hjk (by omega)))
 have hje:j=k:=by omega
 subst hje
 have gj:decide ((j:Int) < (j:Int))=false:=decide_eq_false (by omega)
 have hFj:inF flows c t (o.take j)=timeN flows o t c:=by
  have:=hI.len
  rw[hF j,List.take_of_length_le (by omega)]
 rw[hFj]
 obtain⟨T,hT⟩:∃T,T=timeN flows o t c:=⟨_,rfl⟩
 have hge:=timeN_ge flows o t c
 have hout:=hI.out hgc
 have hnxt:=hI.next hgc
 rw[←hT]at hge hout hnxt ⊢
 by_cases hm:1048576 < T
 ·have g5:decide (1048576 < T)=true:=decide_eq_true hm
  have hno:=hout hm
  repeat((conv=>whnf);first|refine sT ?_|rw[gj]|rw[g5])
  try(conv=>whnf)
  exact resP.mk rfl (Sees.of_eq (by rw[hno];rfl))
 ·have g5:decide (1048576 < T)=false:=decide_eq_false hm
  have hz1:((o.map Chg.av).length+1)*56≤140737488355328:=by rw[hol];omega
  have hz2:(o.map Chg.av).length+1≤maxLen:=by rw[hol];unfold maxLen;omega
  have hz3:some (j,7)=some ((o.map Chg.av).length,6+1):=by rw[hol]
  repeat((conv=>whnf);first|refine sJ ?_|refine aI (by first|exact trivial|exact inbMap hkl|exact Els.map (f:=Chg.av) (fun _=>⟨rfl,rfl⟩)|exact hz1|exact hz2|exact hz3|kernel_rfl) ?_|rw[gj]|rw[g5]|rw[hmc])
  try(conv=>whnf)
  refine⟨(j+1,o++[⟨T,c.add,c.cell⟩],T),⟨hnxt hm,?_,?_⟩,by dsimp only;omega,?_⟩
  ·exact List.pairwise_append.2 ⟨hso,by simp,fun a ha b hb=>by rw[List.mem_singleton.1 hb];have:=hto a ha;show a.slot≤T;omega⟩
  ·intro d hd
   dsimp only at hd ⊢
   rcases List.mem_append.1 hd with hd|hd
   ·have:=hto d hd;omega
   ·rw[List.mem_singleton.1 hd];exact Int.le_refl _
  ·refine fN ?_<;>repeat' (first|exact fQ|refine And.intro ?_ ?_|exact Sees.int (succI hkl (by omega))|exact Sees.own (by simp;rfl)|(show(_,_)=(_,_);exact Prod.ext (by dsimp only;rw[List.length_append,hol];rfl) rfl))
def flipC (c:Chg):Chg:=⟨c.slot,!c.add,c.cell⟩
def flip0 (c:Chg):Chg:=⟨0,!c.add,c.cell⟩
def revM (flows:List Flow)(l:List Chg)(fr:Int):List Chg×Int:=timeM flows (l.reverse.map flip0) fr
theorem timeG_blind {flows:List Flow}:∀(l:List Chg) (t:Int) (out:List Chg),timeG flows t out (l.map flipC)=timeG flows t out (l.map flip0)
 | [],_,_=>rfl
 | c :: l,t,out=>by
  have e:timeN flows out t (flipC c)=timeN flows out t (flip0 c):=rfl
  rw[List.map_cons,List.map_cons,timeG,timeG,e]
  split
  ·rfl
  ·exact timeG_blind l _ _
theorem timeM_blind (flows:List Flow)(l:List Chg)(fr:Int):timeM flows (l.map flipC) fr=timeM flows (l.map flip0) fr:=by
 unfold timeM
 rw[List.length_map,List.length_map,timeG_blind]
theorem chg_stc (b:Bool)(ex:List AV):∀{l:List Chg} {k:Nat} {c:Chg},l[k]? = some c→splice (flatE (l.map Chg.av)++ex) (k*7+1) [.bool b] = flatE ((l.set k ⟨c.slot,b,c.cell⟩).map Chg.av)++ex
 | [],_,_,h=>by cases h
 | d :: l,0,c,h=>by
  rw[List.getElem?_cons_zero]at h
  cases h
  rw[splice_one];rfl
 | d :: l,k+1,c,h=>by
  have ih:=chg_stc b ex (l:=l) (k:=k) (c:=c) (by simpa using h)
  have e:flatE ((d :: l).map Chg.av)++ex=d.av.cells++(flatE (l.map Chg.av)++ex):=by simp[flatE]
  have e2:(k+1)*7+1=d.av.cells.length+(k*7+1):=by show _=7+_;omega
  rw[e,e2,splice_append_left,ih]
  simp[flatE]
def flK (l:List Chg)(k:Nat):List Chg:=(l.take k).map flipC++l.drop k
theorem flK_len (l:List Chg)(k:Nat):(flK l k).length=l.length:=by unfold flK;rw[List.length_append,List.length_map,List.length_take,List.length_drop];omega
theorem flK_at {l:List Chg}{k:Nat}{c:Chg}(h:l[k]? = some c):(flK l k)[k]? = some c:=by
 have hk:=(List.getElem?_eq_some_iff.1 h).1
 unfold flK
 rw[List.getElem?_append_right (by rw[List.length_map,List.length_take];omega),List.length_map,List.length_take,List.getElem?_drop,show k+(k-min k l.length)=k by omega]
 exact h
theorem flK_next {l:List Chg}{k:Nat}{c:Chg}(h:l[k]? = some c):(flK l k).set k (flipC c)=flK l (k+1):=by
 have hk:=(List.getElem?_eq_some_iff.1 h).1
 have hl:((l.take k).map flipC).length=k:=by rw[List.length_map,List.length_take];omega
 unfold flK
 rw[take_succ h,dropC h,List.map_append,List.set_append_right _ _ (by omega),hl,Nat.sub_self,List.append_assoc]
 rfl
theorem ofL_frzm {id k z:Nat}{ds:List AV}:∀l:List (Nat×AV),(fun t=>frzv id k z ds (ofL l t))=ofL (l.map fun p=>(p.1,frzv id k z ds p.2)):=fun l=>by
 funext t
 induction l with
 | nil=>rfl
 | cons p l ih=>
  obtain⟨s,v⟩:=p
  simp only[ofL,List.map_cons]
  split
  ·rfl
  ·exact ih
theorem updo_frzm {id k z:Nat}{ds:List AV}(a:Nat→AV)(d:Option Nat)(v:AV):(fun t=>frzv id k z ds (updo a d v t))=updo (fun t=>frzv id k z ds (a t)) d (frzv id k z ds v):=by
 cases d with
 | none=>rfl
 | some d=>
  funext t
  simp only[updo,upd]
  split<;>rfl
theorem chg_ldf {l:List Chg}{k:Nat}{c:Chg}(ex:List AV)(h:l[k]? = some c)(n o:Nat)(hn:n=7)(ho:o=1):(flatE (l.map Chg.av)++ex)[0+(k:Int).toNat*n+o]? = some (.bool c.add):=by
 subst hn;subst ho
 rw[Nat.zero_add,Int.toNat_natCast,chgOk.ldc ex h 1 (by omega)];rfl
theorem frzv_self (id k z:Nat)(ds:List AV):frzv id k z ds (.vsl id 0 k z)=.sl false ds:=by simp[frzv]
theorem c_ReverseC (flows:List Flow)(hfl:flows.length≤281474976710656)(l:List Chg)(hl:l.length≤1099511627776)(fr:Int):PCall Tryz.prog LW 19 [encFlows flows,encChgs l,.int .i64 fr] (.tup [encChgs (revM flows l fr).1,.int .i64 (revM flows l fr).2]):=by
 have hrl:(l.reverse.map flipC).length=l.length:=by simp
 have hrv:timeM flows (l.reverse.map flipC) fr=revM flows l fr:=timeM_blind ..
 by_cases hne:l=[]
 ·subst hne
  refine PCall.intro mixed [] (nt:=36) Tryz.func19 rfl rfl (by simp) ?_
  refine Wk ?_
  refine cD (c_Clone0Chg LW) ?_
  refine Wk ?_
  refine CallK.inl rfl (ICall.intro mixed [10003] (nt:=28) Tryz.func64 rfl rfl (by simp) ?_)
  refine Wk ?_
  refine LoopK.run mixed [10003] (fun _:Nat=>True) (fun _=>[(2,.int .i64 0),(3,.int .i64 (-1))]) (fun _=>St.none) (fun _=>0) 0 trivial ?_ ?_
  ·refine fN ?_<;>repeat' (first|exact fQ|refine And.intro ?_ ?_ )
  rintro k -
  refine Wk ?_
  refine LoopK.run mixed [] (fun _:Nat=>True) (fun _=>[(0,encFlows flows),(2,.int .i64 fr),(8,encChgs []),(15,.int .i64 0),(16,.int .i64 0)]) (fun _=>St.none) (fun _=>0) 0 trivial ?_ ?_
  ·refine fN ?_<;>repeat' (first|exact fQ|refine And.intro ?_ ?_ )
  rintro k -
  refine Wk ?_
  refine cD (c_TimeC flows hfl [] (by simp) fr) ?_
  refine Wk ?_
  exact resP.mk rfl (Sees.of_eq (by rw[←hrv];rfl))
 refine PCall.intro mixed [8] (nt:=36) Tryz.func19 rfl rfl (by simp) ?_
 refine Wk ?_
 refine CallK.fresh rfl (c_CloneChg LW l hne (by omega)) (by rfl) (chgOk.els _) (chgOk.scal (fun _=>rfl) _) (fun h=>absurd (by simpa using h) hne) (fun d=>?_)
 repeat((conv=>whnf);first|refine sT ?_ )
 try(conv=>whnf)
 rw[List.length_map]
 refine CallK.inl rfl ?_
 refine i_RevChg _ 0 l (List.replicate (d*7) .undef) (by omega) (by rfl) fun S2 hu hb2=>?_
 repeat((conv=>whnf);first|refine sT ?_ )
 try(conv=>whnf)
 refine SeqK.sem mixed [] ?_
 repeat((conv=>whnf);first|refine sT ?_ )
 try(conv=>whnf)
 refine LoopK.runS mixed [] (fun (k:Nat) S3=>k≤l.length∧S3.bx[0]? = some (.cells (flatE ((flK l.reverse k).map Chg.av)++List.replicate (d*7) .undef) 42)) (fun k=>[(0,encFlows flows),(2,.int .i64 fr),(8,.vsl 0 0 l.length 7),(15,.int .i64 l.length),(16,.int .i64 k)]) (fun k=>l.length-k) 0 ⟨by omega,hb2⟩ ?_ ?_
 ·exact⟨Sees.of_eq rfl,Sees.of_eq rfl,Sees.of_eq rfl,Sees.of_eq rfl,Sees.of_eq rfl,trivial⟩
 rintro k S3 ⟨hk,hb3⟩
 by_cases hkl:k < l.length
 rotate_left
 ·have hke:k=l.length:=by omega
  subst hke
  have gk:decide ((l.length:Int) < (l.length:Int))=false:=decide_eq_false (by omega)
  repeat((conv=>whnf);first|refine sT ?_|rw[gk])
  try(conv=>whnf)
  refine SemK.freezeV 0 7 hb3 (fun e he=>?_) ?_
  ·obtain⟨c,_,rfl⟩:=List.mem_map.1 he
   exact⟨c.av.cells,rfl,rfl,rfl⟩
  rw[updo_frzm,ofL_frzm]
  simp only[List.map_cons,List.map_nil]
  rw[show(List.map Chg.av (flK l.reverse l.length)).length=l.length by rw[List.length_map,flK_len,List.length_reverse],frzv_self]
  have hfl2:flK l.reverse l.length=l.reverse.map flipC:=by
   unfold flK
   rw[List.take_of_length_le (by rw[List.length_reverse];omega),List.drop_of_length_le (by rw[List.length_reverse];omega),List.append_nil]
  rw[hfl2]
  refine twC_sound (ct:=[]) mixed _ _ _ _ ?_
  refine Wk ?_
  refine cD (c_TimeC flows hfl (l.reverse.map flipC) (by rw[hrl];omega) fr) ?_
  rw[hrv]
  refine Wk ?_
  exact resP.mk rfl (Sees.of_eq rfl)
 obtain⟨c,hgc⟩:=getLt (l:=l.reverse) (k:=k) (by rw[List.length_reverse];exact hkl)
 have hat:=flK_at hgc
 have hfit:=chgOk.fit1 (l:=flK l.reverse k) (List.replicate (d*7) .undef) (k:=k) (by rw[flK_len,List.length_reverse];exact hkl)
 have gk:decide ((k:Int) < (l.length:Int))=true:=decide_eq_true (by omega)
 repeat((conv=>whnf);first|refine sJ ?_|refine aI (by first|exact trivial|exact⟨by omega,by omega⟩|kernel_rfl) ?_|rw[gk]|rw[hb3])
 try(conv=>whnf)
 rw[chg_ldf _ hat _ _ (by kernel_rfl) (by kernel_rfl)]
 have hft1:0+(k:Int).toNat*7+1+1≤(flatE ((flK l.reverse k).map Chg.av)++List.replicate (d*7) AV.undef).length:=by omega
 repeat((conv=>whnf);first|refine sJ ?_|refine aI (by first|exact trivial|exact⟨by omega,by omega⟩|exact hft1|kernel_rfl) ?_|rw[gk]|rw[hb3])
 try(conv=>whnf)
 refine⟨k+1,⟨by omega,?_⟩,by omega,?_⟩
 ·rw[St.setB_get hb3]
  refine congrArg (fun z=>some (Ob.cells z 42)) ?_
  have:=chg_stc (!c.add) (List.replicate (d*7) AV.undef) hat
  rw[←flK_next hgc]
  show splice (flatE ((flK l.reverse k).map Chg.av)++List.replicate (d*7) AV.undef) (0+(k:Int).toNat*7+1) [.bool (!c.add)] = _
  rw[Nat.zero_add,Int.toNat_natCast,this];rfl
 ·exact⟨Sees.of_eq rfl,Sees.of_eq rfl,Sees.of_eq rfl,Sees.of_eq rfl,Sees.int (succI hkl (by omega)),trivial⟩
theorem c_Reverse42 (flows:List Flow)(hfl:flows.length≤281474976710656)(l:List Chg)(hl:l.length≤1099511627776)(fr:Int):PCall Tryz.prog LW 20 [encFlows flows,encChgs l,.int .i64 fr] (.tup [encChgs (revM flows l fr).1,.int .i64 (revM flows l fr).2]):=by
 refine PCall.intro mixed [] (nt:=39) Tryz.func20 rfl rfl (by simp) ?_
 have hrl:(l.reverse.map flip0).length=l.length:=by simp
 have hw0:IntKind.i64.wrap ((l.length:Int)-1)=(l.length:Int)-1-(0:Nat):=by rw[w64]<;>omega
 repeat((conv=>whnf);first|refine sT ?_|rw[List.length_map]|rw[hw0])
 try(conv=>whnf)
 refine LoopK.run mixed [] (fun (k:Nat)=>k≤l.length) (fun k=>[(0,encFlows flows),(1,encChgs l),(2,.int .i64 fr),(8,.own ((l.reverse.take k).map fun c=>(flip0 c).av) 0),(9,.int .i64 ((l.length:Int)-1-(k:Nat)))]) (fun k=>⟨[],[(k,7)],0,0,fun _=>42⟩) (fun k=>l.length-k) 0 (by omega) ?_ ?_
 ·refine fN ?_<;>repeat' (first|exact fQ|refine And.intro ?_ ?_ )
 rintro k hk
 by_cases hkl:k < l.length
 rotate_left
 ·have hke:k=l.length:=by omega
  subst hke
  have gk:decide ((0:Int)≤(l.length:Int)-1-(l.length:Nat))=false:=decide_eq_false (by omega)
  have htl:(l.reverse.take l.length).map (fun c=>(flip0 c).av)=(l.reverse.map flip0).map Chg.av:=by
   rw[List.take_of_length_le (by rw[List.length_reverse];omega),List.map_map];rfl
  rw[htl]
  repeat((conv=>whnf);first|refine sT ?_|rw[gk])
  try(conv=>whnf)
  refine CallK.data rfl (c_Time42 flows hfl (l.reverse.map flip0) (by rw[hrl];omega) fr) rfl ?_
  refine Wk ?_
  exact resP.mk rfl (Sees.of_eq rfl)
 obtain⟨c,hgc⟩:=getLt (l:=l.reverse) (k:=k) (by rw[List.length_reverse];exact hkl)
 have hgc2:l[l.length-1-k]? = some c:=by rw[←hgc,List.getElem?_reverse hkl]
 have hmc:=getMap (f:=Chg.av) hgc2
 have hni:(l.length:Int)-1-(k:Nat)=((l.length-1-k:Nat):Int):=by omega
 have gk:decide ((0:Int)≤((l.length-1-k:Nat):Int))=true:=decide_eq_true (by omega)
 have hkL:((l.reverse.take k).map fun c=>(flip0 c).av).length=k:=by rw[List.length_map,List.length_take,List.length_reverse];omega
 have hz1:(((l.reverse.take k).map fun c=>(flip0 c).av).length+1)*56≤140737488355328:=by rw[hkL];omega
 have hz2:((l.reverse.take k).map fun c=>(flip0 c).av).length+1≤maxLen:=by rw[hkL];unfold maxLen;omega
 have hz3:some (k,7)=some (((l.reverse.take k).map fun c=>(flip0 c).av).length,6+1):=by rw[hkL]
 rw[hni]
 repeat((conv=>whnf);first|refine sJ ?_|refine aI (by first|exact trivial|exact inbMap (by omega)|exact Els.map (f:=fun c=>(flip0 c).av) (fun _=>⟨rfl,rfl⟩)|exact hz1|exact hz2|exact hz3|kernel_rfl) ?_|rw[gk]|rw[hmc])
 try(conv=>whnf)
 refine⟨k+1,by omega,by omega,?_⟩
 rw[take_succ hgc]
 refine fN ?_<;>repeat' (first|exact fQ|refine And.intro ?_ ?_|exact Sees.int (by rw[w64]<;>omega)|exact Sees.own (by simp;rfl)|(show(_,_)=(_,_);exact Prod.ext (by dsimp only;rw[List.length_append,hkL];rfl) rfl))
end HM
