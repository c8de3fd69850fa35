/- Admit: the reference. -/
import Derived.Test.YtpdlbjnjdbgpaaaGreatDoorS211
import Derived.Test.YtpdlbjnjdbgpaaaGreatDoorS202
import Derived.Test.YtpdlbjnjdbgpaaaGreatDoorS220
import Derived.Test.YtpdlbjnjdbgpaaaGreatDoorS1
import Derived.Test.YtpdlbjnjdbgpaaaGreatDoorDd
set_option maxHeartbeats 64000000
set_option maxRecDepth 100000
namespace HM
open Go Go.RowKit Go.Proofs
section
variable (L:World→Prop)
def pl41 (s:Sched):List Ob:=[.dead,.cells [.int .i64 s.len,.int .i64 s.offs,encCells s.cells] 30,.dead,.cells [.int .i64 0,.int .i64 0,.nils] 30]
theorem c_admit41 (n:Net)(hn:n.small)(hok:NetOk n)(s:Sched)(hg:GridOk s)(hs:s.cells.length≤512)(hz:1≤s.len∧s.len≤512∧s.offs≤16)(x:Req)(hl:x.routes.length≤2)(hp:1≤x.flow.period∧x.flow.period≤512)(hph:0≤x.flow.phase∧x.flow.phase < x.flow.period)(hfd:1≤x.flow.dead∧x.flow.dead≤512)(hd:s.len % x.flow.period=0)(hr:∀r∈x.routes,(1≤r.length∧r.length≤9)∧HopsOk n r) :
  PCall Tryz.prog L 86 [n.av,s.av,x.av] (.tup [(placeL n x.flow (relN s x.flow) x.routes s).av,.bool (placeA n x.flow (relN s x.flow) x.routes s).isSome]):=by
 obtain⟨N,hN⟩:∃N,N=relN s x.flow:=⟨_,rfl⟩
 have hNl:N≤512:=by rw[hN];exact relN_le hz.2.1 hp.1
 have hlt:=relN_lt hz.1 hp.1 hph hd
 rw[←hN]at hlt ⊢
 refine PCall.intro mixed [1] (nt:=49) Tryz.func86 rfl rfl (by simp) ?_
 refine Wk ?_
 refine SeqK.sem mixed [] ?_
 refine Wk ?_
 refine SemK.freezeB 0 rfl rfl ?_
 refine SemK.freezeB 2 rfl rfl ?_
 refine twC_sound (ct:=[]) mixed _ _ _ _ ?_
 refine Wk ?_
 refine LoopK.run mixed [] (fun st:Nat×Sched×Bool=>st.1≤x.routes.length∧st.2.1.len=s.len∧(st.2.2=true→placeA n x.flow N (x.routes.take st.1) s=some st.2.1∧GridOk st.2.1∧st.2.1.offs=s.offs∧st.2.1.cells.length≤s.cells.length+128*N*st.1)∧(st.2.2=false→placeA n x.flow N (x.routes.take st.1) s=none∧placeL n x.flow N (x.routes.take st.1) s=st.2.1)) (fun st=>[(3,.cptr n.av 0),(4,.ptr 1 0),(5,.cptr x.av 0),(6,.ptr 3 0),(8,.bool st.2.2),(9,.int .i64 st.1)]) (fun st=>⟨pl41 st.2.1,[],0,0,fun _=>0⟩) (fun st=>x.routes.length-st.1) (0,s,true) ⟨by simp,rfl,fun _=>⟨by simp[placeA],hg,rfl,by simp⟩,fun h=>(by cases h)⟩ ?_ ?_
 ·refine fN ?_<;>repeat' (first|exact fQ|refine And.intro ?_ ?_|exact SeesL.rfl' _)
 rintro⟨k,s1,ok⟩ ⟨hk,hlen1,hT,hFa⟩
 dsimp only at hk hlen1 hT hFa ⊢
 by_cases hkl:k < x.routes.length
 rotate_left
 ·have hkn:k=x.routes.length:=by omega
  have g0:decide ((k:Int) < ((x.routes.map encIs).length:Int))=false:=decide_eq_false (by rw[List.length_map];omega)
  rw[hkn,List.take_length]at hT hFa
  cases ok with
  | true=>
   obtain⟨h1,_⟩:=hT rfl
   rw[h1,placeL_some h1]
   repeat((conv=>whnf);first|refine sT ?_|rw[g0])
   try(conv=>whnf)
   exact resP.mk rfl (Sees.of_eq rfl)
  | false=>
   obtain⟨h1,h2⟩:=hFa rfl
   rw[h1,h2]
   repeat((conv=>whnf);first|refine sT ?_|rw[g0])
   try(conv=>whnf)
   exact resP.mk rfl (Sees.of_eq rfl)
 obtain⟨r,hgr⟩:=getLt hkl
 have hmr:=getMap (f:=encIs) hgr
 have g0:decide ((k:Int) < ((x.routes.map encIs).length:Int))=true:=decide_eq_true (by rw[List.length_map];omega)
 obtain⟨hr1,hr2⟩:=hr r (List.mem_of_getElem? hgr)
 have hts:=take_succ hgr
 have hwk:IntKind.i64.wrap ((k:Int)+1)=((k+1:Nat):Int):=by rw[w64]<;>omega
 cases ok with
 | false=>
  obtain⟨h1,h2⟩:=hFa rfl
  have h3:=placeA_none (m:=[r]) h1
  rw[←hts,h2]at h3
  repeat((conv=>whnf);first|refine sT ?_|rw[g0])
  try(conv=>whnf)
  refine LoopK.run mixed [] (fun _:Unit=>True) (fun _=>[(3,.cptr n.av 0),(4,.ptr 1 0),(5,.cptr x.av 0),(6,.ptr 3 0),(8,.bool false),(9,.int .i64 k),(10,.int .i64 x.flow.phase)]) (fun _=>⟨pl41 s1,[],0,0,fun _=>0⟩) (fun _=>0) () trivial ?_ ?_
  ·refine fN ?_<;>repeat' (first|exact fQ|refine And.intro ?_ ?_|exact SeesL.rfl' _)
  rintro⟨⟩ -
  cases g1:decide (x.flow.phase < s1.len) with
  | true=>
   repeat((conv=>whnf);first|refine sT ?_|rw[g1])
   try(conv=>whnf)
   refine⟨(k+1,s1,false),⟨by simp only;omega,hlen1,fun h=>(by cases h),fun _=>h3⟩,by simp only;omega,?_⟩
   refine fN ?_<;>repeat' (first|exact fQ|refine And.intro ?_ ?_|exact SeesL.rfl' _|exact Sees.int hwk)
  | false=>
   repeat((conv=>whnf);first|refine sT ?_|rw[g1])
   try(conv=>whnf)
   refine⟨(k+1,s1,false),⟨by simp only;omega,hlen1,fun h=>(by cases h),fun _=>h3⟩,by simp only;omega,?_⟩
   refine fN ?_<;>repeat' (first|exact fQ|refine And.intro ?_ ?_|exact SeesL.rfl' _|exact Sees.int hwk)
 | true=>
 obtain⟨hpl,hg1,hof1,hc1⟩:=hT rfl
 have happ:=placeA_append n x.flow N r (x.routes.take k) s
 rw[hpl,←hts]at happ
 have happ2:placeA n x.flow N (x.routes.take (k+1)) s=relsA n x.flow r N s1:=happ
 have happ3:=placeL_append n x.flow N r (x.routes.take k) s s1 hpl
 rw[←hts]at happ3
 repeat((conv=>whnf);first|refine sT ?_|rw[g0])
 try(conv=>whnf)
 refine LoopK.run mixed [10008] (fun st:Nat×Sched×Bool=>st.1≤N∧st.2.1.len=s.len∧(st.2.2=true→relsA n x.flow r st.1 s1=some st.2.1∧GridOk st.2.1∧st.2.1.offs=s.offs∧st.2.1.cells.length≤s1.cells.length+128*st.1)∧(st.2.2=false→relsA n x.flow r st.1 s1=none∧relsL n x.flow r st.1 s1=st.2.1)) (fun st=>[(3,.cptr n.av 0),(4,.ptr 1 0),(5,.cptr x.av 0),(6,.ptr 3 0),(8,.bool st.2.2),(9,.int .i64 k),(10,.int .i64 (atA x.flow st.1))]) (fun st=>⟨pl41 st.2.1,[],0,0,fun _=>0⟩) (fun st=>if st.2.2 then N+1-st.1 else 0) (0,s1,true) ⟨by simp,hlen1,fun _=>⟨by simp[relsA],hg1,hof1,by simp⟩,fun h=>(by cases h)⟩ ?_ ?_
 ·refine fN ?_<;>repeat' (first|exact fQ|refine And.intro ?_ ?_|exact SeesL.rfl' _|exact Sees.int (by simp[atA]))
 rintro⟨j,s2,ok⟩ ⟨hj,hlen2,hT2,hF2⟩
 dsimp only at hj hlen2 hT2 hF2 ⊢
 cases ok with
 | false=>
  obtain⟨h1,h2⟩:=hF2 rfl
  have h3:placeA n x.flow N (x.routes.take (k+1)) s=none:=by rw[happ2];exact relsA_none h1 hj
  have h4:placeL n x.flow N (x.routes.take (k+1)) s=s2:=by rw[happ3,relsL_none h1 hj,h2]
  cases g1:decide (atA x.flow j < s2.len) with
  | true=>
   repeat((conv=>whnf);first|refine sT ?_|rw[g1])
   try(conv=>whnf)
   refine⟨(k+1,s2,false),⟨by simp only;omega,hlen2,fun h=>(by cases h),fun _=>⟨h3,h4⟩⟩,by simp only;omega,?_⟩
   refine fN ?_<;>repeat' (first|exact fQ|refine And.intro ?_ ?_|exact SeesL.rfl' _|exact Sees.int hwk)
  | false=>
   repeat((conv=>whnf);first|refine sT ?_|rw[g1])
   try(conv=>whnf)
   refine⟨(k+1,s2,false),⟨by simp only;omega,hlen2,fun h=>(by cases h),fun _=>⟨h3,h4⟩⟩,by simp only;omega,?_⟩
   refine fN ?_<;>repeat' (first|exact fQ|refine And.intro ?_ ?_|exact SeesL.rfl' _|exact Sees.int hwk)
 | true=>
 obtain⟨hrl,hg2,hof2,hc2⟩:=hT2 rfl
 have hat:=atA_le hz.2.1 hp hph j
 have hN2:128*N*k≤128*512*2:=Nat.mul_le_mul (Nat.mul_le_mul (Nat.le_refl _) hNl) (by omega)
 by_cases hjN:j < N
 rotate_left
 ·have hjn:j=N:=by omega
  subst hjn
  have g1:decide (atA x.flow j < s2.len)=false:=decide_eq_false fun h=>by have:=(hlt j).1 (by omega);omega
  rw[hrl]at happ2
  repeat((conv=>whnf);first|refine sT ?_|rw[g1])
  try(conv=>whnf)
  refine⟨(k+1,s2,true),⟨by simp only;omega,hlen2,fun _=>⟨happ2,hg2,hof2,by simp only;rw[Nat.mul_add];omega⟩,fun h=>(by cases h)⟩,by simp only;omega,?_⟩
  refine fN ?_<;>repeat' (first|exact fQ|refine And.intro ?_ ?_|exact SeesL.rfl' _|exact Sees.int hwk)
 have hatl:=(hlt j).2 hjN
 have g1:decide (atA x.flow j < s2.len)=true:=decide_eq_true (by omega)
 have hsz:s2.cells.length≤1000000:=by omega
 have hwa:IntKind.i64.wrap (atA x.flow j+x.flow.period)=atA x.flow (j+1):=by rw[atA_succ,w64 (by omega) (by omega)]
 have hnx:relsA n x.flow r (j+1) s1=(relA n x.flow r (atA x.flow j+x.flow.dead) (r.length-1) s2 (atA x.flow j)).map (·.1):=by rw[relsA,hrl]
 have hnl:relsL n x.flow r (j+1) s1=relL n x.flow r (atA x.flow j+x.flow.dead) (r.length-1) s2 (atA x.flow j):=by rw[relsL,hrl]
 repeat((conv=>whnf);first|refine sT ?_|rw[g1])
 try(conv=>whnf)
 refine SemK.regionFin mixed (fun X=>X.bx[1]? = some (.cells [.int .i64 s2.len,.int .i64 s2.offs,encCells s2.cells] 30)) [0,1,2,3,4,5,6,7,8,9,10,11,12] 3 rfl rfl (by decide) rfl rfl ?_
 iterate 10
  conv=>whnf
  apply exV
  ·rintro S' K' hI hh
   repeat((conv=>whnf);first|refine sJ ?_|refine aI (by first|exact trivial|exact inbMap hkl|kernel_rfl) ?_|rw[hI]|rw[hmr])
   try(conv=>whnf)
   exact hh
 conv=>whnf
 apply exV
 ·rintro S' K' hI hh
  refine Wk ?_
  refine cD (c_serve41 L n hn hok s2 hg2 hsz ⟨by omega,by omega,by omega⟩ x.flow hfd r hr1 hr2 (atA x.flow j) ⟨hat.1,by omega⟩) ?_
  exact hh
 iterate 2
  conv=>whnf
  apply exV
  ·rintro S' K' hI hh
   refine Wk ?_
   exact hh
 conv=>whnf
 repeat' ((conv=>whnf);first|exact trivial|refine sJ ?_|refine aI (by first|exact trivial|exact Or.inr rfl|exact Or.inl rfl|kernel_rfl) ?_|refine And.intro ?_ ?_ )
 all_goals(conv=>whnf)
 all_goals
  cases hra:relA n x.flow r (atA x.flow j+x.flow.dead) (r.length-1) s2 (atA x.flow j) with
  | none=>
   rw[hra]at hnx
   have hll:(relL n x.flow r (atA x.flow j+x.flow.dead) (r.length-1) s2 (atA x.flow j)).len=s.len:=(relL_len ..).trans hlen2
   repeat((conv=>whnf);first|refine sT ?_ )
   try(conv=>whnf)
   refine⟨(j+1,relL n x.flow r (atA x.flow j+x.flow.dead) (r.length-1) s2 (atA x.flow j),false),⟨by simp only;omega,hll,fun h=>(by cases h),fun _=>⟨hnx,hnl⟩⟩,by simp;omega,?_⟩
   refine fN ?_<;>repeat' (first|exact fQ|refine And.intro ?_ ?_|exact SeesL.rfl' _|exact Sees.int hwa)
  | some p=>
   obtain⟨s3,t3⟩:=p
   rw[hra]at hnx
   obtain⟨f1,f2,f3,f4⟩:=relA_ok hok hr2 (by omega) hra hg2
   rw[relL_some hra]
   repeat((conv=>whnf);first|refine sT ?_ )
   try(conv=>whnf)
   refine⟨(j+1,s3,true),⟨by simp only;omega,f2.trans hlen2,fun _=>⟨hnx,f1,f3.trans hof2,by simp only;omega⟩,fun h=>(by cases h)⟩,by simp;omega,?_⟩
   refine fN ?_<;>repeat' (first|exact fQ|refine And.intro ?_ ?_|exact SeesL.rfl' _|exact Sees.int hwa)
end
section
variable (L:World→Prop)
theorem wEls (l:List Req)(x:AV)(hx:x.ncells=7∧x.cells.all AV.isCell=true:=by exact⟨rfl,rfl⟩):Els (6+1) (l.map Req.av++[x]):=fun e he=>by
 rcases List.mem_append.1 he with h|h
 ·exact Els.map (f:=Req.av) (fun _=>⟨rfl,rfl⟩) e h
 ·rw[List.mem_singleton.1 h];exact hx
theorem c_With41 (q:List Req)(x:Req)(hl:q.length≤1000)(hs:q.Pairwise fun a b=>a.flow.id < b.flow.id)(hno:hasQ q x.flow.id=false):PCall Tryz.prog L 85 [encReqs q,x.av] (encReqs (insQ q x)):=by
 refine PCall.intro mixed [] (nt:=47) Tryz.func85 rfl rfl (by simp) ?_
 refine Wk ?_
 refine LoopK.run mixed [] (fun k:Nat=>k≤q.length) (fun k=>[(0,encReqs q),(3,.ptr 0 0),(5,.own ((withQ q x k).map Req.av) 0),(6,.bool (decide (posQ x q < k))),(7,.int .i64 k)]) (fun k=>⟨[.cells x.av.cells 60],[((withQ q x k).length,7)],0,0,fun _=>60⟩) (fun k=>q.length-k) 0 (by omega) ?_ ?_
 ·refine fN ?_<;>repeat' (first|exact fQ|refine And.intro ?_ ?_|exact SeesL.rfl' _|exact Sees.own (by rw[withQ_zero];rfl)|(show(_,_)=(_,_);rw[withQ_zero];rfl))
 rintro k hk
 have hwl:=withQ_len q x k
 by_cases hkl:k < q.length
 ·obtain⟨y,hgy⟩:=getLt hkl
  have hmy:=getMap (f:=Req.av) hgy
  have g0:decide ((k:Int) < ((q.map Req.av).length:Int))=true:=decide_eq_true (by rw[List.length_map];omega)
  have hat:=posQ_at hs hno hgy
  have hsu:=withQ_succ (x:=x) hgy
  rcases Nat.lt_trichotomy k (posQ x q) with h|h|h
  ·have g1:decide (posQ x q < k)=false:=decide_eq_false (by omega)
   have g2:decide (x.flow.id < y.flow.id)=false:=decide_eq_false (by omega)
   have g3:decide (posQ x q < k+1)=false:=decide_eq_false (by omega)
   rw[if_neg (by omega)]at hsu
   rw[g1]
   repeat((conv=>whnf);first|refine sJ ?_|refine aI (by first|exact trivial|exact inbMap hkl|exact Els.map (f:=Req.av) (fun _=>⟨rfl,rfl⟩)|exact Els.of_b rfl|exact wEls _ _|exact(show _*72≤_ by simp only[List.length_map,List.length_cons,List.length_nil];omega)|exact(by simp only[List.length_map,List.length_cons,List.length_nil,maxLen];omega)|exact(show some (_,_)=some (_,_) by simp only[List.length_map])|kernel_rfl) ?_|rw[g0]|rw[g2]|rw[hmy])
   try(conv=>whnf)
   refine⟨k+1,by omega,by omega,?_⟩
   rw[hsu,g3]
   refine fN ?_<;>repeat' (first|exact fQ|refine And.intro ?_ ?_|exact SeesL.rfl' _|exact Sees.int (succI hkl (by omega))|exact Sees.own (by simp only[List.map_append];rfl)|exact Sees.own (by rw[List.append_assoc,List.map_append];rfl)|(show(_,_)=(_,_);simp only[List.length_append,List.length_map,List.length_cons,List.length_nil]))
  ·have g1:decide (posQ x q < k)=false:=decide_eq_false (by omega)
   have g2:decide (x.flow.id < y.flow.id)=true:=decide_eq_true (by omega)
   have g3:decide (posQ x q < k+1)=true:=decide_eq_true (by omega)
   rw[if_pos h]at hsu
   rw[g1]
   repeat((conv=>whnf);first|refine sJ ?_|refine aI (by first|exact trivial|exact inbMap hkl|exact Els.map (f:=Req.av) (fun _=>⟨rfl,rfl⟩)|exact Els.of_b rfl|exact wEls _ _|exact(show _*72≤_ by simp only[List.length_map,List.length_append,List.length_cons,List.length_nil];omega)|exact(by simp only[List.length_map,List.length_append,List.length_cons,List.length_nil,maxLen];omega)|exact(show some (_,_)=some (_,_) by simp only[List.length_map])|kernel_rfl) ?_|rw[g0]|rw[g2]|rw[hmy])
   try(conv=>whnf)
   refine⟨k+1,by omega,by omega,?_⟩
   rw[hsu,g3]
   refine fN ?_<;>repeat' (first|exact fQ|refine And.intro ?_ ?_|exact SeesL.rfl' _|exact Sees.int (succI hkl (by omega))|exact Sees.own (by simp only[List.map_append];rfl)|exact Sees.own (by rw[List.append_assoc,List.map_append];rfl)|(show(_,_)=(_,_);simp only[List.length_append,List.length_map,List.length_cons,List.length_nil]))
  ·have g1:decide (posQ x q < k)=true:=decide_eq_true (by omega)
   have g3:decide (posQ x q < k+1)=true:=decide_eq_true (by omega)
   rw[if_neg (by omega)]at hsu
   rw[g1]
   repeat((conv=>whnf);first|refine sJ ?_|refine aI (by first|exact trivial|exact inbMap hkl|exact Els.map (f:=Req.av) (fun _=>⟨rfl,rfl⟩)|exact Els.of_b rfl|exact wEls _ _|exact(show _*72≤_ by simp only[List.length_map,List.length_cons,List.length_nil];omega)|exact(by simp only[List.length_map,List.length_cons,List.length_nil,maxLen];omega)|exact(show some (_,_)=some (_,_) by simp only[List.length_map])|kernel_rfl) ?_|rw[g0]|rw[hmy])
   try(conv=>whnf)
   refine⟨k+1,by omega,by omega,?_⟩
   rw[hsu,g3]
   refine fN ?_<;>repeat' (first|exact fQ|refine And.intro ?_ ?_|exact SeesL.rfl' _|exact Sees.int (succI hkl (by omega))|exact Sees.own (by simp only[List.map_append];rfl)|exact Sees.own (by rw[List.append_assoc,List.map_append];rfl)|(show(_,_)=(_,_);simp only[List.length_append,List.length_map,List.length_cons,List.length_nil]))
 ·have hkn:k=q.length:=by omega
  subst hkn
  have g0:decide ((q.length:Int) < ((q.map Req.av).length:Int))=false:=decide_eq_false (by rw[List.length_map];omega)
  have he:=withQ_end (q:=q) (x:=x)
  by_cases h:posQ x q < q.length
  ·rw[if_pos h]at he
   rw[decide_eq_true h]
   repeat((conv=>whnf);first|refine sT ?_|rw[g0])
   try(conv=>whnf)
   exact resP.mk rfl (Sees.of_eq (by rw[he];rfl))
  ·rw[if_neg h]at he
   rw[decide_eq_false h]
   repeat((conv=>whnf);first|refine sJ ?_|refine aI (by first|exact trivial|exact Els.map (f:=Req.av) (fun _=>⟨rfl,rfl⟩)|exact Els.of_b rfl|exact wEls _ _|exact(show _*72≤_ by simp only[List.length_map,List.length_cons,List.length_nil];omega)|exact(by simp only[List.length_map,List.length_cons,List.length_nil,maxLen];omega)|exact(show some (_,_)=some (_,_) by simp only[List.length_map])|kernel_rfl) ?_|rw[g0])
   try(conv=>whnf)
   exact resP.mk rfl (Sees.of_eq (by rw[he,encReqs,List.map_append];rfl))
end
section
variable (L:World→Prop)
theorem find_has (q:List Req)(id:Int):decide (0≤findF (flowsQ q) id)=hasQ q id:=by
 unfold findF hasQ flowsQ
 rw[idxF_any,List.any_map];rfl
theorem admM_eq {n:Net}{q:List Req}{s:Sched}{x:Req}(h1:(makeM n q s).2.2=0)(h2:hasQ q x.flow.id=false)(h3:(reqE n (insQ q x)).2=0)(h4:s.len % x.flow.period=0):admM n q s x=match placeA n x.flow (relN s x.flow) x.routes s with
  | none=>(⟨0,0,[]⟩,18)
  | some t=>if 512 < t.cells.length then(⟨0,0,[]⟩,8) else(t,0):=by
 unfold admM
 rw[if_neg (by omega),if_neg (by rw[h2];decide),if_neg (by omega),if_neg (by omega)];rfl
theorem c_Admit41 (n:Net)(hn:n.small)(q:List Req)(hq:q.length≤1099511627776)(hx:∀x∈q,x.small)(s:Sched)(hs:s.cells.length≤281474976710656)(x:Req)(hxs:x.small) :
  PCall Tryz.prog L 41 [n.av,encReqs q,s.av,x.av] (.tup [(admM n q s x).1.av,.int .i64 (admM n q s x).2]):=by
 refine PCall.intro mixed [] (nt:=63) Tryz.func41 rfl rfl (by simp) ?_
 refine Wk ?_
 refine cD (c_Serves38 L n hn q hq hx s hs) ?_
 cases g1:((makeM n q s).2.2==0) with
 | false=>
  have e1:admM n q s x=(⟨0,0,[]⟩,1):=by unfold admM;rw[if_pos (by simpa using g1)]
  rw[e1]
  refine Wk ?_
  exact resP.mk rfl (Sees.of_eq rfl)
 | true=>
 have g1':(makeM n q s).2.2=0:=by simpa using g1
 have hrq:=make_req g1'
 obtain⟨hok,hq16,hreq,hfl⟩:=reqE_ok hrq
 have hv:=make_vok g1'
 have hsz:=sized_bd hv.size
 have hfh:=find_has q x.flow.id
 refine Wk ?_
 refine cD (c_Flows38 L q hq) ?_
 refine Wk ?_
 refine cD (c_Find32 L (flowsQ q) x.flow.id (by simp[flowsQ];omega)) ?_
 cases g2:hasQ q x.flow.id with
 | true=>
  have e1:admM n q s x=(⟨0,0,[]⟩,6):=by unfold admM;rw[if_neg (by omega),if_pos g2]
  rw[e1]
  rw[g2]at hfh
  repeat((conv=>whnf);first|refine sT ?_|rw[hfh])
  try(conv=>whnf)
  exact resP.mk rfl (Sees.of_eq rfl)
 | false=>
 rw[g2]at hfh
 repeat((conv=>whnf);first|refine sT ?_|rw[hfh])
 try(conv=>whnf)
 refine cD (c_With41 L q x (by omega) (ids_sorted hrq) g2) ?_
 refine Wk ?_
 have hil:(insQ q x).length=q.length+1:=insAt_len _ _ _
 refine cD (c_Fault38 L n hn (insQ q x) (by omega) (insQ_small hx hxs)) ?_
 by_cases h3:(reqE n (insQ q x)).2≠0
 ·have g3:((reqE n (insQ q x)).2 != 0)=true:=by simpa using h3
  have e1:admM n q s x=(⟨0,0,[]⟩,1):=by unfold admM;rw[if_neg (by omega),if_neg (by rw[g2];decide),if_pos h3]
  rw[e1]
  repeat((conv=>whnf);first|refine sT ?_|rw[g3])
  try(conv=>whnf)
  exact resP.mk rfl (Sees.of_eq rfl)
 have g3:((reqE n (insQ q x)).2 != 0)=false:=by simpa using h3
 have h3':(reqE n (insQ q x)).2=0:=by omega
 obtain⟨_,_,hreq2,_⟩:=reqE_ok h3'
 have hxo:=hreq2 x (insAt_mem.2 (.inl rfl))
 have hfe:=flowE_ok hxo.flow
 have htm:s.len.tmod x.flow.period=s.len % x.flow.period:=tmod_eq (by omega)
 repeat((conv=>whnf);first|refine sJ ?_|refine aI (by first|exact trivial|exact(show x.flow.period≠0 by omega)|kernel_rfl) ?_|rw[g3]|rw[htm])
 try(conv=>whnf)
 by_cases h4:s.len % x.flow.period≠0
 ·have g4:(s.len % x.flow.period != 0)=true:=by simpa using h4
  have e1:admM n q s x=(⟨0,0,[]⟩,11):=by unfold admM;rw[if_neg (by omega),if_neg (by rw[g2];decide),if_neg h3,if_pos h4]
  rw[e1]
  repeat((conv=>whnf);first|refine sT ?_|rw[g4])
  try(conv=>whnf)
  exact resP.mk rfl (Sees.of_eq rfl)
 have g4:(s.len % x.flow.period != 0)=false:=by simpa using h4
 rw[admM_eq g1' g2 h3' (by omega)]
 have hrt:∀r∈x.routes,(1≤r.length∧r.length≤9)∧HopsOk n r:=fun r hr=>by
  obtain⟨k1,k2,_⟩:=routeF_ok (hxo.route r hr)
  exact⟨⟨by omega,k1.2⟩,k2⟩
 repeat((conv=>whnf);first|refine sT ?_|rw[g4])
 try(conv=>whnf)
 refine cD (c_admit41 L n hn hok s hv.grid hv.many ⟨by omega,by omega,by omega⟩ x hxo.len.2 ⟨by omega,by omega⟩ ⟨by omega,by omega⟩ ⟨by omega,by omega⟩ (by omega) hrt) ?_
 cases hpl:placeA n x.flow (relN s x.flow) x.routes s with
 | none=>
  refine Wk ?_
  exact resP.mk rfl (Sees.of_eq rfl)
 | some t=>
  rw[placeL_some hpl]
  by_cases h5:512 < t.cells.length
  ·have g5:decide ((512:Int) < ((t.cells.map Cell.av).length:Int))=true:=decide_eq_true (by rw[List.length_map];omega)
   repeat((conv=>whnf);first|refine sT ?_|rw[g5])
   try(conv=>whnf)
   exact resP.mk rfl (Sees.of_eq (by simp only[if_pos h5];rfl))
  have g5:decide ((512:Int) < ((t.cells.map Cell.av).length:Int))=false:=decide_eq_false (by rw[List.length_map];omega)
  repeat((conv=>whnf);first|refine sT ?_|rw[g5])
  try(conv=>whnf)
  exact resP.mk rfl (Sees.of_eq (by simp only[if_neg h5];rfl))
end
end HM
