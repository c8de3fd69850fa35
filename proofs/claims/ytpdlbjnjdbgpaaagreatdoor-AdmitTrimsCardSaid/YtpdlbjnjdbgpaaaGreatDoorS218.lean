/- One cell more: the body of the range over offsets. -/
import Derived.Test.YtpdlbjnjdbgpaaaGreatDoorS217
set_option maxHeartbeats 64000000
set_option maxRecDepth 100000
namespace HM
open Go Go.RowKit Go.Proofs
theorem slotFirst (n:Net)(s:Sched)(l:Link)(id k:Int)(hn:n.small)(hg:GridOk s)(hs:s.cells.length≤1000000)(hz:1≤s.offs∧s.offs≤16)(hk:0≤k∧k≤512):(slotHalf n s l id k hn hg hs hz hk).1.1:=by
 intro Lp hLp
 intro S o K hfit h0 h4 h5 h6 hK
 refine CallK.round mixed [10007] hLp h6 rfl rfl ?_
 clear hLp
 obtain⟨S1,hS1⟩:∃S1,S1=S.inner.put 6 (.loop {Lp with st:=.busy}):=⟨_,rfl⟩
 have hl6:=(List.getElem?_eq_some_iff.1 h6).1
 have q:∀i o,i≠6→S.bx[i]? = some o→S1.bx[i]? = some o:=fun i o hi ho=>by rw[hS1];show(S.bx.set 6 _)[i]? = _;rw[List.getElem?_set_ne (by omega)];exact ho
 have q6:S1.bx[6]? = some (.loop {Lp with st:=.busy}):=by rw[hS1];show(S.bx.set 6 _)[6]? = _;rw[List.getElem?_set_self hl6]
 have a0:=q 0 _ (by decide) h0
 have a4:=q 4 _ (by decide) h4
 have a5:=q 5 _ (by decide) h5
 conv=>whnf
 refine And.intro (by kernel_rfl) ?_
 conv=>whnf
 refine And.intro h6 ?_
 rw[←hS1]
 have hA:∀o,(S1.addB o).bx[S1.bx.length]? = some o:=fun o=>St.addB_get S1 o
 have hA2:∀o o',((S1.addB o).setB S1.bx.length o').bx[S1.bx.length]? = some o':=fun o o'=>St.setB_get (St.addB_get S1 o)
 have hA3:∀i o o' x,S1.bx[i]? = some x→((S1.addB o).setB S1.bx.length o').bx[i]? = some x:=fun i o o' x hx=>by
  have:=(List.getElem?_eq_some_iff.1 hx).1
  rw[St.setB_ne (by omega)];exact St.addB_old hx
 have hA0:=fun o o'=>hA3 0 o o' _ a0
 repeat((conv=>whnf);first|refine sT ?_|rw[hA]|rw[hA2]|rw[hA0])
 try(conv=>whnf)
 obtain⟨c,hc⟩:∃c:Cell,c=⟨k,o,l.src,l.dst,id⟩:=⟨_,rfl⟩
 rw[←hc]at hK
 have hmono:Mono (cellTo c) s.cells:=fun i j x y hij hx hy hlt=>cmpL_trans (sorted_of hg.sorted i j x y hij hx hy) hlt
 refine CallK.data rfl (c_BinCell LW s.cells ⟨k,o,l.src,l.dst,id⟩ 25 (cellTo c) (by omega) rfl hmono (fun x _=>by rw[hc];exact c_acompare LW x _)) rfl ?_
 rw[show posB (cellTo c) s.cells=posC s c from rfl,show hasB (cellTo c) s.cells=hasC s c from rfl]
 have hp:posC s c≤s.cells.length:=posB_le _ _
 repeat((conv=>whnf);first|refine sT ?_ )
 try(conv=>whnf)
 refine SemK.gen (fun S2=>S2.bx[0]? = some (.cells (slG n s (encCells s.cells)) 96)∧S2.bx[4]? = some (.cells slZ 96)∧S2.bx[5]? = some (.cells [.bool false] 4)∧S2.bx[6]? = some (.loop {Lp with st:=.busy})∧S2.bx[S1.bx.length]? = some (.cells c.av.cells 63)) ⟨hA3 0 _ _ _ a0,hA3 4 _ _ _ a4,hA3 5 _ _ _ a5,hA3 6 _ _ _ q6,by rw[hc];exact hA2 _ _⟩ ?_
 rintro S2 ⟨b0,b4,b5,b6,bc⟩
 by_cases hne:s.cells=[]
 ·have hpos:posC s c=0:=by rw[hne]at hp;simpa using hp
  rw[hne]at b0
  rw[hpos]at hK ⊢
  rw[hne]at hK
  have bc2:∀o,(S2.addB o).bx[S1.bx.length]? = some (.cells c.av.cells 63):=fun o=>St.addB_old bc
  have b02:∀x e,(S2.addF x e).bx[0]? = some (.cells (slG n s (encCells [])) 96):=fun x e=>b0
  refine SemK.regionStil mixed [0,1,4,8,9] 6 rfl rfl (by decide) rfl ?_
  iterate 5
   conv=>whnf
   apply exV
   ·intro S K' hh
    refine Wk ?_
    exact hh
  repeat' ((conv=>whnf);first|exact trivial|refine sT ?_|refine And.intro ?_ ?_|rw[b0]|rw[bc]|rw[bc2]|rw[b02]|rw[hb2]|refine CallK.inl rfl (i_CloneCell0 LW _ fun S' v hb2 hf2 he2=>?_)|fail)
  all_goals(conv=>whnf)
  all_goals first|refine CallK.inl rfl (i_InsCell0 LW _ _ c v (he2.addF _ _) (St.addF_get _ _ 0) fun S3 ch2 hb3=>?_)|refine CallK.inl rfl (i_InsCell0 LW _ _ c v he2 (hf2 _ _ (St.addF_get S2 _ 0)) fun S3 ch2 hb3=>?_)|fail
  all_goals
   have u3:S3.bx=S2.bx:=hb3.trans hb2
   have c0:S3.bx[0]? = some (.cells (slG n s (encCells [])) 96):=by rw[u3];exact b0
   have c4:S3.bx[4]? = some (.cells slZ 96):=by rw[u3];exact b4
   have c5:S3.bx[5]? = some (.cells [.bool false] 4):=by rw[u3];exact b5
   have c6:S3.bx[6]? = some (.loop {Lp with st:=.busy}):=by rw[u3];exact b6
   have e0:∀o,(S3.setB 0 o).bx[0]? = some o:=fun o=>St.setB_get c0
   have e4:∀o,(S3.setB 0 o).bx[4]? = some (.cells slZ 96):=fun o=>by rw[St.setB_ne (by decide)];exact c4
   have e5:∀o o',((S3.setB 0 o).setB 4 o').bx[5]? = some (.cells [.bool false] 4):=fun o o'=>by rw[St.setB_ne (by decide),St.setB_ne (by decide)];exact c5
   have e6:∀o o' o'',(((S3.setB 0 o).setB 4 o').setB 5 o'').bx[6]? = some (.loop {Lp with st:=.busy}):=fun o o' o''=>by rw[St.setB_ne (by decide),St.setB_ne (by decide),St.setB_ne (by decide)];exact c6
   have f4:∀o o' o'' d,((((S3.setB 0 o).setB 4 o').setB 5 o'').setB 6 d).bx[4]? = some o':=fun o o' o'' d=>by rw[St.setB_ne (by decide),St.setB_ne (by decide),St.setB_get (e4 _)]
   have f5:∀o o' o'' d,((((S3.setB 0 o).setB 4 o').setB 5 o'').setB 6 d).bx[5]? = some o'':=fun o o' o'' d=>by rw[St.setB_ne (by decide),St.setB_get (e5 _ _)]
   have f6:∀o o' o'' d,((((S3.setB 0 o).setB 4 o').setB 5 o'').setB 6 d).bx[6]? = some d:=fun o o' o'' d=>St.setB_get (e6 _ _ _)
   repeat' ((conv=>whnf);first|exact trivial|refine sJ ?_|refine aI (by first|exact trivial|exact e6 _ _ _|kernel_rfl) ?_|refine And.intro ?_ ?_|rw[c0]|rw[e0]|rw[e4]|rw[e5])
   exact hK _ (.own [c.av] ch2) (f4 _ _ _ _) (f5 _ _ _ _) (f6 _ _ _ _) fun S2 hS2=>rfl
 refine SemK.regionStil mixed [0,1,4,8,9] 6 rfl rfl (by decide) rfl ?_
 iterate 5
  conv=>whnf
  apply exV
  ·intro S K' hh
   refine Wk ?_
   exact hh
 have bc2:∀o,(S2.addB o).bx[S1.bx.length]? = some (.cells c.av.cells 63):=fun o=>St.addB_old bc
 have b02:∀x e,(S2.addF x e).bx[0]? = some (.cells (slG n s (encCells s.cells)) 96):=fun x e=>b0
 repeat' ((conv=>whnf);first|exact trivial|refine sT ?_|refine And.intro ?_ ?_|rw[b0]|rw[bc]|rw[bc2]|rw[b02]|refine CallK.fresh rfl (c_CloneCell LW s.cells hne (by omega)) (by rfl) (cellOk.els _) (cellOk.scal (fun _=>rfl) _) (fun h=>absurd (by simpa using h) hne) (fun d=>?_))
 all_goals(conv=>whnf)
 all_goals refine CallK.inl rfl (i_InsertCellS LW _ _ _ s.cells c (posC s c) d hp (by omega) _ (List.length_map ..) (St.addB_get _ _) (St.addF_get _ _ 0) fun S' b' ex hu hb' hS'=>?_)
 all_goals
  have hlt:=(List.getElem?_eq_some_iff.1 b6).1
  have u:∀i o,S2.bx[i]? = some o→S'.bx[i]? = some o:=fun i o ho=>hu.bx i o (Nat.ne_of_lt (show i < S2.bx.length from(List.getElem?_eq_some_iff.1 ho).1)) (St.addB_old ho)
  have c0:=u 0 _ b0
  have c4:=u 4 _ b4
  have c5:=u 5 _ b5
  have c6:=u 6 _ b6
  have hb7:6 < b':=by
   rcases hb' with rfl|rfl
   ·exact hlt
   ·exact Nat.lt_of_lt_of_le hlt (show S2.bx.length≤(S2.bx++_).length by rw[List.length_append];omega)
  have f8:∀o o' o'' d,((((S'.setB 0 o).setB 4 o').setB 5 o'').setB 6 d).bx[b']? = some (.cells (flatE ((insAt s.cells (posC s c) c).map Cell.av)++ex) 63):=fun o o' o'' d=>by rw[St.setB_ne (by omega),St.setB_ne (by omega),St.setB_ne (by omega),St.setB_ne (by omega)];exact hS'
  have e0:∀o,(S'.setB 0 o).bx[0]? = some o:=fun o=>St.setB_get c0
  have e4:∀o,(S'.setB 0 o).bx[4]? = some (.cells slZ 96):=fun o=>by rw[St.setB_ne (by decide)];exact c4
  have e5:∀o o',((S'.setB 0 o).setB 4 o').bx[5]? = some (.cells [.bool false] 4):=fun o o'=>by rw[St.setB_ne (by decide),St.setB_ne (by decide)];exact c5
  have e6:∀o o' o'',(((S'.setB 0 o).setB 4 o').setB 5 o'').bx[6]? = some (.loop {Lp with st:=.busy}):=fun o o' o''=>by rw[St.setB_ne (by decide),St.setB_ne (by decide),St.setB_ne (by decide)];exact c6
  have f4:∀o o' o'' d,((((S'.setB 0 o).setB 4 o').setB 5 o'').setB 6 d).bx[4]? = some o':=fun o o' o'' d=>by rw[St.setB_ne (by decide),St.setB_ne (by decide),St.setB_get (e4 _)]
  have f5:∀o o' o'' d,((((S'.setB 0 o).setB 4 o').setB 5 o'').setB 6 d).bx[5]? = some o'':=fun o o' o'' d=>by rw[St.setB_ne (by decide),St.setB_get (e5 _ _)]
  have f6:∀o o' o'' d,((((S'.setB 0 o).setB 4 o').setB 5 o'').setB 6 d).bx[6]? = some d:=fun o o' o'' d=>St.setB_get (e6 _ _ _)
  repeat' ((conv=>whnf);first|exact trivial|refine sJ ?_|refine aI (by first|exact trivial|exact e6 _ _ _|kernel_rfl) ?_|refine And.intro ?_ ?_|rw[c0]|rw[e0]|rw[e4]|rw[e5])
  refine hK _ (.vsl b' 0 (s.cells.length+1) 5) (f4 _ _ _ _) (f5 _ _ _ _) (f6 _ _ _ _) fun S2 hS2=>?_
  exact cellOk.fzb (hS2 b' _ (by omega) (f8 _ _ _ _)) (insAt_len _ _ _)
end HM
