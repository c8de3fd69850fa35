/- slices.Insert into a clone, over any store. -/
import Derived.Test.YtpdlbjnjdbgpaaaGreatDoorS92
import Derived.Test.YtpdlbjnjdbgpaaaGreatDoorDc
import Derived.Test.YtpdlbjnjdbgpaaaGreatDoorFh
import Derived.Test.YtpdlbjnjdbgpaaaGreatDoorS208
set_option maxHeartbeats 64000000
set_option maxRecDepth 100000
namespace HM
open Go Go.RowKit Go.Proofs
section
variable (L:World→Prop)
theorem Upd.setNew {S S1:St}{b k:Nat}(h:Upd S S1 b)(hk:S.bx.length≤k)(o:Ob):Upd S (S1.setB k o) b:=⟨fun id o' hne h1=>by
 have:=(List.getElem?_eq_some_iff.1 h1).1
 rw[St.setB_ne (by omega)];exact h.bx id o' hne h1,h.fr,h.ty⟩
theorem i_InsertCellS (S:St)(b ch:Nat)(l:List Cell)(c:Cell)(p d:Nat){K:AV→St→Prop}(hp:p≤l.length)(hl:l.length≤1048576)(n:Nat)(hn:n=l.length)(hb:S.bx[b]? = some (freshO (l.map Cell.av) 5 d 63))(hch:S.fr[ch]? = some (1,5))
  (hK:∀S' b' ex,Upd S S' b→(b'=b∨b'=S.bx.length)→S'.bx[b']? = some (.cells (flatE ((insAt l p c).map Cell.av)++ex) 63)→K (.vsl b' 0 (l.length+1) 5) S') :
  ICall Tryz.prog L 197 [.vsl b 0 n 5,.int .i64 p,.own [c.av] ch] S K:=by
 subst hn
 refine ICall.intro mixed [] (nt:=95) Tryz.func197 rfl rfl (by simp) ?_
 have hb0:S.inner.bx[b]? = some (freshO (l.map Cell.av) 5 d 63):=hb
 have hF:(flatE (l.map Cell.av)).length=l.length*5:=cellOk.flen l
 have hlen:l.length*5≤(flatE (l.map Cell.av)++List.replicate (d*5) AV.undef).length:=by rw[List.length_append,hF];omega
 repeat((conv=>whnf);first|refine sJ ?_|refine aI (by first|exact(show InC (p:Int) l.length from⟨by omega,by omega⟩)|kernel_rfl) ?_|rw[hb0])
 try(conv=>whnf)
 refine BrK.mk (fun h1=>?_) (fun h1=>?_)<;>(try rw[h1])
 ·have hpn:p=l.length:=by simp at h1;omega
  subst hpn
  have hX:(flatE [c.av]).length=5:=rfl
  repeat((conv=>whnf);first|refine sJ ?_|refine aI (by first|exact⟨rfl,rfl,Els.cons rfl rfl (Els.nil _),Nat.one_pos,(show(l.length+1)*40≤140737488355328 by omega),(show l.length+1≤maxLen by simp only[maxLen];omega),hlen⟩|kernel_rfl) ?_|rw[hb0])
  try(conv=>whnf)
  refine AppK.mk (fun h=>?_) (fun _=>?_)
  ·repeat((conv=>whnf);first|refine sT ?_|rw[hb0])
   try(conv=>whnf)
   have e:splice (flatE (l.map Cell.av)++List.replicate (d*5) AV.undef) (l.length*5) (flatE [c.av])=flatE ((insAt l l.length c).map Cell.av)++(List.replicate (d*5) AV.undef).drop 5:=by
    have h':(l.length+1)*5≤(flatE (l.map Cell.av)++List.replicate (d*5) AV.undef).length:=h
    rw[List.length_append,hF]at h'
    rw[splice_eq _ _ _ (by rw[List.length_append,hF,hX];omega),ins_cells,List.take_length,List.drop_length,←hF,List.take_left,hX,List.drop_append,List.drop_eq_nil_of_le (by omega),show(flatE (l.map Cell.av)).length+5-(flatE (l.map Cell.av)).length=5 by omega]
    simp[flatE]
   refine hK _ b ((List.replicate (d*5) AV.undef).drop 5) ?_ (.inl rfl) ?_
   ·exact⟨((Upd.refl S b).setB _).bx,rfl,rfl⟩
   ·rw[←e];exact St.setB_get hb
  ·intro d'
   repeat((conv=>whnf);first|refine sT ?_|rw[hb0])
   try(conv=>whnf)
   have e:List.take (l.length*5) (flatE (l.map Cell.av)++List.replicate (d*5) AV.undef)++flatE [c.av] = flatE ((insAt l l.length c).map Cell.av):=by
    rw[ins_cells,List.take_length,List.drop_length,←hF,List.take_left]
    simp[flatE]
   refine hK _ S.bx.length (List.replicate (d'*5) AV.undef) ?_ (.inr rfl) ?_
   ·exact⟨((Upd.refl S b).addB _).bx,rfl,rfl⟩
   ·rw[←e];exact St.addB_get S _
 ·have hpn:p < l.length:=by simp at h1;omega
  have hd:(flatE (l.map Cell.av)++List.replicate (d*5) AV.undef).length=(l.length+d)*5:=by rw[List.length_append,hF,List.length_replicate];omega
  repeat((conv=>whnf);first|refine sT ?_|rw[hb0])
  try(conv=>whnf)
  intro c0 hc0
  have hc0':c0=l.length+d:=by rw[hd]at hc0;omega
  subst hc0'
  have hw:IntKind.i64.wrap ((l.length:Int)+([c.av].length:Int))=((l.length+1:Nat):Int):=by rw[w64]<;>simp<;>omega
  repeat((conv=>whnf);first|refine sT ?_|rw[hb0])
  try(conv=>whnf)
  rw[hw]
  have hbl:b < S.inner.bx.length:=(List.getElem?_eq_some_iff.1 hb0).1
  have hN:∀o,(S.inner.addB o).bx[S.inner.bx.length]? = some o:=fun o=>St.addB_get _ o
  have hN2:∀o o',((S.inner.addB o).setB S.inner.bx.length o').bx[S.inner.bx.length]? = some o':=fun o o'=>St.setB_get (St.addB_get _ o)
  have hO:∀o,(S.inner.addB o).bx[b]? = some (freshO (l.map Cell.av) 5 d 63):=fun o=>St.addB_old hb0
  have hO2:∀o o',((S.inner.addB o).setB S.inner.bx.length o').bx[b]? = some (freshO (l.map Cell.av) 5 d 63):=fun o o'=>by
   rw[St.setB_ne (by omega)];exact St.addB_old hb0
  have hB1:∀o,(S.inner.setB b o).bx[b]? = some o:=fun o=>St.setB_get hb0
  have hfl:∀(T:St) (i:Nat),(T.flush []).bx[i]? = T.bx[i]?:=fun T i=>by simp[St.flush]
  have hN2f:∀o o',(((S.inner.addB o).setB S.inner.bx.length o').flush []).bx[S.inner.bx.length]? = some o':=fun o o'=>by rw[hfl];exact hN2 o o'
  have hO2f:∀o o',(((S.inner.addB o).setB S.inner.bx.length o').flush []).bx[b]? = some (freshO (l.map Cell.av) 5 d 63):=fun o o'=>by rw[hfl];exact hO2 o o'
  have hB1f:∀o,((S.inner.setB b o).flush []).bx[b]? = some o:=fun o=>by rw[hfl];exact hB1 o
  have hbf:(S.inner.flush []).bx[b]? = some (freshO (l.map Cell.av) 5 d 63):=by rw[hfl];exact hb0
  have hB1g:∀o,(((S.inner.flush []).setB b o).flush []).bx[b]? = some o:=fun o=>by rw[hfl];exact St.setB_get hbf
  have hup:∀k:Nat,0+k*5≤(flatE (l.map Cell.av)++List.replicate (d*5) AV.undef).length→upTo? S.inner b 0 5 k:=fun k hk=>by
   unfold upTo?
   rw[hb0]
   exact⟨hk,by decide⟩
  refine BrK.mk (fun h2=>?_) (fun h2=>?_)<;>(try rw[h2])
  ·have hd0:d=0:=by simp at h2;omega
   subst hd0
   have hw2:IntKind.i64.wrap (((l.length+1:Nat):Int)-(p:Int))=((l.length+1-p:Nat):Int):=by rw[w64]<;>omega
   have hd2:(flatE (l.map Cell.av)++List.replicate (0*5) AV.undef).length=l.length*5:=by rw[hd];omega
   have hmul:p*5≤l.length*5:=Nat.mul_le_mul_right _ hp
   repeat((conv=>whnf);first|refine sJ ?_|refine aI (by first|exact⟨by omega,hup _ (by rw[hd2,Int.toNat_natCast];omega)⟩|kernel_rfl) ?_|rw[hw]|rw[hw2]|rw[hb0]|rw[hN]|rw[hO]|rw[hN2]|rw[hO2]|rw[hB1]|rw[hN2f]|rw[hO2f]|rw[hB1f]|rw[hbf])
   try(conv=>whnf)
   refine And.intro ?_ ?_
   ·refine⟨rfl,rfl,(by omega),?_,?_,?_,?_⟩
    ·exact(show(((p:Int).toNat:Int)+((l.length+1-p:Nat):Int))*((40:Nat):Int)≤140737488355328 by rw[Int.toNat_natCast];omega)
    ·rw[Int.toNat_natCast];omega
    ·exact(show p*5≤_ by rw[hd2];exact hmul)
    ·rw[hd2,Int.toNat_natCast,Int.toNat_natCast];exact(show _ < (p+(l.length+1-p))*5 by omega)
   intro d'
   rw[Int.toNat_natCast,Int.toNat_natCast,show p+(l.length+1-p)=l.length+1 by omega]
   repeat((conv=>whnf);first|refine sJ ?_|refine aI (by first|exact(show InC (p:Int) (l.length+1) from⟨by omega,by omega⟩)|kernel_rfl) ?_|rw[hw]|rw[hw2]|rw[hb0]|rw[hN]|rw[hO]|rw[hN2]|rw[hO2]|rw[hB1]|rw[hN2f]|rw[hO2f]|rw[hB1f]|rw[hbf])
   try(conv=>whnf)
   have hmin:min [c.av].length (l.length+1-(p:Int).toNat)=1:=by rw[Int.toNat_natCast];simp;omega
   have hU:flatE (l.map Cell.av)++List.replicate (0*5) AV.undef=flatE (l.map Cell.av):=by simp
   have hA:(flatE ((l.take p).map Cell.av)).length=p*5:=by rw[cellOk.flen,List.length_take,Nat.min_eq_left hp]
   have hB:(flatE ((l.drop p).map Cell.av)).length=(l.length-p)*5:=by rw[cellOk.flen,List.length_drop]
   have hX:c.av.cells.length=5:=rfl
   obtain⟨zs,hzs⟩:∃zs:List AV,zs=[.int .i64 0,.int .i64 0,.int .i64 0,.int .i64 0,.int .i64 0]:=⟨_,rfl⟩
   have hZ:(repL (l.length+1-p) zs).length=(l.length+1-p)*5:=by rw[repL_len,hzs];rfl
   have eA:List.take (p*5) (flatE (l.map Cell.av)++List.replicate (0*5) AV.undef)=flatE ((l.take p).map Cell.av):=by rw[hU,cut_cells l p,←hA,List.take_left]
   have eB:List.take ((l.length-p)*5) (List.drop (p*5) (flatE (l.map Cell.av)++List.replicate (0*5) AV.undef))=flatE ((l.drop p).map Cell.av):=by rw[hU,cut_cells l p,←hA,List.drop_left,←hB,List.take_length]
   have hmin2:min (l.length-p) (l.length+1-(p+1))=l.length-p:=by omega
   have hw3:IntKind.i64.wrap ((p:Int)+([c.av].length:Int))=((p+1:Nat):Int):=by rw[w64]<;>simp<;>omega
   rw[hmin]
   refine And.intro ⟨rfl,rfl,?_⟩ ?_
   ·refine(show 0+p*5+5≤(List.take (p*5) (flatE (l.map Cell.av)++List.replicate (0*5) AV.undef)++repL (l.length+1-p) [.int .i64 0,.int .i64 0,.int .i64 0,.int .i64 0,.int .i64 0]++List.replicate (d'*5) AV.undef).length from ?_)
    rw[eA,←hzs]
    simp only[List.length_append,hA,hZ,List.length_replicate]
    omega
   repeat((conv=>whnf);first|refine sJ ?_|refine aI (by first|exact(show InC ((p+1:Nat):Int) (l.length+1) from⟨by omega,by omega⟩)|exact(show InC (p:Int) l.length from⟨by omega,by omega⟩)|exact trivial|kernel_rfl) ?_|rw[hw3]|rw[hb0]|rw[hN]|rw[hO]|rw[hN2]|rw[hO2]|rw[hB1]|rw[hN2f]|rw[hO2f]|rw[hB1f]|rw[hbf])
   try(conv=>whnf)
   rw[show min (l.length-(p:Int).toNat) (l.length+1-((p+1:Nat):Int).toNat)=l.length-p from hmin2]
   have hT:0+p*5+c.av.cells.length≤(List.take (p*5) (flatE (l.map Cell.av)++List.replicate (0*5) AV.undef)++repL (l.length+1-p) zs++List.replicate (d'*5) AV.undef).length:=by
    rw[eA,hX]
    simp only[List.length_append,hA,hZ,List.length_replicate]
    omega
   conv in (srcCells _ _ _ _)=>whnf
   first|rw[hO2f]|rw[hbf]
   conv=>whnf
   refine And.intro ⟨?_,?_,?_⟩ ?_
   ·exact(show(List.take ((l.length-p)*5) (List.drop (0+p*5) (flatE (l.map Cell.av)++List.replicate (0*5) AV.undef))).length=(l.length-p)*5 by rw[Nat.zero_add,eB,hB])
   ·exact(show(List.take ((l.length-p)*5) (List.drop (0+p*5) (flatE (l.map Cell.av)++List.replicate (0*5) AV.undef))).all AV.isCell=true by rw[Nat.zero_add,eB];exact flatE_cell (cellOk.els _))
   ·refine(show 0+(p+1)*5+(List.take ((l.length-p)*5) (List.drop (0+p*5) (flatE (l.map Cell.av)++List.replicate (0*5) AV.undef))).length≤(splice (List.take (p*5) (flatE (l.map Cell.av)++List.replicate (0*5) AV.undef)++repL (l.length+1-p) [.int .i64 0,.int .i64 0,.int .i64 0,.int .i64 0,.int .i64 0]++List.replicate (d'*5) AV.undef) (0+p*5) c.av.cells).length from ?_)
    rw[←hzs,splice_len hT,Nat.zero_add (p*5),eB,hB,eA]
    simp only[List.length_append,hA,hZ,List.length_replicate]
    omega
   repeat((conv=>whnf);first|refine sT ?_|rw[hb0]|rw[hN]|rw[hO]|rw[hN2]|rw[hO2]|rw[hB1]|rw[hN2f]|rw[hO2f]|rw[hB1f]|rw[hbf])
   try(conv=>whnf)
   have e:splice (splice (List.take (p*5) (flatE (l.map Cell.av)++List.replicate (0*5) AV.undef)++repL (l.length+1-p) [.int .i64 0,.int .i64 0,.int .i64 0,.int .i64 0,.int .i64 0]++List.replicate (d'*5) AV.undef) (0+p*5) c.av.cells) (0+(p+1)*5) (List.take ((l.length-p)*5) (List.drop (0+p*5) (flatE (l.map Cell.av)++List.replicate (0*5) AV.undef)))=flatE ((insAt l p c).map Cell.av)++List.replicate (d'*5) AV.undef:=by
    rw[←hzs,Nat.zero_add,Nat.zero_add,eA,eB,ins_cells,show(p+1)*5=p*5+5 by omega]
    have ig:=ins_grow (A:=flatE ((l.take p).map Cell.av)) (B:=flatE ((l.drop p).map Cell.av)) (Z:=repL (l.length+1-p) zs) (U:=List.replicate (d'*5) AV.undef) (X:=c.av.cells) (by rw[hZ,hX,hB];omega)
    rw[hA,hX]at ig
    exact ig
   refine hK _ S.bx.length (List.replicate (d'*5) AV.undef) ?_ (.inr rfl) ?_
   ·exact Upd.mk ((((Upd.refl S b).addB _).setNew (Nat.le_refl _) _).setNew (Nat.le_refl _) _).bx rfl rfl
   ·rw[←e];exact St.setB_get (St.setB_get (St.addB_get S _))
  ·have hd1:1≤d:=by simp at h2;omega
   have hU:5≤(List.replicate (d*5) AV.undef).length:=by rw[List.length_replicate];omega
   have hA:(flatE ((l.take p).map Cell.av)).length=p*5:=by rw[cellOk.flen,List.length_take,Nat.min_eq_left hp]
   have hB:(flatE ((l.drop p).map Cell.av)).length=(l.length-p)*5:=by rw[cellOk.flen,List.length_drop]
   have hX:c.av.cells.length=5:=rfl
   have eB:List.take ((l.length-p)*5) (List.drop (p*5) (flatE (l.map Cell.av)++List.replicate (d*5) AV.undef))=flatE ((l.drop p).map Cell.av):=by rw[cut_cells l p,List.append_assoc,←hA,List.drop_left,←hB,List.take_left]
   have hw3:IntKind.i64.wrap ((p:Int)+([c.av].length:Int))=((p+1:Nat):Int):=by rw[w64]<;>simp<;>omega
   have hmin2:min (l.length+1-p) (l.length+1-(p+1))=l.length-p:=by omega
   repeat((conv=>whnf);first|refine sJ ?_|refine aI (by first|exact⟨by omega,hup _ (by rw[hd];omega)⟩|kernel_rfl) ?_|rw[hw]|rw[hb0]|rw[hN]|rw[hO]|rw[hN2]|rw[hO2]|rw[hB1]|rw[hN2f]|rw[hO2f]|rw[hB1f]|rw[hbf])
   try(conv=>whnf)
   rw[show(((l.length+1:Nat):Int)).toNat=l.length+1 from rfl]
   repeat((conv=>whnf);first|refine sJ ?_|refine aI (by first|exact(show InC ((p+1:Nat):Int) (l.length+1) from⟨by omega,by omega⟩)|kernel_rfl) ?_|rw[hw3]|rw[hb0]|rw[hN]|rw[hO]|rw[hN2]|rw[hO2]|rw[hB1]|rw[hN2f]|rw[hO2f]|rw[hB1f]|rw[hbf])
   try(conv=>whnf)
   refine CallK.apart (es:=[c.av]) (ch:=ch) (e:=63) (t:=28) (tR:=4) Tryz.func217 (by kernel_rfl) (by kernel_rfl) (by kernel_rfl) (by kernel_rfl) rfl (sz:=5) rfl (by exact hch) (by simp) ?_ (by decide) ?_
   ·exact(show 0 < l.length+1-(p+1) by omega)
   repeat((conv=>whnf);first|refine sJ ?_|refine aI (by first|exact(show InC ((p+1:Nat):Int) (l.length+1) from⟨by omega,by omega⟩)|exact(show InC (p:Int) (l.length+1) from⟨by omega,by omega⟩)|exact trivial|kernel_rfl) ?_|rw[hw3]|rw[hb0]|rw[hN]|rw[hO]|rw[hN2]|rw[hO2]|rw[hB1]|rw[hN2f]|rw[hO2f]|rw[hB1f]|rw[hbf])
   try(conv=>whnf)
   have hd3:(flatE (l.map Cell.av)++List.replicate (d*5) AV.undef).length=l.length*5+d*5:=by rw[hd];omega
   have hpl:(l.length-p)*5+p*5=l.length*5:=by rw[←Nat.add_mul,Nat.sub_add_cancel hp]
   rw[show min (l.length+1-(p:Int).toNat) (l.length+1-((p+1:Nat):Int).toNat)=l.length-p from hmin2]
   have hT:0+(p+1)*5+(List.take ((l.length-p)*5) (List.drop (0+p*5) (flatE (l.map Cell.av)++List.replicate (d*5) AV.undef))).length≤(flatE (l.map Cell.av)++List.replicate (d*5) AV.undef).length:=by
    rw[Nat.zero_add (p*5),eB,hB,hd3];omega
   conv in (srcCells _ _ _ _)=>whnf
   first|rw[hO2f]|rw[hbf]
   conv=>whnf
   refine And.intro ⟨?_,?_,hT⟩ ?_
   ·exact(show(List.take ((l.length-p)*5) (List.drop (0+p*5) (flatE (l.map Cell.av)++List.replicate (d*5) AV.undef))).length=(l.length-p)*5 by rw[Nat.zero_add,eB,hB])
   ·exact(show(List.take ((l.length-p)*5) (List.drop (0+p*5) (flatE (l.map Cell.av)++List.replicate (d*5) AV.undef))).all AV.isCell=true by rw[Nat.zero_add,eB];exact flatE_cell (cellOk.els _))
   have hmin:min [c.av].length (l.length+1-(p:Int).toNat)=1:=by rw[Int.toNat_natCast];simp;omega
   repeat((conv=>whnf);first|refine sJ ?_|refine aI (by first|exact(show InC (p:Int) (l.length+1) from⟨by omega,by omega⟩)|kernel_rfl) ?_|rw[hb0]|rw[hN]|rw[hO]|rw[hN2]|rw[hO2]|rw[hB1]|rw[hN2f]|rw[hO2f]|rw[hB1f]|rw[hbf])
   try(conv=>whnf)
   rw[hmin]
   rw[hB1g]
   conv=>whnf
   refine And.intro ⟨rfl,rfl,?_⟩ ?_
   ·refine(show 0+p*5+5≤(splice (flatE (l.map Cell.av)++List.replicate (d*5) AV.undef) (0+(p+1)*5) (List.take ((l.length-p)*5) (List.drop (0+p*5) (flatE (l.map Cell.av)++List.replicate (d*5) AV.undef)))).length from ?_)
    rw[splice_len hT,hd3];omega
   repeat((conv=>whnf);first|refine sT ?_|rw[hb0]|rw[hN]|rw[hO]|rw[hN2]|rw[hO2]|rw[hB1]|rw[hN2f]|rw[hO2f]|rw[hB1f]|rw[hbf])
   try(conv=>whnf)
   have e:splice (splice (flatE (l.map Cell.av)++List.replicate (d*5) AV.undef) (0+(p+1)*5) (List.take ((l.length-p)*5) (List.drop (0+p*5) (flatE (l.map Cell.av)++List.replicate (d*5) AV.undef)))) (0+p*5) c.av.cells=flatE ((insAt l p c).map Cell.av)++(List.replicate (d*5) AV.undef).drop 5:=by
    rw[Nat.zero_add,Nat.zero_add,eB,ins_cells,show(p+1)*5=p*5+5 by omega,cut_cells l p]
    have ig:=ins_room (A:=flatE ((l.take p).map Cell.av)) (B:=flatE ((l.drop p).map Cell.av)) (U:=List.replicate (d*5) AV.undef) (X:=c.av.cells) (by rw[hX];exact hU)
    rw[hA,hX]at ig
    exact ig
   refine hK _ b ((List.replicate (d*5) AV.undef).drop 5) ?_ (.inl rfl) ?_
   ·exact Upd.mk (((Upd.refl S b).setB _).setB _).bx rfl rfl
   ·rw[←e];exact St.setB_get (St.setB_get hb)
end
theorem reqOk:EncOk Req.av 7:=⟨fun _=>rfl,fun _=>rfl,fun _=>rfl,fun _=>rfl,by decide⟩
theorem ins_reqs (l:List Req)(p:Nat)(c:Req):flatE ((insAt l p c).map Req.av)=flatE ((l.take p).map Req.av)++c.av.cells++flatE ((l.drop p).map Req.av):=by
 simp[flatE,insAt]
theorem cut_reqs (l:List Req)(p:Nat):flatE (l.map Req.av)=flatE ((l.take p).map Req.av)++flatE ((l.drop p).map Req.av):=by
 conv=>lhs;rw[←List.take_append_drop p l]
 simp only[flatE,List.map_append,List.flatMap_append]
section
variable (L:World→Prop)
theorem i_CloneReqS (S:St)(l:List Req)(hne:l≠[])(hl:l.length≤1048576){K:AV→St→Prop}(hK:∀d,K (.vsl S.bx.length 0 l.length 7) (S.addB (freshO (l.map Req.av) 7 d 60))) :
  ICall Tryz.prog L 103 [encReqs l] S K:=by
 refine ICall.intro mixed [3] (nt:=8) Tryz.func103 rfl rfl (by simp) ?_
 refine Wk ?_
 refine SeqK.sem mixed [] ?_
 refine Wk ?_
 refine BrK.mk (fun h=>?_) (fun h=>?_)<;>(try rw[h])
 ·exact absurd (by simpa using h) hne
 refine Wk ?_
 refine(SeqK.semk mixed [] (SemK.regionT rfl ?_)).out
 refine Wk ?_
 refine And.intro ⟨rfl,reqOk.els _,(by rw[List.length_map];exact List.length_pos_iff.2 hne),(show _*72≤_ by simp only[List.length_map];omega),(by simp only[List.length_map,maxLen];omega)⟩ fun d=>?_
 refine Wk ?_
 have hKd:=hK d
 rw[show l.length=(l.map Req.av).length from(List.length_map ..).symm]at hKd
 exact hKd
theorem i_InsertReqS (S:St)(b ch:Nat)(l:List Req)(c:Req)(p d:Nat){K:AV→St→Prop}(hp:p≤l.length)(hl:l.length≤1048576)(n:Nat)(hn:n=l.length)(hb:S.bx[b]? = some (freshO (l.map Req.av) 7 d 60))(hch:S.fr[ch]? = some (1,7))
  (hK:∀S' b' ex,Upd S S' b→(b'=b∨b'=S.bx.length)→S'.bx[b']? = some (.cells (flatE ((insAt l p c).map Req.av)++ex) 60)→K (.vsl b' 0 (l.length+1) 7) S') :
  ICall Tryz.prog L 102 [.vsl b 0 n 7,.int .i64 p,.own [c.av] ch] S K:=by
 subst hn
 refine ICall.intro mixed [] (nt:=95) Tryz.func102 rfl rfl (by simp) ?_
 have hb0:S.inner.bx[b]? = some (freshO (l.map Req.av) 7 d 60):=hb
 have hF:(flatE (l.map Req.av)).length=l.length*7:=reqOk.flen l
 have hlen:l.length*7≤(flatE (l.map Req.av)++List.replicate (d*7) AV.undef).length:=by rw[List.length_append,hF];omega
 repeat((conv=>whnf);first|refine sJ ?_|refine aI (by first|exact(show InC (p:Int) l.length from⟨by omega,by omega⟩)|kernel_rfl) ?_|rw[hb0])
 try(conv=>whnf)
 refine BrK.mk (fun h1=>?_) (fun h1=>?_)<;>(try rw[h1])
 ·have hpn:p=l.length:=by simp at h1;omega
  subst hpn
  have hX:(flatE [c.av]).length=7:=rfl
  repeat((conv=>whnf);first|refine sJ ?_|refine aI (by first|exact⟨rfl,rfl,Els.cons rfl rfl (Els.nil _),Nat.one_pos,(show(l.length+1)*72≤140737488355328 by omega),(show l.length+1≤maxLen by simp only[maxLen];omega),hlen⟩|kernel_rfl) ?_|rw[hb0])
  try(conv=>whnf)
  refine AppK.mk (fun h=>?_) (fun _=>?_)
  ·repeat((conv=>whnf);first|refine sT ?_|rw[hb0])
   try(conv=>whnf)
   have e:splice (flatE (l.map Req.av)++List.replicate (d*7) AV.undef) (l.length*7) (flatE [c.av])=flatE ((insAt l l.length c).map Req.av)++(List.replicate (d*7) AV.undef).drop 7:=by
    have h':(l.length+1)*7≤(flatE (l.map Req.av)++List.replicate (d*7) AV.undef).length:=h
    rw[List.length_append,hF]at h'
    rw[splice_eq _ _ _ (by rw[List.length_append,hF,hX];omega),ins_reqs,List.take_length,List.drop_length,←hF,List.take_left,hX,List.drop_append,List.drop_eq_nil_of_le (by omega),show(flatE (l.map Req.av)).length+7-(flatE (l.map Req.av)).length=7 by omega]
    simp[flatE]
   refine hK _ b ((List.replicate (d*7) AV.undef).drop 7) ?_ (.inl rfl) ?_
   ·exact⟨((Upd.refl S b).setB _).bx,rfl,rfl⟩
   ·rw[←e];exact St.setB_get hb
  ·intro d'
   repeat((conv=>whnf);first|refine sT ?_|rw[hb0])
   try(conv=>whnf)
   have e:List.take (l.length*7) (flatE (l.map Req.av)++List.replicate (d*7) AV.undef)++flatE [c.av] = flatE ((insAt l l.length c).map Req.av):=by
    rw[ins_reqs,List.take_length,List.drop_length,←hF,List.take_left]
    simp[flatE]
   refine hK _ S.bx.length (List.replicate (d'*7) AV.undef) ?_ (.inr rfl) ?_
   ·exact⟨((Upd.refl S b).addB _).bx,rfl,rfl⟩
   ·rw[←e];exact St.addB_get S _
 ·have hpn:p < l.length:=by simp at h1;omega
  have hd:(flatE (l.map Req.av)++List.replicate (d*7) AV.undef).length=(l.length+d)*7:=by rw[List.length_append,hF,List.length_replicate];omega
  repeat((conv=>whnf);first|refine sT ?_|rw[hb0])
  try(conv=>whnf)
  intro c0 hc0
  have hc0':c0=l.length+d:=by rw[hd]at hc0;omega
  subst hc0'
  have hw:IntKind.i64.wrap ((l.length:Int)+([c.av].length:Int))=((l.length+1:Nat):Int):=by rw[w64]<;>simp<;>omega
  repeat((conv=>whnf);first|refine sT ?_|rw[hb0])
  try(conv=>whnf)
  rw[hw]
  have hbl:b < S.inner.bx.length:=(List.getElem?_eq_some_iff.1 hb0).1
  have hN:∀o,(S.inner.addB o).bx[S.inner.bx.length]? = some o:=fun o=>St.addB_get _ o
  have hN2:∀o o',((S.inner.addB o).setB S.inner.bx.length o').bx[S.inner.bx.length]? = some o':=fun o o'=>St.setB_get (St.addB_get _ o)
  have hO:∀o,(S.inner.addB o).bx[b]? = some (freshO (l.map Req.av) 7 d 60):=fun o=>St.addB_old hb0
  have hO2:∀o o',((S.inner.addB o).setB S.inner.bx.length o').bx[b]? = some (freshO (l.map Req.av) 7 d 60):=fun o o'=>by
   rw[St.setB_ne (by omega)];exact St.addB_old hb0
  have hB1:∀o,(S.inner.setB b o).bx[b]? = some o:=fun o=>St.setB_get hb0
  have hfl:∀(T:St) (i:Nat),(T.flush []).bx[i]? = T.bx[i]?:=fun T i=>by simp[St.flush]
  have hN2f:∀o o',(((S.inner.addB o).setB S.inner.bx.length o').flush []).bx[S.inner.bx.length]? = some o':=fun o o'=>by rw[hfl];exact hN2 o o'
  have hO2f:∀o o',(((S.inner.addB o).setB S.inner.bx.length o').flush []).bx[b]? = some (freshO (l.map Req.av) 7 d 60):=fun o o'=>by rw[hfl];exact hO2 o o'
  have hB1f:∀o,((S.inner.setB b o).flush []).bx[b]? = some o:=fun o=>by rw[hfl];exact hB1 o
  have hbf:(S.inner.flush []).bx[b]? = some (freshO (l.map Req.av) 7 d 60):=by rw[hfl];exact hb0
  have hB1g:∀o,(((S.inner.flush []).setB b o).flush []).bx[b]? = some o:=fun o=>by rw[hfl];exact St.setB_get hbf
  have hup:∀k:Nat,0+k*7≤(flatE (l.map Req.av)++List.replicate (d*7) AV.undef).length→upTo? S.inner b 0 7 k:=fun k hk=>by
   unfold upTo?
   rw[hb0]
   exact⟨hk,by decide⟩
  refine BrK.mk (fun h2=>?_) (fun h2=>?_)<;>(try rw[h2])
  ·have hd0:d=0:=by simp at h2;omega
   subst hd0
   have hw2:IntKind.i64.wrap (((l.length+1:Nat):Int)-(p:Int))=((l.length+1-p:Nat):Int):=by rw[w64]<;>omega
   have hd2:(flatE (l.map Req.av)++List.replicate (0*7) AV.undef).length=l.length*7:=by rw[hd];omega
   have hmul:p*7≤l.length*7:=Nat.mul_le_mul_right _ hp
   repeat((conv=>whnf);first|refine sJ ?_|refine aI (by first|exact⟨by omega,hup _ (by rw[hd2,Int.toNat_natCast];omega)⟩|kernel_rfl) ?_|rw[hw]|rw[hw2]|rw[hb0]|rw[hN]|rw[hO]|rw[hN2]|rw[hO2]|rw[hB1]|rw[hN2f]|rw[hO2f]|rw[hB1f]|rw[hbf])
   try(conv=>whnf)
   refine And.intro ?_ ?_
   ·refine⟨rfl,rfl,(by omega),?_,?_,?_,?_⟩
    ·exact(show(((p:Int).toNat:Int)+((l.length+1-p:Nat):Int))*((72:Nat):Int)≤140737488355328 by rw[Int.toNat_natCast];omega)
    ·rw[Int.toNat_natCast];omega
    ·exact(show p*7≤_ by rw[hd2];exact hmul)
    ·rw[hd2,Int.toNat_natCast,Int.toNat_natCast];exact(show _ < (p+(l.length+1-p))*7 by omega)
   intro d'
   rw[Int.toNat_natCast,Int.toNat_natCast,show p+(l.length+1-p)=l.length+1 by omega]
   repeat((conv=>whnf);first|refine sJ ?_|refine aI (by first|exact(show InC (p:Int) (l.length+1) from⟨by omega,by omega⟩)|kernel_rfl) ?_|rw[hw]|rw[hw2]|rw[hb0]|rw[hN]|rw[hO]|rw[hN2]|rw[hO2]|rw[hB1]|rw[hN2f]|rw[hO2f]|rw[hB1f]|rw[hbf])
   try(conv=>whnf)
   have hmin:min [c.av].length (l.length+1-(p:Int).toNat)=1:=by rw[Int.toNat_natCast];simp;omega
   have hU:flatE (l.map Req.av)++List.replicate (0*7) AV.undef=flatE (l.map Req.av):=by simp
   have hA:(flatE ((l.take p).map Req.av)).length=p*7:=by rw[reqOk.flen,List.length_take,Nat.min_eq_left hp]
   have hB:(flatE ((l.drop p).map Req.av)).length=(l.length-p)*7:=by rw[reqOk.flen,List.length_drop]
   have hX:c.av.cells.length=7:=rfl
   obtain⟨zs,hzs⟩:∃zs:List AV,zs=[.int .i64 0,.int .i64 0,.int .i64 0,.int .i64 0,.int .i64 0,.int .i64 0,.nils]:=⟨_,rfl⟩
   have hZ:(repL (l.length+1-p) zs).length=(l.length+1-p)*7:=by rw[repL_len,hzs];rfl
   have eA:List.take (p*7) (flatE (l.map Req.av)++List.replicate (0*7) AV.undef)=flatE ((l.take p).map Req.av):=by rw[hU,cut_reqs l p,←hA,List.take_left]
   have eB:List.take ((l.length-p)*7) (List.drop (p*7) (flatE (l.map Req.av)++List.replicate (0*7) AV.undef))=flatE ((l.drop p).map Req.av):=by rw[hU,cut_reqs l p,←hA,List.drop_left,←hB,List.take_length]
   have hmin2:min (l.length-p) (l.length+1-(p+1))=l.length-p:=by omega
   have hw3:IntKind.i64.wrap ((p:Int)+([c.av].length:Int))=((p+1:Nat):Int):=by rw[w64]<;>simp<;>omega
   rw[hmin]
   refine And.intro ⟨rfl,rfl,?_⟩ ?_
   ·refine(show 0+p*7+7≤(List.take (p*7) (flatE (l.map Req.av)++List.replicate (0*7) AV.undef)++repL (l.length+1-p) [.int .i64 0,.int .i64 0,.int .i64 0,.int .i64 0,.int .i64 0,.int .i64 0,.nils]++List.replicate (d'*7) AV.undef).length from ?_)
    rw[eA,←hzs]
    simp only[List.length_append,hA,hZ,List.length_replicate]
    omega
   repeat((conv=>whnf);first|refine sJ ?_|refine aI (by first|exact(show InC ((p+1:Nat):Int) (l.length+1) from⟨by omega,by omega⟩)|exact(show InC (p:Int) l.length from⟨by omega,by omega⟩)|exact trivial|kernel_rfl) ?_|rw[hw3]|rw[hb0]|rw[hN]|rw[hO]|rw[hN2]|rw[hO2]|rw[hB1]|rw[hN2f]|rw[hO2f]|rw[hB1f]|rw[hbf])
   try(conv=>whnf)
   rw[show min (l.length-(p:Int).toNat) (l.length+1-((p+1:Nat):Int).toNat)=l.length-p from hmin2]
   have hT:0+p*7+c.av.cells.length≤(List.take (p*7) (flatE (l.map Req.av)++List.replicate (0*7) AV.undef)++repL (l.length+1-p) zs++List.replicate (d'*7) AV.undef).length:=by
    rw[eA,hX]
    simp only[List.length_append,hA,hZ,List.length_replicate]
    omega
   conv in (srcCells _ _ _ _)=>whnf
   first|rw[hO2f]|rw[hbf]
   conv=>whnf
   refine And.intro ⟨?_,?_,?_⟩ ?_
   ·exact(show(List.take ((l.length-p)*7) (List.drop (0+p*7) (flatE (l.map Req.av)++List.replicate (0*7) AV.undef))).length=(l.length-p)*7 by rw[Nat.zero_add,eB,hB])
   ·exact(show(List.take ((l.length-p)*7) (List.drop (0+p*7) (flatE (l.map Req.av)++List.replicate (0*7) AV.undef))).all AV.isCell=true by rw[Nat.zero_add,eB];exact flatE_cell (reqOk.els _))
   ·refine(show 0+(p+1)*7+(List.take ((l.length-p)*7) (List.drop (0+p*7) (flatE (l.map Req.av)++List.replicate (0*7) AV.undef))).length≤(splice (List.take (p*7) (flatE (l.map Req.av)++List.replicate (0*7) AV.undef)++repL (l.length+1-p) [.int .i64 0,.int .i64 0,.int .i64 0,.int .i64 0,.int .i64 0,.int .i64 0,.nils]++List.replicate (d'*7) AV.undef) (0+p*7) c.av.cells).length from ?_)
    rw[←hzs,splice_len hT,Nat.zero_add (p*7),eB,hB,eA]
    simp only[List.length_append,hA,hZ,List.length_replicate]
    omega
   repeat((conv=>whnf);first|refine sT ?_|rw[hb0]|rw[hN]|rw[hO]|rw[hN2]|rw[hO2]|rw[hB1]|rw[hN2f]|rw[hO2f]|rw[hB1f]|rw[hbf])
   try(conv=>whnf)
   have e:splice (splice (List.take (p*7) (flatE (l.map Req.av)++List.replicate (0*7) AV.undef)++repL (l.length+1-p) [.int .i64 0,.int .i64 0,.int .i64 0,.int .i64 0,.int .i64 0,.int .i64 0,.nils]++List.replicate (d'*7) AV.undef) (0+p*7) c.av.cells) (0+(p+1)*7) (List.take ((l.length-p)*7) (List.drop (0+p*7) (flatE (l.map Req.av)++List.replicate (0*7) AV.undef)))=flatE ((insAt l p c).map Req.av)++List.replicate (d'*7) AV.undef:=by
    rw[←hzs,Nat.zero_add,Nat.zero_add,eA,eB,ins_reqs,show(p+1)*7=p*7+7 by omega]
    have ig:=ins_grow (A:=flatE ((l.take p).map Req.av)) (B:=flatE ((l.drop p).map Req.av)) (Z:=repL (l.length+1-p) zs) (U:=List.replicate (d'*7) AV.undef) (X:=c.av.cells) (by rw[hZ,hX,hB];omega)
    rw[hA,hX]at ig
    exact ig
   refine hK _ S.bx.length (List.replicate (d'*7) AV.undef) ?_ (.inr rfl) ?_
   ·exact Upd.mk ((((Upd.refl S b).addB _).setNew (Nat.le_refl _) _).setNew (Nat.le_refl _) _).bx rfl rfl
   ·rw[←e];exact St.setB_get (St.setB_get (St.addB_get S _))
  ·have hd1:1≤d:=by simp at h2;omega
   have hU:7≤(List.replicate (d*7) AV.undef).length:=by rw[List.length_replicate];omega
   have hA:(flatE ((l.take p).map Req.av)).length=p*7:=by rw[reqOk.flen,List.length_take,Nat.min_eq_left hp]
   have hB:(flatE ((l.drop p).map Req.av)).length=(l.length-p)*7:=by rw[reqOk.flen,List.length_drop]
   have hX:c.av.cells.length=7:=rfl
   have eB:List.take ((l.length-p)*7) (List.drop (p*7) (flatE (l.map Req.av)++List.replicate (d*7) AV.undef))=flatE ((l.drop p).map Req.av):=by rw[cut_reqs l p,List.append_assoc,←hA,List.drop_left,←hB,List.take_left]
   have hw3:IntKind.i64.wrap ((p:Int)+([c.av].length:Int))=((p+1:Nat):Int):=by rw[w64]<;>simp<;>omega
   have hmin2:min (l.length+1-p) (l.length+1-(p+1))=l.length-p:=by omega
   repeat((conv=>whnf);first|refine sJ ?_|refine aI (by first|exact⟨by omega,hup _ (by rw[hd];omega)⟩|kernel_rfl) ?_|rw[hw]|rw[hb0]|rw[hN]|rw[hO]|rw[hN2]|rw[hO2]|rw[hB1]|rw[hN2f]|rw[hO2f]|rw[hB1f]|rw[hbf])
   try(conv=>whnf)
   rw[show(((l.length+1:Nat):Int)).toNat=l.length+1 from rfl]
   repeat((conv=>whnf);first|refine sJ ?_|refine aI (by first|exact(show InC ((p+1:Nat):Int) (l.length+1) from⟨by omega,by omega⟩)|kernel_rfl) ?_|rw[hw3]|rw[hb0]|rw[hN]|rw[hO]|rw[hN2]|rw[hO2]|rw[hB1]|rw[hN2f]|rw[hO2f]|rw[hB1f]|rw[hbf])
   try(conv=>whnf)
   refine CallK.apart (es:=[c.av]) (ch:=ch) (e:=60) (t:=27) (tR:=4) Tryz.func160 (by kernel_rfl) (by kernel_rfl) (by kernel_rfl) (by kernel_rfl) rfl (sz:=7) rfl (by exact hch) (by simp) ?_ (by decide) ?_
   ·exact(show 0 < l.length+1-(p+1) by omega)
   repeat((conv=>whnf);first|refine sJ ?_|refine aI (by first|exact(show InC ((p+1:Nat):Int) (l.length+1) from⟨by omega,by omega⟩)|exact(show InC (p:Int) (l.length+1) from⟨by omega,by omega⟩)|exact trivial|kernel_rfl) ?_|rw[hw3]|rw[hb0]|rw[hN]|rw[hO]|rw[hN2]|rw[hO2]|rw[hB1]|rw[hN2f]|rw[hO2f]|rw[hB1f]|rw[hbf])
   try(conv=>whnf)
   have hd3:(flatE (l.map Req.av)++List.replicate (d*7) AV.undef).length=l.length*7+d*7:=by rw[hd];omega
   have hpl:(l.length-p)*7+p*7=l.length*7:=by rw[←Nat.add_mul,Nat.sub_add_cancel hp]
   rw[show min (l.length+1-(p:Int).toNat) (l.length+1-((p+1:Nat):Int).toNat)=l.length-p from hmin2]
   have hT:0+(p+1)*7+(List.take ((l.length-p)*7) (List.drop (0+p*7) (flatE (l.map Req.av)++List.replicate (d*7) AV.undef))).length≤(flatE (l.map Req.av)++List.replicate (d*7) AV.undef).length:=by
    rw[Nat.zero_add (p*7),eB,hB,hd3];omega
   conv in (srcCells _ _ _ _)=>whnf
   first|rw[hO2f]|rw[hbf]
   conv=>whnf
   refine And.intro ⟨?_,?_,hT⟩ ?_
   ·exact(show(List.take ((l.length-p)*7) (List.drop (0+p*7) (flatE (l.map Req.av)++List.replicate (d*7) AV.undef))).length=(l.length-p)*7 by rw[Nat.zero_add,eB,hB])
   ·exact(show(List.take ((l.length-p)*7) (List.drop (0+p*7) (flatE (l.map Req.av)++List.replicate (d*7) AV.undef))).all AV.isCell=true by rw[Nat.zero_add,eB];exact flatE_cell (reqOk.els _))
   have hmin:min [c.av].length (l.length+1-(p:Int).toNat)=1:=by rw[Int.toNat_natCast];simp;omega
   repeat((conv=>whnf);first|refine sJ ?_|refine aI (by first|exact(show InC (p:Int) (l.length+1) from⟨by omega,by omega⟩)|kernel_rfl) ?_|rw[hb0]|rw[hN]|rw[hO]|rw[hN2]|rw[hO2]|rw[hB1]|rw[hN2f]|rw[hO2f]|rw[hB1f]|rw[hbf])
   try(conv=>whnf)
   rw[hmin]
   rw[hB1g]
   conv=>whnf
   refine And.intro ⟨rfl,rfl,?_⟩ ?_
   ·refine(show 0+p*7+7≤(splice (flatE (l.map Req.av)++List.replicate (d*7) AV.undef) (0+(p+1)*7) (List.take ((l.length-p)*7) (List.drop (0+p*7) (flatE (l.map Req.av)++List.replicate (d*7) AV.undef)))).length from ?_)
    rw[splice_len hT,hd3];omega
   repeat((conv=>whnf);first|refine sT ?_|rw[hb0]|rw[hN]|rw[hO]|rw[hN2]|rw[hO2]|rw[hB1]|rw[hN2f]|rw[hO2f]|rw[hB1f]|rw[hbf])
   try(conv=>whnf)
   have e:splice (splice (flatE (l.map Req.av)++List.replicate (d*7) AV.undef) (0+(p+1)*7) (List.take ((l.length-p)*7) (List.drop (0+p*7) (flatE (l.map Req.av)++List.replicate (d*7) AV.undef)))) (0+p*7) c.av.cells=flatE ((insAt l p c).map Req.av)++(List.replicate (d*7) AV.undef).drop 7:=by
    rw[Nat.zero_add,Nat.zero_add,eB,ins_reqs,show(p+1)*7=p*7+7 by omega,cut_reqs l p]
    have ig:=ins_room (A:=flatE ((l.take p).map Req.av)) (B:=flatE ((l.drop p).map Req.av)) (U:=List.replicate (d*7) AV.undef) (X:=c.av.cells) (by rw[hX];exact hU)
    rw[hA,hX]at ig
    exact ig
   refine hK _ b ((List.replicate (d*7) AV.undef).drop 7) ?_ (.inl rfl) ?_
   ·exact Upd.mk (((Upd.refl S b).setB _).setB _).bx rfl rfl
   ·rw[←e];exact St.setB_get (St.setB_get hb)
theorem c_ins1 (a b:Req):PCall Tryz.prog L 101 [a.av,b.av] (.int .i64 (cmpI a.flow.id b.flow.id)):=by
 refine PCall.intro mixed [] (nt:=12) Tryz.func101 rfl rfl (by simp) ?_
 refine Wk ?_
 refine cD (c_cmp L a.flow.id b.flow.id) ?_
 refine Wk ?_
 exact resP.mk rfl (Sees.int rfl)
theorem c_adm1 (y x:Req):PCall Tryz.prog L 49 [y.av,.cptr x.av 0] (.bool (y.flow.id==x.flow.id)):=by
 refine PCall.intro mixed [] (nt:=11) Tryz.func49 rfl rfl (by simp) ?_
 refine Wk ?_
 exact resP.mk rfl (Sees.bool rfl)
theorem c_BinReq (l:List Req)(t:Req)(g:Nat)(c:Req→Int)(hl:l.length≤281474976710656)(hcb:callable Tryz.prog g=true)(hm:Mono c l)(hp:∀x∈l,PCall Tryz.prog L g [Req.av x,Req.av t] (.int .i64 (c x))) :
  PCall Tryz.prog L 100 [.sl false (l.map Req.av),Req.av t,.fn g []] (.tup [.int .i64 (posB c l),.bool (hasB c l)]):=by
 refine PCall.intro mixed [] (nt:=49) Tryz.func100 rfl rfl (by simp) ?_
 refine Wk ?_
 refine LoopK.run mixed [] (fun s:Nat×Nat=>s.1≤s.2∧s.2≤l.length∧(∀i x,i < s.1→l[i]? = some x→c x < 0)∧(∀x,l[s.2]? = some x→¬c x < 0)) (fun s=>[(0,.sl false (l.map Req.av)),(2,.fn g []),(4,.ptr 0 0),(8,.int .i64 l.length),(9,.int .i64 s.1),(10,.int .i64 s.2)]) (fun _=>⟨[.cells (Req.av t).cells 60],[],0,0,fun _=>0⟩) (fun s=>s.2-s.1) (0,l.length) ⟨by simp,by simp,by simp,by simp⟩ ?_ ?_
 ·refine fN ?_<;>repeat' (first|exact fQ|refine And.intro ?_ ?_|exact Sees.int (by simp))
 rintro⟨i,j⟩ ⟨h1,h2,h3,h4⟩
 simp only at h1 h2 h3 h4
 refine Wk ?_
 refine BrK.mk (fun hb=>?_) (fun hb=>?_)<;>try rw[hb]
 ·have hlt:i < j:=by simpa using hb
  have hw1:IntKind.i64.wrap ((i:Int)+(j:Int))=((i+j:Nat):Int):=by rw[w64]<;>omega
  have hw2:IntKind.i64.wrap ((IntKind.u64.wrap ((i+j:Nat):Int)).fdiv (2 ^ (min (1:Int).toNat IntKind.u64.bits)))=(((i+j) / 2:Nat):Int):=half_ok (by omega)
  obtain⟨m,hmid⟩:∃m,m=(i+j) / 2:=⟨_,rfl⟩
  have hml:m < l.length:=by omega
  obtain⟨x,hgx⟩:=getLt hml
  have hmx:=getMap (f:=Req.av) hgx
  have hpx:=hp x (List.mem_of_getElem? hgx)
  rw[←hmid]at hw2
  repeat((conv=>whnf);first|refine sJ ?_|refine aI (by first|exact(show(0:Int)≤1 by decide)|exact inbMap hml|kernel_rfl) ?_|rw[hw1]|rw[hw2]|rw[hmx])
  try(conv=>whnf)
  refine CallP.data hcb hpx (by rfl) ?_
  refine Wk ?_
  refine BrK.mk (fun h5=>?_) (fun h5=>?_)<;>(try rw[h5])
  ·refine Wk ?_
   refine⟨(m+1,j),⟨by simp only;omega,by simp only;omega,fun k y hk hy=>?_,h4⟩,by simp only;omega,?_⟩
   ·rcases Nat.lt_succ_iff_lt_or_eq.1 hk with hk|rfl
    ·exact hm k m y x hk hy hgx (by simpa using h5)
    ·rw[hgx]at hy;injection hy with hy;subst hy;simpa using h5
   ·refine fN ?_<;>repeat' (first|exact fQ|refine And.intro ?_ ?_|exact Sees.int (by rw[w64]<;>omega))
  ·refine Wk ?_
   refine⟨(i,m),⟨by simp only;omega,by simp only;omega,h3,fun y hy=>?_⟩,by simp only;omega,?_⟩
   ·rw[hgx]at hy;injection hy with hy;subst hy;simpa using h5
   ·refine fN ?_<;>repeat' (first|exact fQ|refine And.intro ?_ ?_ )
 ·have hij:i=j:=by simp at hb;omega
  subst hij
  have hpos:posB c l=i:=posB_uniq h2 h3 h4
  refine Wk ?_
  refine BrK.mk (fun h6=>?_) (fun h6=>?_)<;>(try rw[h6])
  ·have hlt:i < l.length:=by simpa using h6
   obtain⟨x,hgx⟩:=getLt hlt
   have hmx:=getMap (f:=Req.av) hgx
   have hpx:=hp x (List.mem_of_getElem? hgx)
   repeat((conv=>whnf);first|refine sJ ?_|refine aI (by first|exact inbMap hlt|kernel_rfl) ?_|rw[hmx])
   try(conv=>whnf)
   refine CallP.data hcb hpx (by rfl) ?_
   refine Wk ?_
   exact resP.mk rfl (Sees.of_eq (by simp only[hasB,hpos,hgx]))
  ·refine Wk ?_
   have:l.length≤i:=by simpa using h6
   exact resP.mk rfl (Sees.of_eq (by simp only[hasB,hpos,List.getElem?_eq_none this]))
theorem c_IndexFuncReqA (l:List Req)(p:Req→Bool)(g:Nat)(caps:List AV)(hl:l.length≤281474976710656)(hcb:callable Tryz.prog g=true)(hc:fzs caps=some caps)(hp:∀x∈l,PCall Tryz.prog L g (Req.av x :: caps) (.bool (p x))) :
  PCall Tryz.prog L 79 [.sl false (l.map Req.av),.fn g caps] (.int .i64 (idxF p l)):=by
 refine PCall.intro mixed [] (nt:=19) Tryz.func79 rfl rfl (by simp) ?_
 refine Wk ?_
 refine LoopK.run mixed [] (fun (k:Nat)=>k≤l.length∧∀j x,j < k→l[j]? = some x→p x=false) (fun k=>[(0,.sl false (l.map Req.av)),(1,.fn g caps),(7,.int .i64 l.length),(8,.int .i64 k)]) (fun k=>St.none) (fun k=>l.length-k) 0 ⟨by simp,by simp⟩ ?_ ?_
 ·refine fN ?_<;>repeat' (first|exact fQ|refine And.intro ?_ ?_|exact Sees.int (by simp)|exact fzs_okk hc)
 rintro k ⟨hk,hinv⟩
 refine Wk ?_
 refine BrK.mk (fun hb=>?_) (fun hb=>?_)<;>try rw[hb]
 ·have hlt:k < l.length:=by simpa using hb
  obtain⟨x,hgx⟩:=getLt hlt
  have hmx:=getMap (f:=Req.av) hgx
  repeat((conv=>whnf);first|refine sJ ?_|refine aI (by first|exact inbMap hlt|kernel_rfl) ?_|rw[hmx])
  try(conv=>whnf)
  refine CallK.data hcb (hp x (List.mem_of_getElem? hgx)) (by show(match fz _,fzs caps with|some a,some b=>some (a :: b)|_,_=>none)=_;rw[hc];rfl) ?_
  refine Wk ?_
  refine BrK.mk (fun h2=>?_) (fun h2=>?_)<;>(try rw[h2])
  ·refine Wk ?_
   exact resP.mk rfl (Sees.int (idxF_some hlt hinv hgx h2).symm)
  ·refine Wk ?_
   refine⟨k+1,⟨by omega,fun j y hj hy=>?_⟩,by omega,?_⟩
   ·rcases Nat.lt_succ_iff_lt_or_eq.1 hj with h|rfl
    ·exact hinv j y h hy
    ·rw[hgx]at hy;injection hy with hy;subst hy;exact h2
   ·refine fN ?_<;>repeat' (first|exact fQ|refine And.intro ?_ ?_|exact Sees.int (succI hlt hl)|exact fzs_okk hc)
 ·have hk':k=l.length:=by simp at hb;omega
  subst hk'
  refine Wk ?_
  exact resP.mk rfl (Sees.int (idxF_none hinv).symm)
theorem c_ContainsFuncReqA (l:List Req)(p:Req→Bool)(g:Nat)(caps:List AV)(hl:l.length≤281474976710656)(hcb:callable Tryz.prog g=true)(hc:fzs caps=some caps)(hp:∀x∈l,PCall Tryz.prog L g (Req.av x :: caps) (.bool (p x))) :
  PCall Tryz.prog L 37 [.sl false (l.map Req.av),.fn g caps] (.bool (l.any p)):=by
 refine PCall.intro mixed [] (nt:=9) Tryz.func37 rfl rfl (by simp) ?_
 refine Wk ?_
 refine CallK.data rfl (c_IndexFuncReqA L l p g caps hl hcb hc hp) (by show(match fz _,fzs [AV.fn g caps] with|some a,some b=>some (a :: b)|_,_=>none)=_;rw[show fzs [AV.fn g caps] = some [AV.fn g caps] from by simp[fz,fzs,hc]];rfl) ?_
 refine Wk ?_
 exact resP.mk rfl (Sees.bool (idxF_any p l))
theorem c_inserted (q:List Req)(x:Req)(hne:q≠[])(hl:q.length≤1000)(hs:q.Pairwise fun a b=>a.flow.id < b.flow.id):PCall Tryz.prog L 50 [encReqs q,x.av] (encReqs (insQ q x)):=by
 refine PCall.intro mixed [2] (nt:=19) Tryz.func50 rfl rfl (by simp) ?_
 refine Wk ?_
 refine SeqK.sem mixed [] ?_
 refine Wk ?_
 refine CallK.data rfl (c_BinReq L q x 101 (fun y:Req=>cmpI y.flow.id x.flow.id) (by omega) rfl (mono_req hs x) (fun y _=>c_ins1 L y x)) rfl ?_
 rw[show posB (fun y:Req=>cmpI y.flow.id x.flow.id) q=posQ x q from rfl]
 have hp:posQ x q≤q.length:=posB_le _ _
 refine Wk ?_
 refine SemK.freezeB 0 rfl rfl ?_
 refine(SeqK.semk mixed [] (SemK.regionStil mixed [0,2,3] 4 rfl rfl (by decide) rfl ?_)).out
 iterate 3
  conv=>whnf
  apply exV
  ·intro S K' hh
   refine Wk ?_
   exact hh
 repeat' ((conv=>whnf);first|exact trivial|refine sT ?_|refine And.intro ?_ ?_|refine CallK.inl rfl (i_CloneReqS L _ q hne (by omega) fun d=>?_)|fail)
 all_goals(conv=>whnf)
 all_goals refine CallK.inl rfl (i_InsertReqS L _ _ _ q x (posQ x q) _ hp (by omega) _ rfl (St.addB_get _ _) (St.addF_get _ _ 0) fun S' b' ex hu hb' hS'=>?_)
 all_goals
  repeat' ((conv=>whnf);first|exact trivial|refine sT ?_|refine And.intro ?_ ?_ )
 all_goals exact resP.mk (reqOk.fzb hS' (insAt_len _ _ _)) (Sees.of_eq rfl)
end
section
variable (L:World→Prop)
def EmpR (S:St)(v:AV):Prop:=v=.nils∨v=.sl true []∨∃ch,v=.own [] ch∧S.fr[ch]? = some (0,7)∧S.ty ch=60
theorem EmpR.addF {S:St}{v:AV}(h:EmpR S v)(x:Nat×Nat)(e:TypeId):EmpR (S.addF x e) v:=by
 rcases h with h|h|⟨ch,h1,h2,h3⟩
 ·exact .inl h
 ·exact .inr (.inl h)
 ·exact .inr (.inr ⟨ch,h1,St.addF_old h2,by rw[St.addF_tyo h2];exact h3⟩)
theorem i_CloneReq0 (S:St){K:AV→St→Prop}(hK:∀(S':St) (v:AV),S'.bx=S.bx→(∀(c:Nat) (x:Nat×Nat),S.fr[c]? = some x→S'.fr[c]? = some x)→EmpR S' v→S'.n0=S.n0→S'.m0=S.m0→K v S') :
  ICall Tryz.prog L 103 [encReqs []] S K:=by
 refine ICall.intro mixed [] (nt:=8) Tryz.func103 rfl rfl (by simp) ?_
 have hA:∀x e,(S.inner.addF x e).fr[S.inner.fr.length]? = some x:=fun x e=>St.addF_get _ _ _
 have hA2:∀x e,(S.inner.addF x e).ty S.inner.fr.length=e:=fun x e=>St.addF_tyn _ _ _
 repeat((conv=>whnf);first|refine sJ ?_|refine aI (by first|exact trivial|exact hA _ _|exact hA2 _ _|exact⟨by decide,by decide⟩|kernel_rfl) ?_|(refine BrK.mk (fun h=>?_) (fun h=>?_))|(intro b;cases b)|rw[hA])
 try(conv=>whnf)
 all_goals
  repeat((conv=>whnf);first|refine sJ ?_|refine aI (by first|exact trivial|exact⟨by decide,by decide⟩|exact hA _ _|exact hA2 _ _|kernel_rfl) ?_|(refine BrK.mk (fun h=>?_) (fun h=>?_))|(intro b;cases b)|rw[hA])
  try(conv=>whnf)
 ·refine hK _ _ rfl (fun c x h=>?_) (.inr (.inr ⟨_,rfl,St.setF_get (hA _ _),hA2 (0,6+1) _⟩)) rfl rfl
  have:=(List.getElem?_eq_some_iff.1 h).1
  show((S.fr++[((0:Nat),6+1)]).set S.fr.length _)[c]? = some x
  rw[List.getElem?_set_ne (by omega),List.getElem?_append_left this];exact h
 ·exact hK _ _ rfl (fun _ _ h=>h) (.inl rfl) rfl rfl
theorem i_InsReq0 (S:St)(ch:Nat)(c:Req){K:AV→St→Prop}(v0:AV)(hv:EmpR S v0)(hch:S.fr[ch]? = some (1,7))
  (hK:∀(S':St) (ch2:Nat),S'.bx=S.bx→K (.own [c.av] ch2) S') :
  ICall Tryz.prog L 102 [v0,.int .i64 0,.own [c.av] ch] S K:=by
 refine ICall.intro mixed [] (nt:=95) Tryz.func102 rfl rfl (by simp) ?_
 rcases hv with rfl|rfl|⟨c0,rfl,h0,ht⟩
 all_goals
  have hch':S.inner.fr[ch]? = some (1,7):=hch
  try have h0':S.inner.fr[c0]? = some (0,7):=h0
  try have ht':S.inner.ty c0=60:=ht
  repeat((conv=>whnf);first|refine sJ ?_|refine aI (by first|exact trivial|exact⟨by decide,by decide⟩|exact h0'|exact ht'|kernel_rfl) ?_|(refine BrK.mk (fun h=>?_) (fun h=>?_))|(intro b;cases b))
  try(conv=>whnf)
 all_goals(conv=>whnf)
 all_goals exact hK _ _ rfl
theorem c_inserted0 (x:Req):PCall Tryz.prog L 50 [encReqs [],x.av] (encReqs (insQ [] x)):=by
 refine PCall.intro mixed [2] (nt:=19) Tryz.func50 rfl rfl (by simp) ?_
 refine Wk ?_
 refine SeqK.sem mixed [] ?_
 refine Wk ?_
 refine CallK.data rfl (c_BinReq L [] x 101 (fun y:Req=>cmpI y.flow.id x.flow.id) (by simp) rfl (fun i j a b _ ha=>by simp at ha) (fun y _=>c_ins1 L y x)) rfl ?_
 refine Wk ?_
 refine SemK.freezeB 0 rfl rfl ?_
 refine(SeqK.semk mixed [] (SemK.regionStil mixed [0,2,3] 4 rfl rfl (by decide) rfl ?_)).out
 iterate 3
  conv=>whnf
  apply exV
  ·intro S K' hh
   refine Wk ?_
   exact hh
 repeat' ((conv=>whnf);first|exact trivial|refine sT ?_|refine And.intro ?_ ?_|refine CallK.inl rfl (i_CloneReq0 L _ fun S' v hb2 hf2 he2 _ _=>?_)|fail)
 all_goals(conv=>whnf)
 all_goals first|refine CallK.inl rfl (i_InsReq0 L _ _ x v (he2.addF _ _) (St.addF_get _ _ 0) fun S3 ch2 hb3=>?_)|refine CallK.inl rfl (i_InsReq0 L _ _ x v he2 (hf2 _ _ (St.addF_get _ _ 0)) fun S3 ch2 hb3=>?_)|fail
 all_goals
  repeat' ((conv=>whnf);first|exact trivial|refine sT ?_|refine And.intro ?_ ?_ )
 all_goals exact resP.mk rfl (Sees.elems rfl)
theorem c_insertedA (q:List Req)(x:Req)(hl:q.length≤1000)(hs:q.Pairwise fun a b=>a.flow.id < b.flow.id):PCall Tryz.prog L 50 [encReqs q,x.av] (encReqs (insQ q x)):=by
 by_cases h:q=[]
 ·subst h;exact c_inserted0 L x
 ·exact c_inserted L q x h hl hs
end
end HM
