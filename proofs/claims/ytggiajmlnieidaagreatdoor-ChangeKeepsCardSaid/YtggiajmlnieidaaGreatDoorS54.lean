/- One more cell: slices.Insert into a clone; schedule.Add. -/
import Derived.Test.YtggiajmlnieidaaGreatDoorS33
import Derived.Test.YtggiajmlnieidaaGreatDoorDa
import Derived.Test.YtggiajmlnieidaaGreatDoorDb
set_option maxHeartbeats 64000000
set_option maxRecDepth 100000
namespace HM
open Go Go.RowKit Go.Proofs
section
variable (L:World→Prop)
theorem KM (l:List zg)(t:zg)(g:Nat)(c:zg→Int)(hl:l.length≤281474976710656)(hcb:zO Tryz.prog g=true)(hm:zge c l)(hp:∀x∈l,zb Tryz.prog L g [zg.av x,zg.av t] (.int .i64 (c x))) :
  zb Tryz.prog L 175 [.sl false (l.map zg.av),zg.av t,.fn g []] (.tup [.int .i64 (wQ c l),.bool (jx c l)]):=by
 refine zb.intro mixed [] (nt:=49) Tryz.func175 rfl rfl (by simp) ?_
 refine Wk ?_
 refine zt.run mixed [] (fun s:Nat×Nat=>s.1≤s.2∧s.2≤l.length∧(∀i x,i < s.1→l[i]? = some x→c x < 0)∧(∀x,l[s.2]? = some x→¬c x < 0)) (fun s=>[(0,.sl false (l.map zg.av)),(2,.fn g []),(4,.ptr 0 0),(8,.int .i64 l.length),(9,.int .i64 s.1),(10,.int .i64 s.2)]) (fun _=>⟨[.cells (zg.av t).cells 40],[],0,0,fun _=>0⟩) (fun s=>s.2-s.1) (0,l.length) ⟨by simp,by simp,by simp,by simp⟩ ?_ ?_
 ·refine fN ?_<;>repeat' (first|exact fQ|refine And.intro ?_ ?_|exact za.int (by simp))
 rintro⟨i,j⟩ ⟨h1,h2,h3,h4⟩
 simp only at h1 h2 h3 h4
 refine Wk ?_
 refine zx.mk (fun hb=>?_) (fun hb=>?_)<;>try rw[hb]
 ·have hlt:i < j:=by simpa using hb
  have hw1:IntKind.i64.wrap ((i:Int)+(j:Int))=((i+j:Nat):Int):=by rw[xw]<;>omega
  have hw2:IntKind.i64.wrap ((IntKind.u64.wrap ((i+j:Nat):Int)).fdiv (2 ^ (min (1:Int).toNat IntKind.u64.bits)))=(((i+j) / 2:Nat):Int):=zau (by omega)
  obtain⟨m,hmid⟩:∃m,m=(i+j) / 2:=⟨_,rfl⟩
  have hml:m < l.length:=by omega
  obtain⟨x,hgx⟩:=zr hml
  have hmx:=zk (f:=zg.av) hgx
  have hpx:=hp x (List.mem_of_getElem? hgx)
  rw[←hmid]at hw2
  repeat((conv=>whnf);first|refine sJ ?_|refine aI (by first|exact(show(0:Int)≤1 by decide)|exact zh hml|kernel_rfl) ?_|rw[hw1]|rw[hw2]|rw[hmx])
  try(conv=>whnf)
  refine xU.data hcb hpx (by rfl) ?_
  refine Wk ?_
  refine zx.mk (fun h5=>?_) (fun h5=>?_)<;>(try rw[h5])
  ·refine Wk ?_
   refine⟨(m+1,j),⟨by simp only;omega,by simp only;omega,fun k y hk hy=>?_,h4⟩,by simp only;omega,?_⟩
   ·rcases Nat.lt_succ_iff_lt_or_eq.1 hk with hk|rfl
    ·exact hm k m y x hk hy hgx (by simpa using h5)
    ·rw[hgx]at hy;injection hy with hy;subst hy;simpa using h5
   ·refine fN ?_<;>repeat' (first|exact fQ|refine And.intro ?_ ?_|exact za.int (by rw[xw]<;>omega))
  ·refine Wk ?_
   refine⟨(i,m),⟨by simp only;omega,by simp only;omega,h3,fun y hy=>?_⟩,by simp only;omega,?_⟩
   ·rw[hgx]at hy;injection hy with hy;subst hy;simpa using h5
   ·refine fN ?_<;>repeat' (first|exact fQ|refine And.intro ?_ ?_ )
 ·have hij:i=j:=by simp at hb;omega
  subst hij
  have hpos:wQ c l=i:=Wf h2 h3 h4
  refine Wk ?_
  refine zx.mk (fun h6=>?_) (fun h6=>?_)<;>(try rw[h6])
  ·have hlt:i < l.length:=by simpa using h6
   obtain⟨x,hgx⟩:=zr hlt
   have hmx:=zk (f:=zg.av) hgx
   have hpx:=hp x (List.mem_of_getElem? hgx)
   repeat((conv=>whnf);first|refine sJ ?_|refine aI (by first|exact zh hlt|kernel_rfl) ?_|rw[hmx])
   try(conv=>whnf)
   refine xU.data hcb hpx (by rfl) ?_
   refine Wk ?_
   exact ze.mk rfl (za.of_eq (by simp only[jx,hpos,hgx]))
  ·refine Wk ?_
   have:l.length≤i:=by simpa using h6
   exact ze.mk rfl (za.of_eq (by simp only[jx,hpos,List.getElem?_eq_none this]))
theorem Z0 (l:List zg)(p:Nat)(c:zg):zd ((xX l p c).map zg.av)=zd ((l.take p).map zg.av)++c.av.cells++zd ((l.drop p).map zg.av):=by
 simp only[xX,List.map_append,List.map_cons,zd,List.flatMap_append,List.flatMap_cons,List.append_assoc]
theorem vL (l:List zg)(p:Nat):zd (l.map zg.av)=zd ((l.take p).map zg.av)++zd ((l.drop p).map zg.av):=by
 conv=>lhs;rw[←List.take_append_drop p l]
 simp only[List.map_append,zd,List.flatMap_append]
theorem VO {cs vs:List AV}{off:Nat}(h:off+vs.length≤cs.length):(zR cs off vs).length=cs.length:=by
 rw[y4 _ _ _ h];simp;omega
theorem zas (o0 o1 o2:Ob)(n0 m0:Nat)(ty:Nat→TypeId)(l:List zg)(c:zg)(p d:Nat){K:AV→St→Prop}(hp:p≤l.length)(hl:l.length≤512)(n:Nat)(hn:n=l.length)
  (hK1:∀ex:List AV,K (.vsl 3 0 (l.length+1) 5) ⟨[o0,o1,o2,.cells (zd ((xX l p c).map zg.av)++ex) 40],[(1,5)],n0,m0,ty⟩)
  (hK2:∀(o:Ob) (ex:List AV),K (.vsl 4 0 (l.length+1) 5) ⟨[o0,o1,o2,o,.cells (zd ((xX l p c).map zg.av)++ex) 40],[(1,5)],n0,m0,ty⟩) :
  zQ Tryz.prog L 176 [.vsl 3 0 n 5,.int .i64 p,.own [c.av] 0] ⟨[o0,o1,o2,jz (l.map zg.av) 5 d 40],[(1,5)],n0,m0,ty⟩ K:=by
 subst hn
 refine zQ.intro mixed [] (nt:=95) Tryz.func176 rfl rfl (by simp) ?_
 have hF:(zd (l.map zg.av)).length=l.length*5:=z8.flen l
 have hlen:l.length*5≤(zd (l.map zg.av)++List.replicate (d*5) AV.undef).length:=by rw[List.length_append,hF];omega
 repeat((conv=>whnf);first|refine sJ ?_|refine aI (by first|exact(show JB (p:Int) l.length from⟨by omega,by omega⟩)|kernel_rfl) ?_ )
 try(conv=>whnf)
 refine zx.mk (fun h1=>?_) (fun h1=>?_)<;>(try rw[h1])
 ·have hpn:p=l.length:=by simp at h1;omega
  subst hpn
  have hX:(zd [c.av]).length=5:=rfl
  repeat((conv=>whnf);first|refine sJ ?_|refine aI (by first|exact⟨rfl,rfl,xF.cons rfl rfl (xF.nil _),Nat.one_pos,(show(l.length+1)*40≤140737488355328 by omega),(show l.length+1≤maxLen by simp only[maxLen];omega),hlen⟩|kernel_rfl) ?_ )
  try(conv=>whnf)
  refine zdR.mk (fun h=>?_) (fun _=>?_)
  ·refine Wk ?_
   have hh:=hK1 ((List.replicate (d*5) AV.undef).drop 5)
   have e:zR (zd (l.map zg.av)++List.replicate (d*5) AV.undef) (l.length*5) (zd [c.av])=zd ((xX l l.length c).map zg.av)++(List.replicate (d*5) AV.undef).drop 5:=by
    have h':(l.length+1)*5≤(zd (l.map zg.av)++List.replicate (d*5) AV.undef).length:=h
    rw[List.length_append,hF]at h'
    rw[y4 _ _ _ (by rw[List.length_append,hF,hX];omega),Z0,List.take_length,List.drop_length,←hF,List.take_left,hX,List.drop_append,List.drop_eq_nil_of_le (by omega),show(zd (l.map zg.av)).length+5-(zd (l.map zg.av)).length=5 by omega]
    simp[zd]
   rw[←e]at hh
   exact hh
  ·intro d'
   refine Wk ?_
   have hh:=hK2 (jz (l.map zg.av) 5 d 40) (List.replicate (d'*5) AV.undef)
   have e:List.take (l.length*5) (zd (l.map zg.av)++List.replicate (d*5) AV.undef)++zd [c.av] = zd ((xX l l.length c).map zg.av):=by
    rw[Z0,List.take_length,List.drop_length,←hF,List.take_left]
    simp[zd]
   rw[←e]at hh
   exact hh
 ·have hpn:p < l.length:=by simp at h1;omega
  have hd:(zd (l.map zg.av)++List.replicate (d*5) AV.undef).length=(l.length+d)*5:=by rw[List.length_append,hF,List.length_replicate];omega
  refine Wk ?_
  intro c0 hc0
  have hc0':c0=l.length+d:=by rw[hd]at hc0;omega
  subst hc0'
  have hw:IntKind.i64.wrap ((l.length:Int)+([c.av].length:Int))=((l.length+1:Nat):Int):=by rw[xw]<;>simp<;>omega
  refine Wk ?_
  rw[hw]
  refine zx.mk (fun h2=>?_) (fun h2=>?_)<;>(try rw[h2])
  ·have hd0:d=0:=by simp at h2;omega
   subst hd0
   have hw2:IntKind.i64.wrap (((l.length+1:Nat):Int)-(p:Int))=((l.length+1-p:Nat):Int):=by rw[xw]<;>omega
   have hd2:(zd (l.map zg.av)++List.replicate (0*5) AV.undef).length=l.length*5:=by rw[hd];omega
   have hmul:p*5≤l.length*5:=Nat.mul_le_mul_right _ hp
   repeat((conv=>whnf);first|refine sJ ?_|refine aI (by first|exact⟨by omega,(show 0+p*5≤(zd (l.map zg.av)++List.replicate (0*5) AV.undef).length by rw[hd2];omega),by decide⟩|kernel_rfl) ?_|rw[hw]|rw[hw2])
   try(conv=>whnf)
   refine And.intro ?_ ?_
   ·refine⟨rfl,rfl,(by omega),?_,?_,?_,?_⟩
    ·exact(show(((p:Int).toNat:Int)+((l.length+1-p:Nat):Int))*((40:Nat):Int)≤140737488355328 by rw[Int.toNat_natCast];omega)
    ·rw[Int.toNat_natCast];omega
    ·exact(show p*5≤_ by rw[hd2];exact hmul)
    ·rw[hd2,Int.toNat_natCast,Int.toNat_natCast];exact(show _ < (p+(l.length+1-p))*5 by omega)
   intro d'
   rw[Int.toNat_natCast,Int.toNat_natCast,show p+(l.length+1-p)=l.length+1 by omega]
   repeat((conv=>whnf);first|refine sJ ?_|refine aI (by first|exact(show JB (p:Int) (l.length+1) from⟨by omega,by omega⟩)|kernel_rfl) ?_|rw[hw]|rw[hw2])
   try(conv=>whnf)
   have hmin:min [c.av].length (l.length+1-(p:Int).toNat)=1:=by rw[Int.toNat_natCast];simp;omega
   have hU:zd (l.map zg.av)++List.replicate (0*5) AV.undef=zd (l.map zg.av):=by simp
   have hA:(zd ((l.take p).map zg.av)).length=p*5:=by rw[z8.flen,List.length_take,Nat.min_eq_left hp]
   have hB:(zd ((l.drop p).map zg.av)).length=(l.length-p)*5:=by rw[z8.flen,List.length_drop]
   have hX:c.av.cells.length=5:=rfl
   obtain⟨zs,hzs⟩:∃zs:List AV,zs=[.int .i64 0,.int .i64 0,.int .i64 0,.int .i64 0,.int .i64 0]:=⟨_,rfl⟩
   have hZ:(ja (l.length+1-p) zs).length=(l.length+1-p)*5:=by rw[VW,hzs];rfl
   have eA:List.take (p*5) (zd (l.map zg.av)++List.replicate (0*5) AV.undef)=zd ((l.take p).map zg.av):=by rw[hU,vL l p,←hA,List.take_left]
   have eB:List.take ((l.length-p)*5) (List.drop (p*5) (zd (l.map zg.av)++List.replicate (0*5) AV.undef))=zd ((l.drop p).map zg.av):=by rw[hU,vL l p,←hA,List.drop_left,←hB,List.take_length]
   have hmin2:min (l.length-p) (l.length+1-(p+1))=l.length-p:=by omega
   have hw3:IntKind.i64.wrap ((p:Int)+([c.av].length:Int))=((p+1:Nat):Int):=by rw[xw]<;>simp<;>omega
   rw[hmin]
   refine And.intro ⟨rfl,rfl,?_⟩ ?_
   ·refine(show 0+p*5+5≤(List.take (p*5) (zd (l.map zg.av)++List.replicate (0*5) AV.undef)++ja (l.length+1-p) [.int .i64 0,.int .i64 0,.int .i64 0,.int .i64 0,.int .i64 0]++List.replicate (d'*5) AV.undef).length from ?_)
    rw[eA,←hzs]
    simp only[List.length_append,hA,hZ,List.length_replicate]
    omega
   repeat((conv=>whnf);first|refine sJ ?_|refine aI (by first|exact(show JB ((p+1:Nat):Int) (l.length+1) from⟨by omega,by omega⟩)|exact(show JB (p:Int) l.length from⟨by omega,by omega⟩)|exact trivial|kernel_rfl) ?_|rw[hw3])
   try(conv=>whnf)
   rw[show min (l.length-(p:Int).toNat) (l.length+1-((p+1:Nat):Int).toNat)=l.length-p from hmin2]
   have hT:0+p*5+c.av.cells.length≤(List.take (p*5) (zd (l.map zg.av)++List.replicate (0*5) AV.undef)++ja (l.length+1-p) zs++List.replicate (d'*5) AV.undef).length:=by
    rw[eA,hX]
    simp only[List.length_append,hA,hZ,List.length_replicate]
    omega
   refine And.intro ⟨?_,?_,?_⟩ ?_
   ·exact(show(List.take ((l.length-p)*5) (List.drop (0+p*5) (zd (l.map zg.av)++List.replicate (0*5) AV.undef))).length=(l.length-p)*5 by rw[Nat.zero_add,eB,hB])
   ·exact(show(List.take ((l.length-p)*5) (List.drop (0+p*5) (zd (l.map zg.av)++List.replicate (0*5) AV.undef))).all AV.isCell=true by rw[Nat.zero_add,eB];exact kw (z8.els _))
   ·refine(show 0+(p+1)*5+(List.take ((l.length-p)*5) (List.drop (0+p*5) (zd (l.map zg.av)++List.replicate (0*5) AV.undef))).length≤(zR (List.take (p*5) (zd (l.map zg.av)++List.replicate (0*5) AV.undef)++ja (l.length+1-p) [.int .i64 0,.int .i64 0,.int .i64 0,.int .i64 0,.int .i64 0]++List.replicate (d'*5) AV.undef) (0+p*5) c.av.cells).length from ?_)
    rw[←hzs,VO hT,Nat.zero_add (p*5),eB,hB,eA]
    simp only[List.length_append,hA,hZ,List.length_replicate]
    omega
   refine Wk ?_
   have hh:=hK2 (jz (l.map zg.av) 5 0 40) (List.replicate (d'*5) AV.undef)
   have e:zR (zR (List.take (p*5) (zd (l.map zg.av)++List.replicate (0*5) AV.undef)++ja (l.length+1-p) [.int .i64 0,.int .i64 0,.int .i64 0,.int .i64 0,.int .i64 0]++List.replicate (d'*5) AV.undef) (0+p*5) c.av.cells) (0+(p+1)*5) (List.take ((l.length-p)*5) (List.drop (0+p*5) (zd (l.map zg.av)++List.replicate (0*5) AV.undef)))=zd ((xX l p c).map zg.av)++List.replicate (d'*5) AV.undef:=by
    rw[←hzs,Nat.zero_add,Nat.zero_add,eA,eB,Z0,show(p+1)*5=p*5+5 by omega]
    have ig:=zgY (A:=zd ((l.take p).map zg.av)) (B:=zd ((l.drop p).map zg.av)) (Z:=ja (l.length+1-p) zs) (U:=List.replicate (d'*5) AV.undef) (X:=c.av.cells) (by rw[hZ,hX,hB];omega)
    rw[hA,hX]at ig
    exact ig
   rw[←e]at hh
   exact hh
  ·have hd1:1≤d:=by simp at h2;omega
   have hU:5≤(List.replicate (d*5) AV.undef).length:=by rw[List.length_replicate];omega
   have hA:(zd ((l.take p).map zg.av)).length=p*5:=by rw[z8.flen,List.length_take,Nat.min_eq_left hp]
   have hB:(zd ((l.drop p).map zg.av)).length=(l.length-p)*5:=by rw[z8.flen,List.length_drop]
   have hX:c.av.cells.length=5:=rfl
   have eB:List.take ((l.length-p)*5) (List.drop (p*5) (zd (l.map zg.av)++List.replicate (d*5) AV.undef))=zd ((l.drop p).map zg.av):=by rw[vL l p,List.append_assoc,←hA,List.drop_left,←hB,List.take_left]
   have hw3:IntKind.i64.wrap ((p:Int)+([c.av].length:Int))=((p+1:Nat):Int):=by rw[xw]<;>simp<;>omega
   have hmin2:min (l.length+1-p) (l.length+1-(p+1))=l.length-p:=by omega
   repeat((conv=>whnf);first|refine sJ ?_|refine aI (by first|exact⟨by omega,(show 0+(l.length+1)*5≤_ by rw[hd];omega),by decide⟩|kernel_rfl) ?_|rw[hw])
   try(conv=>whnf)
   rw[show(((l.length+1:Nat):Int)).toNat=l.length+1 from rfl]
   repeat((conv=>whnf);first|refine sJ ?_|refine aI (by first|exact(show JB ((p+1:Nat):Int) (l.length+1) from⟨by omega,by omega⟩)|kernel_rfl) ?_|rw[hw3])
   try(conv=>whnf)
   refine zo.apart (e:=40) (t:=28) (tR:=4) Tryz.func239 (by kernel_rfl) (by kernel_rfl) (by kernel_rfl) (by kernel_rfl) rfl (sz:=5) rfl rfl (by simp) ?_ (by decide) ?_
   ·exact(show 0 < l.length+1-(p+1) by omega)
   repeat((conv=>whnf);first|refine sJ ?_|refine aI (by first|exact(show JB ((p+1:Nat):Int) (l.length+1) from⟨by omega,by omega⟩)|exact(show JB (p:Int) (l.length+1) from⟨by omega,by omega⟩)|exact trivial|kernel_rfl) ?_|rw[hw3])
   try(conv=>whnf)
   have hd3:(zd (l.map zg.av)++List.replicate (d*5) AV.undef).length=l.length*5+d*5:=by rw[hd];omega
   have hpl:(l.length-p)*5+p*5=l.length*5:=by rw[←Nat.add_mul,Nat.sub_add_cancel hp]
   rw[show min (l.length+1-(p:Int).toNat) (l.length+1-((p+1:Nat):Int).toNat)=l.length-p from hmin2]
   have hT:0+(p+1)*5+(List.take ((l.length-p)*5) (List.drop (0+p*5) (zd (l.map zg.av)++List.replicate (d*5) AV.undef))).length≤(zd (l.map zg.av)++List.replicate (d*5) AV.undef).length:=by
    rw[Nat.zero_add (p*5),eB,hB,hd3];omega
   refine And.intro ⟨?_,?_,hT⟩ ?_
   ·exact(show(List.take ((l.length-p)*5) (List.drop (0+p*5) (zd (l.map zg.av)++List.replicate (d*5) AV.undef))).length=(l.length-p)*5 by rw[Nat.zero_add,eB,hB])
   ·exact(show(List.take ((l.length-p)*5) (List.drop (0+p*5) (zd (l.map zg.av)++List.replicate (d*5) AV.undef))).all AV.isCell=true by rw[Nat.zero_add,eB];exact kw (z8.els _))
   have hmin:min [c.av].length (l.length+1-(p:Int).toNat)=1:=by rw[Int.toNat_natCast];simp;omega
   repeat((conv=>whnf);first|refine sJ ?_|refine aI (by first|exact(show JB (p:Int) (l.length+1) from⟨by omega,by omega⟩)|kernel_rfl) ?_ )
   try(conv=>whnf)
   rw[hmin]
   refine And.intro ⟨rfl,rfl,?_⟩ ?_
   ·refine(show 0+p*5+5≤(zR (zd (l.map zg.av)++List.replicate (d*5) AV.undef) (0+(p+1)*5) (List.take ((l.length-p)*5) (List.drop (0+p*5) (zd (l.map zg.av)++List.replicate (d*5) AV.undef)))).length from ?_)
    rw[VO hT,hd3];omega
   refine Wk ?_
   have hh:=hK1 ((List.replicate (d*5) AV.undef).drop 5)
   have e:zR (zR (zd (l.map zg.av)++List.replicate (d*5) AV.undef) (0+(p+1)*5) (List.take ((l.length-p)*5) (List.drop (0+p*5) (zd (l.map zg.av)++List.replicate (d*5) AV.undef)))) (0+p*5) c.av.cells=zd ((xX l p c).map zg.av)++(List.replicate (d*5) AV.undef).drop 5:=by
    rw[Nat.zero_add,Nat.zero_add,eB,Z0,show(p+1)*5=p*5+5 by omega,vL l p]
    have ig:=zgX (A:=zd ((l.take p).map zg.av)) (B:=zd ((l.drop p).map zg.av)) (U:=List.replicate (d*5) AV.undef) (X:=c.av.cells) (by rw[hX];exact hU)
    rw[hA,hX]at ig
    exact ig
   rw[←e]at hh
   exact hh
theorem zjy {S:St}{a b:Int}{v:AV}{l:List AV}(h:fzb S v=some (.sl false l)):fzb S (.tup [.agg [.int .i64 a,.int .i64 b,v],.int .i64 0])=some (.tup [.agg [.int .i64 a,.int .i64 b,.sl false l],.int .i64 0]):=by
 simp[fzb,wj,h]
theorem zjC (s:zc)(c:zg):zb Tryz.prog L 129 [s.av,c.av] (.tup [(kK s c).1.av,.int .i64 (kK s c).2]):=by
 refine zb.intro mixed [11] (nt:=42) Tryz.func129 rfl rfl (by simp) ?_
 refine Wk ?_
 refine cD (c_form L s) ?_
 refine Wk ?_
 refine zx.mk (fun h1=>?_) (fun h1=>?_)<;>(try rw[h1])
 ·have h1':yc s=false:=by simpa using h1
  refine Wk ?_
  exact ze.mk rfl (za.of_eq (by rw[kK,if_pos h1'];rfl))
 have h1':yc s=true:=by simpa using h1
 refine Wk ?_
 refine cD (c_formed L s c) ?_
 refine Wk ?_
 refine zx.mk (fun h2=>?_) (fun h2=>?_)<;>(try rw[h2])
 ·have h2':yR s c=false:=by simpa using h2
  refine Wk ?_
  exact ze.mk rfl (za.of_eq (by rw[kK,if_neg (by simp[h1']),if_pos h2'];rfl))
 have h2':yR s c=true:=by simpa using h2
 obtain⟨f1,f2,f3⟩:=xC h1'
 refine Wk ?_
 refine cD (KM L s.cells c 139 (vO c) (by omega) rfl (QH h1' c) (fun x _=>c_compare L x c)) ?_
 rw[show wQ (vO c) s.cells=vl s c from rfl,show jx (vO c) s.cells=Qy s c from rfl]
 have hp:vl s c≤s.cells.length:=Vv _ _
 refine Wk ?_
 refine zx.mk (fun h3=>?_) (fun h3=>?_)<;>(try rw[h3])
 ·refine Wk ?_
  exact ze.mk rfl (za.of_eq (by rw[kK,if_neg (by simp[h1']),if_neg (by simp[h2']),if_pos h3];rfl))
 refine Wk ?_
 refine zx.mk (fun h4=>?_) (fun h4=>?_)<;>(try rw[h4])
 ·have h4':s.cells.length=512:=by simp at h4;omega
  refine Wk ?_
  exact ze.mk rfl (za.of_eq (by rw[kK,if_neg (by simp[h1']),if_neg (by simp[h2']),if_neg (by simp[h3]),if_pos h4'];rfl))
 have h4':¬s.cells.length=512:=by simp at h4;omega
 refine Wk ?_
 have hres:(kK s c)=(⟨s.len,s.offs,xX s.cells (vl s c) c⟩,0):=by rw[kK,if_neg (by simp[h1']),if_neg (by simp[h2']),if_neg (by simp[h3]),if_neg h4']
 rw[hres]
 clear hres
 by_cases hne:s.cells=[]
 ·obtain⟨len,offs,cells⟩:=s
  simp only at hne
  subst hne
  rw[show vl ⟨len,offs,[]⟩ c=0 from rfl]
  refine yF.zkZ mixed [] (zW.YZ mixed [0,3] 7 rfl rfl (by decide) rfl ?_)
  iterate 2
   conv=>whnf
   apply vA
   ·intro S K' hh
    refine Wk ?_
    exact hh
  repeat' ((conv=>whnf);first|exact trivial|refine sJ ?_|refine aI (by first|exact trivial|exact⟨by decide,by decide⟩|kernel_rfl) ?_|refine And.intro ?_ ?_|refine zo.inl rfl (zQ.intro mixed [] (nt:=8) Tryz.func66 rfl rfl (by simp) ?_)|refine zo.inl rfl (zQ.intro mixed [] (nt:=95) Tryz.func176 rfl rfl (by simp) ?_)|(refine zx.mk (fun h=>?_) (fun h=>?_))|(intro b;cases b))
  all_goals first|exact ze.mk (by rfl) (za.of_eq rfl)|exact Int.le_refl 0
 refine yF.zkZ mixed [] (zW.YZ mixed [0,3] 7 rfl rfl (by decide) rfl ?_)
 iterate 2
  conv=>whnf
  apply vA
  ·intro S K' hh
   refine Wk ?_
   exact hh
 repeat' ((conv=>whnf);first|exact trivial|refine sT ?_|refine And.intro ?_ ?_|refine zo.fresh rfl (jo L s.cells hne (by omega)) (by rfl) (z8.els _) (z8.scal (fun _=>rfl) _) (fun h=>absurd (by simpa using h) hne) (fun d=>?_)|refine zo.inl rfl (zas L _ _ _ _ _ _ s.cells c (vl s c) _ hp f2 _ (by simp) (fun ex=>?_) (fun o ex=>?_)))
 all_goals exact ze.mk (zjy (z8.fzb rfl (Kl _ _ _))) (za.zj _)
end
section
variable (L:World→Prop)
theorem zfF (l:List zg)(p:Nat)(U:List AV)(hp:p < l.length):zR (zd (l.map zg.av)++U) (p*5) (((zd (l.map zg.av)++U).drop ((p+1)*5)).take ((l.length-(p+1))*5))=zd ((vd l p++l.drop (l.length-1)).map zg.av)++U:=by
 have hA:∀k,k≤l.length→(zd ((l.take k).map zg.av)).length=k*5:=fun k hk=>by rw[z8.flen,List.length_take,Nat.min_eq_left hk]
 have hdrop:∀k,k≤l.length→(zd (l.map zg.av)++U).drop (k*5)=zd ((l.drop k).map zg.av)++U:=fun k hk=>by
  rw[vL l k,List.append_assoc,←hA k hk,List.drop_left]
 have hB:(zd ((l.drop (p+1)).map zg.av)).length=(l.length-(p+1))*5:=by rw[z8.flen,List.length_drop]
 have hF:(zd (l.map zg.av)).length=l.length*5:=z8.flen l
 rw[hdrop (p+1) (by omega),←hB,List.take_left]
 rw[y4 _ _ _ (by rw[List.length_append,hF,hB];omega),hB,show p*5+(l.length-(p+1))*5=(l.length-1)*5 by omega,hdrop (l.length-1) (by omega)]
 have htake:(zd (l.map zg.av)++U).take (p*5)=zd ((l.take p).map zg.av):=by
  rw[vL l p,List.append_assoc,←hA p (by omega),List.take_left]
 rw[htake]
 simp only[vd,List.map_append,qE,List.append_assoc]
theorem zft (o0 o1 o2:Ob)(n0 m0:Nat)(ty:Nat→TypeId)(l:List zg)(p d:Nat){K:AV→St→Prop}(hp:p < l.length)(hl:l.length≤512)(n:Nat)(hn:n=l.length)
  (hK:∀ex:List AV,K (.vsl 3 0 (l.length-1) 5) ⟨[o0,o1,o2,.cells (zd ((vd l p).map zg.av)++ex) 40],[],n0,m0,ty⟩) :
  zQ Tryz.prog L 177 [.vsl 3 0 n 5,.int .i64 p,.int .i64 ((p+1:Nat):Int)] ⟨[o0,o1,o2,jz (l.map zg.av) 5 d 40],[],n0,m0,ty⟩ K:=by
 subst hn
 refine zQ.intro mixed [] (nt:=33) Tryz.func177 rfl rfl (by simp) ?_
 have hF:(zd (l.map zg.av)).length=l.length*5:=z8.flen l
 have hd:(zd (l.map zg.av)++List.replicate (d*5) AV.undef).length=l.length*5+d*5:=by rw[List.length_append,hF,List.length_replicate]
 have hB:(zd ((l.drop (p+1)).map zg.av)).length=(l.length-(p+1))*5:=by rw[z8.flen,List.length_drop]
 repeat((conv=>whnf);first|refine sJ ?_|refine aI (by first|exact(show(0:Int)≤(p:Int)∧(p:Int)≤((p+1:Nat):Int)∧((p+1:Nat):Int)≤(l.length:Int)∧(l.length:Int)≤((l.length:Nat):Int) from⟨by omega,by omega,by omega,by omega⟩)|kernel_rfl) ?_ )
 try(conv=>whnf)
 refine zx.mk (fun h1=>?_) (fun h1=>?_)<;>(try rw[h1])
 ·exfalso
  simp at h1
  omega
 repeat((conv=>whnf);first|refine sJ ?_|refine aI (by first|exact⟨by omega,(show 0+p*5≤(zd (l.map zg.av)++List.replicate (d*5) AV.undef).length by rw[hd];omega),by decide⟩|exact(show JB ((p+1:Nat):Int) l.length from⟨by omega,by omega⟩)|kernel_rfl) ?_ )
 try(conv=>whnf)
 have hT:(l.length-((p+1:Nat):Int).toNat)=l.length-(p+1):=rfl
 have hdrop:(zd (l.map zg.av)++List.replicate (d*5) AV.undef).drop (0+((p+1:Nat):Int).toNat*5)=zd ((l.drop (p+1)).map zg.av)++List.replicate (d*5) AV.undef:=by
  rw[Int.toNat_natCast,Nat.zero_add,vL l (p+1),List.append_assoc,←(show(zd ((l.take (p+1)).map zg.av)).length=(p+1)*5 by rw[z8.flen,List.length_take,Nat.min_eq_left (by omega)]),List.drop_left]
 have htake:((zd (l.map zg.av)++List.replicate (d*5) AV.undef).drop (0+((p+1:Nat):Int).toNat*5)).take ((l.length-((p+1:Nat):Int).toNat)*5)=zd ((l.drop (p+1)).map zg.av):=by
  rw[hdrop,hT,←hB,List.take_left]
 refine And.intro ⟨rfl,rfl,by decide,?_,?_,?_⟩ ?_
 ·rw[htake,hT,hB]
 ·rw[htake];exact kw (z8.els _)
 ·rw[hd,hT,Int.toNat_natCast];omega
 have hU:=zfF l p (List.replicate (d*5) AV.undef) hp
 have hlast:(l.drop (l.length-1)).length=1:=by rw[List.length_drop];omega
 have hal:(vd l p++l.drop (l.length-1)).length=l.length:=by rw[List.length_append,WC hp,hlast];omega
 have hpl:(p:Int).toNat+(l.length-((p+1:Nat):Int).toNat)=l.length-1:=by rw[hT,Int.toNat_natCast];omega
 rw[hpl]
 rw[show(0+((p+1:Nat):Int).toNat*5)=(p+1)*5 from by rw[Nat.zero_add];rfl,show(l.length-((p+1:Nat):Int).toNat)=l.length-(p+1) from rfl,show(p:Int).toNat*5=p*5 from rfl,hU]
 have hd2:(zd ((vd l p++l.drop (l.length-1)).map zg.av)++List.replicate (d*5) AV.undef).length=l.length*5+d*5:=by rw[List.length_append,z8.flen,hal,List.length_replicate]
 have hl1:(l.length:Int).toNat-((l.length-1:Nat):Int).toNat=l.length-(l.length-1):=rfl
 repeat((conv=>whnf);first|refine sJ ?_|refine aI (by first|exact⟨by omega,(show 0+l.length*5≤(zd ((vd l p++l.drop (l.length-1)).map zg.av)++List.replicate (d*5) AV.undef).length by rw[hd2];omega),by decide⟩|exact(show JB ((l.length-1:Nat):Int) l.length from⟨by omega,by omega⟩)|exact⟨rfl,rfl,by decide,(show 0+((l.length-1:Nat):Int).toNat*5+((l.length:Int).toNat-((l.length-1:Nat):Int).toNat)*5≤(zd ((vd l p++l.drop (l.length-1)).map zg.av)++List.replicate (d*5) AV.undef).length by rw[hd2,hl1,Int.toNat_natCast];omega)⟩|kernel_rfl) ?_ )
 try(conv=>whnf)
 rw[z8.clr' (l:=vd l p++l.drop (l.length-1)) (k:=l.length-1) _ _ 5 ((l.length:Int).toNat-((l.length-1:Nat):Int).toNat) rfl (by rw[hal];rfl) (by omega) rfl]
 rw[show(vd l p++l.drop (l.length-1)).take (l.length-1)=vd l p from by rw[←WC hp,List.take_left]]
 exact hK _
theorem zcB (s:zc)(c:zg):zb Tryz.prog L 130 [s.av,c.av] (.tup [(YK s c).1.av,.int .i64 (YK s c).2]):=by
 refine zb.intro mixed [] (nt:=31) Tryz.func130 rfl rfl (by simp) ?_
 refine Wk ?_
 refine cD (c_form L s) ?_
 refine Wk ?_
 refine zx.mk (fun h1=>?_) (fun h1=>?_)<;>(try rw[h1])
 ·have h1':yc s=false:=by simpa using h1
  refine Wk ?_
  exact ze.mk rfl (za.of_eq (by rw[YK,if_pos h1'];rfl))
 have h1':yc s=true:=by simpa using h1
 obtain⟨f1,f2,f3⟩:=xC h1'
 refine Wk ?_
 refine cD (KM L s.cells c 139 (vO c) (by omega) rfl (QH h1' c) (fun x _=>c_compare L x c)) ?_
 rw[show wQ (vO c) s.cells=vl s c from rfl,show jx (vO c) s.cells=Qy s c from rfl]
 refine Wk ?_
 refine zx.mk (fun h2=>?_) (fun h2=>?_)<;>(try rw[h2])
 ·have h2':Qy s c=false:=by simpa using h2
  refine Wk ?_
  exact ze.mk rfl (za.of_eq (by rw[YK,if_neg (by simp[h1']),if_pos h2'];rfl))
 have h2':Qy s c=true:=by simpa using h2
 have hget:=zel h2'
 have hp:=(List.getElem?_eq_some_iff.1 hget).1
 have hne:s.cells≠[]:=by intro h;rw[h]at hp;simp at hp
 have hres:YK s c=(⟨s.len,s.offs,vd s.cells (vl s c)⟩,0):=by rw[YK,if_neg (by simp[h1']),if_neg (by simp[h2'])]
 rw[hres]
 clear hres
 refine Wk ?_
 refine zo.fresh rfl (jo L s.cells hne (by omega)) (by rfl) (z8.els _) (z8.scal (fun _=>rfl) _) (fun h=>absurd (by simpa using h) hne) (fun d=>?_)
 have hw:IntKind.i64.wrap ((vl s c:Int)+1)=((vl s c+1:Nat):Int):=by rw[xw]<;>omega
 refine Wk ?_
 rw[hw]
 refine zo.inl rfl ?_
 refine zft L _ _ _ _ _ _ s.cells (vl s c) d hp f2 _ (by simp) (fun ex=>?_)
 refine Wk ?_
 exact ze.mk (zjy (z8.fzb rfl (WC hp))) (za.zj _)
theorem KK (s:zc)(c:zJ):zb Tryz.prog L 83 [s.av,c.av] (.tup [(yi s c).1.av,.int .i64 (yi s c).2]):=by
 refine zb.intro mixed [] (nt:=20) Tryz.func83 rfl rfl (by simp) ?_
 refine Wk ?_
 refine zx.mk (fun h=>?_) (fun h=>?_)<;>(try rw[h])
 ·refine Wk ?_
  refine cD (zjC L s c.cell) ?_
  refine Wk ?_
  exact ze.mk rfl (za.of_eq (by rw[yi,if_pos h];rfl))
 ·refine Wk ?_
  refine cD (zcB L s c.cell) ?_
  refine Wk ?_
  exact ze.mk rfl (za.of_eq (by rw[yi,if_neg (by simp[h])];rfl))
end
end HM
