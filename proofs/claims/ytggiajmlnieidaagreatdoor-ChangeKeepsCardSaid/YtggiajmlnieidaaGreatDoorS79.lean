/- A player: the beginning. -/
import Derived.Test.YtggiajmlnieidaaGreatDoorS76
import Derived.Test.YtggiajmlnieidaaGreatDoorDb
import Derived.Test.YtggiajmlnieidaaGreatDoorS78
import Derived.Test.YtggiajmlnieidaaGreatDoorFh
import Derived.Shelf.Small.Wraps
import Derived.Test.YtggiajmlnieidaaGreatDoorDe
import Derived.Test.YtggiajmlnieidaaGreatDoorS70
import Derived.Test.YtggiajmlnieidaaGreatDoorS6
set_option maxHeartbeats 64000000
set_option maxRecDepth 100000
namespace HM
open Go Go.RowKit Go.Proofs
section
variable (L:World→Prop) {kx:KX}
def vc:AV:=.agg [.int .i64 (-1),.nilm,.nilm,.nilm,.bool false]
structure WI (kx:KX)(S:St)(pb:Nat)(l:List zf)(s:zc)(x:List zD)(k:Nat)(sv:AV):Prop where
 p:S.bx[pb]? = some (.cells (X6 l s x sv .nils .nils) 137)
 kb:∀e∈kx.ks,S.bx[e.1]? = some (.cells e.2.1 e.2.2)
 q:(k=0∧sv=.grown .nils 0)∨∃qb ex,sv=.vsl qb 0 k 5∧S.bx[qb]? = some (.cells (zd (List.replicate k vc)++ex) 198)
theorem zii (k:Nat):jC 5 (List.replicate k vc):=fun e he=>by
 obtain⟨_,rfl⟩:=List.mem_replicate.1 he
 rfl
theorem VV (k:Nat):(zd (List.replicate k vc)).length=k*5:=by
 have:=(zii k).flen
 rwa [List.length_replicate]at this
theorem zbu (k:Nat)(ex:List AV):zd (List.replicate k vc)++(zd [vc]++ex)=zd (List.replicate (k+1) vc)++ex:=by
 rw[List.replicate_succ',qE,List.append_assoc]
theorem WI.first {kx:KX}{S:St}{pb:Nat}{l:List zf}{s:zc}{x:List zD}{sv:AV}(h:WI kx S pb l s x 0 sv)(y1:Nat×Nat)(e:TypeId)(n m d:Nat)(hn:n=S.bx.length)(hm:m=1) :
  WI kx (((S.addF y1 e).addB (.cells (zd [vc]++List.replicate d .undef) 198)).setB pb (.cells (X6 l s x (.vsl n 0 m 5) .nils .nils) 137)) pb l s x 1 (.vsl n 0 m 5):=by
 subst hn;subst hm
 have hlt:=(List.getElem?_eq_some_iff.1 h.p).1
 refine⟨St.zw (St.zm (S:=S.addF y1 e) h.p),fun z hz=>by rw[St.zi (yP h.p (h.kb z hz) (kx.hk z hz).1.symm)];exact St.zm (S:=S.addF y1 e) (h.kb z hz),.inr ⟨S.bx.length,List.replicate d .undef,rfl,?_⟩⟩
 rw[St.zi (by omega)]
 exact St.zP (S.addF y1 e) _
theorem WI.room {kx:KX}{S:St}{pb:Nat}{l:List zf}{s:zc}{x:List zD}{k qb:Nat}{ex:List AV}{sv:AV}(h:WI kx S pb l s x k sv)(hq:S.bx[qb]? = some (.cells (zd (List.replicate k vc)++ex) 198))(y1:Nat×Nat)(e:TypeId)(hr:(k+1)*5≤(zd (List.replicate k vc)++ex).length) :
  WI kx (((S.addF y1 e).setB qb (.cells (zR (zd (List.replicate k vc)++ex) (k*5) (zd [vc])) 198)).setB pb (.cells (X6 l s x (.vsl qb 0 (k+1) 5) .nils .nils) 137)) pb l s x (k+1) (.vsl qb 0 (k+1) 5):=by
 have hne:qb≠pb:=(yP h.p hq (by first|decide|exact(show(137:Nat)≠_ by decide)|exact(show _≠(137:Nat) by decide)|exact(show _≠(198:Nat) by decide)|exact(show _≠(161:Nat) by decide))).symm
 have hfl:=VV k
 rw[List.length_append]at hr
 refine⟨St.zw (by rw[St.zi hne];exact h.p),fun z hz=>by rw[St.zi (yP h.p (h.kb z hz) (kx.hk z hz).1.symm),St.zi (yP hq (h.kb z hz) (kx.hk z hz).2.1.symm)];exact h.kb z hz,.inr ⟨qb,ex.drop 5,rfl,?_⟩⟩
 rw[St.zi hne.symm,St.zw (S:=S.addF y1 e) hq]
 have hz:(zd [vc]).length=5:=rfl
 rw[y4 _ _ _ (by rw[List.length_append,hz];omega),hz,←hfl,List.take_left,List.drop_append]
 have:List.drop ((zd (List.replicate k vc)).length+5) (zd (List.replicate k vc))=[]:=List.drop_eq_nil_of_le (by omega)
 rw[this,List.nil_append,show(zd (List.replicate k vc)).length+5-(zd (List.replicate k vc)).length=5 from by omega,List.append_assoc,zbu]
theorem WI.grow {kx:KX}{S:St}{pb:Nat}{l:List zf}{s:zc}{x:List zD}{k:Nat}{ex:List AV}{sv:AV}(h:WI kx S pb l s x k sv)(y1:Nat×Nat)(e:TypeId)(n d:Nat)(hn:n=S.bx.length) :
  WI kx (((S.addF y1 e).addB (.cells ((zd (List.replicate k vc)++ex).take (k*5)++zd [vc]++List.replicate d .undef) 198)).setB pb (.cells (X6 l s x (.vsl n 0 (k+1) 5) .nils .nils) 137)) pb l s x (k+1) (.vsl n 0 (k+1) 5):=by
 subst hn
 have hlt:=(List.getElem?_eq_some_iff.1 h.p).1
 refine⟨St.zw (St.zm (S:=S.addF y1 e) h.p),fun z hz=>by rw[St.zi (yP h.p (h.kb z hz) (kx.hk z hz).1.symm)];exact St.zm (S:=S.addF y1 e) (h.kb z hz),.inr ⟨S.bx.length,List.replicate d .undef,rfl,?_⟩⟩
 rw[St.zi (by omega),←VV k,List.take_left,List.append_assoc,zbu]
 exact St.zP (S.addF y1 e) _
theorem zb0 (S:St)(l:List zf)(s:zc)(x:List zD){K:AV→St→Prop}(hl:l.length≤16)(hk:∀e∈kx.ks,S.bx[e.1]? = some (.cells e.2.1 e.2.2))
  (hK0:∀S' pb sv,WI kx S' pb l s x l.length sv→K (.ptr pb 0) S') :
  zQ Tryz.prog L 84 [zN l,s.av,xn x] S K:=by
 refine zQ.intro mixed [2] (nt:=29) Tryz.func84 rfl rfl (by simp) ?_
 repeat((conv=>whnf);first|refine sT ?_ )
 try(conv=>whnf)
 refine yF.jf mixed [] [] (fun (pb:Nat) S1=>S1.bx[pb]? = some (.cells (X6 l s x .nils .nils .nils) 137)∧∀e∈kx.ks,S1.bx[e.1]? = some (.cells e.2.1 e.2.2)) (fun pb=>[(0,zN l),(7,.ptr pb 0)]) ?_ ?_
 ·repeat((conv=>whnf);first|refine sT ?_|rw[St.zP])
  try(conv=>whnf)
  exact⟨_,⟨St.zP _ _,fun e he=>St.zm (St.zm (S:=S.inner) (hk e he))⟩,za.of_eq rfl,za.of_eq rfl,trivial⟩
 ·rintro pb S1 ⟨hp1,hk1⟩
  repeat((conv=>whnf);first|refine sT ?_ )
  try(conv=>whnf)
  refine zt.vR (id:=pb) (.cells (X6 l s x (.grown .nils 0) .nils .nils) 137) hp1 rfl ⟨rfl,za.zj _,za.zj _,za.zj _,za.zj _,za.zj _,za.zjk,za.zj _,za.zj _,trivial⟩ ?_
  refine zt.za3 mixed [] (fun (k:Nat) S1=>k≤l.length∧∃sv,WI kx S1 pb l s x k sv) (fun k=>[(7,.ptr pb 0),(14,.int .i64 l.length),(15,.int .i64 k)]) (fun k=>l.length-k) 0 ⟨by omega,_,St.zw hp1,fun z hz=>by rw[St.zi (yP hp1 (hk1 z hz) (kx.hk z hz).1.symm)];exact hk1 z hz,.inl ⟨rfl,rfl⟩⟩ ?_ ?_
  ·exact⟨za.of_eq rfl,za.int (by simp),za.of_eq rfl,trivial⟩
  rintro k S2 ⟨hk,sv,hN⟩
  have hp2:=hN.p
  have hml:(1:Nat)≤maxLen:=by simp only[maxLen];omega
  refine Wk ?_
  refine zx.mk (fun hb=>?_) (fun hb=>?_)<;>try rw[hb]
  ·have hlt:k < l.length:=by simpa using hb
   have hw:IntKind.i64.wrap ((k:Int)+1)=((k+1:Nat):Int):=(zu hlt (by omega))
   rcases hN.q with ⟨rfl,hsv⟩|⟨qb,ex,hsv,hq⟩
   ·have hF:=fun y1 e n m d=>hN.first y1 e n m d
    rw[hsv]at hp2
    have hpA:∀y' e,(S2.addF y' e).bx[pb]? = _:=fun _ _=>hp2
    have hpB:∀y' e o,((S2.addF y' e).addB o).bx[pb]? = _:=fun y' e o=>St.zm (S:=S2.addF y' e) hp2
    repeat' ((conv=>whnf);first|exact trivial|refine sT ?_|refine And.intro ?_ ?_|rw[hp2]|rw[hpA]|rw[hpB]|(intro k)|exact hml)
    all_goals(conv=>whnf)
    all_goals exact⟨1,⟨by omega,_,hF _ _ _ _ _ rfl rfl⟩,by omega,za.of_eq rfl,za.of_eq rfl,za.int hw,trivial⟩
   ·have hF:=fun y1 e n d=>hN.grow (ex:=ex) y1 e n d
    have hR:=fun y1 e=>hN.room hq y1 e
    rw[hsv]at hp2
    have hne:qb≠pb:=(yP hp2 hq (by first|decide|exact(show(137:Nat)≠_ by decide)|exact(show _≠(137:Nat) by decide)|exact(show _≠(198:Nat) by decide)|exact(show _≠(161:Nat) by decide))).symm
    have hpA:∀y' e,(S2.addF y' e).bx[pb]? = _:=fun _ _=>hp2
    have hpB:∀y' e o,((S2.addF y' e).addB o).bx[pb]? = _:=fun y' e o=>St.zm (S:=S2.addF y' e) hp2
    have hpD:∀y' e o,((S2.addF y' e).setB qb o).bx[pb]? = _:=fun y' e o=>(St.zi hne).trans hp2
    have hqA:∀y' e,(S2.addF y' e).bx[qb]? = _:=fun _ _=>hq
    have hfl:k*(4+1)≤(zd (List.replicate k vc)++ex).length:=by
     rw[List.length_append,VV];omega
    repeat' ((conv=>whnf);first|exact trivial|refine sJ ?_|refine aI (by first|exact trivial|exact(show(_+1)*40≤_ by omega)|exact(by simp only[List.length_cons,List.length_nil,maxLen];omega)|kernel_rfl) ?_|refine And.intro ?_ ?_|rw[hp2]|rw[hpA]|rw[hpB]|rw[hpD]|rw[hqA]|(intro d)|(refine zdR.mk (fun hr=>?_) (fun hr=>?_))|exact hfl)
    all_goals(conv=>whnf)
    all_goals first
     | exact⟨k+1,⟨by omega,_,hF _ _ _ _ rfl⟩,by omega,za.of_eq rfl,za.of_eq rfl,za.int hw,trivial⟩
     | exact⟨k+1,⟨by omega,_,hR _ _ (by assumption)⟩,by omega,za.of_eq rfl,za.of_eq rfl,za.int hw,trivial⟩
  ·have hk':k=l.length:=by simp at hb;omega
   subst hk'
   refine Wk ?_
   exact hK0 _ _ _ ⟨hN.p,hN.kb,hN.q⟩
end
instance:Inhabited xd:=⟨⟨0,0,0⟩⟩
def xd.enc (d:xd):List Value:=[.int .i64 d.flow,.int .i64 d.frame,.int .i64 d.slot]
theorem xd.JA (G:Gh)(fr:yC)(w:World)(x:xd)(vs:List Value):zI G fr w x.av.cells vs↔vs=x.enc:=by
 simp only[xd.av,AV.cells,zI,VR,xd.enc]
 constructor
 ·rintro⟨u,us,rfl,rfl,u2,us2,rfl,rfl,u3,us3,rfl,rfl,rfl⟩;rfl
 ·rintro rfl
  exact⟨_,_,rfl,rfl,_,_,rfl,rfl,_,_,rfl,rfl,rfl⟩
def cfD (a b:xd):Int:=Lib.compareInt a.flow b.flow
theorem ltD (a b:xd):ltOf cfD a b=decide (a.flow < b.flow):=by
 unfold ltOf cfD Lib.compareInt
 by_cases h1:a.flow < b.flow
 ·simp[h1]
 ·by_cases h2:b.flow < a.flow<;>simp[h1,h2]
theorem zjR:Go.Sort.SWO (ltOf cfD) where
 irrefl x:=by rw[ltD];simp
 trans x y z h1 h2:=by rw[ltD]at *;simp at *;omega
 ntrans x y z h1 h2:=by rw[ltD]at *;simp at *;omega
theorem zj4 (x y:xd)(W:World):Calls Tryz.prog 150 #[.agg x.enc.toArray,.agg y.enc.toArray] W fun e w'=>e=.returned (.int .i64 (cfD x y))∧∃q os',w'=Go.Sort.grow (W.drewN q) os':=by
 have hcon:=fun W'=>Tryz.cmp_Compare_int x.flow y.flow W'
 unfold cfD
 generalize Lib.compareInt x.flow y.flow=r at hcon ⊢
 unfold xd.enc
 go_enter Tryz.func150,Tryz.ntmps150
 go_wp2_with (go_at_call 92;refine(hcon _).mono ?_;rintro e w' ⟨rfl,rfl⟩)
 go_ret
 exact⟨rfl,0,_,by rw[Go.Sort.alloc_eq_grow,Go.Sort.alloc_eq_grow,Go.Sort.grow_grow];rfl⟩
theorem zis (blk off cap:Nat)(d:Array (xd×Unit))(w:World)(hH:Go.Sort.HoldsK (fun p:xd×Unit=>p.1.enc) 3 w blk off d)(hblk:blk < w.heap.size)(hsz:d.size < 4611686018427387904) :
  Calls Tryz.prog 149 #[.slice (some ⟨blk,off,none⟩) d.size cap,.func (.func 150) #[] #[]] w fun e w'=>e=.returned (.tuple #[])∧∃d' n os,Go.Sort.PermIn 0 d.size d d'∧Go.Sort.SortedIn (fun p q:xd×Unit=>ltOf cfD p.1 q.1) 0 d.size d'∧w'=sortWorldK (fun p:xd×Unit=>p.1.enc) 3 w blk off n d' os:=
 AnyQ.slices_SortFunc Tryz.zeN 3 Tryz.isAgg161 Tryz.sizeOf161 (fun p:xd×Unit=>p.1.enc) (fun _=>rfl) (fun x v hv=>by simp[xd.enc]at hv;rcases hv with rfl|rfl|rfl<;>rfl) (fun p q:xd×Unit=>cfD p.1 q.1) ⟨fun x=>zjR.irrefl x.1,fun x y z=>zjR.trans x.1 y.1 z.1,fun x y z=>zjR.ntrans x.1 y.1 z.1⟩ 150 #[] blk off cap d w
  (enters_of Tryz.func150 (by kernel_rfl) rfl) (fun _ _ _ _ x y=>zj4 x.1 y.1 _) hH hblk hsz
theorem zbV (p:Option Addr)(cap:Nat)(fv:Value)(w:World):Calls Tryz.prog 149 #[.slice p 0 cap,fv] w fun e w'=>e=.returned (.tuple #[])∧w'=w:=
 AnyF.slices_SortFunc_none Tryz.zeN p cap fv w
section
variable (L:World→Prop) {kx:KX}
theorem zg3 (S:St)(pb ch:Nat)(l:List zf)(s:zc)(x:List zD)(Q:PL)(t:Nat)(r:wK){K:AV→St→Prop}(hI:Jp (jE kx) S pb ch l s x Q)(hl:xE l)(hs:(y0 x).2=0)(hSim:zdO l ((t:Int)-1) Q r)(ht:t≤1073741824)(hc:s.cells.length≤1048576)
  (ha:Q.atts.length≤536870912) (hd:Q.dels.length≤536870912) (hK0:∀S',Jp (jE kx) S' pb ch l s x (Yn l s x Q t)→K (.tup []) S') :
  zQ Tryz.prog L 87 [.ptr pb 0,.int .i64 t] S K:=by
 have hQ:=hSim.len
 have h0:=hSim.start hl (by omega)
 rw[show((t:Int)-1+1)=t from by omega]at h0
 obtain⟨Q1,hQ1⟩:∃Q1:PL,Q1=⟨xp l t Q.sts,Q.atts,Q.dels⟩:=⟨_,rfl⟩
 rw[←hQ1]at h0
 refine zQ.intro mixed [2] (nt:=40) Tryz.func87 rfl rfl (by simp) ?_
 repeat((conv=>whnf);first|refine sT ?_ )
 try(conv=>whnf)
 refine zo.inl rfl ?_
 refine zfq L (kx:=kx) _ pb ch l s x Q t (xx.zdU hI rfl rfl rfl) hl.len hQ (by omega) hl.ok fun S1 hI1=>?_
 rw[←hQ1]at hI1
 obtain⟨g,sv,dv,hP1⟩:=hI1
 have hp1:=hP1.p
 repeat((conv=>whnf);first|refine sT ?_ )
 try(conv=>whnf)
 refine yF.jf mixed [] [7] (fun (_:Unit) S2=>Jp (jE kx) S2 pb ch l s x Q1) (fun _=>[(0,.ptr pb 0),(1,.int .i64 t),(4,.int .i64 Q.dels.length)]) ?_ ?_
 ·have hQd:Q1.dels=Q.dels:=by rw[hQ1]
  rcases hP1.d with ⟨h1,h2⟩|⟨db,ex,h1,h2⟩
  ·rw[h2]at hp1
   repeat((conv=>whnf);first|refine sT ?_|rw[hp1])
   try(conv=>whnf)
   exact⟨(),⟨g,sv,dv,hP1⟩,za.of_eq rfl,za.of_eq rfl,za.int (by rw[←hQd,h1];rfl),trivial⟩
  ·rw[h1]at hp1
   repeat((conv=>whnf);first|refine sT ?_|rw[hp1])
   try(conv=>whnf)
   exact⟨(),⟨g,sv,dv,hP1⟩,za.of_eq rfl,za.of_eq rfl,za.int (by rw[hQd]),trivial⟩
 clear hp1 hP1
 rintro⟨⟩ S2 ⟨g2,sv2,dv2,hP2⟩
 have hp2:=hP2.p
 repeat((conv=>whnf);first|refine sT ?_|rw[hp2])
 try(conv=>whnf)
 obtain⟨cs,hcs⟩:∃cs,cs=Jh s t:=⟨_,rfl⟩
 have hcl:cs.length≤1048576:=by rw[hcs];exact Nat.le_trans (zdM s t) hc
 refine yF.jf mixed [] [] (fun (_:Unit) S3=>Jp (jE kx) S3 pb ch l s x (cs.foldl (yg l x t) Q1)) (fun _=>[(0,.ptr pb 0),(1,.int .i64 t),(4,.int .i64 Q.dels.length)]) ?_ ?_
 ·repeat((conv=>whnf);first|refine sT ?_|rw[hp2])
  try(conv=>whnf)
  refine cD (c_At L s t (by omega) (by omega)) ?_
  rw[←hcs]
  repeat((conv=>whnf);first|refine sT ?_ )
  try(conv=>whnf)
  refine zt.za3 mixed [] (fun (k:Nat) S3=>k≤cs.length∧Jp (jE kx) S3 pb ch l s x ((cs.take k).foldl (yg l x t) Q1)) (fun k=>[(0,.ptr pb 0),(1,.int .i64 t),(4,.int .i64 Q.dels.length),(21,zy cs),(22,.int .i64 cs.length),(23,.int .i64 k)]) (fun k=>cs.length-k) 0 ⟨by omega,g2,sv2,dv2,hP2⟩ ?_ ?_
  ·exact⟨za.of_eq rfl,za.of_eq rfl,za.of_eq rfl,za.of_eq rfl,za.int (by simp),za.of_eq rfl,trivial⟩
  rintro k S3 ⟨hk,hI3⟩
  refine Wk ?_
  refine zx.mk (fun hb=>?_) (fun hb=>?_)<;>try rw[hb]
  ·have hlt:k < cs.length:=by simpa using hb
   obtain⟨c,hgc⟩:=zr hlt
   have hmc:=zk (f:=zg.av) hgc
   have hSk:=Sim.fold hl (by omega:(t:Int)≤1099511627776) (by omega) x (cs.take k) h0
   obtain⟨Qk,hQk⟩:∃Qk,Qk=(cs.take k).foldl (yg l x t) Q1:=⟨_,rfl⟩
   have hlen:=XF l x t (cs.take k) Q1
   rw[←hQk]at hSk hlen hI3
   obtain⟨hok,htr⟩:=hSk.ask
   have hQ1a:Q1.atts=Q.atts:=by rw[hQ1]
   have hQ1d:Q1.dels=Q.dels:=by rw[hQ1]
   rw[hQ1a,hQ1d,List.length_take]at hlen
   repeat((conv=>whnf);first|refine sJ ?_|refine aI (by first|exact trivial|exact zh hlt|kernel_rfl) ?_|rw[hmc]|rw[St.zP]|rw[St.zw (St.zP _ _)])
   try(conv=>whnf)
   refine zo.inl rfl ?_
   refine zfr L (kx:=kx) _ pb ch l s x Qk c t ?_ hl.len hSk.len hs hok (fun i p hp h0 a b=>?_) (by omega) (by omega) (by omega) fun S4 hI4=>?_
   ·obtain⟨g3,sv3,dv3,hP3⟩:=hI3
    refine⟨g3,sv3,dv3,hP3.more (fun id o ho=>?_) rfl rfl⟩
    have:=(List.getElem?_eq_some_iff.1 ho).1
    rw[St.zi (by omega)]
    exact St.zm ho
   ·have:=htr i p hp h0 a b
    omega
   ·rw[hQk,←zfw l x t hgc]at hI4
    refine Wk ?_
    exact⟨k+1,⟨by omega,hI4⟩,by omega,za.of_eq rfl,za.of_eq rfl,za.of_eq rfl,za.of_eq rfl,za.of_eq rfl,za.int (zu hlt (by omega)),trivial⟩
  ·have hk':k=cs.length:=by simp at hb;omega
   subst hk'
   rw[List.take_length]at hI3
   refine Wk ?_
   exact⟨(),hI3,za.of_eq rfl,za.of_eq rfl,za.of_eq rfl,trivial⟩
 ·clear hp2 hP2
  rintro⟨⟩ S3 ⟨g3,sv3,dv3,hP3⟩
  have hSn:=Sim.fold hl (by omega:(t:Int)≤1099511627776) (by omega) x cs h0
  obtain⟨Qn,hQn⟩:∃Qn,Qn=cs.foldl (yg l x t) Q1:=⟨_,rfl⟩
  rw[←hQn]at hSn hP3
  have hlq:=XF l x t cs Q1
  rw[←hQn,show Q1.dels=Q.dels from by rw[hQ1]]at hlq
  obtain⟨new,hnew,hend⟩:=hSn.slotEnd
  have hslot:Yn l s x Q t=⟨Qn.sts,Qn.atts,Qn.dels.take Q.dels.length++(Qn.dels.drop Q.dels.length).mergeSort (fun a b=>decide (a.flow≤b.flow))⟩:=by
   rw[Yn,←hQ1,←hcs,←hQn]
  have hp3:=hP3.p
  rcases hP3.d with ⟨h1,h2⟩|⟨db,ex,h1,h2⟩
  ·rw[h2]at hp3
   have hb0:Q.dels=[]:=by rw[h1]at hnew;exact(List.append_eq_nil_iff.1 hnew.symm).1
   have hn0:new=[]:=by rw[h1]at hnew;exact(List.append_eq_nil_iff.1 hnew.symm).2
   rw[hb0]
   repeat((conv=>whnf);first|refine sT ?_|rw[hp3])
   try(conv=>whnf)
   refine zo.inl rfl ?_
   refine zQ.zhU zbV ?_
   repeat((conv=>whnf);first|refine sT ?_ )
   try(conv=>whnf)
   refine hK0 _ ?_
   rw[hslot,hend [] (by rw[hn0]) .nil,List.append_nil,hb0]
   have:Qn=⟨Qn.sts,Qn.atts,[]⟩:=by rw[←h1]
   rw[←this]
   exact xx.zdU ⟨g3,sv3,dv3,hP3⟩ rfl rfl rfl
  ·rw[h1]at hp3
   have hlen:Qn.dels.length=Q.dels.length+new.length:=by rw[hnew];simp
   have hic:JB (Q.dels.length:Int) Qn.dels.length:=⟨by omega,by omega⟩
   repeat((conv=>whnf);first|refine sJ ?_|refine aI (by first|exact trivial|exact hic|kernel_rfl) ?_|rw[hp3])
   try(conv=>whnf)
   refine zo.inl rfl ?_
   have h2':S3.bx[db]? = some (.cells (zd (Q.dels.map xd.av)++zd (new.map xd.av)++ex) 161):=by
    rw[h2,hnew,List.map_append,qE];rfl
   have hfl:=(VA Q.dels).flen
   rw[List.length_map]at hfl
   refine zQ.zkX (av:=xd.av) (enc:=xd.enc) (lt:=ltOf cfD) (by decide) (fun _=>rfl) xd.JA zis zbV h2' (by omega) (by rw[hfl];simp) (by omega) fun ds hp hps=>?_
   repeat((conv=>whnf);first|refine sT ?_ )
   try(conv=>whnf)
   refine hK0 _ ?_
   have hps':ds.Pairwise fun a b=>a.flow≤b.flow:=hps.imp fun {a b} hab=>by
    rw[ltD]at hab
    simpa using hab
   rw[hslot,hend ds hp hps']
   have hlen2:(Q.dels++ds).length=Qn.dels.length:=by rw[List.length_append,hlen,hp.length_eq]
   have hfin:=hP3.sortD h1 h2 hlen2
   rw[List.map_append,qE]at hfin
   exact xx.zdU hfin rfl rfl rfl
end
def Qm (id:Nat):KX:=⟨[(id,[.nils,.nils],74)],by
 intro e he
 obtain rfl:e=_:=List.mem_singleton.1 he
 exact⟨(show(74:Nat)≠137 by decide),(show(74:Nat)≠198 by decide),(show(74:Nat)≠161 by decide)⟩⟩
theorem WI.start {kx:KX}{S:St}{pb:Nat}{l:List zf}{s:zc}{x:List zD}{sv:AV}(h:WI kx S pb l s x l.length sv) :
  Jp (jE kx) (((S.addF (0,8) 141).setB pb (.cells (X6 l s x sv (.own [] S.fr.length) .nils) 137)).setB pb (.cells (X6 l s x sv (.own [] S.fr.length) (.grown .nils 0)) 137)) pb S.fr.length l s x ⟨l.map fun _=>PS.first,[],[]⟩:=by
 refine⟨fun _ _=>0,sv,.grown .nils 0,?_,?_,fun i p hp h0=>?_,fun i p i' p' hp _ h0=>?_,?_,?_,fun z hz=>?_,.inl ⟨rfl,rfl⟩⟩
 ·exact St.zw (St.zw (S:=S.addF (0,8) _) h.p)
 ·rcases h.q with ⟨h1,h2⟩|⟨qb,ex,h1,h2⟩
  ·exact .inl ⟨by rw[List.length_eq_zero_iff.1 h1];rfl,h2⟩
  ·refine .inr ⟨qb,ex,by rw[List.length_map];exact h1,?_⟩
   have hne:pb≠qb:=yP h.p h2 (by decide)
   rw[St.zi hne,St.zi hne,zic l _ vc (fun _=>rfl)]
   exact h2
 ·exfalso
  have:p=PS.first:=by
   simp only[List.getElem?_map,Option.map_eq_some_iff]at hp
   obtain⟨_,_,rfl⟩:=hp;rfl
  subst this
  exact absurd h0 (by decide)
 ·exfalso
  have:p=PS.first:=by
   simp only[List.getElem?_map,Option.map_eq_some_iff]at hp
   obtain⟨_,_,rfl⟩:=hp;rfl
  subst this
  exact absurd h0 (by decide)
 ·show(S.fr++[(0,8)])[S.fr.length]? = some (0,8)
  simp
 ·show(qG S.ty S.fr.length _) S.fr.length=_
  simp[qG];rfl
 ·rw[St.zi (yP h.p (h.kb z hz) (kx.hk z hz).1.symm),St.zi (yP h.p (h.kb z hz) (kx.hk z hz).1.symm)]
  exact h.kb z hz
theorem yF.zjM {P:Program}{L:World→Prop}{nt:Nat}(hm:P.follows .mixedOrders=true)(ct:List Nat){c d:Code}{a:Nat→AV}{S:St}{Q:Exit→(Nat→AV)→St→Prop}{σ:Type}(I:σ→St→Prop)(sl:σ→List (Nat×AV))
  (hc:WP P L nt ct c a S (Wb (fun a' S'=>∃s,I s S'∧Js a' (sl s)) Q)) (hd:∀s S,I s S→zW P L nt d (Xs (sl s)) S Q):yF P L nt c d a S Q:=by
 refine⟨⟨fun w0 G act w hR=>?_⟩⟩
 refine wpIn_seq (Go.wpIn_mono ((zE hm c a S _ hc).out w0 G act w hR) fun e a' w' ⟨G',a1,S',hR',hq⟩=>?_)
 cases e with
 | normal=>
  obtain⟨s,hI,hfit⟩:=hq
  exact(hd s S' hI).out w0 _ a' w' (hR'.slots hfit)
 | _=>exact⟨G',a1,S',hR',hq⟩
theorem zgz {X:St}{al:List y9}{ds:List xd}{ch db n:Nat}{ex:List AV}{t:TypeId}(hdb:X.bx[db]? = some (.cells (zd (ds.map xd.av)++ex) t))(hn:ds.length=n):ze (.tup [(⟨al,ds⟩:wK).av,.int .i64 0]) (.tup [.agg [.own (al.map y9.av) ch,.vsl db 0 n 3],.int .i64 0]) X:=
 ze.mk (r0:=.tup [.agg [.sl false (al.map y9.av),.sl false (ds.map xd.av)],.int .i64 0]) (by
  have e1:wj X [.own (al.map y9.av) ch,.vsl db 0 n 3] = some [.sl false (al.map y9.av),.sl false (ds.map xd.av)]:=Y0 rfl (Y0 (zkO.fzb hdb hn) rfl)
  have e2:fzb X (.agg [.own (al.map y9.av) ch,.vsl db 0 n 3])=some (.agg [.sl false (al.map y9.av),.sl false (ds.map xd.av)]):=by
   show Option.map AV.agg (wj X [.own (al.map y9.av) ch,.vsl db 0 n 3])=_
   rw[e1];rfl
  show Option.map AV.tup (wj X [.agg [.own (al.map y9.av) ch,.vsl db 0 n 3],.int .i64 0])=_
  rw[Y0 e2 (b':=[.int .i64 0]) rfl];rfl) (za.of_eq rfl)
section
variable (L:World→Prop)
theorem ql (l:List zg)(p:zg→Bool)(g:Nat)(caps:List AV)(hl:l.length≤281474976710656)(hcb:zO Tryz.prog g=true)(hc:xo caps=some caps)(hp:∀x∈l,zb Tryz.prog L g (zg.av x :: caps) (.bool (p x))) :
  zb Tryz.prog L 164 [.sl false (l.map zg.av),.fn g caps] (.int .i64 (wu p l)):=by
 refine zb.intro mixed [] (nt:=19) Tryz.func164 rfl rfl (by simp) ?_
 refine Wk ?_
 refine zt.run mixed [] (fun (k:Nat)=>k≤l.length∧∀j x,j < k→l[j]? = some x→p x=false) (fun k=>[(0,.sl false (l.map zg.av)),(1,.fn g caps),(7,.int .i64 l.length),(8,.int .i64 k)]) (fun k=>St.none) (fun k=>l.length-k) 0 ⟨by simp,by simp⟩ ?_ ?_
 ·refine fN ?_<;>repeat' (first|exact fQ|refine And.intro ?_ ?_|exact za.int (by simp)|exact yz hc)
 rintro k ⟨hk,hinv⟩
 refine Wk ?_
 refine zx.mk (fun hb=>?_) (fun hb=>?_)<;>try rw[hb]
 ·have hlt:k < l.length:=by simpa using hb
  obtain⟨x,hgx⟩:=zr hlt
  have hmx:=zk (f:=zg.av) hgx
  repeat((conv=>whnf);first|refine sJ ?_|refine aI (by first|exact zh hlt|kernel_rfl) ?_|rw[hmx])
  try(conv=>whnf)
  refine zo.data hcb (hp x (List.mem_of_getElem? hgx)) (by show(match fz _,xo caps with|some a,some b=>some (a :: b)|_,_=>none)=_;rw[hc];rfl) ?_
  refine Wk ?_
  refine zx.mk (fun h2=>?_) (fun h2=>?_)<;>(try rw[h2])
  ·refine Wk ?_
   exact ze.mk rfl (za.int (yI hlt hinv hgx h2).symm)
  ·refine Wk ?_
   refine⟨k+1,⟨by omega,fun j y hj hy=>?_⟩,by omega,?_⟩
   ·rcases Nat.lt_succ_iff_lt_or_eq.1 hj with h|rfl
    ·exact hinv j y h hy
    ·rw[hgx]at hy;injection hy with hy;subst hy;exact h2
   ·refine fN ?_<;>repeat' (first|exact fQ|refine And.intro ?_ ?_|exact za.int (zu hlt hl)|exact yz hc)
 ·have hk':k=l.length:=by simp at hb;omega
  subst hk'
  refine Wk ?_
  exact ze.mk rfl (za.int (yY hinv).symm)
end
end HM
