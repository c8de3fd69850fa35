/- A change is made. -/
import Derived.Test.YtggiajmlnieidaaGreatDoorS256
import Derived.Test.YtggiajmlnieidaaGreatDoorFh
import Derived.Test.YtggiajmlnieidaaGreatDoorS164
set_option maxHeartbeats 64000000
set_option maxRecDepth 100000
namespace HM
open Go Go.RowKit Go.Proofs
theorem zgA (s:zc)(c:zg):(YK s c).1.cells.length≤s.cells.length:=by
 unfold YK
 repeat' split
 all_goals simp[vd]
 all_goals omega
theorem zhQ (s:zc)(c:zg):(kK s c).1.cells.length≤s.cells.length+1:=by
 unfold kK
 repeat' split
 all_goals simp[xX]
 all_goals omega
theorem zcl (s:zc)(c:zJ):(yi s c).1.cells.length≤s.cells.length+1:=by
 unfold yi
 split
 ·exact zhQ s c.cell
 ·have:=zgA s c.cell;omega
theorem Jn (s:zc):∀l:List zJ,(ya s l).cells.length≤s.cells.length+l.length:=fun l=>by
 unfold ya
 induction l generalizing s with
 | nil=>simp
 | cons c l ih=>
  have h1:=ih (yi s c).1
  have h2:=zcl s c
  simp only[List.foldl_cons,List.length_cons]
  omega
theorem ziz (n:zF)(before after:List ye)(fl dn:AV)(s:zc)(c:zJ)(S:St)(mb:Nat)(hb:S.bx[mb]? = some (qu n before after fl s dn)){K:AV→St→Prop}
  (h:∀S',S'.fr=S.fr→S'.ty=S.ty→S'.bx[mb]? = some (qu n before after fl (if (yi s c).2=0 then(yi s c).1 else s) dn)→(∀id o,id≠mb→S.bx[id]? = some o→S'.bx[id]? = some o)→K (.int .i64 (yi s c).2) S') :
  zQ Tryz.prog LW 50 [.ptr mb 0,c.av] S K:=by
 refine zQ.intro mixed [10001] (nt:=23) Tryz.func50 rfl rfl (by simp) ?_
 have hap:=Q4 LW s c
 have hi:=(List.getElem?_eq_some_iff.1 hb).1
 have hA:∀(S:St) o,(S.addB o).bx[S.bx.length]? = some o:=fun S o=>St.zP S o
 have hB1:∀o:Ob,(S.inner.addB o).bx[mb]? = some (qu n before after fl s dn):=fun o=>St.zm hb
 have hl:∀o:Ob,(S.inner.addB o).bx.length=S.bx.length+1:=fun o=>St.wm _ _
 have hD:∀o o' o2:Ob,(((S.inner.addB o).addB o').setB (S.inner.addB o).bx.length o2).bx[(S.inner.addB o).bx.length]? = some o2:=fun o o' o2=>St.zw (hA _ _)
 have hE:∀o o' o2:Ob,(((S.inner.addB o).addB o').setB (S.inner.addB o).bx.length o2).bx[mb]? = some (qu n before after fl s dn):=fun o o' o2=>by rw[St.zi (by rw[hl];omega)];exact St.zm (hB1 o)
 have hF:∀o o' o2:Ob,(((S.inner.addB o).addB o').setB (S.inner.addB o).bx.length o2).bx[S.bx.length]? = some o:=fun o o' o2=>by rw[St.zi (by rw[hl];omega)];exact St.zm (hA S.inner o)
 refine Wk ?_
 refine zW.ym mixed (fun X=>X.bx[mb]? = some (qu n before after fl s dn)∧X.bx[S.bx.length]? = some (.cells c.av.cells 42)) [0,1,2,3,4,5,6,7,8] 3 rfl rfl (by decide) rfl ⟨hB1 _,hA _ _⟩ ?_
 iterate 5
  conv=>whnf
  apply vA
  ·rintro S' K' hI hh
   repeat((conv=>whnf);first|refine sT ?_|erw [hI.1]|erw [hI.2])
   try(conv=>whnf)
   exact hh
 conv=>whnf
 apply vA
 ·rintro S' K' hI hh
  refine Wk ?_
  refine cD (hap) ?_
  exact hh
 iterate 3
  conv=>whnf
  apply vA
  ·rintro S' K' hI hh
   refine Wk ?_
   exact hh
 conv=>whnf
 repeat' ((conv=>whnf);first|exact trivial|refine sJ ?_|refine aI (by first|exact trivial|exact Or.inr (And.intro (St.zm (hB1 _)) (St.zm (hA S.inner _)))|exact Or.inr (And.intro (hE _ _ _) (hF _ _ _))|exact Or.inl rfl|kernel_rfl) ?_|refine And.intro ?_ ?_|rw[hA])
 all_goals(conv=>whnf)
 all_goals
  by_cases he:(yi s c).2=0
  ·have g:((yi s c).2==0)=true:=by rw[he];rfl
   rw[if_pos he]at h
   rw[g]
   repeat((conv=>whnf);first|refine sT ?_|rw[hD]|rw[hE])
   try(conv=>whnf)
   refine h _ rfl rfl (St.zw (hE _ _ _)) fun id o wp ho=>?_
   have hlt:=(List.getElem?_eq_some_iff.1 ho).1
   refine(St.zi (Ne.symm wp)).trans ((St.zi ?_).trans (St.zm (St.zm (S:=S.inner) ho)))
   rw[hl];omega
  ·have g:((yi s c).2==0)=false:=by simpa using he
   rw[if_neg he]at h
   rw[g]
   refine Wk ?_
   refine h _ rfl rfl (hE _ _ _) fun id o wp ho=>?_
   have hlt:=(List.getElem?_eq_some_iff.1 ho).1
   refine(St.zi (by rw[hl];omega)).trans ?_
   exact St.zm (St.zm (S:=S.inner) ho)
theorem za.zk1:za .nils (.sl false []):=⟨fun _ _ _ _v hv=>⟨none,0,hv,by simp,by simp,by simp⟩⟩
theorem zW.zjp {P:Program}{L:World→Prop}{nt:Nat}{c:Code}{a:Nat→AV}{S:St}{Q:Exit→(Nat→AV)→St→Prop}{n:zF}{before after:List ye}{s:zc}{mb:Nat}{v:AV}{l:List zf}(h0:S.bx[mb]? = some (qu n before after v s .nils))(hG:GNf mb S v l)
  (ha:∀id k ds,(fun t=>frzv id k 6 ds (a t))=a) (h:∀S2,S2.bx[mb]? = some (qu n before after (zN l) s .nils)→zW P L nt c a S2 Q):zW P L nt c a S Q:=by
 rcases hG with ⟨rfl,rfl⟩|⟨id,ex,wp,rfl,hbx⟩
 ·refine zW.vR (id:=mb) (qu n before after (zN []) s .nils) h0 rfl ⟨rfl,za.zj _,za.zj _,za.zj _,za.zj _,za.zj _,za.zj _,za.zj _,za.zj _,za.zk1,za.zj _,za.zj _,za.zj _,za.zj _,trivial⟩ ?_
  exact h _ (St.zw h0)
 ·refine zW.freezeV id 6 hbx (fun e he=>?_) ?_
  ·obtain⟨f,_,rfl⟩:=List.mem_map.1 he
   exact⟨_,rfl,rfl,rfl⟩
  rw[List.length_map,ha]
  refine h _ ?_
  show(XD id l.length 6 (l.map zf.av) 0 S.bx)[mb]? = _
  rw[jQ,h0,Nat.zero_add,Option.map_some,if_neg (Ne.symm wp)]
  simp[qu,zgL,zem,XC,frzv,zN,zZ,wl,zp,zH,zy]
theorem zik {id k z:Nat}{ds:List AV}:∀{l:List (Nat×AV)},(∀p∈l,frzv id k z ds p.2=p.2)→(fun t=>frzv id k z ds (Xs l t))=Xs l:=fun {l} h=>by
 funext t
 induction l with
 | nil=>rfl
 | cons p l ih=>
  obtain⟨s,v⟩:=p
  simp only[Xs]
  split
  ·exact h _ (List.mem_cons_self ..)
  ·exact ih fun q hq=>h q (List.mem_cons_of_mem _ hq)
def zj2 (n:zF)(before after:List ye)(v:AV)(s:zc):List AV:=[.int .i64 n.nodes,zZ n.power,.int .i64 n.noise,.int .i64 n.thr,wl n.links,zp n.margin,zH before,zH after,v,.int .i64 s.len,.int .i64 s.offs,zy s.cells]
theorem zg9 {S:St}{n:zF}{before after:List ye}{fl:List zf}{s:zc}{done:List zJ}{mb ch:Nat}(h:S.bx[mb]? = some (qu n before after (zN fl) s (.own (done.map zJ.av) ch))):fzb S (.ptr mb 0)=some (.cptr (jl n before after fl s done) 0):=by
 simp only[fzb,h]
 rfl
theorem Vy {S:St}{n:zF}{before after:List ye}{fl:List zf}{s:zc}{done:List zJ}{mb ch:Nat}(h:S.bx[mb]? = some (qu n before after (zN fl) s (.own (done.map zJ.av) ch)))(c:zJ):wj S [.ptr mb 0,c.av] = some [.cptr (jl n before after fl s done) 0,c.av]:=by
 rw[wj,zg9 h]
 rfl
def zkd (mb:Nat):Ob:=.cells [.bfn 49 mb 0,.bfn 50 mb 0,.bfn 51 mb 0,.bfn 52 mb 0,.bfn 53 mb 0] 103
theorem zcn {n:zF}{before after:List ye}{s:zc}{l:List zJ}(h:yJ n before after s≠0):xR n before after s l=(-1,yJ n before after s):=by unfold xR;rw[if_pos h]
theorem zdC {n:zF}{before after:List ye}{s:zc}{l:List zJ}(h:yJ n before after s=0)(h2:1024 < l.length):xR n before after s l=(-1,8):=by unfold xR;rw[if_neg (by omega),if_pos h2]
theorem zfJ {n:zF}{before after:List ye}{s:zc}{l:List zJ}(h:yJ n before after s=0)(h2:¬1024 < l.length){k:Nat}(hk:k < l.length)(h0:∀j,j < k→qj n before after s l j=0){e:Int}(he:qj n before after s l k=e)(hne:e≠0):xR n before after s l=((k:Int),e):=by
 have:=xD h0 (by rw[he];exact hne) hk
 unfold xR
 rw[if_neg (by omega),if_neg h2,this,if_pos (by rw[he];exact hne),he]
theorem zfK {n:zF}{before after:List ye}{s:zc}{l:List zJ}(h:yJ n before after s=0)(h2:¬1024 < l.length)(h0:∀j,j < l.length→qj n before after s l j=0):xR n before after s l=(-1,JO n after (ya s l)):=by
 have:=xk h0
 unfold xR JO
 rw[if_neg (by omega),if_neg h2,this,if_neg (by simp)]
 cases YA n after (ya s l)<;>simp
theorem Q7 (n:zF)(hn:n.small)(before after:List ye)(hq1:before.length≤1099511627776)(hq2:after.length≤1099511627776)(hx1:∀x∈before,x.small)(hx2:∀x∈after,x.small)(s:zc)(hc:s.cells.length≤1000000)(l:List zJ)(hl:l.length≤281474976710656) :
  zb Tryz.prog LW 11 [n.av,zH before,zH after,s.av,zT l] (.tup [.int .i64 (xR n before after s l).1,.int .i64 (xR n before after s l).2]):=by
 refine zb.intro mixed [5,10018] (nt:=81) Tryz.func11 rfl rfl (by simp) ?_
 refine Wk ?_
 refine yF.zjL mixed [] (fun (v:AV) (S1:St)=>yJ n before after s=0∧S1.bx[2]? = some (qu n before after v s .nils)∧GNf 2 S1 v (yN before after)) (fun _=>[(4,zT l),(12,.ptr 2 0)]) ?_ ?_
 ·refine Wk ?_
  refine zo.inl rfl (ziy n hn before after hq1 hq2 hx1 hx2 s (by omega) _ 2 rfl (fun S' hw=>?_) (fun S' v hw hB hG=>?_))
  ·have g:(yJ n before after s != 0)=true:=by simpa using hw
   repeat((conv=>whnf);first|refine sT ?_|rw[g])
   try(conv=>whnf)
   exact ze.mk rfl (za.of_eq (by rw[zcn hw]))
  ·refine Wk ?_
   exact⟨v,⟨hw,hB,hG⟩,za.of_eq rfl,za.of_eq rfl,trivial⟩
 rintro v S1 ⟨hw,hB1,hG1⟩
 refine zW.zjp hB1 hG1 (fun id k ds=>zik fun p hp=>?_) fun S2 hB2=>?_
 ·simp only[List.mem_cons,List.not_mem_nil,or_false]at hp
  rcases hp with rfl|rfl<;>rfl
 refine zE (ct:=[10018]) mixed _ _ _ _ ?_
 by_cases hl2:1024 < l.length
 ·have g:decide ((1024:Int) < (l.length:Int))=true:=decide_eq_true (by omega)
  repeat((conv=>whnf);first|refine sT ?_|rw[List.length_map]|rw[g])
  try(conv=>whnf)
  exact ze.mk rfl (za.of_eq (by rw[zdC hw hl2]))
 have g:decide ((1024:Int) < (l.length:Int))=false:=decide_eq_false (by omega)
 have hA:∀(S:St) o,(S.addB o).bx[S.bx.length]? = some o:=fun S o=>St.zP S o
 have hi2:=(List.getElem?_eq_some_iff.1 hB2).1
 repeat((conv=>whnf);first|refine sT ?_|rw[List.length_map]|rw[g]|rw[hA])
 try(conv=>whnf)
 have hB3:∀o o':Ob,((S2.addB o).setB S2.bx.length o').bx[2]? = some (qu n before after (zN (yN before after)) s .nils):=fun o o'=>by rw[St.zi (by omega)];exact St.zm hB2
 have hB4:∀o o':Ob,((S2.addB o).setB S2.bx.length o').bx[S2.bx.length]? = some o':=fun o o'=>St.zw (hA S2 o)
 refine⟨zW.zk4 2 7 42 100 (zj2 n before after (zN (yN before after)) s) (hB3 _ _) (zt.out ?_)⟩
 have hC4:∀(o o':Ob) x e o2,((((S2.addB o).setB S2.bx.length o').addF x e).setB 2 o2).bx[S2.bx.length]? = some o':=fun o o' x e o2=>(St.zi (by omega)).trans (hB4 o o')
 obtain⟨B,hBe⟩:∃B,B=yN before after:=⟨_,rfl⟩
 obtain⟨ch,hch⟩:∃ch,ch=S2.fr.length:=⟨_,rfl⟩
 obtain⟨cb,hcb⟩:∃cb,cb=S2.bx.length:=⟨_,rfl⟩
 refine zt.za3 mixed [10018] (fun (k:Nat) (S3:St)=>k≤l.length∧S3.bx[2]? = some (qu n before after (zN B) (ya s (l.take k)) (.own ((l.take k).map zJ.av) ch))∧S3.fr[ch]? = some (k,7)∧S3.ty ch=42∧S3.bx[cb]? = some (zkd 2)∧∀j,j < k→qj n before after s l j=0) (fun k=>[(12,.ptr 2 0),(14,.ptr cb 0),(46,zT l),(47,.int .i64 l.length),(48,.int .i64 k)]) (fun k=>l.length-k) 0 ⟨by simp,?_,?_,?_,?_,by simp⟩ ?_ ?_
 ·rw[hBe,hch];exact St.zw (hB3 _ _)
 ·rw[hch];exact(by simp[St.setB,St.addF,St.addB])
 ·rw[hch];exact(by simp[St.setB,St.addF,St.addB,qG])
 ·rw[hcb];exact hC4 _ _ _ _ _
 ·rw[hcb];exact⟨za.of_eq rfl,za.of_eq rfl,za.of_eq rfl,za.int (by simp),za.int (by simp),trivial⟩
 have hpar:(xh n before s).2.2=0∧(wZ n after).2=0:=by
  have hw2:=hw
  unfold yJ at hw2
  split at hw2
  ·cases hw2
  ·omega
 obtain⟨hrq,hv,_,_⟩:=qO hpar.1
 obtain⟨hok,hq16,hreq,_⟩:=xu hrq
 obtain⟨_,hqa16,hreqa,_⟩:=xu hpar.2
 have hbl:=zcK (qK hrq) (qK hpar.2)
 rintro k S3 ⟨hk,hB5,hfr,hty,hcd,hinv⟩
 have hcb2:cb≠2:=by omega
 clear hC4 hB4 hB3 hB2 hi2 hG1 hB1
 have hi5:=(List.getElem?_eq_some_iff.1 hB5).1
 by_cases hkl:k < l.length
 rotate_left
 ·have hke:k=l.length:=by omega
  subst hke
  have gk:decide ((l.length:Int) < (l.length:Int))=false:=decide_eq_false (by omega)
  rw[List.take_length]at hB5
  have hca:=Jn s l
  have hen:=zi0 n hn before after B (ya s l) (by omega) l hqa16 hx2
  repeat((conv=>whnf);first|refine sT ?_|rw[gk])
  try(conv=>whnf)
  refine zo.box rfl hen (by show wj S3 [.ptr 2 0] = _;rw[wj,zg9 hB5];rfl) rfl ?_
  have hce:=zfK hw hl2 hinv
  by_cases he:JO n after (ya s l)=0
  ·have g2:(JO n after (ya s l) != 0)=false:=by simpa using he
   repeat((conv=>whnf);first|refine sT ?_|rw[g2])
   try(conv=>whnf)
   exact ze.mk rfl (za.of_eq (by rw[hce,he]))
  ·have g2:(JO n after (ya s l) != 0)=true:=by simpa using he
   repeat((conv=>whnf);first|refine sT ?_|rw[g2])
   try(conv=>whnf)
   exact ze.mk rfl (za.of_eq (by rw[hce]))
 obtain⟨c,hgc⟩:=zr hkl
 have hmc:=zk (f:=zJ.av) hgc
 have gk:decide ((k:Int) < (l.length:Int))=true:=decide_eq_true (by omega)
 obtain⟨sk,hsk⟩:∃sk,sk=ya s (l.take k):=⟨_,rfl⟩
 obtain⟨dn,hdn⟩:∃dn,dn=l.take k:=⟨_,rfl⟩
 rw[←hsk,←hdn]at hB5
 have hb6:∀o o':Ob,((S3.addB o).setB S3.bx.length o').bx[2]? = some (qu n before after (zN B) sk (.own (dn.map zJ.av) ch)):=fun o o'=>by rw[St.zi (by omega)];exact St.zm hB5
 have hi6:=(List.getElem?_eq_some_iff.1 hcd).1
 have hc6:∀o o':Ob,((S3.addB o).setB S3.bx.length o').bx[cb]? = some (zkd 2):=fun o o'=>by rw[St.zi (by omega)];exact St.zm hcd
 have hx6:∀o o':Ob,((S3.addB o).setB S3.bx.length o').bx[S3.bx.length]? = some o':=fun o o'=>St.zw (hA S3 o)
 repeat((conv=>whnf);first|refine sJ ?_|refine aI (by first|exact trivial|exact zh hkl|kernel_rfl) ?_|rw[gk]|rw[hmc]|rw[hA]|rw[hc6])
 try(conv=>whnf)
 obtain⟨xb,hxb⟩:∃xb,xb=S3.bx.length:=⟨_,rfl⟩
 refine zt.za3 mixed [10018] (fun (j:Nat) (S4:St)=>j≤5∧S4.bx[2]? = some (qu n before after (zN B) (if j < 2 then sk else(yi sk c).1) (.own (dn.map zJ.av) ch))∧S4.fr[ch]? = some (k,7)∧S4.ty ch=42∧S4.bx[cb]? = some (zkd 2)∧S4.bx[xb]? = some (.cells c.av.cells 42)∧(1≤j→wV (xr dn) c=0)∧(2≤j→(yi sk c).2=0)∧(3≤j→kz before after dn c=false)∧(4≤j→(yU n B (yi sk c).1).2=0)∧(5≤j→Qp n before after (yi sk c).1=true)) (fun j=>[(12,.ptr 2 0),(14,.ptr cb 0),(15,.int .i64 k),(16,.ptr xb 0),(46,zT l),(47,.int .i64 l.length),(48,.int .i64 k),(53,.agg [.bfn 49 2 0,.bfn 50 2 0,.bfn 51 2 0,.bfn 52 2 0,.bfn 53 2 0]),(54,.int .i64 j)]) (fun j=>5-j) 0 ⟨by decide,hb6 _ _,hfr,hty,hc6 _ _,by rw[hxb];exact hx6 _ _,by omega,by omega,by omega,by omega,by omega⟩ ?_ ?_
 ·rw[hxb];exact⟨za.of_eq rfl,za.of_eq rfl,za.of_eq rfl,za.of_eq rfl,za.of_eq rfl,za.of_eq rfl,za.of_eq rfl,za.of_eq rfl,za.of_eq rfl,trivial⟩
 rintro j S4 ⟨hj,hB7,hfr7,hty7,hcd7,hx7,p0,p1,p2,p3,p4⟩
 have hxb2:xb≠2:=by omega
 clear hx6 hc6 hb6 hcd hB5 hi5 hi6
 have hdl:dn.length=k:=by rw[hdn,List.length_take];omega
 have hskl:sk.cells.length≤1001024:=by
  have:=Jn s (l.take k)
  rw[←hsk,←hdn,hdl]at this
  omega
 have hsl1:=zcl sk c
 have hflt:qj n before after s l k=kM n before after dn sk c:=by unfold qj;rw[hgc,hsk,hdn]
 have hBl:B.length≤281474976710656:=by
  rw[hBe]
  unfold yJ at hw
  repeat' (first|omega|split at hw)
  all_goals first|omega|cases hw
 have hret:∀e:Int,kM n before after dn sk c=e→e≠0→xR n before after s l=((k:Int),e):=fun e h1 h2=>zfJ hw hl2 hkl hinv (hflt.trans h1) h2
 have hj6:j=0∨j=1∨j=2∨j=3∨j=4∨j=5:=by omega
 rcases hj6 with rfl|rfl|rfl|rfl|rfl|rfl
 ·rw[if_pos (by decide)]at hB7
  repeat((conv=>whnf);first|refine sJ ?_|refine aI (by first|exact trivial|exact⟨by decide,by decide⟩|kernel_rfl) ?_|rw[hx7])
  try(conv=>whnf)
  refine zo.za6 rfl (zfP LW n before after B sk dn c (by omega)) (Vy hB7 c) rfl ?_
  by_cases he:wV (xr dn) c=0
  ·have g2:(wV (xr dn) c != 0)=false:=by simpa using he
   repeat((conv=>whnf);first|refine sT ?_|rw[g2])
   try(conv=>whnf)
   exact⟨1,⟨by decide,by rw[if_pos (by decide)];exact hB7,hfr7,hty7,hcd7,hx7,fun _=>he,by omega,by omega,by omega,by omega⟩,by decide,za.of_eq rfl,za.of_eq rfl,za.of_eq rfl,za.of_eq rfl,za.of_eq rfl,za.of_eq rfl,za.of_eq rfl,za.of_eq rfl,za.of_eq rfl,trivial⟩
  ·have g2:(wV (xr dn) c != 0)=true:=by simpa using he
   repeat((conv=>whnf);first|refine sT ?_|rw[g2])
   try(conv=>whnf)
   exact ze.mk rfl (za.of_eq (by rw[hret _ (by unfold kM;rw[if_pos he]) he]))
 ·rw[if_pos (by decide)]at hB7
  repeat((conv=>whnf);first|refine sJ ?_|refine aI (by first|exact trivial|exact⟨by decide,by decide⟩|kernel_rfl) ?_|rw[hx7])
  try(conv=>whnf)
  refine zo.zjN rfl (ziz n before after (zN B) (.own (dn.map zJ.av) ch) sk c S4 2 hB7 fun S5 h1 h2 h3 h4=>?_)
  by_cases he:(yi sk c).2=0
  ·have g2:((yi sk c).2 != 0)=false:=by simpa using he
   rw[if_pos he]at h3
   repeat((conv=>whnf);first|refine sT ?_|rw[g2])
   try(conv=>whnf)
   exact⟨2,⟨by decide,by rw[if_neg (by decide)];exact h3,by rw[h1];exact hfr7,by rw[h2];exact hty7,h4 cb _ hcb2 hcd7,h4 xb _ hxb2 hx7,fun _=>p0 (by omega),fun _=>he,by omega,by omega,by omega⟩,by decide,za.of_eq rfl,za.of_eq rfl,za.of_eq rfl,za.of_eq rfl,za.of_eq rfl,za.of_eq rfl,za.of_eq rfl,za.of_eq rfl,za.of_eq rfl,trivial⟩
  ·have g2:((yi sk c).2 != 0)=true:=by simpa using he
   repeat((conv=>whnf);first|refine sT ?_|rw[g2])
   try(conv=>whnf)
   exact ze.mk rfl (za.of_eq (by rw[hret _ (by unfold kM;rw[if_neg (by have:=p0 (by omega);omega),if_pos he]) he]))
 ·rw[if_neg (by decide)]at hB7
  repeat((conv=>whnf);first|refine sJ ?_|refine aI (by first|exact trivial|exact⟨by decide,by decide⟩|kernel_rfl) ?_|rw[hx7])
  try(conv=>whnf)
  refine zo.za6 rfl (ziT LW n before after B (yi sk c).1 dn c (by omega) hq16 hqa16 (fun x hx=>(hreq x hx).len.2) (fun x hx=>(hreqa x hx).len.2)) (Vy hB7 c) rfl ?_
  unfold JX
  cases he:kz before after dn c with
  | false=>
   repeat((conv=>whnf);first|refine sT ?_ )
   try(conv=>whnf)
   exact⟨3,⟨by decide,by rw[if_neg (by decide)];exact hB7,hfr7,hty7,hcd7,hx7,fun _=>p0 (by omega),fun _=>p1 (by omega),fun _=>by first|exact he|rfl,by omega,by omega⟩,by decide,za.of_eq rfl,za.of_eq rfl,za.of_eq rfl,za.of_eq rfl,za.of_eq rfl,za.of_eq rfl,za.of_eq rfl,za.of_eq rfl,za.of_eq rfl,trivial⟩
  | true=>
   repeat((conv=>whnf);first|refine sT ?_ )
   try(conv=>whnf)
   exact ze.mk rfl (za.of_eq (by rw[hret 12 (by unfold kM;rw[if_neg (by have:=p0 (by omega);omega),if_neg (by have:=p1 (by omega);omega),if_pos he]) (by decide)];rfl))
 ·rw[if_neg (by decide)]at hB7
  repeat((conv=>whnf);first|refine sJ ?_|refine aI (by first|exact trivial|exact⟨by decide,by decide⟩|kernel_rfl) ?_|rw[hx7])
  try(conv=>whnf)
  refine zo.za6 rfl (ziU LW n hn before after B hBl (yi sk c).1 (by omega) dn c) (Vy hB7 c) rfl ?_
  by_cases he:(yU n B (yi sk c).1).2=0
  ·rw[if_neg (by omega)]
   repeat((conv=>whnf);first|refine sT ?_ )
   try(conv=>whnf)
   exact⟨4,⟨by decide,by rw[if_neg (by decide)];exact hB7,hfr7,hty7,hcd7,hx7,fun _=>p0 (by omega),fun _=>p1 (by omega),fun _=>p2 (by omega),fun _=>he,by omega⟩,by decide,za.of_eq rfl,za.of_eq rfl,za.of_eq rfl,za.of_eq rfl,za.of_eq rfl,za.of_eq rfl,za.of_eq rfl,za.of_eq rfl,za.of_eq rfl,trivial⟩
  ·rw[if_pos he]
   repeat((conv=>whnf);first|refine sT ?_ )
   try(conv=>whnf)
   exact ze.mk rfl (za.of_eq (by rw[hret 16 (by unfold kM;rw[if_neg (by have:=p0 (by omega);omega),if_neg (by have:=p1 (by omega);omega),if_neg (by rw[p2 (by omega)];decide),if_pos (by rw[←hBe];exact he)]) (by decide)]))
 ·rw[if_neg (by decide)]at hB7
  repeat((conv=>whnf);first|refine sJ ?_|refine aI (by first|exact trivial|exact⟨by decide,by decide⟩|kernel_rfl) ?_|rw[hx7])
  try(conv=>whnf)
  refine zo.za6 rfl (ziY n hn before after B hBl (yi sk c).1 (by omega) dn c hq16 hqa16 (fun x hx=>⟨(hreq x hx).len.2,fun r hr=>(ZU ((hreq x hx).route r hr)).1.2⟩) (fun x hx=>⟨(hreqa x hx).len.2,fun r hr=>(ZU ((hreqa x hx).route r hr)).1.2⟩)) (Vy hB7 c) rfl ?_
  have hkb:B.all (vy n before after (yi sk c).1)=Qp n before after (yi sk c).1:=by rw[hBe];rfl
  rw[hkb]
  cases he:Qp n before after (yi sk c).1 with
  | true=>
   repeat((conv=>whnf);first|refine sT ?_ )
   try(conv=>whnf)
   exact⟨5,⟨by decide,by rw[if_neg (by decide)];exact hB7,hfr7,hty7,hcd7,hx7,fun _=>p0 (by omega),fun _=>p1 (by omega),fun _=>p2 (by omega),fun _=>p3 (by omega),fun _=>by first|exact he|rfl⟩,by decide,za.of_eq rfl,za.of_eq rfl,za.of_eq rfl,za.of_eq rfl,za.of_eq rfl,za.of_eq rfl,za.of_eq rfl,za.of_eq rfl,za.of_eq rfl,trivial⟩
  | false=>
   repeat((conv=>whnf);first|refine sT ?_ )
   try(conv=>whnf)
   exact ze.mk rfl (za.of_eq (by rw[hret 15 (by unfold kM;rw[if_neg (by have:=p0 (by omega);omega),if_neg (by have:=p1 (by omega);omega),if_neg (by rw[p2 (by omega)];decide),if_neg (by rw[←hBe];have:=p3 (by omega);omega),if_pos he]) (by decide)];rfl))
 ·rw[if_neg (by decide)]at hB7
  repeat((conv=>whnf);first|refine sT ?_|rw[hx7])
  try(conv=>whnf)
  have hi7:=(List.getElem?_eq_some_iff.1 hB7).1
  refine zW.ym mixed (fun X=>X.bx[2]? = some (qu n before after (zN B) (yi sk c).1 (.own (dn.map zJ.av) ch))∧X.bx[xb]? = some (.cells c.av.cells 42)) [0,1,2,3,4,5,6] 4 rfl rfl (by decide) rfl ⟨hB7,hx7⟩ ?_
  iterate 7
   conv=>whnf
   apply vA
   ·rintro S' K' hI hh
    repeat((conv=>whnf);first|refine sT ?_|erw [hI.1]|erw [hI.2])
    try(conv=>whnf)
    exact hh
  conv=>whnf
  have hlm:(dn.map zJ.av).length=k:=by rw[List.length_map,hdl]
  have hfr8:S4.fr[ch]? = some ((dn.map zJ.av).length,6+1):=by rw[hlm];exact hfr7
  have hsz1:((dn.map zJ.av).length+1)*56≤140737488355328:=by rw[hlm];omega
  have hsz2:(dn.map zJ.av).length+1≤maxLen:=by rw[hlm];unfold maxLen;omega
  have hB8:∀x,(S4.setF ch x).bx[2]? = some (qu n before after (zN B) (yi sk c).1 (.own (dn.map zJ.av) ch)):=fun x=>hB7
  have hx8:∀x,(S4.setF ch x).bx[xb]? = some (.cells c.av.cells 42):=fun x=>hx7
  repeat' ((conv=>whnf);first|exact trivial|refine sJ ?_|refine aI (by first|exact trivial|exact Or.inl rfl|exact Or.inr (And.intro hB7 hx7)|exact Or.inr (And.intro (hB8 _) (hx8 _))|exact xF.map (f:=zJ.av) (fun _=>⟨rfl,rfl⟩)|exact hsz1|exact hsz2|exact hfr8|exact hty7|kernel_rfl) ?_|refine And.intro ?_ ?_|rw[hB8])
  all_goals(conv=>whnf)
  all_goals
   refine⟨k+1,⟨hkl,?_,?_,hty7,(St.zi (Ne.symm hcb2)).trans hcd7,fun j hj=>?_⟩,by omega,za.of_eq rfl,za.of_eq rfl,za.of_eq rfl,za.of_eq rfl,za.int (zu hkl (by omega)),trivial⟩
   ·rw[wG hgc,zK hgc,List.map_append,←hsk,←hdn]
    exact St.zw (hB8 _)
   ·show(S4.fr.set ch _)[ch]? = _
    rw[List.getElem?_set_self (List.getElem?_eq_some_iff.1 hfr7).1,List.length_append,hlm]
    rfl
   ·rcases Nat.lt_succ_iff_lt_or_eq.1 hj with h'|rfl
    ·exact hinv j h'
    ·rw[hflt]
     unfold kM
     have e0:=p0 (by omega)
     have e1:=p1 (by omega)
     have e3:=p3 (by omega)
     rw[if_neg (by omega),if_neg (by omega),if_neg (by rw[p2 (by omega)];decide),if_neg (by rw[←hBe];omega),if_neg (by rw[p4 (by omega)];decide)]
end HM
