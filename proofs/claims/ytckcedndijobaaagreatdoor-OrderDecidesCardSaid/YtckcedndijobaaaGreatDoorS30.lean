/- Networks: what Check returns. -/
import Derived.Test.YtckcedndijobaaaGreatDoorS1
import Derived.Test.YtckcedndijobaaaGreatDoorDa
set_option maxRecDepth 100000
namespace HM
open Go Go.RowKit Go.Proofs
section
variable (L:World→Prop)
theorem getMapI {α:Type}{f:α→AV}{l:List α}{i:Int}{x:α}(h:l[i.toNat]? = some x):(l.map f)[i.toNat]? = some (f x):=by rw[List.getElem?_map,h];rfl
theorem inbI {α:Type}{f:α→AV}{l:List α}{i:Int}(h0:0≤i)(h:i < l.length):InB i (l.map f).length:=⟨h0,by simp;omega⟩
theorem half_ok {n:Nat}(h:n≤562949953421312):IntKind.i64.wrap ((IntKind.u64.wrap (n:Int)).fdiv (2 ^ (min (1:Int).toNat IntKind.u64.bits)))=((n / 2:Nat):Int):=by
 have hb:IntKind.u64.bits=64:=rfl
 have h1:IntKind.u64.wrap (n:Int)=(n:Int):=by
  show(n:Int) % 2 ^ 64=n
  omega
 have h2:min (1:Int).toNat IntKind.u64.bits=1:=by rw[hb];decide
 have h3:(n:Int).fdiv (2 ^ 1)=((n / 2:Nat):Int):=by
  rw[Int.fdiv_eq_ediv_of_nonneg _ (by omega)];omega
 rw[h1,h2,h3,w64 (by omega) (by omega)]
def orL:List Int→Int
 | []=>0
 | x :: l=>if x=0 then orL l else x
theorem c_or (l:List Int)(hl:l.length≤281474976710656):PCall Tryz.prog L 270 [encIs l] (.int .i64 (orL l)):=by
 refine PCall.intro mixed [] (nt:=18) Tryz.func270 rfl rfl (by simp) ?_
 refine Wk ?_
 refine LoopK.run mixed [] (fun (k:Nat)=>k≤l.length∧orL (l.drop k)=orL l) (fun k=>[(3,.int .i64 0),(6,encIs l),(7,.int .i64 l.length),(8,.int .i64 k)]) (fun k=>St.none) (fun k=>l.length-k) 0 ⟨by simp,by simp⟩ ?_ ?_
 ·refine fN ?_<;>repeat' (first|exact fQ|refine And.intro ?_ ?_|exact Sees.int (by simp))
 rintro k ⟨hk,hinv⟩
 refine Wk ?_
 refine BrK.mk (fun hb=>?_) (fun hb=>?_)<;>try rw[hb]
 ·have hlt:k < l.length:=by simpa using hb
  obtain⟨x,hgx⟩:=getLt hlt
  have hmx:=getMap (f:=encI) hgx
  rw[dropGet hgx]at hinv
  simp only[orL]at hinv
  repeat((conv=>whnf);first|refine sJ ?_|refine aI (by first|exact inbMap hlt|kernel_rfl) ?_|rw[hmx])
  try(conv=>whnf)
  refine BrK.mk (fun h2=>?_) (fun h2=>?_)<;>(try rw[h2])
  ·refine Wk ?_
   exact resP.mk rfl (Sees.int (by rw[←hinv,if_neg (by simpa using h2)]))
  ·refine Wk ?_
   refine⟨k+1,⟨by omega,by rw[←hinv,if_pos (by simpa using h2)]⟩,by omega,?_⟩
   refine fN ?_<;>repeat' (first|exact fQ|refine And.intro ?_ ?_|exact Sees.int (succI hlt hl))
 ·have hk':k=l.length:=by simp at hb;omega
  subst hk'
  refine Wk ?_
  exact resP.mk rfl (Sees.int (by rw[←hinv,List.drop_length];rfl))
theorem c_linkcmp (a b:Link):PCall Tryz.prog L 241 [a.av,b.av] (.int .i64 (a.cmp b)):=by
 refine PCall.intro mixed [] (nt:=17) Tryz.func241 rfl rfl (by simp) ?_
 refine Wk ?_
 refine cD (c_cmp L _ _) ?_
 refine Wk ?_
 refine cD (c_cmp L _ _) ?_
 refine Wk ?_
 refine cD (c_or L [cmpI a.src b.src,cmpI a.dst b.dst] (by simp)) ?_
 refine Wk ?_
 exact resP.mk rfl (Sees.int (by simp only[Link.cmp,Link.key,cmpL,orL]))
theorem c_IndexFuncRows (l:List (List Int))(p:(List Int)→Bool)(g:Nat)(caps:List AV)(hl:l.length≤281474976710656)(hcb:callable Tryz.prog g=true)(hc:fzs caps=some caps)(hp:∀x∈l,PCall Tryz.prog L g (encIs x :: caps) (.bool (p x))) :
  PCall Tryz.prog L 269 [.sl false (l.map encIs),.fn g caps] (.int .i64 (idxF p l)):=by
 refine PCall.intro mixed [] (nt:=19) Tryz.func269 rfl rfl (by simp) ?_
 refine Wk ?_
 refine LoopK.run mixed [] (fun (k:Nat)=>k≤l.length∧∀j x,j < k→l[j]? = some x→p x=false) (fun k=>[(0,.sl false (l.map encIs)),(1,.fn g caps),(7,.int .i64 l.length),(8,.int .i64 k)]) (fun k=>St.none) (fun k=>l.length-k) 0 ⟨by simp,by simp⟩ ?_ ?_
 ·refine fN ?_<;>repeat' (first|exact fQ|refine And.intro ?_ ?_|exact Sees.int (by simp)|exact fzs_okk hc)
 rintro k ⟨hk,hinv⟩
 refine Wk ?_
 refine BrK.mk (fun hb=>?_) (fun hb=>?_)<;>try rw[hb]
 ·have hlt:k < l.length:=by simpa using hb
  obtain⟨x,hgx⟩:=getLt hlt
  have hmx:=getMap (f:=encIs) hgx
  repeat((conv=>whnf);first|refine sJ ?_|refine aI (by first|exact inbMap hlt|kernel_rfl) ?_|rw[hmx])
  try(conv=>whnf)
  refine CallK.data hcb (hp x (List.mem_of_getElem? hgx)) (by show(match fz _,fzs caps with|some a,some b=>some (a :: b)|_,_=>none)=_;rw[hc];rfl) ?_
  refine Wk ?_
  refine BrK.mk (fun h2=>?_) (fun h2=>?_)<;>(try rw[h2])
  ·refine Wk ?_
   exact resP.mk rfl (Sees.int (idxF_some hlt hinv hgx h2).symm)
  ·refine Wk ?_
   refine⟨k+1,⟨by omega,fun j y hj hy=>?_⟩,by omega,?_⟩
   ·rcases Nat.lt_succ_iff_lt_or_eq.1 hj with h|rfl
    ·exact hinv j y h hy
    ·rw[hgx]at hy;injection hy with hy;subst hy;exact h2
   ·refine fN ?_<;>repeat' (first|exact fQ|refine And.intro ?_ ?_|exact Sees.int (succI hlt hl)|exact fzs_okk hc)
 ·have hk':k=l.length:=by simp at hb;omega
  subst hk'
  refine Wk ?_
  exact resP.mk rfl (Sees.int (idxF_none hinv).symm)
theorem c_ContainsFuncRows (l:List (List Int))(p:(List Int)→Bool)(g:Nat)(caps:List AV)(hl:l.length≤281474976710656)(hcb:callable Tryz.prog g=true)(hc:fzs caps=some caps)(hp:∀x∈l,PCall Tryz.prog L g (encIs x :: caps) (.bool (p x))) :
  PCall Tryz.prog L 236 [.sl false (l.map encIs),.fn g caps] (.bool (l.any p)):=by
 refine PCall.intro mixed [] (nt:=9) Tryz.func236 rfl rfl (by simp) ?_
 refine Wk ?_
 refine CallK.data rfl (c_IndexFuncRows L l p g caps hl hcb hc hp) (by show(match fz _,fzs [AV.fn g caps] with|some a,some b=>some (a :: b)|_,_=>none)=_;rw[show fzs [AV.fn g caps] = some [AV.fn g caps] from by simp[fz,fzs,hc]];rfl) ?_
 refine Wk ?_
 exact resP.mk rfl (Sees.bool (idxF_any p l))
theorem c_IndexFuncInts (l:List Int)(p:Int→Bool)(g:Nat)(caps:List AV)(hl:l.length≤281474976710656)(hcb:callable Tryz.prog g=true)(hc:fzs caps=some caps)(hp:∀x∈l,PCall Tryz.prog L g (encI x :: caps) (.bool (p x))) :
  PCall Tryz.prog L 38 [.sl false (l.map encI),.fn g caps] (.int .i64 (idxF p l)):=by
 refine PCall.intro mixed [] (nt:=19) Tryz.func38 rfl rfl (by simp) ?_
 refine Wk ?_
 refine LoopK.run mixed [] (fun (k:Nat)=>k≤l.length∧∀j x,j < k→l[j]? = some x→p x=false) (fun k=>[(0,.sl false (l.map encI)),(1,.fn g caps),(7,.int .i64 l.length),(8,.int .i64 k)]) (fun k=>St.none) (fun k=>l.length-k) 0 ⟨by simp,by simp⟩ ?_ ?_
 ·refine fN ?_<;>repeat' (first|exact fQ|refine And.intro ?_ ?_|exact Sees.int (by simp)|exact fzs_okk hc)
 rintro k ⟨hk,hinv⟩
 refine Wk ?_
 refine BrK.mk (fun hb=>?_) (fun hb=>?_)<;>try rw[hb]
 ·have hlt:k < l.length:=by simpa using hb
  obtain⟨x,hgx⟩:=getLt hlt
  have hmx:=getMap (f:=encI) hgx
  repeat((conv=>whnf);first|refine sJ ?_|refine aI (by first|exact inbMap hlt|kernel_rfl) ?_|rw[hmx])
  try(conv=>whnf)
  refine CallK.data hcb (hp x (List.mem_of_getElem? hgx)) (by show(match fz _,fzs caps with|some a,some b=>some (a :: b)|_,_=>none)=_;rw[hc];rfl) ?_
  refine Wk ?_
  refine BrK.mk (fun h2=>?_) (fun h2=>?_)<;>(try rw[h2])
  ·refine Wk ?_
   exact resP.mk rfl (Sees.int (idxF_some hlt hinv hgx h2).symm)
  ·refine Wk ?_
   refine⟨k+1,⟨by omega,fun j y hj hy=>?_⟩,by omega,?_⟩
   ·rcases Nat.lt_succ_iff_lt_or_eq.1 hj with h|rfl
    ·exact hinv j y h hy
    ·rw[hgx]at hy;injection hy with hy;subst hy;exact h2
   ·refine fN ?_<;>repeat' (first|exact fQ|refine And.intro ?_ ?_|exact Sees.int (succI hlt hl)|exact fzs_okk hc)
 ·have hk':k=l.length:=by simp at hb;omega
  subst hk'
  refine Wk ?_
  exact resP.mk rfl (Sees.int (idxF_none hinv).symm)
theorem c_ContainsFuncInts (l:List Int)(p:Int→Bool)(g:Nat)(caps:List AV)(hl:l.length≤281474976710656)(hcb:callable Tryz.prog g=true)(hc:fzs caps=some caps)(hp:∀x∈l,PCall Tryz.prog L g (encI x :: caps) (.bool (p x))) :
  PCall Tryz.prog L 48 [.sl false (l.map encI),.fn g caps] (.bool (l.any p)):=by
 refine PCall.intro mixed [] (nt:=9) Tryz.func48 rfl rfl (by simp) ?_
 refine Wk ?_
 refine CallK.data rfl (c_IndexFuncInts L l p g caps hl hcb hc hp) (by show(match fz _,fzs [AV.fn g caps] with|some a,some b=>some (a :: b)|_,_=>none)=_;rw[show fzs [AV.fn g caps] = some [AV.fn g caps] from by simp[fz,fzs,hc]];rfl) ?_
 refine Wk ?_
 exact resP.mk rfl (Sees.bool (idxF_any p l))
theorem c_BinLink (l:List Link)(t:Link)(g:Nat)(c:Link→Int)(hl:l.length≤281474976710656)(hcb:callable Tryz.prog g=true)(hm:Mono c l)(hp:∀x∈l,PCall Tryz.prog L g [Link.av x,Link.av t] (.int .i64 (c x))) :
  PCall Tryz.prog L 271 [.sl false (l.map Link.av),Link.av t,.fn g []] (.tup [.int .i64 (posB c l),.bool (hasB c l)]):=by
 refine PCall.intro mixed [] (nt:=49) Tryz.func271 rfl rfl (by simp) ?_
 refine Wk ?_
 refine LoopK.run mixed [] (fun s:Nat×Nat=>s.1≤s.2∧s.2≤l.length∧(∀i x,i < s.1→l[i]? = some x→c x < 0)∧(∀x,l[s.2]? = some x→¬c x < 0)) (fun s=>[(0,.sl false (l.map Link.av)),(2,.fn g []),(4,.ptr 0 0),(8,.int .i64 l.length),(9,.int .i64 s.1),(10,.int .i64 s.2)]) (fun _=>⟨[.cells (Link.av t).cells 103],[],0,0,fun _=>0⟩) (fun s=>s.2-s.1) (0,l.length) ⟨by simp,by simp,by simp,by simp⟩ ?_ ?_
 ·refine fN ?_<;>repeat' (first|exact fQ|refine And.intro ?_ ?_|exact Sees.int (by simp))
 rintro⟨i,j⟩ ⟨h1,h2,h3,h4⟩
 simp only at h1 h2 h3 h4
 refine Wk ?_
 refine BrK.mk (fun hb=>?_) (fun hb=>?_)<;>try rw[hb]
 ·have hlt:i < j:=by simpa using hb
  have hw1:IntKind.i64.wrap ((i:Int)+(j:Int))=((i+j:Nat):Int):=by rw[w64]<;>omega
  have hw2:IntKind.i64.wrap ((IntKind.u64.wrap ((i+j:Nat):Int)).fdiv (2 ^ (min (1:Int).toNat IntKind.u64.bits)))=(((i+j) / 2:Nat):Int):=half_ok (by omega)
  obtain⟨m,hmid⟩:∃m,m=(i+j) / 2:=⟨_,rfl⟩
  have hml:m < l.length:=by omega
  obtain⟨x,hgx⟩:=getLt hml
  have hmx:=getMap (f:=Link.av) hgx
  have hpx:=hp x (List.mem_of_getElem? hgx)
  rw[←hmid]at hw2
  repeat((conv=>whnf);first|refine sJ ?_|refine aI (by first|exact(show(0:Int)≤1 by decide)|exact inbMap hml|kernel_rfl) ?_|rw[hw1]|rw[hw2]|rw[hmx])
  try(conv=>whnf)
  refine CallP.data hcb hpx (by rfl) ?_
  refine Wk ?_
  refine BrK.mk (fun h5=>?_) (fun h5=>?_)<;>(try rw[h5])
  ·refine Wk ?_
   refine⟨(m+1,j),⟨by simp only;omega,by simp only;omega,fun k y hk hy=>?_,h4⟩,by simp only;omega,?_⟩
   ·rcases Nat.lt_succ_iff_lt_or_eq.1 hk with hk|rfl
    ·exact hm k m y x hk hy hgx (by simpa using h5)
    ·rw[hgx]at hy;injection hy with hy;subst hy;simpa using h5
   ·refine fN ?_<;>repeat' (first|exact fQ|refine And.intro ?_ ?_|exact Sees.int (by rw[w64]<;>omega))
  ·refine Wk ?_
   refine⟨(i,m),⟨by simp only;omega,by simp only;omega,h3,fun y hy=>?_⟩,by simp only;omega,?_⟩
   ·rw[hgx]at hy;injection hy with hy;subst hy;simpa using h5
   ·refine fN ?_<;>repeat' (first|exact fQ|refine And.intro ?_ ?_ )
 ·have hij:i=j:=by simp at hb;omega
  subst hij
  have hpos:posB c l=i:=posB_uniq h2 h3 h4
  refine Wk ?_
  refine BrK.mk (fun h6=>?_) (fun h6=>?_)<;>(try rw[h6])
  ·have hlt:i < l.length:=by simpa using h6
   obtain⟨x,hgx⟩:=getLt hlt
   have hmx:=getMap (f:=Link.av) hgx
   have hpx:=hp x (List.mem_of_getElem? hgx)
   repeat((conv=>whnf);first|refine sJ ?_|refine aI (by first|exact inbMap hlt|kernel_rfl) ?_|rw[hmx])
   try(conv=>whnf)
   refine CallP.data hcb hpx (by rfl) ?_
   refine Wk ?_
   exact resP.mk rfl (Sees.of_eq (by simp only[hasB,hpos,hgx]))
  ·refine Wk ?_
   have:l.length≤i:=by simpa using h6
   exact resP.mk rfl (Sees.of_eq (by simp only[hasB,hpos,List.getElem?_eq_none this]))
theorem c_cpow1 (n:Net)(r:List Int):PCall Tryz.prog L 237 [encIs r,.cptr n.av 0] (.bool ((r.length:Int) != n.nodes)):=by
 refine PCall.intro mixed [] (nt:=9) Tryz.func237 rfl rfl (by simp) ?_
 refine Wk ?_
 exact resP.mk rfl (Sees.bool (by simp))
theorem c_cpow2 (x:Int):PCall Tryz.prog L 238 [.int .i64 x] (.bool (badP x)):=by
 refine PCall.intro mixed [] (nt:=9) Tryz.func238 rfl rfl (by simp) ?_
 refine Wk ?_
 refine BrK.mk (fun h=>?_) (fun h=>?_)<;>(try rw[h])
 ·refine Wk ?_
  exact resP.mk rfl (Sees.bool (by simp[badP];simp at h;omega))
 ·refine Wk ?_
  exact resP.mk rfl (Sees.bool (by simp[badP];simp at h;omega))
theorem c_cpow3 (r:List Int)(hr:r.length≤281474976710656):PCall Tryz.prog L 239 [encIs r,.cptr (.agg [.fn 238 []]) 0] (.bool (r.any badP)):=by
 refine PCall.intro mixed [] (nt:=7) Tryz.func239 rfl rfl (by simp) ?_
 refine Wk ?_
 refine cD (c_ContainsFuncInts L r badP 238 [] hr rfl rfl (fun x _=>c_cpow2 L x)) ?_
 refine Wk ?_
 exact resP.mk rfl (Sees.bool rfl)
def Net.small (n:Net):Prop:=n.power.length≤281474976710656∧(∀r∈n.power,r.length≤281474976710656)∧n.links.length≤281474976710656∧n.margin.length≤281474976710656
theorem c_checkPower (n:Net)(hn:n.small):PCall Tryz.prog L 201 [n.av] (.int .i64 (powerE n)):=by
 refine PCall.intro mixed [] (nt:=20) Tryz.func201 rfl rfl (by simp) ?_
 refine Wk ?_
 refine BrK.mk (fun h1=>?_) (fun h1=>?_)<;>(try rw[h1])
 ·refine Wk ?_
  exact resP.mk rfl (Sees.int (by rw[powerE,if_pos (.inl (by simpa using h1))]))
 ·refine Wk ?_
  refine cB (c_ContainsFuncRows L n.power (fun r=>(r.length:Int) != n.nodes) 237 [.cptr n.av 0] hn.1 rfl rfl (fun r _=>c_cpow1 L n r)) ?_
  refine Wk ?_
  refine BrK.mk (fun h2=>?_) (fun h2=>?_)<;>(try rw[h2])
  ·refine Wk ?_
   exact resP.mk rfl (Sees.int (by rw[powerE,if_pos (.inr h2)]))
  ·refine Wk ?_
   have h12:¬((n.power.length:Int)≠n.nodes∨n.power.any (fun r=>(r.length:Int) != n.nodes)=true):=by
    simp only[h2,Bool.false_eq_true,or_false,ne_eq,Decidable.not_not];simpa using h1
   refine cB (c_ContainsFuncRows L n.power (fun r=>r.any badP) 239 [.cptr (.agg [.fn 238 []]) 0] hn.1 rfl rfl (fun r hr=>c_cpow3 L r (hn.2.1 r hr))) ?_
   refine Wk ?_
   refine BrK.mk (fun h3=>?_) (fun h3=>?_)<;>(try rw[h3])
   ·refine Wk ?_
    exact resP.mk rfl (Sees.int (by rw[powerE,if_neg h12,if_pos h3]))
   ·refine Wk ?_
    exact resP.mk rfl (Sees.int (by rw[powerE,if_neg h12,if_neg (by simp[h3])]))
end
section
variable (L:World→Prop)
theorem c_clnode (n:Net)(a:Int):PCall Tryz.prog L 240 [.int .i64 a,.cptr n.av 0] (.bool (insB a n.nodes)):=by
 refine PCall.intro mixed [] (nt:=12) Tryz.func240 rfl rfl (by simp) ?_
 refine Wk ?_
 refine BrK.mk (fun h=>?_) (fun h=>?_)<;>(try rw[h])
 ·refine Wk ?_
  exact resP.mk rfl (Sees.bool (by simp[insB];simp at h;omega))
 ·refine Wk ?_
  exact resP.mk rfl (Sees.bool (by simp[insB];simp at h;omega))
theorem c_checkLink (n:Net)(i:Nat)(l:Link)(hl:n.links[i]? = some l)(hm:n.margin.length=n.links.length)(hb:n.links.length≤128)(hp1:(n.power.length:Int)=n.nodes)(hp2:∀r∈n.power,(r.length:Int)=n.nodes) :
  PCall Tryz.prog L 202 [n.av,.int .i64 i] (.int .i64 (linkE n i)):=by
 have hlt:=(List.getElem?_eq_some_iff.1 hl).1
 have hmx:=getMap (f:=Link.av) hl
 obtain⟨m,hgm⟩:=getLt (l:=n.margin) (k:=i) (by omega)
 have hmm:=getMap (f:=encI) hgm
 have hgd:n.margin.getD i 0=m:=by rw[List.getD_eq_getElem?_getD,hgm];rfl
 have hE:linkE n i=if linkR n l=false then 2 else if linkO n i l=false then 5 else if n.margin.getD i 0 < 0∨powAt n l.src l.dst < n.margin.getD i 0 then 2 else 0:=by rw[linkE,hl]
 rw[hE,hgd]
 refine PCall.intro mixed [] (nt:=82) Tryz.func202 rfl rfl (by simp) ?_
 repeat((conv=>whnf);first|refine sJ ?_|refine aI (by first|exact inbMap hlt|kernel_rfl) ?_|rw[hmx])
 try(conv=>whnf)
 refine cB (c_clnode L n l.src) ?_
 refine Wk ?_
 refine BrK.mk (fun h1=>?_) (fun h1=>?_)<;>(try rw[h1])
 ·refine Wk ?_
  exact resP.mk rfl (Sees.int (by rw[if_pos (by simp at h1;simp[linkR,h1])]))
 refine Wk ?_
 refine cB (c_clnode L n l.dst) ?_
 refine Wk ?_
 refine BrK.mk (fun h2=>?_) (fun h2=>?_)<;>(try rw[h2])
 ·refine Wk ?_
  exact resP.mk rfl (Sees.int (by rw[if_pos (by simp at h2;simp[linkR,h2])]))
 refine Wk ?_
 refine BrK.mk (fun h3=>?_) (fun h3=>?_)<;>(try rw[h3])
 ·refine Wk ?_
  exact resP.mk rfl (Sees.int (by rw[if_pos (by simp at h3;simp[linkR,h3])]))
 refine Wk ?_
 refine BrK.mk (fun h4=>?_) (fun h4=>?_)<;>(try rw[h4])
 ·refine Wk ?_
  exact resP.mk rfl (Sees.int (by rw[if_pos (by simp at h4;simp[linkR];omega)]))
 refine Wk ?_
 refine BrK.mk (fun h5=>?_) (fun h5=>?_)<;>(try rw[h5])
 ·refine Wk ?_
  exact resP.mk rfl (Sees.int (by rw[if_pos (by simp at h5;simp[linkR];omega)]))
 have hR:linkR n l=true:=by simp at h1 h2 h3 h4 h5;simp[linkR,h1,h2,h3];omega
 have hbd:=linkR_bd hR
 rw[if_neg (by simp[hR])]
 obtain⟨r,hgr⟩:=getLt (l:=n.power) (k:=l.src.toNat) (by omega)
 have hmr:=getMapI (f:=encIs) hgr
 have hrl:=hp2 r (List.mem_of_getElem? hgr)
 obtain⟨x,hgx⟩:=getLt (l:=r) (k:=l.dst.toNat) (by omega)
 have hmp:=getMapI (f:=encI) hgx
 have hpow:powAt n l.src l.dst=x:=by
  unfold powAt
  rw[List.getD_eq_getElem?_getD,List.getD_eq_getElem?_getD,hgr]
  simp[hgx]
 rw[hpow]
 refine Wk ?_
 refine BrK.mk (fun h6=>?_) (fun h6=>?_)<;>(try rw[h6])
 ·have hpos:0 < i:=by simpa using h6
  obtain⟨j,rfl⟩:∃j,i=j+1:=⟨i-1,by omega⟩
  obtain⟨p,hgp⟩:=getLt (l:=n.links) (k:=j) (by omega)
  have hmp':=getMap (f:=Link.av) hgp
  have hw:IntKind.i64.wrap (((j+1:Nat):Int)-1)=(j:Int):=by rw[w64]<;>omega
  have hO:linkO n (j+1) l=decide (p.cmp l < 0):=by simp only[linkO,hgp]
  rw[hO]
  repeat((conv=>whnf);first|refine sJ ?_|refine aI (by first|(rw[hw];exact inbMap (by omega))|kernel_rfl) ?_|rw[hw]|rw[hmp'])
  try(conv=>whnf)
  refine cD (c_linkcmp L p l) ?_
  refine Wk ?_
  refine BrK.mk (fun h7=>?_) (fun h7=>?_)<;>(try rw[h7])
  ·refine Wk ?_
   exact resP.mk rfl (Sees.int (by rw[if_pos (by simpa using h7)]))
  rw[if_neg (by simp at h7;simp;omega)]
  repeat((conv=>whnf);first|refine sJ ?_|refine aI (by first|exact inbMap hlt|exact inbMap (by omega)|exact inbI (by omega) (by omega)|kernel_rfl) ?_|rw[hmm]|rw[hmr]|rw[hmp])
  try(conv=>whnf)
  refine BrK.mk (fun h8=>?_) (fun h8=>?_)<;>(try rw[h8])
  ·refine Wk ?_
   exact resP.mk rfl (Sees.int (by rw[if_pos (.inl (by simpa using h8))]))
  repeat((conv=>whnf);first|refine sJ ?_|refine aI (by first|exact inbMap hlt|exact inbMap (by omega)|exact inbI (by omega) (by omega)|kernel_rfl) ?_|rw[hmm]|rw[hmr]|rw[hmp])
  try(conv=>whnf)
  refine BrK.mk (fun h9=>?_) (fun h9=>?_)<;>(try rw[h9])
  ·refine Wk ?_
   exact resP.mk rfl (Sees.int (by rw[if_pos (.inr (by simpa using h9))]))
  refine Wk ?_
  exact resP.mk rfl (Sees.int (by rw[if_neg (by simp at h8 h9;omega)]))
 ·have hz:i=0:=by simp at h6;omega
  subst hz
  rw[if_neg (by simp[linkO])]
  repeat((conv=>whnf);first|refine sJ ?_|refine aI (by first|exact inbMap (k:=0) hlt|exact inbMap (k:=0) (by omega)|exact inbI (by omega) (by omega)|kernel_rfl) ?_|rw[hmm]|rw[hmr]|rw[hmp])
  try(conv=>whnf)
  refine BrK.mk (fun h8=>?_) (fun h8=>?_)<;>(try rw[h8])
  ·refine Wk ?_
   exact resP.mk rfl (Sees.int (by rw[if_pos (.inl (by simpa using h8))]))
  repeat((conv=>whnf);first|refine sJ ?_|refine aI (by first|exact inbMap (k:=0) hlt|exact inbMap (k:=0) (by omega)|exact inbI (by omega) (by omega)|kernel_rfl) ?_|rw[hmm]|rw[hmr]|rw[hmp])
  try(conv=>whnf)
  refine BrK.mk (fun h9=>?_) (fun h9=>?_)<;>(try rw[h9])
  ·refine Wk ?_
   exact resP.mk rfl (Sees.int (by rw[if_pos (.inr (by simpa using h9))]))
  refine Wk ?_
  exact resP.mk rfl (Sees.int (by rw[if_neg (by simp at h8 h9;omega)]))
theorem c_netCheck (n:Net)(hn:n.small):PCall Tryz.prog L 150 [n.av] (.int .i64 (netE n)):=by
 refine PCall.intro mixed [] (nt:=64) Tryz.func150 rfl rfl (by simp) ?_
 refine Wk ?_
 refine BrK.mk (fun h1=>?_) (fun h1=>?_)<;>(try rw[h1])
 ·refine Wk ?_
  exact resP.mk rfl (Sees.int (by rw[netE,if_pos (.inl (by simpa using h1))]))
 refine Wk ?_
 refine BrK.mk (fun h2=>?_) (fun h2=>?_)<;>(try rw[h2])
 ·refine Wk ?_
  exact resP.mk rfl (Sees.int (by rw[netE,if_pos (.inr (by simpa using h2))]))
 have h12:¬(n.nodes < 2∨32 < n.nodes):=by simp at h1 h2;omega
 refine Wk ?_
 refine cD (c_checkPower L n hn) ?_
 refine Wk ?_
 refine BrK.mk (fun h3=>?_) (fun h3=>?_)<;>(try rw[h3])
 ·refine Wk ?_
  exact resP.mk rfl (Sees.int (by rw[netE,if_neg h12,if_pos (by simpa using h3)]))
 have hpe:powerE n=0:=by simpa using h3
 obtain⟨p1,p2,p3⟩:=powerE_ok hpe
 have e3:¬(powerE n≠0):=by simp[hpe]
 refine Wk ?_
 refine BrK.mk (fun h4=>?_) (fun h4=>?_)<;>(try rw[h4])
 ·refine Wk ?_
  exact resP.mk rfl (Sees.int (by rw[netE,if_neg h12,if_neg e3,if_pos (by simp at h4;omega)]))
 refine Wk ?_
 refine BrK.mk (fun h5=>?_) (fun h5=>?_)<;>(try rw[h5])
 ·refine Wk ?_
  exact resP.mk rfl (Sees.int (by rw[netE,if_neg h12,if_neg e3,if_pos (by simp at h5;omega)]))
 refine Wk ?_
 refine BrK.mk (fun h6=>?_) (fun h6=>?_)<;>(try rw[h6])
 ·refine Wk ?_
  exact resP.mk rfl (Sees.int (by rw[netE,if_neg h12,if_neg e3,if_pos (by simp at h6;omega)]))
 refine Wk ?_
 refine BrK.mk (fun h7=>?_) (fun h7=>?_)<;>(try rw[h7])
 ·refine Wk ?_
  exact resP.mk rfl (Sees.int (by rw[netE,if_neg h12,if_neg e3,if_pos (by simp at h7;omega)]))
 have e4:¬(n.noise < 0∨68719476736 < n.noise∨n.thr < 1000∨100000 < n.thr):=by simp at h4 h5 h6 h7;omega
 refine Wk ?_
 refine BrK.mk (fun h8=>?_) (fun h8=>?_)<;>(try rw[h8])
 ·refine Wk ?_
  exact resP.mk rfl (Sees.int (by rw[netE,if_neg h12,if_neg e3,if_neg e4,if_pos (by simp at h8;omega)]))
 have e5:¬(128 < n.links.length):=by simp at h8;omega
 refine Wk ?_
 refine BrK.mk (fun h9=>?_) (fun h9=>?_)<;>(try rw[h9])
 ·refine Wk ?_
  exact resP.mk rfl (Sees.int (by rw[netE,if_neg h12,if_neg e3,if_neg e4,if_neg e5,if_pos (by simp at h9;omega)]))
 have e6:n.margin.length=n.links.length:=by simp at h9;omega
 have hE:netE n=firstE (linkE n) n.links.length:=by rw[netE,if_neg h12,if_neg e3,if_neg e4,if_neg e5,if_neg (by omega)]
 rw[hE]
 refine Wk ?_
 refine LoopK.run mixed [] (fun (k:Nat)=>k≤n.links.length∧∀j,j < k→linkE n j=0) (fun k=>[(1,.ptr 0 0),(53,.int .i64 n.links.length),(54,.int .i64 k)]) (fun k=>⟨[.cells n.cs 36],[],0,0,fun _=>0⟩) (fun k=>n.links.length-k) 0 ⟨by simp,by simp⟩ ?_ ?_
 ·refine fN ?_<;>repeat' (first|exact fQ|refine And.intro ?_ ?_|exact Sees.int (by simp))
 rintro k ⟨hk,hinv⟩
 refine Wk ?_
 refine BrK.mk (fun hb=>?_) (fun hb=>?_)<;>try rw[hb]
 ·have hlt:k < n.links.length:=by simpa using hb
  obtain⟨l,hgl⟩:=getLt hlt
  refine Wk ?_
  refine cD (c_checkLink L n k l hgl e6 (by omega) p1 p2) ?_
  refine Wk ?_
  refine BrK.mk (fun hc=>?_) (fun hc=>?_)<;>(try rw[hc])
  ·refine Wk ?_
   exact resP.mk rfl (Sees.int (by rw[firstE_hit hinv (by simpa using hc) hlt]))
  ·refine Wk ?_
   refine⟨k+1,⟨by omega,fun j hj=>?_⟩,by omega,?_⟩
   ·rcases Nat.lt_succ_iff_lt_or_eq.1 hj with h|rfl
    ·exact hinv j h
    ·simpa using hc
   ·refine fN ?_<;>repeat' (first|exact fQ|refine And.intro ?_ ?_|exact Sees.int (succI hlt (by omega)))
 ·have hk':k=n.links.length:=by simp at hb;omega
  subst hk'
  refine Wk ?_
  exact resP.mk rfl (Sees.int (by rw[firstE_zero hinv]))
theorem c_find (n:Net)(h:NetOk n)(a b:Int):PCall Tryz.prog L 243 [n.av,.int .i64 a,.int .i64 b] (.int .i64 (findL n a b)):=by
 rw[←find_half h a b]
 have hc:∀x:Link,x.cmp ⟨a,b,0⟩=cmpTo a b x:=fun x=>rfl
 refine PCall.intro mixed [] (nt:=21) Tryz.func243 rfl rfl (by simp) ?_
 refine Wk ?_
 refine cD (c_BinLink L n.links ⟨a,b,0⟩ 241 (cmpTo a b) (by have:=h.many;omega) rfl (h.mono a b) (fun x _=>c_linkcmp L x ⟨a,b,0⟩)) ?_
 refine Wk ?_
 refine BrK.mk (fun h1=>?_) (fun h1=>?_)<;>(try rw[h1])
 ·refine Wk ?_
  exact resP.mk rfl (Sees.int (by rw[if_neg (by simpa using h1)]))
 ·refine Wk ?_
  exact resP.mk rfl (Sees.int (by rw[if_pos (by simpa using h1)]))
theorem c_index (n:Net)(hn:n.small)(a b:Int):PCall Tryz.prog L 204 [n.av,.int .i64 a,.int .i64 b] (.int .i64 (indexN n a b)):=by
 refine PCall.intro mixed [] (nt:=14) Tryz.func204 rfl rfl (by simp) ?_
 refine Wk ?_
 refine cD (c_netCheck L n hn) ?_
 refine Wk ?_
 refine BrK.mk (fun h1=>?_) (fun h1=>?_)<;>(try rw[h1])
 ·refine Wk ?_
  exact resP.mk rfl (Sees.int (by rw[indexN,if_neg (by simpa using h1)]))
 ·have h0:netE n=0:=by simpa using h1
  refine Wk ?_
  refine cD (c_find L n (netE_ok h0) a b) ?_
  refine Wk ?_
  exact resP.mk rfl (Sees.int (by rw[indexN,if_pos h0]))
theorem heard_w (n:Net)(h:NetOk n){s d:Int}(hs:0≤s∧s≤8796093022208)(hd:0≤d∧d≤8796093022208) :
  decide (IntKind.i64.wrap (n.thr*IntKind.i64.wrap (n.noise+d))≤IntKind.i64.wrap (s*1000))=heardB n s d:=by
 have h1:=h.noise
 have h2:=h.thr
 have h3:0≤n.thr*(n.noise+d):=Int.mul_nonneg (by omega) (by omega)
 have h4:n.thr*(n.noise+d)≤100000*8864812498944:=Int.mul_le_mul (by omega) (by omega) (by omega) (by omega)
 rw[w64 (x:=n.noise+d) (by omega) (by omega),w64 (by omega) (by omega),w64 (by omega) (by omega)]
 rfl
theorem c_hears (n:Net)(h:NetOk n)(s d:Int)(hs:0≤s∧s≤8796093022208)(hd:0≤d∧d≤8796093022208):PCall Tryz.prog L 245 [n.av,.int .i64 s,.int .i64 d] (.bool (heardB n s d)):=by
 refine PCall.intro mixed [] (nt:=17) Tryz.func245 rfl rfl (by simp) ?_
 refine Wk ?_
 exact resP.mk rfl (Sees.bool (heard_w n h hs hd))
theorem NetOk.marginB {n:Net}(h:NetOk n){k:Nat}(hk:k < n.links.length):∃m,n.margin[k]? = some m∧0≤m∧m≤8796093022208:=by
 obtain⟨m,hm⟩:=getLt (l:=n.margin) (k:=k) (by rw[h.mar];exact hk)
 obtain⟨l,hl⟩:=getLt hk
 have:=(h.link k l hl).2.2
 rw[List.getD_eq_getElem?_getD,hm]at this
 have hp:=powAt_bd h.pow l.src l.dst
 simp only[Option.getD_some]at this
 exact⟨m,hm,by omega,by omega⟩
theorem c_usable (n:Net)(h:NetOk n)(i:Int)(h0:0≤i)(h1:i < n.links.length):PCall Tryz.prog L 242 [n.av,.int .i64 i] (.bool (usableL n i)):=by
 obtain⟨k,rfl⟩:∃k:Nat,i=k:=⟨i.toNat,by omega⟩
 have hlt:k < n.links.length:=by omega
 obtain⟨l,hgl⟩:=getLt hlt
 have hml:=getMap (f:=Link.av) hgl
 obtain⟨m,hgm,hm0,hm1⟩:=h.marginB hlt
 have hmm:=getMap (f:=encI) hgm
 have hU:usableL n k=(decide (0≤findL n l.dst l.src)&&heardAt n k&&heardAt n (findL n l.dst l.src)):=by unfold usableL;rw[Int.toNat_natCast,hgl]
 have hA:heardAt n k=heardB n m 0:=by unfold heardAt;rw[Int.toNat_natCast,List.getD_eq_getElem?_getD,hgm];rfl
 rw[hU,hA]
 refine PCall.intro mixed [] (nt:=40) Tryz.func242 rfl rfl (by simp) ?_
 repeat((conv=>whnf);first|refine sJ ?_|refine aI (by first|exact inbMap hlt|kernel_rfl) ?_|rw[hml])
 try(conv=>whnf)
 refine cD (c_find L n h l.dst l.src) ?_
 refine Wk ?_
 refine BrK.mk (fun g1=>?_) (fun g1=>?_)<;>(try rw[g1])
 ·have g1':0≤findL n l.dst l.src:=by simpa using g1
  obtain⟨k2,l2,e1,e2,_,_⟩:=findL_at g1'
  have hlt2:=(List.getElem?_eq_some_iff.1 e2).1
  obtain⟨m2,hgm2,hm20,hm21⟩:=h.marginB hlt2
  have hmm2:=getMap (f:=encI) hgm2
  have hA2:heardAt n (findL n l.dst l.src)=heardB n m2 0:=by unfold heardAt;rw[e1,Int.toNat_natCast,List.getD_eq_getElem?_getD,hgm2];rfl
  rw[hA2]
  rw[e1]
  repeat((conv=>whnf);first|refine sJ ?_|refine aI (by first|exact inbMap (by rw[h.mar];exact hlt)|kernel_rfl) ?_|rw[hmm])
  try(conv=>whnf)
  refine cD (c_hears L n h m 0 ⟨hm0,hm1⟩ (by omega)) ?_
  refine Wk ?_
  refine BrK.mk (fun g2=>?_) (fun g2=>?_)<;>(try rw[g2])
  ·repeat((conv=>whnf);first|refine sJ ?_|refine aI (by first|exact inbMap (by rw[h.mar];exact hlt2)|kernel_rfl) ?_|rw[hmm2])
   try(conv=>whnf)
   refine cD (c_hears L n h m2 0 ⟨hm20,hm21⟩ (by omega)) ?_
   refine Wk ?_
   exact resP.mk rfl (Sees.bool (by simp))
  ·refine Wk ?_
   exact resP.mk rfl (Sees.bool (by simp))
 ·refine Wk ?_
  exact resP.mk rfl (Sees.bool (by simp))
theorem c_Usable (n:Net)(hn:n.small)(i:Int):PCall Tryz.prog L 203 [n.av,.int .i64 i] (.bool (usableN n i)):=by
 refine PCall.intro mixed [] (nt:=24) Tryz.func203 rfl rfl (by simp) ?_
 refine Wk ?_
 refine cD (c_netCheck L n hn) ?_
 refine Wk ?_
 refine BrK.mk (fun h1=>?_) (fun h1=>?_)<;>(try rw[h1])
 ·have h0:netE n=0:=by simpa using h1
  refine Wk ?_
  refine BrK.mk (fun h2=>?_) (fun h2=>?_)<;>(try rw[h2])
  ·refine Wk ?_
   refine BrK.mk (fun h3=>?_) (fun h3=>?_)<;>(try rw[h3])
   ·refine Wk ?_
    refine cD (c_usable L n (netE_ok h0) i (by simpa using h2) (by simpa using h3)) ?_
    refine Wk ?_
    exact resP.mk rfl (Sees.bool (by simp at h2 h3;simp[usableN,h0,insB,h2,h3]))
   ·refine Wk ?_
    exact resP.mk rfl (Sees.bool (by simp at h2 h3;simp[usableN,insB];omega))
  ·refine Wk ?_
   exact resP.mk rfl (Sees.bool (by simp at h2;simp[usableN,insB];omega))
 ·refine Wk ?_
  exact resP.mk rfl (Sees.bool (by simp at h1;simp[usableN,h1]))
end
section
variable (L:World→Prop)
theorem slHi {α:Type}(f:α→AV)(l:List α)(k:Nat):((l.map f).take (k:Int).toNat).drop 0=(l.take k).map f:=by simp
theorem slLo {α:Type}(f:α→AV)(l:List α)(k:Int):((l.map f).take (l.map f).length).drop k.toNat=(l.drop k.toNat).map f:=by rw[List.take_of_length_le (by simp),List.map_drop]
theorem c_fnode (nodes a:Int):PCall Tryz.prog L 182 [.int .i64 a,.cptr (.agg [.int .i64 nodes]) 0] (.bool (insB a nodes)):=by
 refine PCall.intro mixed [] (nt:=11) Tryz.func182 rfl rfl (by simp) ?_
 refine Wk ?_
 refine BrK.mk (fun h=>?_) (fun h=>?_)<;>(try rw[h])
 ·refine Wk ?_
  exact resP.mk rfl (Sees.bool (by simp[insB];simp at h;omega))
 ·refine Wk ?_
  exact resP.mk rfl (Sees.bool (by simp[insB];simp at h;omega))
theorem c_fcheck (nodes:Int)(f:Flow):PCall Tryz.prog L 121 [.int .i64 nodes,f.av] (.int .i64 (flowE nodes f)):=by
 refine PCall.intro mixed [] (nt:=69) Tryz.func121 rfl rfl (by simp) ?_
 refine Wk ?_
 refine BrK.mk (fun h1=>?_) (fun h1=>?_)<;>(try rw[h1])
 ·refine Wk ?_
  exact resP.mk rfl (Sees.int (by rw[flowE,if_pos (.inl (by simpa using h1))]))
 refine Wk ?_
 refine BrK.mk (fun h2=>?_) (fun h2=>?_)<;>(try rw[h2])
 ·refine Wk ?_
  exact resP.mk rfl (Sees.int (by rw[flowE,if_pos (.inr (.inl (by simpa using h2)))]))
 refine Wk ?_
 refine cB (c_fnode L nodes f.src) ?_
 refine Wk ?_
 refine BrK.mk (fun h3=>?_) (fun h3=>?_)<;>(try rw[h3])
 ·refine Wk ?_
  exact resP.mk rfl (Sees.int (by rw[flowE,if_pos (.inr (.inr (.inl (by simpa using h3))))]))
 refine Wk ?_
 refine cB (c_fnode L nodes f.dst) ?_
 refine Wk ?_
 refine BrK.mk (fun h4=>?_) (fun h4=>?_)<;>(try rw[h4])
 ·refine Wk ?_
  exact resP.mk rfl (Sees.int (by rw[flowE,if_pos (.inr (.inr (.inr (by simpa using h4))))]))
 have e1:¬(f.id < 0∨255 < f.id∨insB f.src nodes=false∨insB f.dst nodes=false):=by simp at h1 h2 h3 h4;simp[h3,h4];omega
 refine Wk ?_
 refine BrK.mk (fun g1=>?_) (fun g1=>?_)<;>(try rw[g1])
 ·refine Wk ?_
  exact resP.mk rfl (Sees.int (by rw[flowE,if_neg e1,if_pos (by simp at g1;omega)]))
 refine Wk ?_
 refine BrK.mk (fun g2=>?_) (fun g2=>?_)<;>(try rw[g2])
 ·refine Wk ?_
  exact resP.mk rfl (Sees.int (by rw[flowE,if_neg e1,if_pos (by simp at g2;omega)]))
 refine Wk ?_
 refine BrK.mk (fun g3=>?_) (fun g3=>?_)<;>(try rw[g3])
 ·refine Wk ?_
  exact resP.mk rfl (Sees.int (by rw[flowE,if_neg e1,if_pos (by simp at g3;omega)]))
 refine Wk ?_
 refine BrK.mk (fun g4=>?_) (fun g4=>?_)<;>(try rw[g4])
 ·refine Wk ?_
  exact resP.mk rfl (Sees.int (by rw[flowE,if_neg e1,if_pos (by simp at g4;omega)]))
 refine Wk ?_
 refine BrK.mk (fun g5=>?_) (fun g5=>?_)<;>(try rw[g5])
 ·refine Wk ?_
  exact resP.mk rfl (Sees.int (by rw[flowE,if_neg e1,if_pos (by simp at g5;omega)]))
 refine Wk ?_
 refine BrK.mk (fun g6=>?_) (fun g6=>?_)<;>(try rw[g6])
 ·refine Wk ?_
  exact resP.mk rfl (Sees.int (by rw[flowE,if_neg e1,if_pos (by simp at g6;omega)]))
 have e2:¬(f.period < 1∨512 < f.period∨f.phase < 0∨f.period≤f.phase∨f.dead < 1∨f.period < f.dead):=by simp at g1 g2 g3 g4 g5 g6;omega
 refine Wk ?_
 refine BrK.mk (fun g7=>?_) (fun g7=>?_)<;>(try rw[g7])
 ·refine Wk ?_
  exact resP.mk rfl (Sees.int (by rw[flowE,if_neg e1,if_neg e2,if_pos (by simpa using g7)]))
 refine Wk ?_
 exact resP.mk rfl (Sees.int (by rw[flowE,if_neg e1,if_neg e2,if_neg (by simpa using g7)]))
theorem c_FCheck (nodes:Int)(l:List Flow)(hl:l.length≤281474976710656):PCall Tryz.prog L 76 [.int .i64 nodes,encFlows l] (.tup [.int .i64 (flowsE nodes l).1,.int .i64 (flowsE nodes l).2]):=by
 refine PCall.intro mixed [] (nt:=47) Tryz.func76 rfl rfl (by simp) ?_
 refine Wk ?_
 refine BrK.mk (fun h1=>?_) (fun h1=>?_)<;>(try rw[h1])
 ·refine Wk ?_
  exact resP.mk rfl (Sees.of_eq (by rw[flowsE,if_pos (.inl (by simpa using h1))]))
 refine Wk ?_
 refine BrK.mk (fun h2=>?_) (fun h2=>?_)<;>(try rw[h2])
 ·refine Wk ?_
  exact resP.mk rfl (Sees.of_eq (by rw[flowsE,if_pos (.inr (by simpa using h2))]))
 have e1:¬(nodes < 2∨32 < nodes):=by simp at h1 h2;omega
 refine Wk ?_
 refine BrK.mk (fun h3=>?_) (fun h3=>?_)<;>(try rw[h3])
 ·refine Wk ?_
  exact resP.mk rfl (Sees.of_eq (by rw[flowsE,if_neg e1,if_pos (by simp at h3;omega)]))
 have e2:¬(16 < l.length):=by simp at h3;omega
 rw[show flowsE nodes l=firstAt (flowAt nodes l) l.length by rw[flowsE,if_neg e1,if_neg e2]]
 refine Wk ?_
 refine LoopK.run mixed [] (fun (k:Nat)=>k≤l.length∧∀j,j < k→flowAt nodes l j=0) (fun k=>[(0,.int .i64 nodes),(1,encFlows l),(18,encFlows l),(19,.int .i64 l.length),(20,.int .i64 k)]) (fun k=>St.none) (fun k=>l.length-k) 0 ⟨by simp,by simp⟩ ?_ ?_
 ·refine fN ?_<;>repeat' (first|exact fQ|refine And.intro ?_ ?_|exact Sees.int (by simp))
 rintro k ⟨hk,hinv⟩
 refine Wk ?_
 refine BrK.mk (fun hb=>?_) (fun hb=>?_)<;>try rw[hb]
 ·have hlt:k < l.length:=by simpa using hb
  obtain⟨f,hgf⟩:=getLt hlt
  have hmf:=getMap (f:=Flow.av) hgf
  have hE:flowAt nodes l k=if flowE nodes f≠0 then flowE nodes f else if flowO l k f=false then 5 else 0:=by unfold flowAt;rw[hgf]
  have next:flowAt nodes l k=0→∀j,j < k+1→flowAt nodes l j=0:=fun h0 j hj=>by
   rcases Nat.lt_succ_iff_lt_or_eq.1 hj with h|rfl
   ·exact hinv j h
   ·exact h0
  repeat((conv=>whnf);first|refine sJ ?_|refine aI (by first|exact inbMap hlt|kernel_rfl) ?_|rw[hmf])
  try(conv=>whnf)
  refine cD (c_fcheck L nodes f) ?_
  refine Wk ?_
  refine BrK.mk (fun hc=>?_) (fun hc=>?_)<;>(try rw[hc])
  ·refine Wk ?_
   have hc':flowE nodes f≠0:=by simpa using hc
   have hv:flowAt nodes l k=flowE nodes f:=by rw[hE,if_pos hc']
   exact resP.mk rfl (Sees.of_eq (by rw[firstAt_hit hinv (by rw[hv];exact hc') hlt,hv]))
  have hc':¬flowE nodes f≠0:=by simpa using hc
  rw[if_neg hc']at hE
  refine Wk ?_
  refine BrK.mk (fun hp=>?_) (fun hp=>?_)<;>(try rw[hp])
  ·have hpos:0 < k:=by simpa using hp
   obtain⟨j,rfl⟩:∃j,k=j+1:=⟨k-1,by omega⟩
   obtain⟨p,hgp⟩:=getLt (l:=l) (k:=j) (by omega)
   have hmp:=getMap (f:=Flow.av) hgp
   have hw:IntKind.i64.wrap (((j+1:Nat):Int)-1)=(j:Int):=by rw[w64]<;>omega
   have hO:flowO l (j+1) f=decide (p.id < f.id):=by simp only[flowO,hgp]
   rw[hO]at hE
   repeat((conv=>whnf);first|refine sJ ?_|refine aI (by first|(rw[hw];exact inbMap (by omega))|kernel_rfl) ?_|rw[hw]|rw[hmp])
   try(conv=>whnf)
   refine BrK.mk (fun hq=>?_) (fun hq=>?_)<;>(try rw[hq])
   ·refine Wk ?_
    have hv:flowAt nodes l (j+1)=5:=by rw[hE,if_pos (by simpa using hq)]
    exact resP.mk rfl (Sees.of_eq (by rw[firstAt_hit hinv (by rw[hv];decide) hlt,hv]))
   ·refine Wk ?_
    refine⟨j+2,⟨by omega,next (by rw[hE,if_neg (by simp at hq;simp;omega)])⟩,by omega,?_⟩
    refine fN ?_<;>repeat' (first|exact fQ|refine And.intro ?_ ?_|exact Sees.int (succI hlt (by omega)))
  ·have hz:k=0:=by simp at hp;omega
   subst hz
   refine Wk ?_
   refine⟨1,⟨by omega,next (by rw[hE,if_neg (by simp[flowO])])⟩,by omega,?_⟩
   refine fN ?_<;>repeat' (first|exact fQ|refine And.intro ?_ ?_|exact Sees.int (succI hlt (by omega)))
 ·have hk':k=l.length:=by simp at hb;omega
  subst hk'
  refine Wk ?_
  exact resP.mk rfl (Sees.of_eq (by rw[firstAt_zero hinv]))
theorem c_IndexFuncRoute (l:List Int)(p:Int→Bool)(g:Nat)(caps:List AV)(hl:l.length≤281474976710656)(hcb:callable Tryz.prog g=true)(hc:fzs caps=some caps)(hp:∀x∈l,PCall Tryz.prog L g (encI x :: caps) (.bool (p x))) :
  PCall Tryz.prog L 296 [.sl false (l.map encI),.fn g caps] (.int .i64 (idxF p l)):=by
 refine PCall.intro mixed [] (nt:=19) Tryz.func296 rfl rfl (by simp) ?_
 refine Wk ?_
 refine LoopK.run mixed [] (fun (k:Nat)=>k≤l.length∧∀j x,j < k→l[j]? = some x→p x=false) (fun k=>[(0,.sl false (l.map encI)),(1,.fn g caps),(7,.int .i64 l.length),(8,.int .i64 k)]) (fun k=>St.none) (fun k=>l.length-k) 0 ⟨by simp,by simp⟩ ?_ ?_
 ·refine fN ?_<;>repeat' (first|exact fQ|refine And.intro ?_ ?_|exact Sees.int (by simp)|exact fzs_okk hc)
 rintro k ⟨hk,hinv⟩
 refine Wk ?_
 refine BrK.mk (fun hb=>?_) (fun hb=>?_)<;>try rw[hb]
 ·have hlt:k < l.length:=by simpa using hb
  obtain⟨x,hgx⟩:=getLt hlt
  have hmx:=getMap (f:=encI) hgx
  repeat((conv=>whnf);first|refine sJ ?_|refine aI (by first|exact inbMap hlt|kernel_rfl) ?_|rw[hmx])
  try(conv=>whnf)
  refine CallK.data hcb (hp x (List.mem_of_getElem? hgx)) (by show(match fz _,fzs caps with|some a,some b=>some (a :: b)|_,_=>none)=_;rw[hc];rfl) ?_
  refine Wk ?_
  refine BrK.mk (fun h2=>?_) (fun h2=>?_)<;>(try rw[h2])
  ·refine Wk ?_
   exact resP.mk rfl (Sees.int (idxF_some hlt hinv hgx h2).symm)
  ·refine Wk ?_
   refine⟨k+1,⟨by omega,fun j y hj hy=>?_⟩,by omega,?_⟩
   ·rcases Nat.lt_succ_iff_lt_or_eq.1 hj with h|rfl
    ·exact hinv j y h hy
    ·rw[hgx]at hy;injection hy with hy;subst hy;exact h2
   ·refine fN ?_<;>repeat' (first|exact fQ|refine And.intro ?_ ?_|exact Sees.int (succI hlt hl)|exact fzs_okk hc)
 ·have hk':k=l.length:=by simp at hb;omega
  subst hk'
  refine Wk ?_
  exact resP.mk rfl (Sees.int (idxF_none hinv).symm)
theorem c_ContainsFuncRoute (l:List Int)(p:Int→Bool)(g:Nat)(caps:List AV)(hl:l.length≤281474976710656)(hcb:callable Tryz.prog g=true)(hc:fzs caps=some caps)(hp:∀x∈l,PCall Tryz.prog L g (encI x :: caps) (.bool (p x))) :
  PCall Tryz.prog L 274 [.sl false (l.map encI),.fn g caps] (.bool (l.any p)):=by
 refine PCall.intro mixed [] (nt:=9) Tryz.func274 rfl rfl (by simp) ?_
 refine Wk ?_
 refine CallK.data rfl (c_IndexFuncRoute L l p g caps hl hcb hc hp) (by show(match fz _,fzs [AV.fn g caps] with|some a,some b=>some (a :: b)|_,_=>none)=_;rw[show fzs [AV.fn g caps] = some [AV.fn g caps] from by simp[fz,fzs,hc]];rfl) ?_
 refine Wk ?_
 exact resP.mk rfl (Sees.bool (idxF_any p l))
theorem c_IndexRoute (l:List Int)(x:Int)(hl:l.length≤281474976710656):PCall Tryz.prog L 297 [.sl false (l.map encI),encI x] (.int .i64 (idxF (fun y=>decide (x=y)) l)):=by
 refine PCall.intro mixed [] (nt:=19) Tryz.func297 rfl rfl (by simp) ?_
 refine Wk ?_
 refine LoopK.run mixed [] (fun (k:Nat)=>k≤l.length∧∀j y,j < k→l[j]? = some y→decide (x=y)=false) (fun k=>[(0,.sl false (l.map encI)),(1,encI x),(7,.int .i64 l.length),(8,.int .i64 k)]) (fun k=>St.none) (fun k=>l.length-k) 0 ⟨by simp,by simp⟩ ?_ ?_
 ·refine fN ?_<;>repeat' (first|exact fQ|refine And.intro ?_ ?_|exact Sees.int (by simp))
 rintro k ⟨hk,hinv⟩
 refine Wk ?_
 refine BrK.mk (fun hb=>?_) (fun hb=>?_)<;>try rw[hb]
 ·have hlt:k < l.length:=by simpa using hb
  obtain⟨y,hgx⟩:=getLt hlt
  have hmx:=getMap (f:=encI) hgx
  repeat((conv=>whnf);first|refine sJ ?_|refine aI (by first|exact inbMap hlt|kernel_rfl) ?_|rw[hmx])
  try(conv=>whnf)
  refine BrK.mk (fun h2=>?_) (fun h2=>?_)<;>(try rw[h2])
  ·refine Wk ?_
   exact resP.mk rfl (Sees.int (idxF_some hlt hinv hgx (by simpa using h2)).symm)
  ·refine Wk ?_
   refine⟨k+1,⟨by omega,fun j z hj hz=>?_⟩,by omega,?_⟩
   ·rcases Nat.lt_succ_iff_lt_or_eq.1 hj with h|rfl
    ·exact hinv j z h hz
    ·rw[hgx]at hz;injection hz with hz;subst hz;simpa using h2
   ·refine fN ?_<;>repeat' (first|exact fQ|refine And.intro ?_ ?_|exact Sees.int (succI hlt hl))
 ·have hk':k=l.length:=by simp at hb;omega
  subst hk'
  refine Wk ?_
  exact resP.mk rfl (Sees.int (idxF_none hinv).symm)
theorem c_ContainsRoute (l:List Int)(x:Int)(hl:l.length≤281474976710656):PCall Tryz.prog L 276 [.sl false (l.map encI),encI x] (.bool (decide (x∈l))):=by
 refine PCall.intro mixed [] (nt:=9) Tryz.func276 rfl rfl (by simp) ?_
 refine Wk ?_
 refine cD (c_IndexRoute L l x hl) ?_
 refine Wk ?_
 exact resP.mk rfl (Sees.bool (by rw[idxF_any,List.any_eq,←decide_eq_decide.2 (show(∃y,y∈l∧decide (x=y)=true)↔x∈l by simp)]))
theorem ends_lo {a b:Int}(h:(if b < a then b else a) < 0):a < 0∨b < 0:=by split at h<;>omega
theorem ends_lo' {a b:Int}(h:¬(if b < a then b else a) < 0):0≤a∧0≤b:=by split at h<;>omega
theorem ends_hi {a b n:Int}(h:n≤(if a < b then b else a)):n≤a∨n≤b:=by split at h<;>omega
theorem ends_hi' {a b n:Int}(h:¬n≤(if a < b then b else a)):a < n∧b < n:=by split at h<;>omega
theorem c_ends (n:Net)(hn:n.small)(a b:Int):PCall Tryz.prog L 253 [n.av,.int .i64 a,.int .i64 b] (.int .i64 (endsE n a b)):=by
 refine PCall.intro mixed [] (nt:=27) Tryz.func253 rfl rfl (by simp) ?_
 refine Wk ?_
 refine cD (c_netCheck L n hn) ?_
 refine Wk ?_
 refine BrK.mk (fun h1=>?_) (fun h1=>?_)<;>(try rw[h1])
 ·refine Wk ?_
  exact resP.mk rfl (Sees.int (by rw[endsE,if_pos (by simpa using h1)]))
 have e1:¬netE n≠0:=by simpa using h1
 refine Wk ?_
 refine BrK.mk (fun h2=>?_) (fun h2=>?_)<;>(try rw[h2])
 ·refine Wk ?_
  exact resP.mk rfl (Sees.int (by rw[endsE,if_neg e1,if_pos (by have h:=ends_lo (of_decide_eq_true h2);simp[insB];omega)]))
 refine Wk ?_
 refine BrK.mk (fun h3=>?_) (fun h3=>?_)<;>(try rw[h3])
 ·refine Wk ?_
  exact resP.mk rfl (Sees.int (by rw[endsE,if_neg e1,if_pos (by have h:=ends_hi (of_decide_eq_true h3);simp[insB];omega)]))
 refine Wk ?_
 refine BrK.mk (fun h4=>?_) (fun h4=>?_)<;>(try rw[h4])
 ·refine Wk ?_
  exact resP.mk rfl (Sees.int (by rw[endsE,if_neg e1,if_pos (.inr (.inr (by simpa using h4)))]))
 refine Wk ?_
 exact resP.mk rfl (Sees.int (by rw[endsE,if_neg e1,if_neg (by have h:=ends_lo' (of_decide_eq_false h2);have h':=ends_hi' (of_decide_eq_false h3);simp at h4;simp[insB,h4];omega)]))
theorem c_rnode (n:Net)(a:Int):PCall Tryz.prog L 275 [.int .i64 a,.cptr n.av 0] (.bool (!insB a n.nodes)):=by
 refine PCall.intro mixed [] (nt:=12) Tryz.func275 rfl rfl (by simp) ?_
 refine Wk ?_
 refine BrK.mk (fun h=>?_) (fun h=>?_)<;>(try rw[h])
 ·refine Wk ?_
  exact resP.mk rfl (Sees.bool (by have h':=of_decide_eq_true h;have:insB a n.nodes=false:=by {simp[insB];omega};rw[this];rfl))
 ·refine Wk ?_
  exact resP.mk rfl (Sees.bool (by have h':=of_decide_eq_false h;rw[Bool.eq_iff_iff];simp[insB];omega))
theorem dup_mem {r:List Int}{k:Nat}{a:Int}(h:r[k]? = some a):dupAt r k=decide (a∈r.take k):=by
 unfold dupAt
 rw[h]
 simp only
 rw[Bool.eq_iff_iff]
 simp
theorem c_rfault (n:Net)(hn:n.small)(h0:netE n=0)(a b:Int)(r:List Int)(hr:r.length≤281474976710656):PCall Tryz.prog L 254 [n.av,.int .i64 a,.int .i64 b,encIs r] (.int .i64 (routeF n a b r)):=by
 refine PCall.intro mixed [] (nt:=73) Tryz.func254 rfl rfl (by simp) ?_
 refine Wk ?_
 refine BrK.mk (fun h1=>?_) (fun h1=>?_)<;>(try rw[h1])
 ·refine Wk ?_
  exact resP.mk rfl (Sees.int (by rw[routeF,if_pos (by simp at h1;omega)]))
 have e1:¬r.length < 2:=by simp at h1;omega
 refine Wk ?_
 refine BrK.mk (fun h2=>?_) (fun h2=>?_)<;>(try rw[h2])
 ·refine Wk ?_
  exact resP.mk rfl (Sees.int (by rw[routeF,if_neg e1,if_pos (by simp at h2;omega)]))
 have e2:¬9 < r.length:=by simp at h2;omega
 refine Wk ?_
 refine cB (c_ContainsFuncRoute L r (fun x=>!insB x n.nodes) 275 [.cptr n.av 0] hr rfl rfl (fun x _=>c_rnode L n x)) ?_
 refine Wk ?_
 refine BrK.mk (fun h3=>?_) (fun h3=>?_)<;>(try rw[h3])
 ·refine Wk ?_
  exact resP.mk rfl (Sees.int (by rw[routeF,if_neg e1,if_neg e2,if_pos h3]))
 obtain⟨x0,hg0⟩:=getLt (l:=r) (k:=0) (by omega)
 have hm0:(r.map encI)[Int.toNat 0]? = some (encI x0):=getMapI (i:=0) hg0
 obtain⟨x1,hg1⟩:=getLt (l:=r) (k:=r.length-1) (by omega)
 have hm1:=getMap (f:=encI) hg1
 have hd0:r.getD 0 0=x0:=by rw[List.getD_eq_getElem?_getD,hg0];rfl
 have hd1:r.getD (r.length-1) 0=x1:=by rw[List.getD_eq_getElem?_getD,hg1];rfl
 have hw:IntKind.i64.wrap (((r.map encI).length:Int)-1)=((r.length-1:Nat):Int):=by rw[List.length_map,w64]<;>omega
 have hF:routeF n a b r=if x0≠a∨x1≠b then 11 else if (List.range r.length).any (dupAt r) then 6 else if (List.range (r.length-1)).all (hopOk n r) then 0 else 17:=by
  rw[routeF,if_neg e1,if_neg e2,if_neg (by simp only[h3];simp),hd0,hd1]
 rw[hF]
 repeat((conv=>whnf);first|refine sJ ?_|refine aI (by first|exact inbMap (k:=0) (by omega)|kernel_rfl) ?_|rw[hm0])
 try(conv=>whnf)
 refine BrK.mk (fun h4=>?_) (fun h4=>?_)<;>(try rw[h4])
 ·refine Wk ?_
  exact resP.mk rfl (Sees.int (by rw[if_pos (.inl (by simpa using h4))]))
 repeat((conv=>whnf);first|refine sJ ?_|refine aI (by first|(rw[hw];exact inbMap (by omega))|kernel_rfl) ?_|rw[hw]|rw[hm1])
 try(conv=>whnf)
 refine BrK.mk (fun h5=>?_) (fun h5=>?_)<;>(try rw[h5])
 ·refine Wk ?_
  exact resP.mk rfl (Sees.int (by rw[if_pos (.inr (by simpa using h5))]))
 rw[if_neg (by simp at h4 h5;simp[h4,h5])]
 clear hw hm0 hm1
 refine Wk ?_
 refine LoopK.run mixed [] (fun (k:Nat)=>k≤r.length∧∀j,j < k→dupAt r j=false) (fun k=>[(3,encIs r),(4,.ptr 0 0),(41,encIs r),(42,.int .i64 r.length),(43,.int .i64 k)]) (fun k=>⟨[.cells n.cs 36],[],0,0,fun _=>0⟩) (fun k=>r.length-k) 0 ⟨by simp,by simp⟩ ?_ ?_
 ·refine fN ?_<;>repeat' (first|exact fQ|refine And.intro ?_ ?_|exact Sees.int (by simp))
 rintro k ⟨hk,hinv⟩
 refine Wk ?_
 refine BrK.mk (fun hb=>?_) (fun hb=>?_)<;>try rw[hb]
 ·have hlt:k < r.length:=by simpa using hb
  obtain⟨x,hgx⟩:=getLt hlt
  have hmx:=getMap (f:=encI) hgx
  have hdup:=dup_mem hgx
  repeat((conv=>whnf);first|refine sJ ?_|refine aI (by first|exact inbMap hlt|(show InC _ _;exact⟨by omega,by simp;omega⟩)|exact Els.map (f:=encI) (fun _=>⟨rfl,rfl⟩)|kernel_rfl) ?_|rw[hmx]|rw[slHi])
  try(conv=>whnf)
  refine cD (c_ContainsRoute L (r.take k) x (by simp;omega)) ?_
  refine Wk ?_
  refine BrK.mk (fun hc=>?_) (fun hc=>?_)<;>(try rw[hc])
  ·refine Wk ?_
   exact resP.mk rfl (Sees.int (by rw[if_pos];rw[List.any_eq_true];exact⟨k,by simpa using hlt,by rw[hdup];exact hc⟩))
  ·refine Wk ?_
   refine⟨k+1,⟨by omega,fun j hj=>?_⟩,by omega,?_⟩
   ·rcases Nat.lt_succ_iff_lt_or_eq.1 hj with h|rfl
    ·exact hinv j h
    ·rw[hdup];exact hc
   ·refine fN ?_<;>repeat' (first|exact fQ|refine And.intro ?_ ?_|exact Sees.int (succI hlt (by omega)))
 ·have hk':k=r.length:=by simp at hb;omega
  subst hk'
  rw[if_neg (by simp only[Bool.not_eq_true,List.any_eq_false,List.mem_range];exact fun j hj=>by simp[hinv j hj])]
  have hdl:(r.drop 1).length=r.length-1:=by simp
  repeat((conv=>whnf);first|refine sJ ?_|refine aI (by first|(show InC _ _;exact⟨by omega,by simp;omega⟩)|exact Els.map (f:=encI) (fun _=>⟨rfl,rfl⟩)|kernel_rfl) ?_|rw[slLo])
  try(conv=>whnf)
  refine LoopK.run mixed [] (fun (k:Nat)=>k≤r.length-1∧∀j,j < k→hopOk n r j=true) (fun k=>[(3,encIs r),(4,.ptr 0 0),(55,encIs (r.drop 1)),(56,.int .i64 (r.drop 1).length),(57,.int .i64 k)]) (fun k=>⟨[.cells n.cs 36],[],0,0,fun _=>0⟩) (fun k=>r.length-1-k) 0 ⟨by omega,by simp⟩ ?_ ?_
  ·refine fN ?_<;>repeat' (first|exact fQ|refine And.intro ?_ ?_|exact Sees.int (by simp))
  rintro k ⟨hk,hinv2⟩
  refine Wk ?_
  refine BrK.mk (fun hd=>?_) (fun hd=>?_)<;>(try rw[hd])
  ·have hlt:k < (r.drop 1).length:=by simpa using hd
   obtain⟨x,hgx⟩:=getLt hlt
   have hmx:=getMap (f:=encI) hgx
   obtain⟨y,hgy⟩:=getLt (l:=r) (k:=k) (by omega)
   have hmy:=getMap (f:=encI) hgy
   have hx2:r[k+1]? = some x:=by rw[←hgx,List.getElem?_drop,Nat.add_comm]
   have hhop:hopOk n r k=goodL n y x:=by unfold hopOk;rw[List.getD_eq_getElem?_getD,List.getD_eq_getElem?_getD,hgy,hx2];rfl
   repeat((conv=>whnf);first|refine sJ ?_|refine aI (by first|exact inbMap hlt|exact inbMap (by omega)|kernel_rfl) ?_|rw[hmx]|rw[hmy])
   try(conv=>whnf)
   refine cD (c_index L n hn y x) ?_
   refine Wk ?_
   refine cD (c_Usable L n hn (indexN n y x)) ?_
   rw[usable_index h0]
   refine Wk ?_
   refine BrK.mk (fun he=>?_) (fun he=>?_)<;>(try rw[he])
   ·refine Wk ?_
    exact resP.mk rfl (Sees.int (by rw[if_neg];rw[List.all_eq_true];exact fun h=>by have:=h k (by simp;omega);rw[hhop]at this;rw[this]at he;cases he))
   ·refine Wk ?_
    refine⟨k+1,⟨by omega,fun j hj=>?_⟩,by omega,?_⟩
    ·rcases Nat.lt_succ_iff_lt_or_eq.1 hj with h|rfl
     ·exact hinv2 j h
     ·rw[hhop];simpa using he
    ·refine fN ?_<;>repeat' (first|exact fQ|refine And.intro ?_ ?_|exact Sees.int (succI hlt (by omega)))
  ·have hk':k=r.length-1:=by simp at hd;omega
   subst hk'
   refine Wk ?_
   exact resP.mk rfl (Sees.int (by rw[if_pos (range_all hinv2)]))
theorem c_RCheck (n:Net)(hn:n.small)(a b:Int)(r:List Int)(hr:r.length≤281474976710656):PCall Tryz.prog L 209 [n.av,.int .i64 a,.int .i64 b,encIs r] (.int .i64 (routeE n a b r)):=by
 refine PCall.intro mixed [] (nt:=22) Tryz.func209 rfl rfl (by simp) ?_
 refine Wk ?_
 refine cD (c_ends L n hn a b) ?_
 refine Wk ?_
 refine BrK.mk (fun h1=>?_) (fun h1=>?_)<;>(try rw[h1])
 ·refine Wk ?_
  exact resP.mk rfl (Sees.int (by rw[routeE,if_pos (by simpa using h1)]))
 have e1:¬endsE n a b≠0:=by simpa using h1
 have h0:netE n=0:=by
  cases Decidable.em (netE n=0) with
  | inl h=>exact h
  | inr h=>unfold endsE at e1;rw[if_pos h]at e1;simp at e1
 refine Wk ?_
 refine cD (c_rfault L n hn h0 a b r hr) ?_
 refine Wk ?_
 exact resP.mk rfl (Sees.int (by rw[routeE,if_neg e1]))
end
end HM
