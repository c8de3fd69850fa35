/- Slices, literals and append on abstract values. -/
import Derived.Test.YtckcedndijobaaaGreatDoorFa
import Derived.IntWalk
import Derived.Lib.AppendStr
namespace HM
open Go Go.RowKit
mutual
def fz:AV→Option AV
 | .int k n=>some (.int k n)
 | .bool b=>some (.bool b)
 | .str s=>some (.str s)
 | .nils=>some (.sl false [])
 | .nilp=>some .nilp
 | .nili=>some .nili
 | .nilm=>some .nilm
 | .sl _ es=>some (.sl false es)
 | .own es _=>some (.sl false es)
 | .cptr e off=>some (.cptr e off)
 | .cmp sh ks vs=>some (.cmp sh ks vs)
 | .fn f caps=>(fzs caps).map (.fn f)
 | .agg cs=>(fzs cs).map .agg
 | .tup cs=>(fzs cs).map .tup
 | .undef=>none
 | .grown _ _=>none
 | .bsl _ _ _ _=>none
 | .vsl _ _ _ _=>none
 | .ptr _ _=>none
 | .yld _=>none
 | .bfn _ _ _=>none
 | .mp _=>none
def fzs:List AV→Option (List AV)
 | []=>some []
 | e :: es=>match fz e,fzs es with
  | some e',some es'=>some (e' :: es')
  | _,_=>none
end
mutual
theorem fz_sound {G:Gh}{fr:Frs}{w:World}:∀(e:AV) {e':AV} {v:Value},fz e=some e'→VR G fr w e v→VR G.pure [] w e' v
 | .int k n,e',v,h,hv=>by simp[fz]at h;subst h;exact hv
 | .bool b,e',v,h,hv=>by simp[fz]at h;subst h;exact hv
 | .str s,e',v,h,hv=>by simp[fz]at h;subst h;exact hv
 | .nils,e',v,h,hv=>by
  simp[fz]at h;subst h
  exact⟨none,0,hv,by simp,by simp,by simp⟩
 | .nilp,e',v,h,hv=>by simp[fz]at h;subst h;exact hv
 | .nili,e',v,h,hv=>by simp[fz]at h;subst h;exact hv
 | .nilm,e',v,h,hv=>by simp[fz]at h;subst h;exact hv
 | .sl t es,e',v,h,hv=>by
  simp[fz]at h;subst h
  obtain⟨A,c,h1,h2,_,h3⟩:=hv
  exact⟨A,c,h1,h2,by simp,h3⟩
 | .grown _ _,_,_,h,_=>by simp[fz]at h
 | .own es ch,e',v,h,hv=>by
  simp[fz]at h;subst h
  obtain⟨A,c,h1,h2,h3⟩:=VR.elems (x:=.own es ch) hv rfl
  exact⟨A,c,h1,h2,by simp,h3⟩
 | .cptr e off,e',v,h,hv=>by simp[fz]at h;subst h;exact hv
 | .cmp sh ks vs,e',v,h,hv=>by simp[fz]at h;subst h;exact hv
 | .fn f caps,e',v,h,hv=>by
  simp only[fz,Option.map_eq_some_iff]at h
  obtain⟨caps',hc,rfl⟩:=h
  obtain⟨vs,rfl,hs⟩:=hv
  exact⟨vs,rfl,fzs_sound caps hc hs⟩
 | .agg cs,e',v,h,hv=>by
  simp only[fz,Option.map_eq_some_iff]at h
  obtain⟨cs',hc,rfl⟩:=h
  obtain⟨vs,rfl,hs⟩:=hv
  exact⟨vs,rfl,fzs_sound cs hc hs⟩
 | .tup cs,e',v,h,hv=>by
  simp only[fz,Option.map_eq_some_iff]at h
  obtain⟨cs',hc,rfl⟩:=h
  obtain⟨vs,rfl,hs⟩:=hv
  exact⟨vs,rfl,fzs_sound cs hc hs⟩
 | .undef,_,_,h,_=>by simp[fz]at h
 | .bsl _ _ _ _,_,_,h,_=>by simp[fz]at h
 | .vsl _ _ _ _,_,_,h,_=>by simp[fz]at h
 | .ptr _ _,_,_,h,_=>by simp[fz]at h
 | .yld _,_,_,h,_=>by simp[fz]at h
 | .mp _,_,_,h,_=>by simp[fz]at h
theorem fzs_sound {G:Gh}{fr:Frs}{w:World}:∀(es:List AV) {es':List AV} {vs:List Value},fzs es=some es'→VRs G fr w es vs→VRs G.pure [] w es' vs
 | [],es',vs,h,hv=>by simp[fzs]at h;subst h;exact hv
 | e :: es,es',vs,h,hv=>by
  simp only[fzs]at h
  split at h
  ·rename_i e1 es1 h1 h2
   simp at h;subst h
   obtain⟨u,us,rfl,hu,hus⟩:=hv
   exact⟨u,us,rfl,fz_sound e h1 hu,fzs_sound es h2 hus⟩
  ·cases h
end
def makeFuncK (fn:Fn)(first caps:List AV)(K:AV→Prop):Prop:=
 match fn,first with
 | .func f,[]=>K (.fn f caps)
 | .func f,[.ptr id off]=>caps=[]∧K (.bfn f id off)
 | _,_=>False
def tpl (P:Program)(t:TypeId):Option (List (Nat×Nat)):=match P.underlying t with
 | some (.struct fs)=>fs.toList.mapM fun f=>(P.info? f.type).map fun i=>(f.offset,i.size)
 | _=>none
def fillA (pl:Nat→Option (Nat×Nat)):List AV→List (Nat×AV)→Option (List AV)
 | cs,[]=>some cs
 | cs,(i,v) :: rest=>match pl i with
  | some (off,size)=>if v.ncells=size∧off+v.ncells≤cs.length∧(v.cells.all AV.isCell=true) then fillA pl (splice cs off v.cells) rest else none
  | none=>none
theorem foldl_set:∀(l:List Value) (off j:Nat) (cs:Array Value),off+j+l.length≤cs.size →
  ((l.zipIdx j).foldl (fun cs x=>cs.setIfInBounds (off+x.2) x.1) cs).toList=cs.toList.take (off+j)++l++cs.toList.drop (off+j+l.length)
 | [],off,j,cs,_=>by simp
 | v :: l,off,j,cs,h=>by
  simp only[List.zipIdx_cons,List.foldl_cons,List.length_cons]at h ⊢
  rw[foldl_set l off (j+1) _ (by simp;omega)]
  have hlt:off+j < cs.toList.length:=by simp;omega
  simp only[Array.toList_setIfInBounds]
  rw[show off+(j+1)=off+j+1 from by omega,show off+j+1+l.length=off+j+(l.length+1) from by omega]
  rw[List.drop_set_of_lt (by omega)]
  rw[List.take_set,List.take_succ_eq_append_getElem hlt]
  have hmin:min (off+j) cs.size=off+j:=Nat.min_eq_left (by omega)
  simp[hmin]
theorem fill_step (place:Nat→Option (Nat×Nat))(cells:Array Value)(i:Nat)(v:Value)(rest:List (Nat×Value)){off size:Nat}(hp:place i=some (off,size))(hs:v.cells.size=size)(hle:off+v.cells.size≤cells.size) :
  ∃cells',cells'.toList=cells.toList.take off++v.cells.toList++cells.toList.drop (off+v.cells.toList.length)∧Instr.fill place cells ((i,v) :: rest)=Instr.fill place cells' rest:=by
 refine⟨v.cells.zipIdx.foldl (fun cs (x:Value×Nat)=>cs.setIfInBounds (off+x.2) x.1) cells,?_,?_⟩
 ·have:=foldl_set v.cells.toList off 0 cells (by simpa using hle)
  simp only[Nat.add_zero]at this
  rw[←this,←Array.foldl_toList]
  simp
 ·have hs':¬(v.cells.size≠size||decide (off+v.cells.size > cells.size))=true:=by simp[hs];omega
  simp only[Instr.fill,hp]
  rw[if_neg (by simpa using hs')]
theorem VR.ac {G:Gh}{fr:Frs}{w:World}{v:AV}{u:Value}(h:VR G fr w v u)(hall:v.cells.all AV.isCell=true):u.cells.size=v.ncells∧VRs G fr w v.cells u.cells.toList:=by
 have hu:(∃cs,v=.agg cs)∨v.isCell=true:=by
  cases v<;>first|exact .inl ⟨_,rfl⟩|exact .inr rfl|(simp[AV.cells,AV.isCell]at hall)
 have hn:=h.ncells hu
 exact⟨hn,h.cells hn⟩
theorem fillA_sound {G:Gh}{fr:Frs}{w:World}(pl:Nat→Option (Nat×Nat)):∀(parts:List (Nat×AV)) (partsV:List (Nat×Value)) (cs:List AV) (cells:Array Value) (r:List AV),
  VRs G fr w cs cells.toList→partsV.map (·.1)=parts.map (·.1)→VRs G fr w (parts.map (·.2)) (partsV.map (·.2))→fillA pl cs parts=some r→∃cells',Instr.fill pl cells partsV=some cells'∧VRs G fr w r cells'.toList
 | [],partsV,cs,cells,r,h,hi,hv,hf=>by
  simp at hi;subst hi
  simp[fillA]at hf;subst hf
  exact⟨cells,rfl,h⟩
 | (i,v) :: parts,[],_,_,_,_,hi,_,_=>by simp at hi
 | (i,v) :: parts,(i',u) :: partsV,cs,cells,r,h,hi,hv,hf=>by
  simp at hi
  obtain⟨rfl,hi⟩:=hi
  simp only[List.map_cons]at hv
  obtain⟨u',us',he,hu,hus⟩:=hv
  simp at he
  obtain⟨rfl,rfl⟩:=he
  unfold fillA at hf
  split at hf
  ·rename_i off size hp
   split at hf
   ·rename_i hc
    obtain⟨h1,h2,h3⟩:=hc
    obtain⟨hn,hcs⟩:=hu.ac h3
    have hlen:=h.length
    simp at hlen
    obtain⟨cells',hc',hfill⟩:=fill_step pl cells i' u partsV hp (hn.trans h1) (by omega)
    have hl2:u.cells.toList.length=v.cells.length:=hcs.length
    obtain⟨c2,hc2,hr⟩:=fillA_sound pl parts partsV (splice cs off v.cells) cells' r (by
     rw[hc',splice_eq _ _ _ h2];rw[hl2];unfold AV.ncells at *
     exact((h.take off).append hcs).append (h.drop _)) hi hus hf
    exact⟨c2,hfill.trans hc2,hr⟩
   ·cases hf
  ·cases hf
def buildK (P:Program)(t:TypeId)(parts:List (Nat×AV))(K:AV→Prop):Prop:=
 match tzero P t with
 | some z=>match tpl P t,tarr P t with
  | some l,_=>match fillA (fun i=>l[i]?) z parts with
   | some cs=>K (.agg cs)
   | none=>False
  | none,some (_,e)=>match tsz P e with
   | some sz=>match fillA (fun i=>some (i*sz,sz)) z parts with
    | some cs=>K (.agg cs)
    | none=>False
   | none=>False
  | _,_=>False
 | none=>False
theorem buildK_sound {P:Program}{t:TypeId}{parts:List (Nat×AV)}{K:AV→Prop}{G:Gh}{fr:Frs}{w:World}(partsV:Array (Nat×Value))(hi:partsV.toList.map (·.1)=parts.map (·.1))(hv:VRs G fr w (parts.map (·.2)) (partsV.toList.map (·.2)))
  (h:buildK P t parts K):∃e r,K e∧VR G fr w e r∧(Instr.build t partsV).run P w=.ok r w:=by
 unfold buildK tzero at h
 split at h
 ·rename_i z hz
  simp only[Option.map_eq_some_iff,Option.bind_eq_some_iff]at hz
  obtain⟨zv,⟨it,hit,hzv⟩,rfl⟩:=hz
  split at h
  ·rename_i l hl
   split at h
   ·rename_i cs hcs
    obtain⟨cells',hf,hr⟩:=fillA_sound _ parts partsV.toList _ zv.cells cs (VRs.ofCs G fr w _) hi hv hcs
    unfold tpl at hl
    split at hl
    ·rename_i fs hund
     refine⟨.agg cs,.agg cells',h,⟨_,rfl,hr⟩,run_build w t partsV cells' ?_⟩
     simp only[Program.built,hit,hund,hzv,hl]
     have:(fun (x:Nat)=>l.toArray[x]?)=fun x=>l[x]?:=by funext x;simp
     rw[this];exact hf
    ·cases hl
   ·exact h.elim
  ·rename_i n e _ ha
   have hund:P.underlying t=some (.array n e):=by
    unfold tarr at ha;split at ha
    ·rename_i hh;simp at ha;obtain⟨rfl,rfl⟩:=ha;exact hh
    ·cases ha
   split at h
   ·rename_i sz hsz
    split at h
    ·rename_i cs hcs
     obtain⟨cells',hf,hr⟩:=fillA_sound _ parts partsV.toList _ zv.cells cs (VRs.ofCs G fr w _) hi hv hcs
     unfold tsz at hsz
     cases hie:P.info? e with
     | none=>simp[hie]at hsz
     | some ie=>
      simp[hie]at hsz
      subst hsz
      refine⟨.agg cs,.agg cells',h,⟨_,rfl,hr⟩,run_build w t partsV cells' ?_⟩
      simp only[Program.built,hit,hund,hzv,hie]
      exact hf
    ·exact h.elim
   ·exact h.elim
  ·exact h.elim
 ·exact h.elim
def MV (G:Gh)(fr:Frs)(w:World):List AV→List Value→Prop
 | [],xs=>xs=[]
 | e :: es,xs=>∃u us,xs=u.cells.toList++us∧VR G fr w e u∧u.cells.size=e.ncells∧MV G fr w es us
theorem MV.length {G:Gh}{fr:Frs}{w:World}:∀{es:List AV} {xs:List Value},MV G fr w es xs→xs.length=tot es
 | [],xs,h=>by simp[MV]at h;simp[h,tot]
 | e :: es,xs,h=>by
  obtain⟨u,us,rfl,_,hn,h2⟩:=h
  simp[MV.length h2,tot,hn]
theorem MV.toMC {G:Gh}{fr:Frs}{w:World}{b:Nat}:∀{es:List AV} {xs:List Value} {o:Nat},MV G fr w es xs→(∀j u,xs[j]? = some u→w.cell? ⟨b,o+j,none⟩=some u)→MC G fr w es b o
 | [],_,_,_,_=>trivial
 | e :: es,xs,o,h,hc=>by
  obtain⟨u,us,rfl,hu,hn,h2⟩:=h
  refine⟨⟨u,hu,hn,fun j c hj=>hc j c ?_⟩,MV.toMC h2 fun j c hj=>?_⟩
  ·have hlt:j < u.cells.toList.length:=by simpa using (Array.getElem?_eq_some_iff.1 hj).1
   rw[List.getElem?_append_left hlt];simpa using hj
  ·have:=hc (e.ncells+j) c (by
    rw[List.getElem?_append_right (by simp[hn])]
    simpa[hn] using hj)
   rwa [←Nat.add_assoc]at this
theorem MC.toMV {G:Gh}{fr:Frs}{w:World}{b:Nat}:∀{es:List AV} {o:Nat},MC G fr w es b o→∃xs,MV G fr w es xs∧∀j u,xs[j]? = some u→w.cell? ⟨b,o+j,none⟩=some u
 | [],_,_=>⟨[],rfl,by simp⟩
 | e :: es,o,h=>by
  obtain⟨⟨u,hu,hn,ha⟩,h2⟩:=h
  obtain⟨us,hm,hc⟩:=MC.toMV h2
  refine⟨u.cells.toList++us,⟨u,us,rfl,hu,hn,hm⟩,fun j c hj=>?_⟩
  by_cases hlt:j < u.cells.toList.length
  ·rw[List.getElem?_append_left hlt]at hj
   exact ha j c (by simpa using hj)
  ·rw[List.getElem?_append_right (by omega)]at hj
   have:=hc _ c hj
   simp at hlt
   rw[show o+j=o+e.ncells+(j-u.cells.toList.length) from by simp;omega]
   exact this
theorem MV.append {G:Gh}{fr:Frs}{w:World}:∀{es es':List AV} {xs xs':List Value},MV G fr w es xs→MV G fr w es' xs'→MV G fr w (es++es') (xs++xs')
 | [],_,xs,_,h,h'=>by simp[MV]at h;subst h;simpa using h'
 | _ :: _,_,_,_,h,h'=>by
  obtain⟨u,us,rfl,hu,hn,h2⟩:=h
  exact⟨u,us++_,by simp,hu,hn,h2.append h'⟩
theorem MV.keep {G G':Gh}{fr fr':Frs}{w w':World}(hk:Keep G fr w G' fr' w'):∀{es:List AV} {xs:List Value},MV G fr w es xs→MV G' fr' w' es xs
 | [],_,h=>h
 | _ :: _,_,h=>by
  obtain⟨u,us,rfl,hu,hn,h2⟩:=h
  exact⟨u,us,rfl,VR.keep hk _ hu,hn,h2.keep hk⟩
theorem MV.one {G:Gh}{fr:Frs}{w:World}:∀{es:List AV} {xs:List Value},(∀e∈es,e.cells.all AV.isCell=true)→MV G fr w es xs→∀u∈xs,u.oneCell'=true
 | [],xs,_,h,u,hu=>by simp[MV]at h;subst h;cases hu
 | e :: es,xs,hall,h,x,hx=>by
  obtain⟨u,us,rfl,hu,hn,h2⟩:=h
  rcases List.mem_append.1 hx with hx|hx
  ·have hc:=(hu.ac (hall e (by simp))).2
   obtain⟨i,hi⟩:=List.getElem?_of_mem hx
   have hil:i < e.cells.length:=by rw[←hc.length];exact(List.getElem?_eq_some_iff.1 hi).1
   obtain⟨u',hu2,hr2⟩:=hc.get (List.getElem?_eq_getElem hil)
   rw[hi]at hu2;injection hu2 with hu2;subst hu2
   exact hr2.oneCell (List.all_eq_true.1 (hall e (by simp)) _ (List.getElem_mem hil))
  ·exact MV.one (fun e he=>hall e (by simp[he])) h2 x hx
def Els (sz:Nat)(es:List AV):Prop:=∀e∈es,e.ncells=sz∧e.cells.all AV.isCell=true
theorem Els.nil (sz:Nat):Els sz []:=by simp[Els]
theorem Els.cons {sz:Nat}{e:AV}{es:List AV}(h1:e.ncells=sz)(h2:e.cells.all AV.isCell=true)(h:Els sz es):Els sz (e :: es):=by
 intro x hx
 rcases List.mem_cons.1 hx with rfl|hx
 ·exact⟨h1,h2⟩
 ·exact h x hx
theorem VRs.toMV {G:Gh}{fr:Frs}{w:World}:∀{es:List AV} {us:List Value},(∀e∈es,e.cells.all AV.isCell=true)→VRs G fr w es us→MV G fr w es (us.flatMap fun u=>u.cells.toList)
 | [],us,_,h=>by simp[VRs]at h;subst h;rfl
 | e :: es,us,hall,h=>by
  obtain⟨u,us',rfl,hu,h2⟩:=h
  exact⟨u,_,by simp,hu,(hu.ac (hall e (by simp))).1,VRs.toMV (fun e he=>hall e (by simp[he])) h2⟩
theorem fill_dense (sz:Nat):∀(us:List Value) (i0:Nat) (cells:Array Value),(∀u∈us,u.cells.size=sz)→(i0+us.length)*sz≤cells.size →
  ∃cells',Instr.fill (fun i=>some (i*sz,sz)) cells ((List.range' i0 us.length).zip us)=some cells'∧cells'.toList=cells.toList.take (i0*sz)++(us.flatMap fun u=>u.cells.toList)++cells.toList.drop ((i0+us.length)*sz)
 | [],i0,cells,_,_=>⟨cells,by simp[Instr.fill],by simp⟩
 | u :: us,i0,cells,hs,hle=>by
  simp only[List.length_cons,List.range'_succ,List.zip_cons_cons]
  have hsu:=hs u (by simp)
  have hmul:(i0+1)*sz=i0*sz+sz:=by rw[Nat.add_mul];omega
  have hmul2:(i0+(us.length+1))*sz=i0*sz+sz+us.length*sz:=by rw[Nat.add_mul,Nat.add_mul];omega
  have hmul3:(i0+1+us.length)*sz=i0*sz+sz+us.length*sz:=by rw[Nat.add_mul,Nat.add_mul];omega
  simp only[List.length_cons]at hle
  obtain⟨c1,hc1,hf1⟩:=fill_step (fun i=>some (i*sz,sz)) cells i0 u ((List.range' (i0+1) us.length).zip us) rfl hsu (by rw[hsu];omega)
  have hsz1:c1.size=cells.size:=by
   have:c1.toList.length=cells.toList.length:=by
    rw[hc1];simp[hsu];omega
   simpa using this
  obtain⟨c2,hc2,hl2⟩:=fill_dense sz us (i0+1) c1 (fun u hu=>hs u (by simp[hu])) (by rw[hsz1,hmul3];omega)
  refine⟨c2,hf1.trans hc2,?_⟩
  rw[hl2,hc1]
  have hu2:u.cells.toList.length=sz:=by simpa using hsu
  have htl:(cells.toList.take (i0*sz)).length=i0*sz:=by simp;omega
  rw[hmul,hmul3,hmul2,hu2]
  have e1:List.take (i0*sz+sz) (List.take (i0*sz) cells.toList++u.cells.toList++List.drop (i0*sz+sz) cells.toList)=List.take (i0*sz) cells.toList++u.cells.toList:=by
   rw[List.take_append_of_le_length (by simp[hu2];omega)]
   exact List.take_of_length_le (by simp[hu2];omega)
  have e2:List.drop (i0*sz+sz+us.length*sz) (List.take (i0*sz) cells.toList++u.cells.toList++List.drop (i0*sz+sz) cells.toList)=List.drop (i0*sz+sz+us.length*sz) cells.toList:=by
   rw[List.drop_append,List.drop_of_length_le (by simp[hu2];omega),List.nil_append,List.drop_drop]
   congr 1
   simp[hu2];omega
  rw[e1,e2]
  simp
open Go Go.RowKit
theorem fzs_length:∀{es es':List AV},fzs es=some es'→es'.length=es.length
 | [],_,h=>by simp[fzs]at h;subst h;rfl
 | e :: es,es',h=>by
  simp only[fzs]at h
  split at h
  ·rename_i e1 es1 h1 h2
   simp at h;subst h
   simp[fzs_length h2]
  ·cases h
theorem zip_fst_snd {α β:Type}:∀l:List (α×β),(l.map (·.1)).zip (l.map (·.2))=l
 | []=>rfl
 | x :: l=>by simp[zip_fst_snd l]
def buildSliceK (P:Program)(t:TypeId)(n:Nat)(parts:List (Nat×AV))(K:AV→Prop):Prop:=
 match tslice P t with
 | some e=>match tsz P e,tzero P e with
  | some (k+1),some _=>n*(k+1)≤2 ^ 24∧parts.map (·.1)=List.range n∧match fzs (parts.map (·.2)) with
   | some es=>Els (k+1) es∧K (.sl true es)
   | none=>False
  | _,_=>False
 | none=>False
theorem fresh_data {L:World→Prop}{w0:Orig L}{G:Gh}{S:St}{w:World}(hS:RelS w0 G S w)(w1:World)(hb:Below w.heap.size w w1)(hsz:w1.heap.size=w.heap.size){es:List AV}{xs:List Value}(hm:MV G.pure [] w es xs)(cells:Array Value)(e:TypeId){sz:Nat}
  (hels:∀x∈es,x.ncells=sz) (hcells:∀(j:Nat) (u:Value),xs[j]? = some u→cells[j]? = some u) (t:Bool) (c:Nat) (hc:es.length≤c) (ht:t=true→c=es.length) :
  ∃G',RelS w0 G' S (w1.alloc (.cells cells e))∧KeepD G S.fr w G' S.fr (w1.alloc (.cells cells e))∧VR G' S.fr (w1.alloc (.cells cells e)) (.sl t es) (.slice (some ⟨w.heap.size,0,none⟩) es.length c):=by
 have hb2:Below w.heap.size w (w1.alloc (.cells cells e)):=hb.alloc (by omega) _
 obtain⟨h1,h2⟩:=hS.of_below hb2 (fun b e=>b < w.heap.size→G.ok b e) (fun _ _ hlt=>⟨fun hh=>hh hlt,fun hh _=>hh⟩) (fun b e e' he hh hlt=>hS.dn b e e' he (hh hlt))
 refine⟨_,h1,h2,_,c,rfl,hc,ht,fun _=>⟨w.heap.size,0,sz,rfl,by simp[hsz],hels,fun hlt=>absurd hlt (Nat.lt_irrefl _),?_⟩⟩
 refine(hm.keep h2.toKeep.pure).toMC fun j u hu=>?_
 rw[Nat.zero_add,←hsz,World.cell?_alloc_new]
 exact hcells j u hu
theorem buildSliceK_sound {P:Program}{L:World→Prop}{w0:Orig L}{G:Gh}{S:St}{w:World}(hS:RelS w0 G S w){t:TypeId}{n:Nat}{parts:List (Nat×AV)}{K:AV→Prop}(partsV:Array (Nat×Value))(hi:partsV.toList.map (·.1)=parts.map (·.1))
  (hv:VRs G S.fr w (parts.map (·.2)) (partsV.toList.map (·.2))) (h:buildSliceK P t n parts K):OutK w0 G S w (fun e S'=>S'=S∧K e) ((Instr.buildSlice t n partsV).run P w):=by
 unfold buildSliceK at h
 split at h
 ·rename_i e hs
  have hund:P.underlying t=some (.slice e):=by
   unfold tslice at hs;split at hs
   ·rename_i hh;simp at hs;subst hs;exact hh
   ·cases hs
  split at h
  ·rename_i k z hsz hz
   obtain⟨hsmall,hrange,h⟩:=h
   split at h
   ·rename_i es hes
    obtain⟨hels,hK⟩:=h
    have hvp:=fzs_sound _ hes hv
    have hlen:(partsV.toList.map (·.2)).length=n:=by
     have:=congrArg List.length (hi.trans hrange);simpa using this
    have hesl:es.length=n:=by rw[←hvp.length,hlen]
    have hmv:=hvp.toMV fun e he=>(hels e he).2
    unfold tzero at hz
    simp only[Option.map_eq_some_iff,Option.bind_eq_some_iff]at hz
    obtain⟨zv,⟨ie,hie,hzv⟩,rfl⟩:=hz
    have hsize:ie.size=k+1:=by
     unfold tsz at hsz;simp[hie]at hsz;exact hsz
    have hcell:∀u∈partsV.toList.map (·.2),u.cells.size=k+1:=by
     intro u hu
     obtain⟨i,hi'⟩:=List.getElem?_of_mem hu
     have hlt:i < es.length:=by rw[←hvp.length];exact(List.getElem?_eq_some_iff.1 hi').1
     obtain⟨u',hu2,hr2⟩:=hvp.get (List.getElem?_eq_getElem hlt)
     rw[hi']at hu2;injection hu2 with hu2;subst hu2
     rw[(hr2.ac (hels _ (List.getElem_mem hlt)).2).1]
     exact(hels _ (List.getElem_mem hlt)).1
    have hzip:(List.range' 0 (partsV.toList.map (·.2)).length).zip (partsV.toList.map (·.2))=partsV.toList:=by
     rw[←List.range_eq_range',hlen,←hrange,←hi]
     exact zip_fst_snd _
    by_cases h0:n=0
    ·subst h0
     have hnil:partsV.toList=[]:=by
      have:partsV.toList.length=0:=by simpa using hlen
      exact List.eq_nil_of_length_eq_zero this
     have hes0:es=[]:=List.eq_nil_of_length_eq_zero hesl
     subst hes0
     obtain⟨G',h1,h2,h3⟩:=fresh_data hS w (Below.refl _ _) rfl (es:=[]) (xs:=[]) rfl #[] e (sz:=k+1) (by simp) (by simp) true 0 (by simp) (by simp)
     refine⟨_,_,G',S,_,?_,h1,h2,h3,rfl,hK⟩
     simp[Instr.buildSlice,run_underlying hund,Go.sizeOf,typeInfo,hie,hnil,Instr.fill,newRow]
     rw[show(Array.range 0).map (fun _=>(default:Value))=#[] from Array.eq_empty_of_size_eq_zero (by simp)]
    ·obtain⟨cells',hf,hl⟩:=fill_dense (k+1) (partsV.toList.map (·.2)) 0 ((Array.range (n*(k+1))).map (zv.cells[· % zv.cells.size]!)) hcell (by rw[hlen];simp)
     rw[hzip]at hf
     have hflat:cells'.toList=(partsV.toList.map (·.2)).flatMap fun u=>u.cells.toList:=by
      rw[hl,Nat.zero_mul,List.take_zero,List.nil_append,Nat.zero_add,hlen,List.drop_of_length_le (by simp),List.append_nil]
     obtain⟨G',h1,h2,h3⟩:=fresh_data hS w (Below.refl _ _) rfl hmv cells' e (sz:=k+1) (fun x hx=>(hels x hx).1) (fun j u hu=>by rw[←Array.getElem?_toList,hflat];exact hu) true n (by omega) (by simp[hesl])
     refine⟨_,_,G',S,_,run_buildSlice w t e n partsV cells' ie zv hund hie hzv (by rw[hsize];omega) (by rw[hsize];exact Nat.mul_ne_zero h0 (by omega)) (by rw[hsize];exact hf),h1,h2,?_,rfl,hK⟩
     rw[←hesl]at h3 ⊢;exact h3
   ·exact h.elim
  ·exact h.elim
 ·exact h.elim
theorem RelS.chainNew {L:World→Prop}{w0:Orig L}{G:Gh}{S:St}{w:World}(hS:RelS w0 G S w)(w1:World)(hb:Below w.heap.size w w1)(hsz:w1.heap.size=w.heap.size){es:List AV}{xs:List Value}(hm:MV G.pure [] w es xs)(cells:Array Value)(e:TypeId){sz:Nat}
  (hels:∀x∈es,x.ncells=sz) (hcells:∀(j:Nat) (u:Value),xs[j]? = some u→cells[j]? = some u) (c:Nat) (hc:es.length≤c) (hcs:c*sz=cells.size) (ch:Nat) (fr':Frs) (hf1:fr'[ch]? = some (es.length,sz))
  (hf2:∀k,k≠ch→fr'[k]? = S.fr[k]?) (hf3:∀F z,S.fr[ch]? = some (F,z)→F < es.length∧z=sz) (hf4:S.fr.length≤fr'.length) (ty':Nat→TypeId) (ht1:ty' ch=e) (ht2:∀k,k≠ch→k < S.fr.length→ty' k=S.ty k) :
  ∃G',RelS w0 G' {S with fr:=fr',ty:=ty'} (w1.alloc (.cells cells e))∧KeepD G S.fr w G' fr' (w1.alloc (.cells cells e))∧VR G' fr' (w1.alloc (.cells cells e)) (.own es ch) (.slice (some ⟨w.heap.size,0,none⟩) es.length c):=by
 have hb2:Below w.heap.size w (w1.alloc (.cells cells e)):=hb.alloc (by omega) _
 have hk:KeepD G S.fr w {G with ok:=fun b x=>if b=w.heap.size then x≤es.length*sz else G.ok b x,χ:=fun k=>if k=ch then some w.heap.size else G.χ k} fr' (w1.alloc (.cells cells e)):=
  {hs:=hb2.size
   ok:=fun b x hlt h=>by simp[Nat.ne_of_lt hlt,h]
   dn:=hS.dn
   cell:=fun b o hlt _=>hb2.cell (p:=⟨b,o,none⟩) hlt
   ρ:=fun _ _ h=>h
   rs:=fun _ b arr _ _ ha=>⟨arr,(hb2.block b (Array.getElem?_eq_some_iff.1 ha).1).trans ha,rfl⟩
   mp:=fun b _ _ hlt _ hh=>(hb2.block b hlt).trans hh
   χ:=fun k F z hF=>by
    by_cases hkc:k=ch
    ·subst hkc
     obtain⟨h1,rfl⟩:=hf3 F z hF
     exact⟨_,hf1,by omega,fun he=>by omega⟩
    ·refine⟨F,by rw[hf2 k hkc];exact hF,Nat.le_refl _,fun _=>⟨by simp[hkc],fun b hb'=>?_⟩⟩
     have:=hS.chlt k F z hF b hb'
     exact⟨hb2.block _ this,fun x hx=>by simpa[Nat.ne_of_lt this] using hx⟩
   df:=fun D hD=>(hb2.block D (Array.getElem?_eq_some_iff.1 hD).1).trans hD
   lp:=fun D r hD=>⟨r,(hb2.block D (Array.getElem?_eq_some_iff.1 hD).1).trans hD⟩}
 have hrow:(w1.alloc (.cells cells e)).heap[w.heap.size]? = some (.cells cells e (0,0)):=by rw[←hsz];exact heap_alloc_new w1 _
 refine⟨{G with ok:=fun b x=>if b=w.heap.size then x≤es.length*sz else G.ok b x,χ:=fun k=>if k=ch then some w.heap.size else G.χ k},⟨hS.below.trans (hb2.mono hS.bsz),Nat.le_trans hS.bsz hb2.size,fun b x x' hx h=>?_,fun b x hb' h=>hS.ob b x hb' (by dsimp only at h;rw[if_neg (Nat.ne_of_lt (Nat.lt_of_lt_of_le hb' hS.bsz))]at h;exact h),hS.kp.trans hk,?_,fun id o hx hd=>?_,hS.ri,fun id b hr=>?_,fun k F z hF=>?_,hS.hl⟩,hk,?_⟩
 ·dsimp only at h ⊢
  split at h
  ·rename_i hb';simp[hb'];omega
  ·rename_i hb';simp[hb'];exact hS.dn _ _ _ hx h
 ·obtain⟨n1,n2,n3,n4,n5⟩:=hS.n0
  exact⟨n1,n2,n3,Nat.le_trans n4 hf4,n5⟩
 ·obtain⟨b,ob,hr,hheap,hv⟩:=hS.bx id o hx hd
  exact⟨b,ob,hr,(hb2.block b (hS.rd id b hr).2.1).trans hheap,hv.keep hk.toKeep⟩
 ·obtain⟨h1,h2,h3,h4⟩:=hS.rd id b hr
  refine⟨h1,Nat.lt_of_lt_of_le h2 hb2.size,h3,fun hl x hx=>?_⟩
  dsimp only at hx
  rw[if_neg (by omega)]at hx
  exact h4 hl x hx
 ·dsimp only at hF ⊢
  by_cases hkc:k=ch
  ·subst hkc
   refine⟨by simp,fun b hb'=>?_⟩
   simp at hb'
   subst hb'
   refine⟨hS.bsz,⟨cells,_,by rw[ht1];exact hrow⟩,fun id hid=>?_,fun c' F' z' hF' he=>?_⟩
   ·have:=(hS.rd id _ hid).2.1
    omega
   ·by_cases hcc:c'=k
    ·exact hcc.symm
    ·simp[hcc]at he
     rw[hf2 c' hcc]at hF'
     have:=hS.chlt c' F' z' hF' _ he
     omega
  ·rw[hf2 k hkc]at hF
   obtain⟨h1,h2⟩:=hS.ch k F z hF
   refine⟨by simpa[hkc] using h1,fun b hb'=>?_⟩
   simp only[hkc,if_false]at hb'
   obtain⟨h3,⟨arr,fz,h4⟩,h5,h6⟩:=h2 b hb'
   have hlt:=(Array.getElem?_eq_some_iff.1 h4).1
   refine⟨h3,⟨arr,fz,by rw[ht2 k hkc (List.getElem?_eq_some_iff.1 hF).1];exact(hb2.block b hlt).trans h4⟩,fun id=>h5 id,fun c' F' z' hF' he=>?_⟩
   by_cases hcc:c'=ch
   ·subst hcc
    simp at he
    omega
   ·simp only[hcc,if_false]at he
    rw[hf2 c' hcc]at hF'
    exact h6 c' F' z' hF' he
 ·refine⟨es.length,sz,hf1,Nat.le_refl _,hels,.inr ⟨w.heap.size,0,c,rfl,hc,by simp[hsz],fun _=>by simp,?_,fun _=>⟨by simp,rfl,cells,e,hrow,hcs,fun x hx=>by simpa using hx⟩⟩⟩
  refine(hm.keep hk.toKeep.pure).toMC fun j u hu=>?_
  rw[Nat.zero_add,←hsz,World.cell?_alloc_new]
  exact hcells j u hu
theorem RelS.chainIn {L:World→Prop}{w0:Orig L}{G:Gh}{S:St}{w:World}(hS:RelS w0 G S w){es es2:List AV}{xs xs2:List Value}(hm:MV G.pure [] w es xs)(hm2:MV G.pure [] w es2 xs2)(arr:Array Value)(t:TypeId){sz:Nat}{ch b0:Nat}(hF:S.fr[ch]? = some (es.length,sz))(hχ:G.χ ch=some b0)
  (hrow:w.heap[b0]? = some (.cells arr t (0,0))) (hok:∀x,G.ok b0 x→x≤es.length*sz) (hne2:es2≠[]) (hels:∀x∈es++es2,x.ncells=sz) (hxs:arr.toList.take (es.length*sz)=xs)
  (c:Nat) (hc:es.length+es2.length≤c) (hcs:c*sz=arr.size) (hlen2:xs2.length=es2.length*sz) :
  let w':=w.setRow b0 (arr.toList.take (es.length*sz)++xs2++arr.toList.drop (es.length*sz+xs2.length)).toArray
  ∃G',RelS w0 G' {S with fr:=S.fr.set ch ((es++es2).length,sz)} w'∧KeepD G S.fr w G' (S.fr.set ch ((es++es2).length,sz)) w'∧VR G' (S.fr.set ch ((es++es2).length,sz)) w' (.own (es++es2) ch) (.slice (some ⟨b0,0,none⟩) (es++es2).length c):=by
 intro w'
 obtain⟨c1,_,c3,c4⟩:=(hS.ch ch _ _ hF).2 b0 hχ
 have hchl:ch < S.fr.length:=(List.getElem?_eq_some_iff.1 hF).1
 have hpos:0 < es2.length:=List.length_pos_iff.2 hne2
 have hw'row:=setRow_heap w b0 arr (arr.toList.take (es.length*sz)++xs2++arr.toList.drop (es.length*sz+xs2.length)).toArray t (0,0) hrow
 have hother:∀k,k≠b0→w'.heap[k]? = w.heap[k]?:=fun k hk=>setRow_other w b0 k _ hk
 have hsize:w'.heap.size=w.heap.size:=setRow_size w b0 _
 have hmulle:es.length*sz≤arr.size:=hcs▸Nat.mul_le_mul_right _ (by omega)
 have hmul:(es.length+es2.length)*sz≤arr.size:=hcs▸Nat.mul_le_mul_right _ hc
 rw[Nat.add_mul]at hmul
 have htk:(arr.toList.take (es.length*sz)).length=es.length*sz:=by simp;omega
 have hnsz:(arr.toList.take (es.length*sz)++xs2++arr.toList.drop (es.length*sz+xs2.length)).toArray.size=arr.size:=by
  simp only[List.size_toArray,List.length_append,htk,List.length_drop,Array.length_toList];omega
 have hb0lt:b0 < w.heap.size:=(Array.getElem?_eq_some_iff.1 hrow).1
 have hcellold:∀o,o < es.length*sz→w'.cell? ⟨b0,o,none⟩=w.cell? ⟨b0,o,none⟩:=by
  intro o ho
  rw[cell_of_row w' b0 o _ t (0,0) hw'row,cell_of_row w b0 o arr t (0,0) hrow]
  have:o < (List.take (es.length*sz) arr.toList++xs2++List.drop (es.length*sz+xs2.length) arr.toList).length:=by simp;omega
  rw[List.getElem?_toArray,List.append_assoc,List.getElem?_append_left (by omega),List.getElem?_take,if_pos ho]
  simp
 have hk:KeepD G S.fr w {G with ok:=fun b x=>if b=b0 then x≤(es++es2).length*sz else G.ok b x} (S.fr.set ch ((es++es2).length,sz)) w':=
  {hs:=by omega
   ok:=fun b x hlt h=>by
    by_cases hb:b=b0
    ·subst hb
     have:=hok x h
     simp only[if_true,List.length_append,Nat.add_mul];omega
    ·simp[hb,h]
   dn:=hS.dn
   cell:=fun b o hlt h=>by
    by_cases hb:b=b0
    ·subst hb
     have:=hok _ h
     exact hcellold o (by omega)
    ·exact World.cell?_of_block (w:=w) (a:=⟨b,o,none⟩) (hother b hb)
   ρ:=fun _ _ h=>h
   rs:=fun id b arr' t' hr ha=>by
    by_cases hb:b=b0
    ·subst hb
     rw[hrow]at ha;injection ha with ha;injection ha with h1 h2
     subst h1;subst h2
     exact⟨_,hw'row,hnsz⟩
    ·exact⟨arr',(hother b hb).trans ha,rfl⟩
   mp:=fun b es' cl _ _ hh=>(hother b (by rintro rfl;rw[hrow]at hh;injection hh with hh;cases hh)).trans hh
   χ:=fun k F z hF'=>by
    by_cases hkc:k=ch
    ·subst hkc
     rw[hF]at hF';injection hF' with hF';injection hF' with h1 h2;subst h1;subst h2
     exact⟨(es++es2).length,by simp[hchl],by simp,fun he=>absurd (by simpa using he) hne2⟩
    ·refine⟨F,by rw[List.getElem?_set_ne (fun h=>hkc h.symm)];exact hF',Nat.le_refl _,fun _=>⟨rfl,fun b hb=>?_⟩⟩
     have hne':b≠b0:=fun he=>hkc (((hS.ch k F z hF').2 b hb).2.2.2 ch _ _ hF (by rw[hχ,he]))
     exact⟨hother _ hne',fun x hx=>by simpa[hne'] using hx⟩
   df:=fun D hD=>by
    have hne:D≠b0:=by rintro rfl;rw[hrow]at hD;injection hD with hD;cases hD
    exact(hother D hne).trans hD
   lp:=fun D r hD=>by
    have hne:D≠b0:=by rintro rfl;rw[hrow]at hD;injection hD with hD;cases hD
    exact⟨r,(hother D hne).trans hD⟩}
 refine⟨{G with ok:=fun b x=>if b=b0 then x≤(es++es2).length*sz else G.ok b x},⟨hS.below.trans ⟨rfl,rfl,rfl,by omega,fun k hk'=>hother k (by omega)⟩,by have:=hS.bsz;rw[hsize];exact this,fun b x x' hx h=>?_,fun b x hb' h=>hS.ob b x hb' (by dsimp only at h;rw[if_neg (Nat.ne_of_lt (Nat.lt_of_lt_of_le hb' c1))]at h;exact h),hS.kp.trans hk,by simpa using hS.n0,fun id o hx hd=>?_,hS.ri,fun id b hr=>?_,fun k F z hF'=>?_,hS.hl⟩,hk,?_⟩
 ·dsimp only at h ⊢
  split at h
  ·rename_i hb';rw[if_pos hb'];omega
  ·rename_i hb';rw[if_neg hb'];exact hS.dn _ _ _ hx h
 ·obtain⟨b,ob,hr,hheap,hv⟩:=hS.bx id o hx hd
  exact⟨b,ob,hr,(hother b (fun e=>c3 id (by rw[hr,e]))).trans hheap,hv.keep hk.toKeep⟩
 ·obtain⟨h1,h2,h3,h4⟩:=hS.rd id b hr
  refine⟨h1,by omega,h3,fun hl x hx=>?_⟩
  dsimp only at hx
  rw[if_neg (fun e=>c3 id (by rw[hr,e]))]at hx
  exact h4 hl x hx
 ·dsimp only at hF' ⊢
  have key:∀(k F z:Nat),(S.fr.set ch ((es++es2).length,sz))[k]? = some (F,z)→∃F' z',S.fr[k]? = some (F',z'):=by
   intro k F z h
   by_cases hkc:k=ch
   ·subst hkc;exact⟨_,_,hF⟩
   ·rw[List.getElem?_set_ne (fun h=>hkc h.symm)]at h;exact⟨_,_,h⟩
  obtain⟨F1,z1,hF1⟩:=key k F z hF'
  obtain⟨h1,h2⟩:=hS.ch k F1 z1 hF1
  refine⟨fun hn=>?_,fun b hb=>?_⟩
  ·by_cases hkc:k=ch
   ·subst hkc;rw[hχ]at hn;cases hn
   ·rw[List.getElem?_set_ne (fun h=>hkc h.symm)]at hF'
    exact(hS.ch k F z hF').1 hn
  ·obtain⟨h3,⟨arr',fz,h4⟩,h5,h6⟩:=h2 b hb
   refine⟨h3,?_,h5,fun c' F' z' hF2 he=>?_⟩
   ·by_cases e:b=b0
    ·subst e
     rw[hrow]at h4;injection h4 with h4;injection h4 with e1 e2 e3
     exact⟨_,_,by rw[←e2];exact hw'row⟩
    ·exact⟨arr',fz,(hother b e).trans h4⟩
   ·obtain⟨F3,z3,hF3⟩:=key c' F' z' hF2
    exact h6 c' F3 z3 hF3 he
 ·refine⟨(es++es2).length,sz,by simp[hchl],Nat.le_refl _,hels,.inr ⟨b0,0,c,rfl,by simpa using hc,by omega,fun _=>by simp,?_,fun _=>⟨hχ,rfl,_,t,hw'row,by rw[hnsz];exact hcs,fun x hx=>by simpa using hx⟩⟩⟩
  refine((hm.append hm2).keep hk.toKeep.pure).toMC fun j u hu=>?_
  rw[Nat.zero_add,cell_of_row w' b0 j _ t (0,0) hw'row,List.getElem?_toArray,hxs]
  rw[List.getElem?_append_left (List.getElem?_eq_some_iff.1 hu).1]
  exact hu
open Go Go.RowKit
def tby (P:Program)(t:TypeId):Option Nat:=(P.info? t).map (·.bytes)
def appendK (P:Program)(S:St)(t:TypeId)(s x:AV)(K:AV→St→Prop):Prop:=
 match tslice P t with
 | some e=>match tsz P e,tby P e,(tzero P e).map List.length with
  | some (k+1),some by_,some zl=>zl=k+1∧match s.elems,x.elems with
   | some es,some es2=>Els (k+1) es∧Els (k+1) es2∧(es.length+es2.length)*by_≤140737488355328∧es.length+es2.length≤maxLen ∧
    (match s with
     | .own _ ch=>S.fr[ch]? = some (es.length,k+1)∧S.ty ch=e∧K (.own (es++es2) ch) (S.setF ch ((es++es2).length,k+1))
     | .nils=>K (.own (es++es2) S.fr.length) (S.addF ((es++es2).length,k+1) e)
     | .sl true _=>BrK es2.isEmpty (K s S) (K (.own (es++es2) S.fr.length) (S.addF ((es++es2).length,k+1) e))
     | _=>False)
   | _,_=>False
  | _,_,_=>False
 | none=>False
theorem run_append_roomT {P:Program}(w:World)(t ty e:TypeId)(i:TypeInfo)(ht:P.underlying t=some (.slice e))(hi:P.info? e=some i)
  (g sLen sCap:Nat) (cur:Array Value) (tt:TypeId) (hg:w.heap[g]? = some (.cells cur tt (0,0)))
  (a:Addr) (m c:Nat) (news:List Value) (hl:news.length=m*i.size) (hnews:∀j u,news[j]? = some u→w.cell? (a.add j)=some u) (h1:∀u∈news,u.oneCell'=true)
  (hroom:sLen+m≤sCap) (hfit:sLen*i.size+news.length≤cur.size) :
  (Builtin.append_ #[t,t] ty #[.slice (some ⟨g,0,none⟩) sLen sCap,.slice (some a) m c]).run P w =
   .ok (.slice (some ⟨g,0,none⟩) (sLen+m) sCap) (w.setRow g (cur.toList.take (sLen*i.size)++news++cur.toList.drop (sLen*i.size+news.length)).toArray):=by
 have hf:=run_firstCells_some (P:=P) w i.size m a m c news hl hnews
 have hst:=run_storeCells_at P g (sLen*i.size) tt news 0 cur w hg (by simpa using hfit) h1
 simp only[Nat.add_zero]at hst
 simp[Builtin.append_,run_underlying ht,Go.sizeOf,typeInfo,hi,Builtin.lenOf,hroom,hf,Addr.add_lit,hst]
theorem set_self {α:Type}{l:List α}{i:Nat}{x:α}(h:l[i]? = some x):l.set i x=l:=by
 apply List.ext_getElem?
 intro j
 by_cases e:i=j
 ·subst e
  rw[h]
  simp[(List.getElem?_eq_some_iff.1 h).1]
 ·rw[List.getElem?_set_ne e]
theorem RelS.unborn {L:World→Prop}{w0:Orig L}{G:Gh}{S:St}{w:World}(hS:RelS w0 G S w)(z:Nat)(e:TypeId) :
  ∃G',RelS w0 G' {S with fr:=S.fr++[(0,z)],ty:=updT S.ty S.fr.length e} w∧KeepD G S.fr w G' (S.fr++[(0,z)]) w∧VR G' (S.fr++[(0,z)]) w (.own [] S.fr.length) (.slice none 0 0):=by
 have hnew:∀(k F zz:Nat),S.fr[k]? = some (F,zz)→(S.fr++[(0,z)])[k]? = some (F,zz):=fun k F zz h=>by
  rw[List.getElem?_append_left (List.getElem?_eq_some_iff.1 h).1];exact h
 have hold:∀(k F zz:Nat),(S.fr++[(0,z)])[k]? = some (F,zz)→k=S.fr.length∧F=0∨(k≠S.fr.length∧S.fr[k]? = some (F,zz)):=fun k F zz h=>by
  by_cases e:k=S.fr.length
  ·subst e;simp at h;exact .inl ⟨rfl,h.1.symm⟩
  ·by_cases hlt:k < S.fr.length
   ·rw[List.getElem?_append_left hlt]at h;exact .inr ⟨e,h⟩
   ·rw[List.getElem?_eq_none (by simp;omega)]at h;cases h
 have hk:KeepD G S.fr w {G with χ:=fun k=>if k=S.fr.length then none else G.χ k} (S.fr++[(0,z)]) w:=
  {hs:=Nat.le_refl _,ok:=fun _ _ _ h=>h,dn:=hS.dn,cell:=fun _ _ _ _=>rfl,ρ:=fun _ _ h=>h,rs:=fun _ _ arr _ _ h=>⟨arr,h,rfl⟩
   mp:=fun _ _ _ _ _ h=>h
   χ:=fun k F zz hF=>by
    have hne:k≠S.fr.length:=Nat.ne_of_lt (List.getElem?_eq_some_iff.1 hF).1
    exact⟨F,hnew k F zz hF,Nat.le_refl _,fun _=>⟨by simp[hne],fun _ _=>⟨rfl,fun _ h=>h⟩⟩⟩
   df:=fun _ h=>h
   lp:=fun _ r h=>⟨r,h⟩}
 refine⟨{G with χ:=fun k=>if k=S.fr.length then none else G.χ k},⟨hS.below,hS.bsz,hS.dn,hS.ob,hS.kp.trans hk,?_,fun id o hx hd=>?_,hS.ri,hS.rd,fun k F zz hF=>?_,hS.hl⟩,hk,0,z,by simp,by simp,by simp,.inl ⟨rfl,rfl,.inl (by simp)⟩⟩
 ·obtain⟨n1,n2,n3,n4,n5⟩:=hS.n0
  exact⟨n1,n2,n3,by simp;omega,n5⟩
 ·obtain⟨b,ob,hr,hheap,hv⟩:=hS.bx id o hx hd
  exact⟨b,ob,hr,hheap,hv.keep hk.toKeep⟩
 ·dsimp only at hF ⊢
  rcases hold k F zz hF with ⟨rfl,rfl⟩|⟨hne,hF'⟩
  ·exact⟨fun _=>rfl,fun b hb=>by simp at hb⟩
  ·obtain⟨h1,h2⟩:=hS.ch k F zz hF'
   simp only[hne,if_false]
   refine⟨h1,fun b hb=>?_⟩
   obtain⟨h3,h4,h5,h6⟩:=h2 b hb
   refine⟨h3,by simpa[updT,hne] using h4,h5,fun c' F' z' hF2 he=>?_⟩
   rcases hold c' F' z' hF2 with ⟨rfl,rfl⟩|⟨hne',hF3⟩
   ·simp at he
   ·simp only[hne',if_false]at he
    exact h6 c' F' z' hF3 he
theorem appendK_sound {P:Program}{L:World→Prop}{w0:Orig L}{G:Gh}{S:St}{w:World}(hS:RelS w0 G S w){t ty:TypeId}{s x:AV}{sv xv:Value}(hs:VR G S.fr w s sv)(hx:VR G S.fr w x xv){K:AV→St→Prop}(h:appendK P S t s x K) :
  OutK w0 G S w K ((Builtin.append_ #[t,t] ty #[sv,xv]).run P w):=by
 unfold appendK at h
 split at h
 ·rename_i e hsl
  have hund:P.underlying t=some (.slice e):=by
   unfold tslice at hsl;split at hsl
   ·rename_i hh;simp at hsl;subst hsl;exact hh
   ·cases hsl
  split at h
  ·rename_i k by_ zl hsz hby hz
   obtain⟨hzl,h⟩:=h
   split at h
   ·rename_i es es2 hes hes2
    obtain⟨hE,hE2,hbytes,hmax,h⟩:=h
    unfold tsz at hsz;unfold tby at hby
    obtain⟨i,hi⟩:∃i,P.info? e=some i:=by
     cases hh:P.info? e with
     | none=>simp[hh]at hsz
     | some i=>exact⟨i,rfl⟩
    simp[hi]at hsz hby
    simp only[tzero,hi,Option.bind_some,Option.map_map,Option.map_eq_some_iff,Function.comp]at hz
    obtain⟨z,hzv,hzl2⟩:=hz
    have hzs:z.cells.size=i.size:=by simp at hzl2;omega
    obtain⟨A,c,rfl,hc,hA⟩:=hs.elems hes
    obtain⟨A2,c2,rfl,hc2,hA2⟩:=hx.elems hes2
    by_cases h0:es2=[]
    ·subst h0
     have hrun:(Builtin.append_ #[t,t] ty #[.slice A es.length c,.slice A2 ([]:List AV).length c2]).run P w=.ok (.slice A es.length c) w:=by
      cases A<;>cases A2<;>simp[Builtin.append_,run_underlying hund,Go.sizeOf,typeInfo,hi,Builtin.lenOf,hc,Builtin.firstCells,loadCells,loadCellsFrom,storeCells]
     rw[hrun]
     split at h
     ·rename_i es' ch
      obtain⟨hF,hty,hK⟩:=h
      simp[AV.elems]at hes;subst hes
      simp only[List.append_nil]at hK
      unfold St.setF at hK
      rw[set_self hF]at hK
      exact OutK.same hS hs hK
     ·simp[AV.elems]at hes;subst hes
      have hnil:Value.slice A ([]:List AV).length c=.slice none 0 0:=hs
      rw[hnil]
      obtain⟨G',u1,u2,u3⟩:=hS.unborn (k+1) e
      exact⟨_,w,G',_,_,rfl,u1,u2,u3,h⟩
     ·simp only[List.isEmpty_nil,BrK_true]at h
      exact OutK.same hS hs h
     ·exact h.elim
    ·have hie:es2.isEmpty=false:=by cases es2<;>simp at h0 ⊢
     have hpos:0 < es2.length:=List.length_pos_iff.2 h0
     obtain⟨b2,o2,sz2,rfl,hb2,hu2,hok2,hm2⟩:=hA2 h0
     have hsz2:sz2=i.size:=by
      cases es2 with
      | nil=>exact absurd rfl h0
      | cons y ys=>rw[←hu2 y (by simp),(hE2 y (by simp)).1];omega
     subst hsz2
     obtain⟨xs2,hmv2,hcell2⟩:=hm2.toMV
     have hl2:xs2.length=es2.length*i.size:=by rw[hmv2.length,tot_uni hu2]
     have hone2:∀u∈xs2,u.oneCell'=true:=hmv2.one fun y hy=>(hE2 y hy).2
     have hnews:∀j v,xs2[j]? = some v→w.cell? ((⟨b2,o2,none⟩:Addr).add j)=some v:=fun j v hj=>by rw[Addr.add_lit];exact hcell2 j v hj
     have hmax':es.length+es2.length≤9223372036854775807:=by simp only[maxLen]at hmax;omega
     have fresh:∀(xs:List Value),MV G.pure [] w es xs→∀(old ch:Nat) (fr':Frs),fr'[ch]? = some ((es++es2).length,k+1)→(∀k,k≠ch→fr'[k]? = S.fr[k]?)→(∀F z,S.fr[ch]? = some (F,z)→F < (es++es2).length∧z=k+1)→S.fr.length≤fr'.length→∀ty':Nat→TypeId,ty' ch=e→(∀k,k≠ch→k < S.fr.length→ty' k=S.ty k) →
       K (.own (es++es2) ch) {S with fr:=fr',ty:=ty'} →
       OutK w0 G S w K (.ok (.slice (some ⟨w.heap.size,0,none⟩) (es.length+es2.length) (grownCap w (es.length+es2.length) old e))
        (w.drew.alloc (.cells (xs.toArray++xs2.toArray++Builtin.zeroCells z.cells (grownCap w (es.length+es2.length) old e-(es.length+es2.length))) e))):=by
      intro xs hmv old ch fr' hf1 hf2 hf3 hf4 ty' ht1 ht2 hK
      have hge:=grownCap_ge w (es.length+es2.length) old e
      have hl:xs.length=es.length*i.size:=by
       rw[hmv.length,tot_uni fun y hy=>(hE y hy).1];rw[hsz]
      obtain⟨G',h1,h2,h3⟩:=hS.chainNew w.drew ⟨rfl,rfl,rfl,Nat.le_refl _,fun _ _=>rfl⟩ rfl (hmv.append hmv2) (xs.toArray++xs2.toArray++Builtin.zeroCells z.cells (grownCap w (es.length+es2.length) old e-(es.length+es2.length))) e
       (sz:=i.size) (fun y hy=>by
        rcases List.mem_append.1 hy with hy|hy
        ·rw[(hE y hy).1];omega
        ·rw[(hE2 y hy).1];omega) (fun j u hu=>by
        rw[Array.getElem?_append_left (by have:=(List.getElem?_eq_some_iff.1 hu).1;simpa using this)]
        simpa using hu) (grownCap w (es.length+es2.length) old e) (by simpa using hge) (by
        simp only[Array.size_append,List.size_toArray,size_zeroCells,hzs,hl,hl2,←Nat.add_mul]
        congr 1;omega) ch fr' (by rw[hsz];exact hf1) hf2 (by rw[hsz];exact hf3) hf4 ty' ht1 ht2
      exact⟨_,_,G',_,_,rfl,h1,h2,by rw[List.length_append]at h3;exact h3,hK⟩
     have start:∀(A:Option Addr) (c:Nat),(es≠[]→∃b o sz,A=some ⟨b,o,none⟩∧b < w.heap.size∧(∀e∈es,e.ncells=sz)∧G.ok b (o+es.length*sz)∧MC G.pure [] w es b o)→c=es.length→(A=none→c=0)→K (.own (es++es2) S.fr.length) {S with fr:=S.fr++[((es++es2).length,k+1)],ty:=updT S.ty S.fr.length e} →
       OutK w0 G S w K ((Builtin.append_ #[t,t] ty #[.slice A es.length c,.slice (some ⟨b2,o2,none⟩) es2.length c2]).run P w):=by
      intro A c hA hcc hnone hK
      have hfr:∀j,j≠S.fr.length→(S.fr++[((es++es2).length,k+1)])[j]? = S.fr[j]?:=by
       intro j hk
       by_cases hlt:j < S.fr.length
       ·rw[List.getElem?_append_left hlt]
       ·rw[List.getElem?_eq_none (by simp;omega),List.getElem?_eq_none (by omega)]
      have hf3:∀F z,S.fr[S.fr.length]? = some (F,z)→F < (es++es2).length∧z=k+1:=by simp
      have hf4:S.fr.length≤(S.fr++[((es++es2).length,k+1)]).length:=by simp
      by_cases hne:es=[]
      ·subst hne
       have hc0:c=0:=by simpa using hcc
       subst hc0
       have:=fresh [] rfl 0 S.fr.length (S.fr++[(([]++es2:List AV).length,k+1)]) (by simp) hfr hf3 hf4 _ (by simp[updT]) (fun k hk _=>by simp[updT,hk]) hK
       simp only[List.length_nil,Nat.zero_add,Array.empty_append]at this
       cases A with
       | none=>
        rw[show([]:List AV).length=0 from rfl,run_append_nil (P:=P) w t ty e i z hund hi hzv ⟨b2,o2,none⟩ es2.length c2 xs2 hl2 hnews hpos (by omega) (by simp at hbytes;rw[hby];omega)]
        simpa using this
       | some a=>
        have hr:=run_append_grow (P:=P) w t ty e i z hund hi hzv a 0 0 [] (by simp) (by simp) ⟨b2,o2,none⟩ es2.length c2 xs2 hl2 hnews (by omega) (by omega) (growslice_fits (by omega) (by simp at hbytes;rw[hby];simpa using hbytes))
        simp only[Nat.zero_add]at hr
        rw[show([]:List AV).length=0 from rfl,hr]
        simpa using this
      ·obtain⟨b,o,sz,rfl,hb,hu,hok,hm⟩:=hA hne
       obtain⟨xs,hmv,hcell⟩:=hm.toMV
       have hl:xs.length=es.length*i.size:=by
        rw[hmv.length,tot_uni fun y hy=>(hE y hy).1];rw[hsz]
       rw[run_append_grow (P:=P) w t ty e i z hund hi hzv ⟨b,o,none⟩ es.length c xs hl (fun j v hj=>by rw[Addr.add_lit];exact hcell j v hj) ⟨b2,o2,none⟩ es2.length c2 xs2 hl2 hnews (by omega) (by omega) (growslice_fits (by omega) (by rw[hby];exact hbytes))]
       exact fresh xs hmv c S.fr.length _ (by simp) hfr hf3 hf4 _ (by simp[updT]) (fun k hk _=>by simp[updT,hk]) hK
     split at h
     ·rename_i es' ch
      obtain⟨hF,hty,hK⟩:=h
      simp[AV.elems]at hes;subst hes
      obtain⟨F,sz,hF',hle,hu,hs⟩:=hs
      rw[hF]at hF';injection hF' with hF';injection hF' with hF1 hF2;subst hF1;subst hF2
      have hchl:ch < S.fr.length:=(List.getElem?_eq_some_iff.1 hF).1
      have hset:∀j,j≠ch→(S.fr.set ch ((es'++es2).length,k+1))[j]? = S.fr[j]?:=fun j hj=>by rw[List.getElem?_set_ne (fun h=>hj h.symm)]
      have hf3:∀F z,S.fr[ch]? = some (F,z)→F < (es'++es2).length∧z=k+1:=fun F z hF2=>by
       rw[hF]at hF2;injection hF2 with hF2;injection hF2 with e1 e2;subst e1;subst e2
       exact⟨by simp;omega,rfl⟩
      rcases hs with ⟨he,rfl,_⟩|⟨b,o,c',he,hc',hb,hok,hm,hal⟩
      ·simp at he
       obtain⟨rfl,rfl⟩:=he
       have:=fresh [] rfl 0 ch (S.fr.set ch (([]++es2:List AV).length,k+1)) (by simp[hchl]) hset hf3 (by simp) S.ty hty (fun _ _ _=>rfl) hK
       simp only[List.length_nil,Nat.zero_add,Array.empty_append]at this
       rw[show([]:List AV).length=0 from rfl,run_append_nil (P:=P) w t ty e i z hund hi hzv ⟨b2,o2,none⟩ es2.length c2 xs2 hl2 hnews hpos (by omega) (by simp at hbytes;rw[hby];omega)]
       simpa using this
      obtain⟨hχ,rfl,arr,tt,hrow,hcs,hokmax⟩:=hal rfl
      simp at he
      obtain⟨rfl,rfl⟩:=he
      rw[←hsz]at hcs hokmax hu hF
      obtain⟨xs,hmv,hcell⟩:=hm.toMV
      have hl:xs.length=es'.length*i.size:=by rw[hmv.length,tot_uni hu]
      by_cases hroom:es'.length+es2.length≤c
      ·have hmul:(es'.length+es2.length)*i.size≤arr.size:=hcs▸Nat.mul_le_mul_right _ hroom
       rw[Nat.add_mul]at hmul
       have htake:arr.toList.take (es'.length*i.size)=xs:=by
        apply List.ext_getElem?
        intro j
        by_cases hj:j < xs.length
        ·rw[List.getElem?_take,if_pos (by omega)]
         have h1:=hcell j xs[j] (List.getElem?_eq_getElem hj)
         rw[Nat.zero_add,cell_of_row w b j arr tt (0,0) hrow]at h1
         rw[List.getElem?_eq_getElem hj,←h1];simp
        ·rw[List.getElem?_eq_none (by simp;omega),List.getElem?_eq_none (by omega)]
       have hr:=run_append_roomT (P:=P) w t ty e i hund hi b es'.length c arr tt hrow ⟨b2,o2,none⟩ es2.length c2 xs2 hl2 hnews hone2 hroom (by omega)
       rw[hr]
       have hels:∀x∈es'++es2,x.ncells=i.size:=fun y hy=>by
        rcases List.mem_append.1 hy with hy|hy
        ·exact hu y hy
        ·exact hu2 y hy
       obtain⟨G',g1,g2,g3⟩:=hS.chainIn hmv hmv2 arr tt hF hχ hrow hokmax h0 hels htake c hroom hcs hl2
       rw[←hsz]at hK
       exact⟨_,_,G',_,_,rfl,g1,g2,by simpa only[List.length_append] using g3,hK⟩
      ·rw[run_append_grow (P:=P) w t ty e i z hund hi hzv ⟨b,0,none⟩ es'.length c xs hl (fun j v hj=>by rw[Addr.add_lit];exact hcell j v hj) ⟨b2,o2,none⟩ es2.length c2 xs2 hl2 hnews (by omega) (by omega) (growslice_fits (by omega) (by rw[hby];exact hbytes))]
       exact fresh xs hmv c ch _ (by simp[hchl]) hset hf3 (by simp) S.ty hty (fun _ _ _=>rfl) hK
     ·simp[AV.elems]at hes;subst hes
      have hnil:Value.slice A ([]:List AV).length c=.slice none 0 0:=hs
      simp at hnil
      obtain⟨rfl,rfl⟩:=hnil
      exact start none 0 (by simp) (by simp) (fun _=>rfl) h
     ·rename_i es'
      simp only[hie,BrK_false]at h
      simp[AV.elems]at hes;subst hes
      obtain⟨A',c',he,h1,h2,h3⟩:=hs
      simp at he
      obtain⟨rfl,rfl⟩:=he
      refine start A c h3 (h2 rfl) (fun hn=>?_) h
      by_cases hne:es'=[]
      ·rw[h2 rfl,hne];rfl
      ·obtain⟨b,o,sz,hA',_⟩:=h3 hne
       rw[hn]at hA';cases hA'
     ·exact h.elim
   ·exact h.elim
  ·exact h.elim
 ·exact h.elim
def tint (P:Program)(t:TypeId):Bool:=match P.underlying t with
 | some (.int _)=>true
 | _=>false
def growK (P:Program)(S:St)(t u:TypeId)(n:Int)(K:AV→St→Prop):Prop:=
 match tslice P t,tint P u with
 | some e,true=>match tsz P e,tby P e,(tzero P e).map List.length with
  | some (k+1),some by_,some zl=>zl=k+1∧0 < n∧n*by_≤140737488355328∧n≤9223372036854775807∧K (.grown (.own [] S.fr.length) n.toNat) (S.addF (0,k+1) e)
  | _,_,_=>False
 | _,_=>False
theorem run_append_zeros {P:Program}(w:World)(t u ty e:TypeId)(i:TypeInfo)(z:Value)(kk:IntKind)(ht:P.underlying t=some (.slice e))(hu:P.underlying u=some (.int kk))(hi:P.info? e=some i)(hz:i.zero=some z)
  (n:Nat) (h0:0 < n) (hs:0 < i.size) (h63:(n:Int)≤9223372036854775807) (h48:n*i.bytes≤140737488355328) :
  (Builtin.append_ #[t,u] ty #[.slice none 0 0,.int .i64 n]).run P w =
   .ok (.slice (some ⟨w.heap.size,0,none⟩) n (grownCap w n 0 e)) (w.drew.alloc (.cells (Builtin.zeroCells z.cells n++Builtin.zeroCells z.cells (grownCap w n 0 e-n)) e)):=by
 have hn:n≠0:=by omega
 have h63':¬(9223372036854775807 < (n:Int)):=by omega
 have h48':¬(281474976710656 < Builtin.nextslicecap n 0*i.bytes):=by rw[nextslicecap_zero h0];omega
 have hw:IntKind.i64.wrap (n:Int)=n:=IntWalk.i64_in _ (by omega)
 have hb:¬(281474976710656 < (n:Int)*i.bytes):=by
  have:=Int.ofNat_le.2 h48
  rw[Int.natCast_mul]at this;omega
 have hng:¬((n:Int) < 0):=by omega
 have hsz:¬(n*i.size=0):=Nat.mul_ne_zero hn (by omega)
 have hsz':¬(i.size=0):=by omega
 simp[Builtin.append_,run_underlying ht,run_underlying hu,Go.sizeOf,typeInfo,zeroValue,hi,hz,hn,h63',h48',hb,hw,hng,hsz,Question.forced,run_firstCells_none,newRow,grownCap,asInt,asIntOf]
theorem growK_sound {P:Program}{L:World→Prop}{w0:Orig L}{G:Gh}{S:St}{w:World}(hS:RelS w0 G S w){t u ty:TypeId}{n:Int}{K:AV→St→Prop}(h:growK P S t u n K) :
  OutK w0 G S w K ((Builtin.append_ #[t,u] ty #[.slice none 0 0,.int .i64 n]).run P w):=by
 unfold growK at h
 split at h
 ·rename_i e hsl hti
  have hund:P.underlying t=some (.slice e):=by
   unfold tslice at hsl;split at hsl
   ·rename_i hh;simp at hsl;subst hsl;exact hh
   ·cases hsl
  obtain⟨kk,hu⟩:∃kk,P.underlying u=some (.int kk):=by
   unfold tint at hti;split at hti
   ·rename_i kk hh;exact⟨kk,hh⟩
   ·cases hti
  split at h
  ·rename_i k by_ zl hsz hby hz
   obtain⟨hzl,h0,hbytes,hmax,hK⟩:=h
   unfold tsz at hsz;unfold tby at hby
   obtain⟨i,hi⟩:∃i,P.info? e=some i:=by
    cases hh:P.info? e with
    | none=>simp[hh]at hsz
    | some i=>exact⟨i,rfl⟩
   simp[hi]at hsz hby
   simp only[tzero,hi,Option.bind_some,Option.map_map,Option.map_eq_some_iff,Function.comp]at hz
   obtain⟨z,hzv,hzl2⟩:=hz
   have hzs:z.cells.size=i.size:=by simp at hzl2;omega
   obtain⟨m,rfl⟩:∃m:Nat,n=m:=⟨n.toNat,by omega⟩
   have hm:m*i.bytes≤140737488355328:=by rw[hby];apply Int.ofNat_le.1;rw[Int.natCast_mul];exact hbytes
   rw[run_append_zeros (P:=P) w t u ty e i z kk hund hu hi hzv m (by omega) (by omega) (by omega) hm]
   have hge:=grownCap_ge w m 0 e
   obtain⟨G',h1,h2,h3⟩:=hS.chainNew w.drew ⟨rfl,rfl,rfl,Nat.le_refl _,fun _ _=>rfl⟩ rfl (es:=[]) (xs:=[]) rfl (Builtin.zeroCells z.cells m++Builtin.zeroCells z.cells (grownCap w m 0 e-m)) e (sz:=i.size) (by simp) (by simp) (grownCap w m 0 e) (by simp) (by
    simp only[Array.size_append,size_zeroCells,hzs,←Nat.add_mul]
    congr 1;omega) S.fr.length (S.fr++[(0,k+1)]) (by simp[hsz]) (fun j hk=>by
     by_cases hlt:j < S.fr.length
     ·rw[List.getElem?_append_left hlt]
     ·rw[List.getElem?_eq_none (by simp;omega),List.getElem?_eq_none (by omega)]) (by simp) (by simp) (updT S.ty S.fr.length e) (by simp[updT]) (fun k hk _=>by simp[updT,hk])
   exact⟨_,_,G',_,.grown (.own [] S.fr.length) m,rfl,h1,h2,⟨_,_,rfl,by simpa using hge,h3⟩,by have hK:=hK;rw[Int.toNat_natCast]at hK;exact hK⟩
  ·exact h.elim
 ·exact h.elim
theorem buildSlice_run {P:Program}{G:Gh}{S:St}{w:World}{t e:TypeId}{n k:Nat}{parts:List (Nat×AV)}(partsV:Array (Nat×Value))(hi:partsV.toList.map (·.1)=parts.map (·.1))
  (hv:VRs G S.fr w (parts.map (·.2)) (partsV.toList.map (·.2))) (hs:tslice P t=some e) (hsz:tsz P e=some (k+1)) (hz:(tzero P e).isSome=true) (hsmall:n*(k+1)≤2 ^ 24) (hrange:parts.map (·.1)=List.range n) {es:List AV} (hes:fzs (parts.map (·.2))=some es) (hels:Els (k+1) es) :
  es.length=n∧∃cells xs,MV G.pure [] w es xs∧(∀(j:Nat) (u:Value),xs[j]? = some u→cells[j]? = some u)∧n*(k+1)=cells.size∧(Instr.buildSlice t n partsV).run P w=.ok (.slice (some ⟨w.heap.size,0,none⟩) n n) (w.alloc (.cells cells e)):=by
 have hund:P.underlying t=some (.slice e):=by
  unfold tslice at hs;split at hs
  ·rename_i hh;simp at hs;subst hs;exact hh
  ·cases hs
 have hvp:=fzs_sound _ hes hv
 have hlen:(partsV.toList.map (·.2)).length=n:=by
  have:=congrArg List.length (hi.trans hrange);simpa using this
 have hesl:es.length=n:=by rw[←hvp.length,hlen]
 refine⟨hesl,?_⟩
 have hmv:=hvp.toMV fun e he=>(hels e he).2
 obtain⟨z,hz⟩:=Option.isSome_iff_exists.1 hz
 unfold tzero at hz
 simp only[Option.map_eq_some_iff,Option.bind_eq_some_iff]at hz
 obtain⟨zv,⟨ie,hie,hzv⟩,rfl⟩:=hz
 have hsize:ie.size=k+1:=by
  unfold tsz at hsz;simp[hie]at hsz;exact hsz
 have hcell:∀u∈partsV.toList.map (·.2),u.cells.size=k+1:=by
  intro u hu
  obtain⟨i,hi'⟩:=List.getElem?_of_mem hu
  have hlt:i < es.length:=by rw[←hvp.length];exact(List.getElem?_eq_some_iff.1 hi').1
  obtain⟨u',hu2,hr2⟩:=hvp.get (List.getElem?_eq_getElem hlt)
  rw[hi']at hu2;injection hu2 with hu2;subst hu2
  rw[(hr2.ac (hels _ (List.getElem_mem hlt)).2).1]
  exact(hels _ (List.getElem_mem hlt)).1
 have hzip:(List.range' 0 (partsV.toList.map (·.2)).length).zip (partsV.toList.map (·.2))=partsV.toList:=by
  rw[←List.range_eq_range',hlen,←hrange,←hi]
  exact zip_fst_snd _
 by_cases h0:n=0
 ·subst h0
  have hnil:partsV.toList=[]:=by
   have:partsV.toList.length=0:=by simpa using hlen
   exact List.eq_nil_of_length_eq_zero this
  have hes0:es=[]:=List.eq_nil_of_length_eq_zero hesl
  subst hes0
  refine⟨#[],[],rfl,by simp,by simp,?_⟩
  simp[Instr.buildSlice,run_underlying hund,Go.sizeOf,typeInfo,hie,hnil,Instr.fill,newRow]
  rw[show(Array.range 0).map (fun _=>(default:Value))=#[] from Array.eq_empty_of_size_eq_zero (by simp)]
 ·obtain⟨cells',hf,hl⟩:=fill_dense (k+1) (partsV.toList.map (·.2)) 0 ((Array.range (n*(k+1))).map (zv.cells[· % zv.cells.size]!)) hcell (by rw[hlen];simp)
  rw[hzip]at hf
  have hflat:cells'.toList=(partsV.toList.map (·.2)).flatMap fun u=>u.cells.toList:=by
   rw[hl,Nat.zero_mul,List.take_zero,List.nil_append,Nat.zero_add,hlen,List.drop_of_length_le (by simp),List.append_nil]
  refine⟨cells',_,hmv,fun j u hu=>by rw[←Array.getElem?_toList,hflat];exact hu,?_,run_buildSlice w t e n partsV cells' ie zv hund hie hzv (by rw[hsize];omega) (by rw[hsize];exact Nat.mul_ne_zero h0 (by omega)) (by rw[hsize];exact hf)⟩
  have h1:=congrArg List.length hflat
  have h2:=hmv.length
  rw[tot_uni fun y hy=>(hels y hy).1,hesl]at h2
  have h3:cells'.size=n*(k+1):=by rw[←h2];simpa using h1
  omega
def buildSliceO (P:Program)(S:St)(t:TypeId)(n:Nat)(parts:List (Nat×AV))(K:AV→St→Prop):Prop:=
 match tslice P t with
 | some e=>match tsz P e,(tzero P e).isSome with
  | some (k+1),true=>n*(k+1)≤2 ^ 24∧parts.map (·.1)=List.range n∧match fzs (parts.map (·.2)) with
   | some es=>Els (k+1) es∧K (.own es S.fr.length) (S.addF (es.length,k+1) e)
   | none=>False
  | _,_=>False
 | none=>False
theorem buildSliceO_sound {P:Program}{L:World→Prop}{w0:Orig L}{G:Gh}{S:St}{w:World}(hS:RelS w0 G S w){t:TypeId}{n:Nat}{parts:List (Nat×AV)}{K:AV→St→Prop}(partsV:Array (Nat×Value))(hi:partsV.toList.map (·.1)=parts.map (·.1))
  (hv:VRs G S.fr w (parts.map (·.2)) (partsV.toList.map (·.2))) (h:buildSliceO P S t n parts K):OutK w0 G S w K ((Instr.buildSlice t n partsV).run P w):=by
 unfold buildSliceO at h
 split at h
 ·rename_i e hs
  split at h
  ·rename_i k hsz hz
   obtain⟨hsmall,hrange,h⟩:=h
   split at h
   ·rename_i es hes
    obtain⟨hels,hK⟩:=h
    obtain⟨hl,cells,xs,h1,h2,h3,h4⟩:=buildSlice_run partsV hi hv hs hsz hz hsmall hrange hes hels
    rw[h4]
    subst hl
    obtain⟨G',g1,g2,g3⟩:=hS.chainNew w (Below.refl _ _) rfl h1 cells e (sz:=k+1) (fun x hx=>(hels x hx).1) h2 es.length (by omega) h3 S.fr.length (S.fr++[(es.length,k+1)]) (by simp)
     (fun j hj=>by
      by_cases hlt:j < S.fr.length
      ·rw[List.getElem?_append_left hlt]
      ·rw[List.getElem?_eq_none (by simp;omega),List.getElem?_eq_none (by omega)]) (by simp) (by simp) (updT S.ty S.fr.length e) (by simp[updT]) (fun k hk _=>by simp[updT,hk])
    exact⟨_,_,G',_,_,rfl,g1,g2,g3,hK⟩
   ·exact h.elim
  ·exact h.elim
 ·exact h.elim
def lenK (P:Program)(t:TypeId)(x:AV)(K:AV→Prop):Prop:=
 match P.underlying t,x with
 | some (.slice _),.bsl _ _ n _=>K (.int .i64 n)
 | some (.slice _),.vsl _ _ n _=>K (.int .i64 n)
 | some (.slice _),.grown _ n=>K (.int .i64 n)
 | some (.slice _),x=>match x.elems with
  | some es=>K (.int .i64 es.length)
  | none=>False
 | some .string,.str s=>K (.int .i64 s.size)
 | some (.array n _),_=>K (.int .i64 n)
 | _,_=>False
theorem lenK_sound {P:Program}{t ty:TypeId}{x:AV}{K:AV→Prop}{G:Gh}{fr:Frs}{w:World}{u:Value}(hu:VR G fr w x u)(h:lenK P t x K) :
  ∃e r,K e∧VR G fr w e r∧(Builtin.len_ #[t] ty #[u]).run P w=.ok r w:=by
 unfold lenK at h
 split at h
 ·rename_i e id off n sz hund
  obtain⟨b,A,c,arr,tt,_,_,rfl,_⟩:=hu
  exact⟨_,_,h,rfl,by simp[Builtin.len_,run_underlying hund,goInt]⟩
 ·rename_i e id off n sz hund
  obtain⟨b,A,c,arr,tt,_,_,rfl,_⟩:=hu
  exact⟨_,_,h,rfl,by simp[Builtin.len_,run_underlying hund,goInt]⟩
 ·rename_i e e1 n hund
  obtain⟨A,c,rfl,_⟩:=hu
  exact⟨_,_,h,rfl,by simp[Builtin.len_,run_underlying hund,goInt]⟩
 ·rename_i e hund hne hne2 hne3
  split at h
  ·rename_i es hes
   obtain⟨A,c,rfl,_⟩:=hu.elems hes
   exact⟨_,_,h,rfl,by simp[Builtin.len_,run_underlying hund,goInt]⟩
  ·exact h.elim
 ·rename_i s hund
  obtain rfl:u=_:=hu
  exact⟨_,_,h,rfl,by simp[Builtin.len_,run_underlying hund,goInt]⟩
 ·rename_i n e hund
  refine⟨_,_,h,rfl,?_⟩
  simp[Builtin.len_,run_underlying hund,goInt]
 ·exact h.elim
theorem MC.drop {G:Gh}{fr:Frs}{w:World}{sz b:Nat}:∀{es:List AV} {o:Nat} (k:Nat),(∀e∈es,e.ncells=sz)→MC G fr w es b o→k≤es.length→MC G fr w (es.drop k) b (o+k*sz)
 | es,o,0,_,h,_=>by simpa using h
 | [],_,_+1,_,_,hk=>by simp at hk
 | e :: es,o,k+1,hu,h,hk=>by
  obtain⟨_,h2⟩:=h
  have:=MC.drop (sz:=sz) k (fun x hx=>hu x (by simp[hx])) h2 (by simpa using hk)
  rw[hu e (by simp)]at this
  simp only[List.drop_succ_cons]
  rw[show o+(k+1)*sz=o+sz+k*sz from by rw[Nat.add_mul];omega]
  exact this
theorem MC.take {G:Gh}{fr:Frs}{w:World}{b:Nat}:∀{es:List AV} {o:Nat} (k:Nat),MC G fr w es b o→MC G fr w (es.take k) b o
 | _,_,0,_=>by simp[MC]
 | [],_,_+1,h=>by simpa using h
 | e :: es,o,k+1,h=>by
  obtain⟨h1,h2⟩:=h
  simp only[List.take_succ_cons]
  exact⟨h1,MC.take k h2⟩
def sliceK0 (P:Program)(S:St)(t:TypeId)(x:AV)(lo hi:Option AV)(K:AV→Prop):Prop:=
 match tarr P t,tslice P t with
 | some (n,e),_=>match tsz P e,x,lo,hi with
  | some sz,.ptr id off,none,none=>match S.bx[id]? with
   | some (.cells cs _)=>off+n*sz≤cs.length∧K (.bsl id off n sz)
   | _=>False
  | _,_,_,_=>False
 | none,some e=>match tsz P e,x.elems with
  | some (k+1),some es=>Els (k+1) es∧match lo,hi with
   | none,none=>K (.sl false ((es.take es.length).drop 0))
   | some (.int _ l),none=>InC l es.length∧K (.sl false ((es.take es.length).drop l.toNat))
   | none,some (.int _ h)=>InC h es.length∧K (.sl false ((es.take h.toNat).drop 0))
   | some (.int _ l),some (.int _ h)=>InC h es.length∧InC l h.toNat∧K (.sl false ((es.take h.toNat).drop l.toNat))
   | _,_=>False
  | _,_=>False
 | _,_=>False
def sliceG:AV→Option AV→Option AV→Option AV
 | .grown e _,none,some (.int _ 0)=>some e
 | .nils,none,some (.int _ 0)=>some .nils
 | .grown .nils 0,some (.int _ 0),none=>some .nils
 | _,_,_=>none
def upTo? (S:St)(id off sz h:Nat):Prop:=match S.bx[id]? with
 | some (.cells cs _)=>off+h*sz≤cs.length∧1≤sz
 | _=>False
def sliceV (P:Program)(S:St)(t:TypeId)(id off n sz:Nat)(lo hi:Option AV)(K:AV→Prop):Prop:=
 match tarr P t,(tslice P t).bind (tsz P) with
 | none,some k=>k=sz∧match lo,hi with
  | none,none=>K (.vsl id off n sz)
  | some (.int _ l),none=>InC l n∧K (.vsl id (off+l.toNat*sz) (n-l.toNat) sz)
  | none,some (.int _ h)=>(0≤h∧upTo? S id off sz h.toNat)∧K (.vsl id off h.toNat sz)
  | some (.int _ l),some (.int _ h)=>(0≤h∧upTo? S id off sz h.toNat)∧InC l h.toNat∧K (.vsl id (off+l.toNat*sz) (h.toNat-l.toNat) sz)
  | _,_=>False
 | _,_=>False
def exactB (S:St)(id off n sz:Nat):Prop:=match S.bx[id]? with
 | some (.cells cs _)=>cs.length=off+n*sz
 | _=>False
def sliceK (P:Program)(S:St)(t:TypeId)(x:AV)(lo hi:Option AV)(K:AV→Prop):Prop:=
 match sliceG x lo hi with
 | some e=>((tslice P t).bind (tsz P)).isSome=true∧K e
 | none=>match x with
  | .vsl id off n sz=>sliceV P S t id off n sz lo hi K
  | .bsl id off n sz=>exactB S id off n sz∧sliceV P S t id off n sz lo hi K
  | x=>sliceK0 P S t x lo hi K
theorem slice_data {G:Gh}{fr:Frs}{w:World}{es:List AV}{A:Option Addr}{c:Nat}(dn:∀b e e',e'≤e→G.ok b e→G.ok b e')
  (hA:es≠[]→∃b o sz,A=some ⟨b,o,none⟩∧b < w.heap.size∧(∀e∈es,e.ncells=sz)∧G.ok b (o+es.length*sz)∧MC G.pure [] w es b o) (hc:es.length≤c) (l h n:Nat) (hl:l≤h) (hh:h≤es.length) (hn:∀e∈es,e.ncells=n) :
  VR G fr w (.sl false ((es.take h).drop l)) (.slice (if c=l then A else A.map (·.add (l*n))) (h-l) (c-l)):=by
 have hlen:((es.take h).drop l).length=h-l:=by simp;omega
 refine⟨if c=l then A else A.map (·.add (l*n)),c-l,by rw[hlen],by rw[hlen];omega,by simp,fun hne=>?_⟩
 have hpos:0 < h-l:=by rw[←hlen];exact List.length_pos_iff.2 hne
 have hes:es≠[]:=by rintro rfl;simp at hh;omega
 obtain⟨b,o,sz,rfl,hb,hu,hok,hm⟩:=hA hes
 have hszn:sz=n:=by
  cases es with
  | nil=>exact absurd rfl hes
  | cons y ys=>rw[←hu y (by simp),hn y (by simp)]
 subst hszn
 refine⟨b,o+l*sz,sz,by rw[if_neg (by omega)];simp[Addr.add_lit],hb,fun e he=>hu e (List.mem_of_mem_take (List.mem_of_mem_drop he)),dn _ _ _ ?_ hok,?_⟩
 ·rw[hlen,Nat.add_assoc,←Nat.add_mul]
  exact Nat.add_le_add_left (Nat.mul_le_mul_right _ (by omega)) _
 ·exact(hm.take h).drop l (fun e he=>hu e (List.mem_of_mem_take he)) (by simp;omega)
open Go Go.RowKit
def byteAV (b:ByteArray):List AV:=b.data.toList.map fun x=>.int .u8 x.toNat
theorem byteAV_length (b:ByteArray):(byteAV b).length=b.size:=by simp[byteAV]
theorem byteAV_MV (G:Gh)(fr:Frs)(w:World)(b:ByteArray):MV G fr w (byteAV b) (Lib.strCells b):=by
 unfold byteAV Lib.strCells
 induction b.data.toList with
 | nil=>rfl
 | cons x l ih=>exact⟨.int .u8 x.toNat,l.map fun b=>.int .u8 b.toNat,by simp[Value.cells],rfl,rfl,ih⟩
theorem byteAV_els (b:ByteArray):Els 1 (byteAV b):=by
 intro x hx
 simp only[byteAV,List.mem_map]at hx
 obtain⟨y,_,rfl⟩:=hx
 exact⟨rfl,rfl⟩
def appendStrK (P:Program)(S:St)(t u:TypeId)(s:AV)(b:ByteArray)(K:AV→St→Prop):Prop:=
 match tslice P t,P.underlying u with
 | some e,some .string=>(P.info? e).map (fun i=>(i.zero,i.size,i.bytes))=some (some (.int .u8 0),1,1)∧match s with
  | .own es ch=>Els 1 es∧es.length+b.size≤140737488355328∧S.fr[ch]? = some (es.length,1)∧S.ty ch=e∧b.size≠0∧K (.own (es++byteAV b) ch) (S.setF ch ((es++byteAV b).length,1))
  | .nils=>b.size≤140737488355328∧b.size≠0∧K (.own (byteAV b) S.fr.length) (S.addF ((byteAV b).length,1) e)
  | _=>False
 | _,_=>False
theorem appendStrK_sound {P:Program}{L:World→Prop}{w0:Orig L}{G:Gh}{S:St}{w:World}(hS:RelS w0 G S w){t u ty:TypeId}{s:AV}{b:ByteArray}{sv:Value}(hs:VR G S.fr w s sv){K:AV→St→Prop}(h:appendStrK P S t u s b K) :
  OutK w0 G S w K ((Builtin.append_ #[t,u] ty #[sv,.string b]).run P w):=by
 unfold appendStrK at h
 split at h
 ·rename_i e hsl hu
  have hund:P.underlying t=some (.slice e):=by
   unfold tslice at hsl;split at hsl
   ·rename_i hh;simp at hsl;subst hsl;exact hh
   ·cases hsl
  obtain⟨hinf,h⟩:=h
  obtain⟨i,hi,hx⟩:=Option.map_eq_some_iff.1 hinf
  simp only[Prod.mk.injEq]at hx
  obtain⟨hz,hs1,hb1⟩:=hx
  have hbl:=Lib.strCells_length b
  have hdrew:Below w.heap.size w w.drew:=⟨rfl,rfl,rfl,Nat.le_refl _,fun _ _=>rfl⟩
  have hmb:=byteAV_MV G.pure [] w b
  have hzc:(Value.cells (.int .u8 0)).size=1:=rfl
  split at h
  ·rename_i es ch
   obtain⟨hE,hle,hF,hty,hb0,hK⟩:=h
   have hchl:ch < S.fr.length:=(List.getElem?_eq_some_iff.1 hF).1
   obtain⟨F,sz,hF',hle',huni,hv⟩:=hs
   rw[hF]at hF';injection hF' with hF';injection hF' with hF1 hF2;subst hF1;subst hF2
   have hset:∀j,j≠ch→(S.fr.set ch ((es++byteAV b).length,1))[j]? = S.fr[j]?:=fun j hj=>by rw[List.getElem?_set_ne (fun h=>hj h.symm)]
   have hf3:∀F z,S.fr[ch]? = some (F,z)→F < (es++byteAV b).length∧z=1:=fun F z hF2=>by
    rw[hF]at hF2;injection hF2 with hF2;injection hF2 with e1 e2;subst e1;subst e2
    exact⟨by simp[byteAV_length];omega,rfl⟩
   have hels:∀x∈es++byteAV b,x.ncells=1:=fun y hy=>by
    rcases List.mem_append.1 hy with hy|hy
    ·exact(hE y hy).1
    ·exact(byteAV_els b y hy).1
   rcases hv with ⟨rfl,rfl,_⟩|⟨bl,o,c,rfl,hc,hbl2,hok,hm,hal⟩
   ·rw[run_append_nil_string (P:=P) w t u ty e i _ hund hu hi hz b (by omega) (by simp at hle;omega) (by simp at hle;rw[hb1];omega)]
    obtain⟨G',h1,h2,h3⟩:=hS.chainNew w.drew hdrew rfl (es:=[]++byteAV b) (xs:=Lib.strCells b) hmb (b.data.map (fun b=>Value.int .u8 b.toNat)++Builtin.zeroCells (Value.cells (.int .u8 0)) (grownCap w b.size 0 e-b.size)) e (sz:=1) hels
     (fun j u hu=>by
      have:(b.data.map (fun b=>Value.int .u8 b.toNat))=(Lib.strCells b).toArray:=by apply Array.ext';simp[Lib.strCells]
      rw[this,Array.getElem?_append_left (by have:=(List.getElem?_eq_some_iff.1 hu).1;simpa using this)]
      simpa using hu) (grownCap w b.size 0 e) (by simp[byteAV_length];exact grownCap_ge w b.size 0 e) (by
      have:=grownCap_ge w b.size 0 e
      simp[size_zeroCells,hzc];omega) ch (S.fr.set ch (([]++byteAV b:List AV).length,1)) (by simp[hchl]) hset hf3 (by simp) S.ty hty (fun _ _ _=>rfl)
    refine⟨_,_,G',_,_,rfl,h1,h2,?_,hK⟩
    simpa[byteAV_length] using h3
   ·obtain⟨hχ,rfl,arr,tt,hrow,hcs,hokmax⟩:=hal rfl
    obtain⟨xs,hmv,hcell⟩:=hm.toMV
    have hl:xs.length=es.length*1:=by rw[hmv.length,tot_uni huni]
    obtain⟨_,⟨arr',fz,hrow'⟩,_⟩:=(hS.ch ch _ _ hF).2 bl hχ
    rw[hrow]at hrow';injection hrow' with hrow';injection hrow' with e1 e2 e3
    have htt:tt=e:=e2.trans hty
    subst htt
    by_cases hroom:es.length+b.size≤c
    ·rw[Lib.run_append_room_string (P:=P) w t u ty tt i hund hu hi hs1 bl es.length c arr hrow b hroom (by omega)]
     have htake:arr.toList.take (es.length*1)=xs:=by
      apply List.ext_getElem?
      intro j
      by_cases hj:j < xs.length
      ·rw[List.getElem?_take,if_pos (by omega)]
       have h1:=hcell j xs[j] (List.getElem?_eq_getElem hj)
       rw[Nat.zero_add,cell_of_row w bl j arr tt (0,0) hrow]at h1
       rw[List.getElem?_eq_getElem hj,←h1];simp
      ·rw[List.getElem?_eq_none (by simp;omega),List.getElem?_eq_none (by omega)]
     have hne:byteAV b≠[]:=by
      intro he
      have:=byteAV_length b
      rw[he]at this;simp at this;omega
     obtain⟨G',g1,g2,g3⟩:=hS.chainIn hmv hmb arr tt hF hχ hrow hokmax hne hels htake c (by rw[byteAV_length];exact hroom) hcs (by rw[hbl,byteAV_length];omega)
     simp only[Nat.mul_one,hbl]at g1 g2 g3
     exact⟨_,_,G',_,_,rfl,g1,g2,by simpa only[List.length_append,byteAV_length] using g3,hK⟩
    ·rw[Lib.run_append_grow_string (P:=P) w t u ty tt i _ hund hu hi hz ⟨bl,0,none⟩ es.length c xs (by rw[hs1];exact hl) (fun j v hj=>by rw[Addr.add_lit];exact hcell j v hj) b (by omega) (by omega) (growslice_fits (by omega) (by rw[hb1];omega))]
     obtain⟨G',h1,h2,h3⟩:=hS.chainNew w.drew hdrew rfl (hmv.append hmb) (xs.toArray++(Lib.strCells b).toArray++Builtin.zeroCells (Value.cells (.int .u8 0)) (grownCap w (es.length+b.size) c tt-(es.length+b.size))) tt (sz:=1) hels
      (fun j u hu=>by
       rw[Array.getElem?_append_left (by have:=(List.getElem?_eq_some_iff.1 hu).1;simpa using this)]
       simpa using hu) (grownCap w (es.length+b.size) c tt) (by simp[byteAV_length];exact grownCap_ge w _ c tt) (by
       have:=grownCap_ge w (es.length+b.size) c tt
       simp[size_zeroCells,hzc,hl,hbl];omega) ch (S.fr.set ch ((es++byteAV b).length,1)) (by simp[hchl]) hset hf3 (by simp) S.ty hty (fun _ _ _=>rfl)
     refine⟨_,_,G',_,_,rfl,h1,h2,?_,hK⟩
     simpa[byteAV_length] using h3
  ·obtain⟨hle,hb0,hK⟩:=h
   obtain rfl:sv=_:=hs
   rw[run_append_nil_string (P:=P) w t u ty e i _ hund hu hi hz b (by omega) (by omega) (by rw[hb1];omega)]
   obtain⟨G',h1,h2,h3⟩:=hS.chainNew w.drew hdrew rfl hmb (b.data.map (fun b=>Value.int .u8 b.toNat)++Builtin.zeroCells (Value.cells (.int .u8 0)) (grownCap w b.size 0 e-b.size)) e (sz:=1) (fun x hx=>(byteAV_els b x hx).1)
    (fun j u hu=>by
     have:(b.data.map (fun b=>Value.int .u8 b.toNat))=(Lib.strCells b).toArray:=by apply Array.ext';simp[Lib.strCells]
     rw[this,Array.getElem?_append_left (by have:=(List.getElem?_eq_some_iff.1 hu).1;simpa using this)]
     simpa using hu) (grownCap w b.size 0 e) (by simp[byteAV_length];exact grownCap_ge w b.size 0 e) (by
     have:=grownCap_ge w b.size 0 e
     simp[size_zeroCells,hzc];omega) S.fr.length (S.fr++[((byteAV b).length,1)]) (by simp) (fun j hj=>by
     by_cases hlt:j < S.fr.length
     ·rw[List.getElem?_append_left hlt]
     ·rw[List.getElem?_eq_none (by simp;omega),List.getElem?_eq_none (by omega)]) (by simp) (by simp) (updT S.ty S.fr.length e) (by simp[updT]) (fun k hk _=>by simp[updT,hk])
   refine⟨_,_,G',_,_,rfl,h1,h2,?_,hK⟩
   simpa[byteAV_length] using h3
  ·exact h.elim
 ·exact h.elim
open Go Go.RowKit
def buildSliceI (P:Program)(S:St)(t:TypeId)(z:Int)(K:AV→St→Prop):Prop:=
 match tslice P t with
 | some e=>(tsz P e=some 1∧(tzero P e).isSome=true)∧K (.vsl S.bx.length 0 1 1) (S.addB (.cells [.int .i64 z] e))
 | none=>False
theorem buildSliceI_sound {P:Program}{L:World→Prop}{w0:Orig L}{G:Gh}{S:St}{w:World}(hS:RelS w0 G S w){t:TypeId}{z:Int}{K:AV→St→Prop}(partsV:Array (Nat×Value))(hi:partsV.toList.map (·.1)=[0])
  (hv:VRs G S.fr w [.int .i64 z] (partsV.toList.map (·.2))) (h:buildSliceI P S t z K):OutK w0 G S w K ((Instr.buildSlice t 1 partsV).run P w):=by
 unfold buildSliceI at h
 split at h
 ·rename_i e hs
  obtain⟨⟨hsz,hz⟩,hK⟩:=h
  obtain⟨hl,cells,xs,h1,h2,h3,h4⟩:=buildSlice_run (G:=G) (S:=S) (parts:=[(0,.int .i64 z)]) (n:=1) (k:=0) partsV hi hv hs hsz hz (by decide) rfl (es:=[.int .i64 z]) rfl (fun x hx=>by
   rw[List.mem_singleton.1 hx];exact⟨rfl,rfl⟩)
  rw[h4]
  have hx:xs[0]? = some (.int .i64 z):=by
   obtain⟨u,us,e1,e2,_,_⟩:=h1
   obtain rfl:u=.int .i64 z:=e2
   rw[e1];rfl
  have hc:=h2 0 _ hx
  have hcs:cells=#[.int .i64 z]:=by
   apply Array.ext_getElem?
   intro j
   rcases j with _|j
   ·rw[hc];rfl
   ·rw[Array.getElem?_eq_none (by omega)];rfl
  subst hcs
  obtain⟨G',g1,g2,g3⟩:=hS.box (.cells [.int .i64 z] e) (.cells #[.int .i64 z] e) ⟨_,rfl,rfl,⟨_,_,rfl,rfl,rfl⟩⟩
  exact⟨_,_,G',_,.vsl S.bx.length 0 1 1,rfl,g1,g2,⟨w.heap.size,_,1,#[.int .i64 z],e,g3,(show(w.heap.push (Obj.cells #[.int .i64 z] e))[w.heap.size]? = _ from Array.getElem?_push_size),rfl,by omega,rfl,fun _=>rfl⟩,hK⟩
 ·exact h.elim
def litZ (n:Nat)(parts:List (Nat×Operand)):Bool:=
 match n,parts with
 | 1,[(0,.const (.int .i64 0))]=>true
 | _,_=>false
theorem litZ_eq {n:Nat}{parts:List (Nat×Operand)}(h:litZ n parts=true):n=1∧parts=[(0,.const (.int .i64 0))]:=by
 unfold litZ at h
 split at h
 ·exact⟨rfl,rfl⟩
 ·cases h
end HM
