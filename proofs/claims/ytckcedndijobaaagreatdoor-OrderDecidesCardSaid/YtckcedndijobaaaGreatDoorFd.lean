/- Regions. -/
import Derived.Test.YtckcedndijobaaaGreatDoorFc
import Derived.Still
import Derived.TacticsIn
import Derived.OrdersIn
namespace HM
open Go Go.RowKit
def Rep (F:(AV→Prop)→Prop):Prop:=∃C:AV→Prop,∀K,F K↔∃v,C v∧K v
theorem Rep.ret (v:AV):Rep (fun K=>K v):=⟨fun x=>x=v,fun _=>⟨fun h=>⟨v,rfl,h⟩,fun⟨_,e,h⟩=>e▸h⟩⟩
theorem Rep.force (v:AV):Rep (fun K=>v.force K):=by
 simp only[AV.force_eq]
 exact Rep.ret v
theorem Rep.fls:Rep (fun _=>False):=⟨fun _=>False,fun _=>⟨fun h=>h.elim,fun⟨_,h,_⟩=>h⟩⟩
theorem Rep.and {F:(AV→Prop)→Prop}(p:Prop)(h:Rep F):Rep (fun K=>p∧F K):=
 let ⟨C,hC⟩:=h
 ⟨fun v=>p∧C v,fun K=>⟨fun⟨hp,hf⟩=>let ⟨v,h1,h2⟩:=(hC K).1 hf;⟨v,⟨hp,h1⟩,h2⟩,fun⟨v,⟨hp,h1⟩,h2⟩=>⟨hp,(hC K).2 ⟨v,h1,h2⟩⟩⟩⟩
theorem Rep.br {F F':(AV→Prop)→Prop}(b:Bool)(h:Rep F)(h':Rep F'):Rep (fun K=>BrK b (F K) (F' K)):=by
 cases b
 ·simpa[BrK] using h'
 ·simpa[BrK] using h
theorem Rep.ld (P:Program)(t:TypeId)(cs:List AV)(off:Nat):Rep (fun K=>ldCells P t cs off K):=by
 unfold ldCells
 repeat' (first|exact Rep.fls|exact Rep.ret _|exact Rep.force _|refine Rep.and _ ?_|split)
theorem Rep.int (op:BinOp)(k:IntKind)(a:Int)(k':IntKind)(b:Int):Rep (fun K=>intK op k a k' b K):=by
 unfold intK
 cases op<;>simp only<;>repeat' (first|exact Rep.fls|exact Rep.ret _|exact Rep.force _|refine Rep.and _ ?_)
theorem Rep.bin (P:Program)(op:BinOp)(t:TypeId)(x y:AV):Rep (fun K=>binK P op t x y K):=by
 unfold binK
 repeat' (first|exact Rep.fls|exact Rep.ret _|exact Rep.force _|exact Rep.int _ _ _ _ _|refine Rep.and _ ?_|split)
theorem Rep.un (op:UnOp)(x:AV):Rep (fun K=>unK op x K):=by
 unfold unK
 repeat' (first|exact Rep.fls|exact Rep.ret _|exact Rep.force _|refine Rep.and _ ?_|split)
theorem Rep.fieldAddr (P:Program)(s:TypeId)(x:AV)(f:Nat):Rep (fun K=>fieldAddrK P s x f K):=by
 unfold fieldAddrK
 repeat' (first|exact Rep.fls|exact Rep.ret _|exact Rep.force _|refine Rep.and _ ?_|split)
theorem Rep.indexAddr (P:Program)(t:TypeId)(x i:AV):Rep (fun K=>indexAddrK P t x i K):=by
 unfold indexAddrK
 repeat' (first|exact Rep.fls|exact Rep.ret _|exact Rep.force _|refine Rep.and _ ?_|split)
theorem Rep.extract (x:AV)(i:Nat):Rep (fun K=>extractK x i K):=by
 unfold extractK
 repeat' (first|exact Rep.fls|exact Rep.ret _|exact Rep.force _|refine Rep.and _ ?_|split)
theorem Rep.makeFunc (fn:Fn)(x y:List AV):Rep (fun K=>makeFuncK fn x y K):=by
 unfold makeFuncK
 repeat' (first|exact Rep.fls|exact Rep.ret _|exact Rep.force _|refine Rep.and _ ?_|split)
theorem Rep.build (P:Program)(t:TypeId)(parts:List (Nat×AV)):Rep (fun K=>buildK P t parts K):=by
 unfold buildK
 repeat' (first|exact Rep.fls|exact Rep.ret _|exact Rep.force _|refine Rep.and _ ?_|split)
theorem Rep.buildSlice (P:Program)(t:TypeId)(n:Nat)(parts:List (Nat×AV)):Rep (fun K=>buildSliceK P t n parts K):=by
 unfold buildSliceK
 repeat' (first|exact Rep.fls|exact Rep.ret _|exact Rep.force _|refine Rep.and _ ?_|split)
theorem Rep.slice (P:Program)(S:St)(t:TypeId)(x:AV)(lo hi:Option AV):Rep (fun K=>sliceK P S t x lo hi K):=by
 unfold sliceK sliceV sliceK0
 repeat' (first|exact Rep.fls|exact Rep.ret _|exact Rep.force _|refine Rep.and _ ?_|split)
theorem Rep.field (P:Program)(t:TypeId)(x:AV)(f:Nat):Rep (fun K=>fieldK P t x f K):=by
 unfold fieldK
 repeat' (first|exact Rep.fls|exact Rep.ret _|exact Rep.force _|exact Rep.ld _ _ _ _|refine Rep.and _ ?_|split)
theorem Rep.len (P:Program)(t:TypeId)(x:AV):Rep (fun K=>lenK P t x K):=by
 unfold lenK
 repeat' (first|exact Rep.fls|exact Rep.ret _|exact Rep.force _|refine Rep.and _ ?_|split)
theorem Rep.conv (P:Program)(S:St)(src dst:TypeId)(x:AV):Rep (fun K=>convK P S src dst x K):=by
 unfold convK
 repeat' (first|exact Rep.fls|exact Rep.ret _|exact Rep.force _|refine Rep.and _ ?_|split)
theorem Rep.opt {FA:AV→(AV→Prop)→Prop}{FB:(AV→Prop)→Prop}(o:Option AV)(hA:∀v,Rep (FA v))(hB:Rep FB):Rep (fun K=>OptK o (fun v=>FA v K) (FB K)):=by
 cases o with
 | none=>exact hB
 | some v=>exact hA v
theorem Rep.lkOut (c:Bool)(v:AV)(ok:Bool):Rep (fun K=>lkOut c v ok K):=by
 cases c
 ·exact Rep.force _
 ·exact Rep.ret _
theorem Rep.lookup (P:Program)(S:St)(t:TypeId)(m k:AV)(c:Bool):Rep (fun K=>lookupK P S t m k c K):=by
 unfold lookupK
 repeat' (first|exact Rep.fls|exact Rep.opt _ (fun _=>Rep.lkOut _ _ _) (Rep.lkOut _ _ _)|split)
theorem Rep.lenMap (S:St)(m:AV):Rep (fun K=>lenMapK S m K):=by
 unfold lenMapK
 repeat' (first|exact Rep.fls|exact Rep.ret _|split)
theorem Rep.index (P:Program)(t:TypeId)(x i:AV):Rep (fun K=>indexK P t x i K):=by
 unfold indexK
 repeat' (first|exact Rep.fls|exact Rep.ret _|exact Rep.force _|exact Rep.ld _ _ _ _|refine Rep.and _ ?_|split)
theorem Rep.call (P:Program)(L:World→Prop)(S:St)(f:AV)(args:List AV):Rep (fun K=>CallP P L S f args K):=by
 refine⟨fun r=>CallP P L S f args (fun r'=>r'=r),fun K=>⟨fun h=>?_,fun h=>?_⟩⟩
 ·obtain⟨g,caps,fargs,r,h1,h2,h3,h4,h5⟩:=h.out
  exact⟨r,⟨⟨g,caps,fargs,r,h1,h2,h3,h4,rfl⟩⟩,h5⟩
 ·obtain⟨v,⟨⟨g,caps,fargs,r,h1,h2,h3,h4,rfl⟩⟩,h5⟩:=h
  exact⟨⟨g,caps,fargs,r,h1,h2,h3,h4,h5⟩⟩
def pureOp:Op→Bool
 | .move _=>true
 | .assign _=>true
 | .pick _ _ _=>true
 | .build _ _=>true
 | .buildSlice _ _ _=>true
 | .load _ _=>true
 | .binOp _ _ _ y _=>!isNilC y
 | .unOp _ _ _=>true
 | .nilCheck _=>true
 | .makeFunc _ _ _=>true
 | .slice _ _ _ _ _=>true
 | .fieldAddr _ _ _=>true
 | .field _ _ _=>true
 | .indexAddr _ _ _=>true
 | .extract _ _=>true
 | .convert _ _ _=>true
 | .index _ _ _=>true
 | .lookup _ _ _ _=>true
 | .call {callee:=.value _,args:=_,argTypes:=_}=>true
 | .call {callee:=.builtin .len,args:=_,argTypes:=_}=>true
 | .call {callee:=.builtin .min,args:=_,argTypes:=_}=>true
 | .call {callee:=.builtin .max,args:=_,argTypes:=_}=>true
 | _=>false
theorem Rep.of {S:St}{F:(AV→St→Prop)→Prop}{F':(AV→Prop)→Prop}(h:Rep F')(he:∀K,F K=F' (fun v=>K v S)):∃C:AV→Prop,∀K,F K↔∃v,C v∧K v S:=by
 obtain⟨C,hC⟩:=h
 exact⟨C,fun K=>by rw[he];exact hC _⟩
theorem OpK_rep {P:Program}{L:World→Prop}{a:Nat→AV}{S:St}{o:Oper}(hp:pureOp o.op=true):∃C:AV→Prop,∀K,OpK P L true a S o K↔∃v,C v∧K v S:=by
 obtain⟨dst,op,type,pos,after,guard⟩:=o
 cases op<;>simp only[pureOp,Bool.false_eq_true]at hp<;>simp only[OpK]
 case move x=>exact Rep.of (Rep.force _) fun _=>rfl
 case assign x=>exact Rep.of (Rep.force _) fun _=>rfl
 case pick c x y=>
  split
  ·exact Rep.of (Rep.br _ (Rep.force _) (Rep.force _)) fun _=>rfl
  ·exact Rep.of Rep.fls fun _=>rfl
 case build t parts=>exact Rep.of (Rep.build P t _) fun _=>rfl
 case buildSlice t n parts=>exact Rep.of (Rep.buildSlice P t n _) fun _=>rfl
 case load t x=>
  unfold opLoad
  repeat' (first|exact Rep.of Rep.fls (fun _=>rfl)|exact Rep.of (Rep.ld _ _ _ _) (fun _=>rfl)|split)
 case nilCheck x=>exact Rep.of (Rep.and _ (Rep.ret _)) fun _=>rfl
 case binOp op t x y yt=>
  have hy:isNilC y=false:=by simpa using hp
  simp only[hy]
  exact Rep.of (Rep.bin P op t _ _) fun _=>rfl
 case unOp op t x=>exact Rep.of (Rep.un op _) fun _=>rfl
 case makeFunc fn first caps=>exact Rep.of (Rep.makeFunc fn _ _) fun _=>rfl
 case slice t x lo hi mx=>
  cases mx with
  | some m=>
   cases lo with
   | none=>exact Rep.of Rep.fls fun _=>rfl
   | some lo=>
    cases hi with
    | none=>exact Rep.of Rep.fls fun _=>rfl
    | some hi=>
     simp only[slice3K]
     split
     ·exact Rep.of (Rep.and _ (Rep.ret _)) fun _=>rfl
     ·exact Rep.of Rep.fls fun _=>rfl
  | none=>exact Rep.of (Rep.slice P S t _ _ _) fun _=>rfl
 case fieldAddr s x f=>exact Rep.of (Rep.fieldAddr P s _ f) fun _=>rfl
 case field t x f=>exact Rep.of (Rep.field P t _ f) fun _=>rfl
 case indexAddr t x i=>exact Rep.of (Rep.indexAddr P t _ _) fun _=>rfl
 case extract x i=>exact Rep.of (Rep.extract _ i) fun _=>rfl
 case convert src dst x=>exact Rep.of (Rep.conv P S src dst _) fun _=>rfl
 case index t x i=>exact Rep.of (Rep.index P t _ _) fun _=>rfl
 case lookup t x i c=>exact Rep.of (Rep.lookup P S t _ _ c) fun _=>rfl
 case call c=>
  obtain⟨callee,args,argTypes⟩:=c
  cases callee with
  | value f=>exact Rep.of (Rep.call P L S _ _) fun _=>rfl
  | invoke r m=>simp at hp
  | builtin b=>
   cases b<;>simp at hp<;>simp only[builtinK]
   all_goals
    split
    all_goals first
     | exact Rep.of Rep.fls (fun _=>rfl)
     | exact Rep.of (Rep.len P _ _) (fun _=>rfl)
     | exact Rep.of (Rep.and _ (Rep.lenMap S _)) (fun _=>rfl)
     | exact Rep.of (Rep.and _ (Rep.ret _)) (fun _=>rfl)
     | (rename_i h _ _;cases h)
     | simp_all
theorem OpK_congr {P:Program}{L:World→Prop}{d:Bool}{a a':Nat→AV}{S:St}{o:Oper}{K:AV→St→Prop}(h:∀x∈o.op.operands,evO a x=evO a' x)(hk:OpK P L d a S o K):OpK P L d a' S o K:=by
 obtain⟨dst,op,type,pos,after,guard⟩:=o
 have maps:∀xs:Array Operand,(∀x∈xs,evO a x=evO a' x)→xs.toList.map (evO a)=xs.toList.map (evO a'):=fun xs hx=>
  List.map_congr_left fun x hm=>hx x (by simpa using hm)
 have pairs:∀ps:Array (Nat×Operand),(∀x∈(ps.toList.map (·.2)).toArray,evO a x=evO a' x)→(ps.toList.map fun p=>(p.1,evO a p.2))=ps.toList.map fun p=>(p.1,evO a' p.2):=fun ps hp=>
  List.map_congr_left fun p hm=>by rw[hp p.2 (by simp;exact⟨p.1,by simpa using hm⟩)]
 cases op<;>simp only[Op.operands]at h<;>simp only[OpK]at hk ⊢
 case move x=>rwa [←h x (by simp)]
 case assign x=>rwa [←h x (by simp)]
 case pick c x y=>rwa [←h c (by simp),←h x (by simp),←h y (by simp)]
 case alloc t=>exact hk
 case box t x=>rwa [←h x (by simp)]
 case build t parts=>rwa [←pairs parts h]
 case buildSlice t n parts=>cases d<;>simp only at hk ⊢<;>(try split)<;>(try simp only[*]at hk)<;>(try rw[←pairs parts h])<;>assumption
 case load t x=>rwa [←h x (by simp)]
 case store t x v=>rwa [←h x (by simp),←h v (by simp)]
 case binOp op t x y yt=>rwa [←h x (by simp),←h y (by simp)]
 case unOp op t x=>rwa [←h x (by simp)]
 case nilCheck x=>rwa [←h x (by simp)]
 case makeFunc fn first caps=>rwa [←maps first fun x hx=>h x (by simp[hx]),←maps caps fun x hx=>h x (by simp[hx])]
 case slice t x lo hi mx=>
  cases mx with
  | some m=>
   cases lo with
   | none=>exact hk
   | some lo=>
    cases hi with
    | none=>exact hk
    | some hi=>
     simp only at hk ⊢
     rwa [←h x (by simp),←h lo (by simp),←h hi (by simp),←h m (by simp)]
  | none=>
   have e1:lo.map (evO a)=lo.map (evO a'):=by cases lo<;>simp;exact h _ (by simp)
   have e2:hi.map (evO a)=hi.map (evO a'):=by cases hi<;>simp;exact h _ (by simp)
   simp only at hk ⊢
   rwa [←h x (by simp),←e1,←e2]
 case fieldAddr s x f=>rwa [←h x (by simp)]
 case field t x f=>rwa [←h x (by simp)]
 case indexAddr t x i=>rwa [←h x (by simp),←h i (by simp)]
 case extract x i=>rwa [←h x (by simp)]
 case convert src dst x=>rwa [←h x (by simp)]
 case index t x i=>rwa [←h x (by simp),←h i (by simp)]
 case lookup t x i c=>rwa [←h x (by simp),←h i (by simp)]
 case makeMap t r=>
  cases r with
  | none=>exact hk
  | some _=>exact hk
 case mapUpdate t m k v=>rwa [←h m (by simp),←h k (by simp),←h v (by simp)]
 case insert t m k v=>rwa [←h m (by simp),←h k (by simp),←h v (by simp)]
 case mapEntry t m k=>rwa [←h m (by simp),←h k (by simp)]
 case entryStore t m k v=>rwa [←h m (by simp),←h k (by simp),←h v (by simp)]
 case range t x=>rwa [←h x (by simp)]
 case next x s=>
  cases s with
  | true=>exact hk
  | false=>
   simp only at hk ⊢
   rwa [←h x (by simp)]
 case entry x=>rwa [←h x (by simp)]
 case makeSlice t l c=>rwa [←h l (by simp),←h c (by simp)]
 case call c=>
  obtain⟨callee,args,argTypes⟩:=c
  cases callee with
  | value f=>
   simp only[Call.operands]at h
   simp only at hk ⊢
   cases d<;>simp only at hk ⊢<;>rwa [←h f (by simp),←maps args fun x hx=>h x (by simp[hx])]
  | invoke r m=>exact hk
  | builtin b=>
   simp only[Call.operands]at h
   simp only at hk ⊢
   rwa [←maps args fun x hx=>h x (by simp[hx])]
def gdK (ops:Array Oper)(a:Nat→AV)(o:Oper)(A B:Prop):Prop:=
 match o.guard with
 | none=>A
 | some (j,want)=>match (ops[j]?).bind (·.dst) with
  | some d=>match a d with
   | .bool b=>match want with
    | true=>BrK b A B
    | false=>BrK b B A
   | .tup []=>B
   | _=>False
  | none=>False
def twOps (P:Program)(L:World→Prop)(d:Bool)(ops:Array Oper):List Oper→(Nat→AV)→St→((Nat→AV)→St→Prop)→Prop
 | [],a,S,K=>K a S
 | o :: rest,a,S,K=>gdK ops a o (OpK P L d a S o fun v S'=>twOps P L d ops rest (updo a o.dst v) S' K) (twOps P L d ops rest (updo a o.dst (.tup [])) S K)
def regOk (nt:Nat)(ops:Array Oper):Bool:=ops.toList.all fun o=>match o.dst with
 | some d=>decide (d < nt)
 | none=>true
theorem regOk_spec {nt:Nat}{ops:Array Oper}(h:regOk nt ops=true):∀o∈ops.toList,∀t,o.dst=some t→t < nt:=by
 intro o ho t ht
 have:=List.all_eq_true.1 h o ho
 simpa[ht] using this
theorem gdK_wanted {lo:Nat×Option Nat}{ops:Array Oper}{a:Nat→AV}{o:Oper}{A B:Prop}{G:Gh}{fr:Frs}{w:World}{nt:Nat}{act:Act}(hT:RelT lo G fr w nt a act)(hreg:regOk nt ops=true)(h:gdK ops a o A B) :
  (Region.wanted o (yielded ops act.tmps)=true∧A)∨(Region.wanted o (yielded ops act.tmps)=false∧B):=by
 unfold gdK at h
 split at h
 ·rename_i hg
  exact .inl ⟨by simp[Region.wanted,hg],h⟩
 ·rename_i j want hg
  split at h
  ·rename_i d hd
   split at h
   ·rename_i b hb
    have hv:=hT.2.2.2 d
    rw[hb]at hv
    obtain hv:act.tmps.getD d undef=.bool b:=hv
    have hlt:d < act.tmps.size:=by
     rw[hT.1]
     simp only[Option.bind_eq_some_iff]at hd
     obtain⟨o',ho',hd'⟩:=hd
     exact regOk_spec hreg o' (List.mem_of_getElem? (by simpa using ho')) d hd'
    have hy:yielded ops act.tmps j=some b:=by
     simp only[yielded,hd,Option.bind_some]
     rw[Array.getD_eq_getD_getElem?,Array.getElem?_eq_getElem hlt]at hv
     simp at hv
     simp[hlt,hv]
    have hw:Region.wanted o (yielded ops act.tmps)=(b==want):=by
     simp[Region.wanted,hg,hy]
    rw[hw]
    cases b<;>cases want
    ·exact .inl ⟨rfl,h⟩
    ·exact .inr ⟨rfl,h⟩
    ·exact .inr ⟨rfl,h⟩
    ·exact .inl ⟨rfl,h⟩
   ·rename_i hb
    have hv:=hT.2.2.2 d
    rw[hb]at hv
    obtain⟨vs,hv,hvs⟩:=hv
    have hvs:vs.toList=[]:=hvs
    have hvs:vs=#[]:=by simpa using hvs
    subst hvs
    have hy:yielded ops act.tmps j=none:=by
     simp only[yielded,hd,Option.bind_some]
     rw[Array.getD_eq_getD_getElem?]at hv
     cases hh:act.tmps[d]? with
     | none=>rfl
     | some u=>
      rw[hh]at hv
      simp at hv
      subst hv
      rfl
    exact .inr ⟨by simp[Region.wanted,hg,hy],h⟩
   ·exact h.elim
  ·exact h.elim
theorem wpIn_mono1 {P:Program}{F:Fence}{n:Nat}{o:Oper}{act:Act}{w:World}{next next':Act→World→Prop}{Q:Exit→Act→World→Prop}(h:o.wpIn F n P act w next Q)(hn:∀act w,next act w→next' act w):o.wpIn F n P act w next' Q:=
 Oper.wpIn_mono hn h
theorem twOps_sound {P:Program}{ro:Option Nat}{d:Bool}{ops:Array Oper}{nt:Nat}(hreg:regOk nt ops=true){L:World→Prop}{w0:Orig L}{K:(Nat→AV)→St→Prop}{Q:Exit→Act→World→Prop}(hQ:∀G a S act w,Rel w0 G S nt a act w→K a S→Q .normal act w) :
  ∀(l:List Oper) (a:Nat→AV) (S:St) (G:Gh) (act:Act) (w:World),(∀o∈l,o∈ops.toList)→Rel w0 G S nt a act w→twOps P L d ops l a S K→wpListIn (FW ro) 0 P ops Q l act w
 | [],a,S,G,act,w,_,hR,h=>hQ G a S act w hR h
 | o :: rest,a,S,G,act,w,hl,hR,h=>by
  have hd:∀t,o.dst=some t→t < nt:=regOk_spec hreg o (hl o (by simp))
  unfold wpListIn
  rcases gdK_wanted hR.2 hreg h with ⟨hw,h⟩|⟨hw,h⟩
  ·rw[if_pos hw]
   refine wpIn_mono1 (OpK_sound (ro:=ro) Q hR.1 hR.2 hd h) fun act' w' ⟨G',S',e,h1,_,h3,h4⟩=>?_
   exact twOps_sound hreg hQ rest _ S' G' act' w' (fun o ho=>hl o (by simp[ho])) ⟨h1,h3⟩ h4
  ·rw[if_neg (by simp[hw])]
   exact⟨fun _ _=>trivial,twOps_sound hreg hQ rest _ S G _ w (fun o ho=>hl o (by simp[ho])) ⟨hR.1,hR.2.put hd (e:=.tup []) ⟨#[],rfl,rfl⟩⟩ h⟩
def tmpsOf (o:Oper):List Tmp:=o.op.operands.toList.filterMap fun
 | .tmp t=>some t
 | _=>none
structure More (S S2:St):Prop where
 bx:∀(id:Nat) (o:Ob),S.bx[id]? = some o→o.isDead=false→S2.bx[id]? = some o
 fr:S2.fr=S.fr
mutual
theorem fzb_more {S S2:St}(h:More S S2):∀(e:AV) {e':AV},fzb S e=some e'→fzb S2 e=some e'
 | .ptr id off,e',he=>by
  simp only[fzb]at he ⊢
  split at he
  ·rename_i cs t hb
   rw[h.bx id _ hb rfl];exact he
  ·cases he
 | .bsl id off n sz,e',he=>by
  simp only[fzb]at he ⊢
  split at he
  ·rename_i cs t hb
   rw[h.bx id _ hb rfl];exact he
  ·cases he
 | .vsl id off n sz,e',he=>by
  simp only[fzb]at he ⊢
  split at he
  ·rename_i cs t hb
   rw[h.bx id _ hb rfl];exact he
  ·cases he
 | .fn f caps,e',he=>by
  simp only[fzb,Option.map_eq_some_iff]at he ⊢
  obtain⟨x,h1,h2⟩:=he
  exact⟨x,fzbs_more h caps h1,h2⟩
 | .agg cs,e',he=>by
  simp only[fzb,Option.map_eq_some_iff]at he ⊢
  obtain⟨x,h1,h2⟩:=he
  exact⟨x,fzbs_more h cs h1,h2⟩
 | .tup cs,e',he=>by
  simp only[fzb,Option.map_eq_some_iff]at he ⊢
  obtain⟨x,h1,h2⟩:=he
  exact⟨x,fzbs_more h cs h1,h2⟩
 | .int _ _,_,he=>he
 | .bool _,_,he=>he
 | .str _,_,he=>he
 | .nils,_,he=>he
 | .nilp,_,he=>he
 | .nili,_,he=>he
 | .nilm,_,he=>he
 | .yld _,_,he=>by simp[fzb]at he
 | .mp id,e',he=>by
  simp only[fzb]at he ⊢
  split at he
  ·rename_i sh ks vs hb
   rw[h.bx id _ hb rfl]
   exact he
  ·cases he
 | .cmp _ _ _,_,he=>he
 | .sl _ _,_,he=>he
 | .own _ _,_,he=>he
 | .grown _ _,_,he=>by simp[fzb]at he
 | .cptr _ _,_,he=>he
 | .undef,_,he=>by simp[fzb]at he
theorem fzbs_more {S S2:St}(h:More S S2):∀(es:List AV) {es':List AV},fzbs S es=some es'→fzbs S2 es=some es'
 | [],_,he=>he
 | e :: es,es',he=>by
  simp only[fzbs]at he ⊢
  split at he
  ·rename_i x y h1 h2
   rw[fzb_more h e h1,fzbs_more h es h2];exact he
  ·cases he
end
theorem CallP.more {P:Program}{L:World→Prop}{S S2:St}(hm:More S S2){f:AV}{args:List AV}{K:AV→Prop}(h:CallP P L S f args K):CallP P L S2 f args K:=by
 obtain⟨g,caps,fargs,r,h1,h2,h3⟩:=h.out
 exact⟨⟨g,caps,fargs,r,h1,h2.imp id fun h2=>⟨fzbs_more hm _ h2.1,h2.2⟩,h3⟩⟩
theorem mapOf_more {S S2:St}(hm:More S S2){sh:Option Nat}{m:AV}{x:List (List Int)×List AV}(h:mapOfL S sh m=some x):mapOfL S2 sh m=some x:=by
 unfold mapOfL at h ⊢
 split at h
 ·split at h
  ·rename_i hb
   rw[hm.bx _ _ hb rfl]
   exact h
  ·rename_i hb
   rw[hm.bx _ _ hb rfl]
   exact h
  ·cases h
 ·exact h
 ·exact h
 ·cases h
theorem lenMap_more {S S2:St}(hm:More S S2){m:AV}{K:AV→Prop}(h:lenMapK S m K):lenMapK S2 m K:=by
 unfold lenMapK at h ⊢
 split at h
 ·split at h
  ·rename_i hb
   rw[hm.bx _ _ hb rfl]
   exact h
  ·exact h.elim
 ·exact h
 ·exact h.elim
theorem OpK_more' {P:Program}{L:World→Prop}{a:Nat→AV}{S S2:St}(hm:More S S2){o:Oper}(hp:pureOp o.op=true){K:AV→Prop}(h:OpK P L true a S o fun v _=>K v):OpK P L true a S2 o fun v _=>K v:=by
 obtain⟨dst,op,type,pos,after,guard⟩:=o
 cases op<;>simp only[pureOp,Bool.false_eq_true]at hp<;>simp only[OpK]at h ⊢
 case load t x=>
  unfold opLoad at h ⊢
  split at h
  ·split at h
   ·rename_i hb
    simp only[hm.bx _ _ hb rfl]
    exact h
   ·exact h.elim
  ·exact h
  ·exact h.elim
 case slice t x lo hi mx=>
  cases mx with
  | some m=>
   cases lo with
   | none=>exact h.elim
   | some lo=>
    cases hi with
    | none=>exact h.elim
    | some hi=>exact h
  | none=>
   simp only at h ⊢
   unfold sliceK at h ⊢
   split at h
   ·exact h
   split at h
   ·have up:∀id off sz k,upTo? S id off sz k→upTo? S2 id off sz k:=fun id off sz k hh=>by
     unfold upTo? at hh ⊢
     split at hh
     ·rename_i hb
      rw[hm.bx _ _ hb rfl];exact hh
     ·exact hh.elim
    unfold sliceV at h ⊢
    split at h
    ·obtain⟨h1,h2⟩:=h
     refine⟨h1,?_⟩
     split at h2
     ·exact h2
     ·exact h2
     ·exact⟨⟨h2.1.1,up _ _ _ _ h2.1.2⟩,h2.2⟩
     ·exact⟨⟨h2.1.1,up _ _ _ _ h2.1.2⟩,h2.2⟩
     ·exact h2.elim
    ·exact h.elim
   ·have up:∀id off sz k,upTo? S id off sz k→upTo? S2 id off sz k:=fun id off sz k hh=>by
     unfold upTo? at hh ⊢
     split at hh
     ·rename_i hb
      rw[hm.bx _ _ hb rfl];exact hh
     ·exact hh.elim
    obtain⟨hx,h⟩:=h
    refine⟨?_,?_⟩
    ·unfold exactB at hx ⊢
     split at hx
     ·rename_i hb
      rw[hm.bx _ _ hb rfl];exact hx
     ·exact hx.elim
    unfold sliceV at h ⊢
    split at h
    ·obtain⟨h1,h2⟩:=h
     refine⟨h1,?_⟩
     split at h2
     ·exact h2
     ·exact h2
     ·exact⟨⟨h2.1.1,up _ _ _ _ h2.1.2⟩,h2.2⟩
     ·exact⟨⟨h2.1.1,up _ _ _ _ h2.1.2⟩,h2.2⟩
     ·exact h2.elim
    ·exact h.elim
   ·unfold sliceK0 at h ⊢
    split at h
    ·split at h
     ·split at h
      ·rename_i hb
       rw[hm.bx _ _ hb rfl]
       exact h
      ·exact h.elim
     ·exact h.elim
    ·exact h
    ·exact h.elim
 case convert src dst x=>
  unfold convK at h ⊢
  split at h
  ·exact h
  ·split at h
   ·rename_i hb
    rw[hm.bx _ _ hb rfl]
    exact h
   ·exact h.elim
  ·exact h.elim
 case lookup t x i c=>
  unfold lookupK at h ⊢
  split at h
  ·split at h
   ·rename_i h1 h2 h3
    rw[mapOf_more hm h2,h1,h3]
    exact h
   ·exact h.elim
  ·exact h.elim
 case call c=>
  obtain⟨callee,args,argTypes⟩:=c
  cases callee with
  | value f=>
   simp only at h ⊢
   exact h.more hm
  | invoke r m=>simp at hp
  | builtin b=>
   simp only at h ⊢
   cases b<;>simp at hp
   ·unfold builtinK at h ⊢
    split at h<;>first|exact h.elim|exact⟨h.1,lenMap_more hm h.2⟩|exact h|(rename_i hh _ _;cases hh)|skip
    all_goals(rename_i hh _ _ _;cases hh)
   ·unfold builtinK at h ⊢
    split at h<;>first|exact h.elim|exact h|(rename_i hh _ _;cases hh)|skip
    all_goals(rename_i hh _ _ _;cases hh)
   ·unfold builtinK at h ⊢
    split at h<;>first|exact h.elim|exact h|(rename_i hh _ _;cases hh)|skip
    all_goals(rename_i hh _ _ _;cases hh)
 all_goals exact h
theorem OpK_more {P:Program}{L:World→Prop}{a:Nat→AV}{S S2:St}(hm:More S S2){o:Oper}(hp:pureOp o.op=true){v:AV}(h:OpK P L true a S o fun v' S'=>v'=v∧S'=S):OpK P L true a S2 o fun v' S'=>v'=v∧S'=S2:=by
 obtain⟨C,hC⟩:=OpK_rep (P:=P) (L:=L) (a:=a) (S:=S) hp
 obtain⟨v',h1,h2,_⟩:=(hC _).1 h
 have h3:=OpK_more' (P:=P) (L:=L) hm hp (K:=fun x=>x=v) ((hC _).2 ⟨v',h1,h2⟩)
 obtain⟨C2,hC2⟩:=OpK_rep (P:=P) (L:=L) (a:=a) (S:=S2) hp
 obtain⟨v2,g1,g2⟩:=(hC2 _).1 h3
 exact(hC2 _).2 ⟨v2,g1,g2,rfl⟩
def Good (P:Program)(L:World→Prop)(all:Array Oper)(S:St)(a:Nat→AV)(o:Oper)(v:AV):Prop:=
 gdK all a o (OpK P L true a S o fun v' S'=>v'=v∧S'=S) (v=.tup [])
theorem gdK_split {all:Array Oper}{a:Nat→AV}{o:Oper}{A B:Prop}(h:gdK all a o A B):((∀A' B':Prop,A'→gdK all a o A' B')∧A)∨((∀A' B':Prop,B'→gdK all a o A' B')∧B):=by
 unfold gdK at h ⊢
 cases hg:o.guard with
 | none=>simp only[hg]at h ⊢;exact .inl ⟨fun _ _ h=>h,h⟩
 | some jw=>
  obtain⟨j,want⟩:=jw
  simp only[hg]at h ⊢
  cases hd:(all[j]?).bind (·.dst) with
  | none=>simp only[hd]at h
  | some d=>
   simp only[hd]at h ⊢
   cases ha:a d with
   | bool b=>
    simp only[ha]at h ⊢
    cases b<;>cases want
    ·exact .inl ⟨fun _ _ h=>h,h⟩
    ·exact .inr ⟨fun _ _ h=>h,h⟩
    ·exact .inr ⟨fun _ _ h=>h,h⟩
    ·exact .inl ⟨fun _ _ h=>h,h⟩
   | tup vs=>
    cases vs with
    | nil=>simp only[ha]at h ⊢;exact .inr ⟨fun _ _ h=>h,h⟩
    | cons _ _=>simp only[ha]at h
   | _=>simp only[ha]at h
open Go Go.RowKit
theorem RelS.addHoles {L:World→Prop}{w0:Orig L}{G:Gh}{S:St}{w:World}(h:RelS w0 G S w)(n:Nat):RelS w0 G {S with bx:=S.bx++List.replicate n .hole} w:=by
 have hl:∀id,({S with bx:=S.bx++List.replicate n .hole}:St).live id→S.live id:=by
  rintro id ⟨o,h1,h2⟩
  rcases Nat.lt_or_ge id S.bx.length with hlt|hge
  ·exact⟨o,by simpa[List.getElem?_append_left hlt] using h1,h2⟩
  ·simp only[List.getElem?_append_right hge]at h1
   have:=List.mem_of_getElem? h1
   simp at this
   rw[this.2]at h2;cases h2
 obtain⟨n1,n2,n3,n4,n5⟩:=h.n0
 refine⟨h.below,h.bsz,h.dn,h.ob,h.kp,⟨n1,n2,by simp;omega,n4,n5⟩,fun id o hx hd=>?_,fun id id' b l1 l2=>h.ri id id' b (hl _ l1) (hl _ l2),fun id b hr=>?_,fun c F z hF=>⟨(h.ch c F z hF).1,fun b hb=>?_⟩,fun id hx=>?_⟩
 ·obtain⟨o',h1,h2⟩:=hl id ⟨o,hx,hd⟩
  have hlt:=(List.getElem?_eq_some_iff.1 h1).1
  simp only[List.getElem?_append_left hlt]at hx
  exact h.bx id o hx hd
 ·obtain⟨h1,h2,h3,h4⟩:=h.rd id b hr
  exact⟨by simp;omega,h2,h3,fun l=>h4 (hl _ l)⟩
 ·obtain⟨h1,h2,h3,h4⟩:=(h.ch c F z hF).2 b hb
  exact⟨h1,h2,fun id=>h3 id,h4⟩
 ·rcases Nat.lt_or_ge id S.bx.length with hlt|hge
  ·simp only[List.getElem?_append_left hlt]at hx
   exact h.hl id hx
  ·cases hr:G.ρ id with
   | none=>rfl
   | some b=>have:=(h.rd id b hr).1;omega
theorem RelS.revive {L:World→Prop}{w0:Orig L}{G:Gh}{S:St}{w:World}(h:RelS w0 G S w){id0:Nat}(hd0:S.bx[id0]? = some .hole)(o:Ob)(ob:Obj)(hv:OR G S.fr w o ob) :
  ∃G',RelS w0 G' {S with bx:=S.bx.set id0 o} (w.alloc ob)∧KeepD G S.fr w G' S.fr (w.alloc ob)∧G'.ρ id0=some w.heap.size∧∀id,id≠id0→G'.ρ id=G.ρ id:=by
 have hn0:=h.hl id0 hd0
 have hb:Below w.heap.size w (w.alloc ob):=(Below.refl _ _).alloc (Nat.le_refl _) _
 have hlt0:=(List.getElem?_eq_some_iff.1 hd0).1
 have hk:KeepD G S.fr w {G with ok:=fun b e=>if b=w.heap.size then e=0 else G.ok b e,ρ:=fun id=>if id=id0 then some w.heap.size else G.ρ id} S.fr (w.alloc ob):=
  KeepD.of_below h.dn hb h.chlt _ (fun b _ hlt=>by simp[Nat.ne_of_lt hlt]) _ (fun id b hr=>by
   have hne:id≠id0:=by rintro rfl;rw[hn0]at hr;cases hr
   simp[hne,hr])
 have hl:∀id,({S with bx:=S.bx.set id0 o}:St).live id→id≠id0→S.live id:=fun id l hne=>live_set l hne
 refine⟨{G with ok:=fun b e=>if b=w.heap.size then e=0 else G.ok b e,ρ:=fun id=>if id=id0 then some w.heap.size else G.ρ id},⟨h.below.trans (hb.mono h.bsz),Nat.le_trans h.bsz hb.size,fun b e e' he hh=>?_,fun b e hb hh=>h.ob b e hb (by dsimp only at hh;rw[if_neg (Nat.ne_of_lt (Nat.lt_of_lt_of_le hb h.bsz))]at hh;exact hh),h.kp.trans hk,?_,fun id o' hx hd=>?_,fun id id' b l1 l2 h1 h2=>?_,fun id b hr=>?_,fun c F z hF=>⟨(h.ch c F z hF).1,fun b hc=>?_⟩,fun id hx=>?_⟩,hk,by simp,fun id hne=>by simp[hne]⟩
 ·dsimp only at hh ⊢
  split at hh
  ·rename_i e;simp[e];omega
  ·rename_i e;simp[e];exact h.dn _ _ _ he hh
 ·obtain⟨n1,n2,n3,n4,n5⟩:=h.n0
  exact⟨n1,n2,by simpa using n3,n4,n5⟩
 ·by_cases hid:id=id0
  ·subst hid
   simp[hlt0]at hx
   subst hx
   exact⟨w.heap.size,ob,by simp,heap_alloc_new w _,hv.keep hk.toKeep⟩
  ·simp only[List.getElem?_set_ne (fun hh=>hid hh.symm)]at hx
   obtain⟨b,ob',hr,hheap,hv'⟩:=h.bx id o' hx hd
   exact⟨b,ob',by simp[hid,hr],(@heap_alloc_old w _ b (h.rd id b hr).2.1).trans hheap,hv'.keep hk.toKeep⟩
 ·dsimp only at h1 h2
  split at h1<;>split at h2
  ·omega
  ·injection h1 with h1
   have:=(h.rd _ _ h2).2.1
   omega
  ·injection h2 with h2
   have:=(h.rd _ _ h1).2.1
   omega
  ·rename_i e1 e2
   exact h.ri _ _ _ (hl _ l1 e1) (hl _ l2 e2) h1 h2
 ·dsimp only at hr ⊢
  split at hr
  ·injection hr with hr
   subst hr
   rename_i e
   subst e
   simp[hlt0];exact h.bsz
  ·rename_i hne
   obtain⟨h1,h2,h3,h4⟩:=h.rd id b hr
   refine⟨by simpa using h1,by simp;omega,h3,fun l e he=>?_⟩
   rw[if_neg (by omega)]at he
   exact h4 (hl _ l hne) e he
 ·obtain⟨h1,⟨arr,fz,h2⟩,h3,h4⟩:=(h.ch c F z hF).2 b hc
  have hlt:=(Array.getElem?_eq_some_iff.1 h2).1
  refine⟨h1,⟨arr,fz,(@heap_alloc_old w _ b hlt).trans h2⟩,fun id=>?_,h4⟩
  dsimp only
  split
  ·intro he;injection he with he;omega
  ·rename_i hne
   exact h3 id
 ·dsimp only at hx ⊢
  by_cases e:id=id0
  ·subst e
   simp[hlt0]at hx
   subst hx
   exact hv.elim
  ·rw[List.getElem?_set_ne (fun h=>e h.symm)]at hx
   rw[if_neg e]
   exact h.hl id hx
open Go Go.RowKit
def allocOf (o:Oper):Option TypeId:=match o.guard with
 | none=>match o.op with
  | .alloc t=>some t
  | _=>none
 | some _=>none
def freeOp (o:Oper):Bool:=pureOp o.op||(allocOf o).isSome
def St.flush (S:St)(pend:List Ob):St:=match pend with
 | []=>S
 | _=>{S with bx:=S.bx++pend}
theorem St.flush_eq (S:St)(pend:List Ob):S.flush pend={S with bx:=S.bx++pend}:=by
 cases pend<;>simp[St.flush]
def twD (P:Program)(L:World→Prop)(ops:Array Oper):List Oper→(Nat→AV)→St→List Ob→((Nat→AV)→St→Prop)→Prop
 | [],a,S,pend,K=>K a (S.flush pend)
 | o :: rest,a,S,pend,K=>match pureOp o.op with
  | true=>gdK ops a o (OpK P L true a S o fun v _=>twD P L ops rest (updo a o.dst v) S pend K) (twD P L ops rest (updo a o.dst (.tup [])) S pend K)
  | false=>match allocOf o with
   | some t=>match tzero P t with
    | some cs=>twD P L ops rest (updo a o.dst (.ptr (S.bx.length+pend.length) 0)) S (pend++[.cells cs t]) K
    | none=>False
   | none=>gdK ops a o (OpK P L false a (S.flush pend) o fun v S'=>twD P L ops rest (updo a o.dst v) S' [] K) (twD P L ops rest (updo a o.dst (.tup [])) (S.flush pend) [] K)
def aft (o:Oper)(j:Nat):Bool:=o.after.toList.any fun e=>Region.binds .any e&&e.on==j
def Aft (o:Oper)(j:Nat):Prop:=∃e∈o.after,Region.binds .any e=true∧e.on=j
def anc (ops:Array Oper):Nat→List Nat
 | 0=>[]
 | n+1=>let l:=anc ops n
  l++[match ops[n]? with
   | some o=>(o.after.toList.filter fun e=>Region.binds .any e).foldl (fun m e=>m ||| (1 <<< e.on) ||| l.getD e.on 0) 0
   | none=>0]
def bitOf (A:List Nat)(i j:Nat):Bool:=(A.getD i 0).testBit j
inductive Reach (ops:Array Oper):Nat→Nat→Prop
 | base {i:Nat} {o:Oper} {e:Edge}:ops[i]? = some o→e∈o.after→Region.binds .any e=true→Reach ops i e.on
 | step {i j:Nat} {o:Oper} {e:Edge}:ops[i]? = some o→e∈o.after→Region.binds .any e=true→Reach ops e.on j→Reach ops i j
theorem anc_length (ops:Array Oper):∀n,(anc ops n).length=n
 | 0=>rfl
 | n+1=>by simp[anc,anc_length ops n]
theorem fold_bit {l:List Nat}{j:Nat}:∀(es:List Edge) (m:Nat),(es.foldl (fun m e=>m ||| (1 <<< e.on) ||| l.getD e.on 0) m).testBit j=true→m.testBit j=true∨∃e∈es,e.on=j∨(l.getD e.on 0).testBit j=true
 | [],m,h=>.inl h
 | e :: es,m,h=>by
  rcases fold_bit es _ h with h|⟨e',he,h⟩
  ·simp only[Nat.testBit_or,Bool.or_eq_true]at h
   rcases h with(h|h)|h
   ·exact .inl h
   ·refine .inr ⟨e,by simp,.inl ?_⟩
    rw[Nat.one_shiftLeft,Nat.testBit_two_pow]at h
    simpa using h
   ·exact .inr ⟨e,by simp,.inr h⟩
  ·exact .inr ⟨e',by simp[he],h⟩
theorem anc_spec (ops:Array Oper):∀n i j,bitOf (anc ops n) i j=true→Reach ops i j
 | 0,i,j,h=>by simp[bitOf,anc]at h
 | n+1,i,j,h=>by
  have hlen:=anc_length ops n
  simp only[bitOf,anc,List.getD_eq_getElem?_getD]at h
  by_cases hi:i < n
  ·rw[List.getElem?_append_left (by omega)]at h
   exact anc_spec ops n i j (by simpa[bitOf,List.getD_eq_getElem?_getD] using h)
  ·by_cases hin:i=n
   ·subst hin
    rw[List.getElem?_append_right (by omega),hlen]at h
    simp only[Nat.sub_self,List.getElem?_cons_zero,Option.getD_some]at h
    split at h
    ·rename_i o ho
     rcases fold_bit _ _ h with h|⟨e,he,h|h⟩
     ·simp at h
     ·subst h;exact .base ho (by simpa using (List.mem_filter.1 he).1) (by simpa using (List.mem_filter.1 he).2)
     ·exact .step ho (by simpa using (List.mem_filter.1 he).1) (by simpa using (List.mem_filter.1 he).2) (anc_spec ops i e.on j (by simpa[bitOf] using h))
    ·simp at h
   ·rw[List.getElem?_eq_none (by simp;omega)]at h
    simp at h
def drawOk (ops:Array Oper):Bool:=
 decide ((ops.toList.filterMap (·.dst)).Nodup) &&
 (List.range ops.size).all fun i=>match ops[i]? with
  | some o=>(!freeOp o||o.dst.isSome) &&
   (o.after.toList.all fun e=>!Region.binds .any e||decide (e.on < i)) &&
   ((tmpsOf o).all fun t=>(List.range ops.size).all fun j=>match ops[j]? with
    | some o'=>(o'.dst != some t)||(decide (j < i)&&aft o j)||(decide (i < j)&&aft o' i)||j==i
    | none=>true) &&
   (match o.guard with
    | none=>true
    | some (j,_)=>aft o j) &&
   (freeOp o||((List.range i).all (fun j=>bitOf (anc ops ops.size) i j)&&(List.range ops.size).all fun k=>decide (k≤i)||bitOf (anc ops ops.size) k i))
  | none=>true
structure Draw (ops:Array Oper):Prop where
 dst:∀(i:Nat) (o:Oper),ops[i]? = some o→freeOp o=true→o.dst.isSome=true
 nodup:∀(i j:Nat) (o o':Oper) (t:Tmp),ops[i]? = some o→ops[j]? = some o'→o.dst=some t→o'.dst=some t→i=j
 edge:∀(i:Nat) (o:Oper),ops[i]? = some o→∀e∈o.after,Region.binds .any e=true→e.on < i
 look:∀(i:Nat) (o:Oper),ops[i]? = some o→∀t∈tmpsOf o,∀j o',ops[j]? = some o'→o'.dst=some t→(j < i∧Aft o j)∨(i < j∧Aft o' i)∨j=i
 guard:∀(i:Nat) (o:Oper),ops[i]? = some o→∀j w,o.guard=some (j,w)→Aft o j
 bar:∀(i:Nat) (o:Oper),ops[i]? = some o→freeOp o=false→(∀j,j < i→Reach ops i j)∧∀k o',ops[k]? = some o'→i < k→Reach ops k i
theorem aft_spec {o:Oper}{j:Nat}(h:aft o j=true):Aft o j:=by
 simp only[aft,List.any_eq_true,Bool.and_eq_true,beq_iff_eq]at h
 obtain⟨e,he,hb,hj⟩:=h
 exact⟨e,by simpa using he,hb,hj⟩
theorem nodup_filterMap {α β:Type}(f:α→Option β):∀(l:List α),(l.filterMap f).Nodup→∀(i j:Nat) (x y:α) (t:β),l[i]? = some x→l[j]? = some y→f x=some t→f y=some t→i=j
 | [],_,i,_,_,_,_,h,_,_,_=>by simp at h
 | a :: l,hn,i,j,x,y,t,hi,hj,hx,hy=>by
  have hl:(l.filterMap f).Nodup:=by
   rw[List.filterMap_cons]at hn
   split at hn
   ·exact hn
   ·exact(List.nodup_cons.1 hn).2
  have hmem:∀(k:Nat) (z:α),l[k]? = some z→f z=some t→f a=some t→False:=by
   intro k z hk hz ha
   rw[List.filterMap_cons,ha]at hn
   exact(List.nodup_cons.1 hn).1 (List.mem_filterMap.2 ⟨z,List.mem_of_getElem? hk,hz⟩)
  cases i with
  | zero=>
   simp at hi;subst hi
   cases j with
   | zero=>rfl
   | succ j=>exact(hmem j y (by simpa using hj) hy hx).elim
  | succ i=>
   cases j with
   | zero=>simp at hj;subst hj;exact(hmem i x (by simpa using hi) hx hy).elim
   | succ j=>exact congrArg (·+1) (nodup_filterMap f l hl i j x y t (by simpa using hi) (by simpa using hj) hx hy)
theorem drawOk_spec {ops:Array Oper}(h:drawOk ops=true):Draw ops:=by
 simp only[drawOk,Bool.and_eq_true,decide_eq_true_eq]at h
 obtain⟨h1,h2⟩:=h
 have h3:∀(i:Nat) (o:Oper),ops[i]? = some o→_:=fun i o hi=>by
  have hlt:=(Array.getElem?_eq_some_iff.1 hi).1
  have:=List.all_eq_true.1 h2 i (by simpa using hlt)
  rw[hi]at this
  simp only[Bool.and_eq_true]at this
  exact this
 refine⟨fun i o hi hp=>?_,fun i j o o' t hi hj ho ho'=>?_,fun i o hi e he=>?_,fun i o hi t ht j o' hj hd=>?_,fun i o hi j w hg=>?_,fun i o hi hp=>⟨fun j hj=>?_,fun k o' hk hlt=>?_⟩⟩
 ·have:=(h3 i o hi).1.1.1.1
  simpa[hp] using this
 ·exact nodup_filterMap (·.dst) ops.toList h1 i j o o' t (by simpa using hi) (by simpa using hj) ho ho'
 ·intro hb
  have:=List.all_eq_true.1 (h3 i o hi).1.1.1.2 e (by simpa using he)
  simpa[hb] using this
 ·have hjl:=(Array.getElem?_eq_some_iff.1 hj).1
  have h4:=List.all_eq_true.1 (List.all_eq_true.1 (h3 i o hi).1.1.2 t ht) j (by simpa using hjl)
  rw[hj]at h4
  simp only[hd,bne_self_eq_false,Bool.false_or,Bool.or_eq_true,Bool.and_eq_true,decide_eq_true_eq,beq_iff_eq]at h4
  rcases h4 with(⟨h5,h6⟩|⟨h5,h6⟩)|h5
  ·exact .inl ⟨h5,aft_spec h6⟩
  ·exact .inr (.inl ⟨h5,aft_spec h6⟩)
  ·exact .inr (.inr h5)
 ·have h5:=(h3 i o hi).1.2
  rw[hg]at h5
  exact aft_spec h5
 ·have h5:=(h3 i o hi).2
  simp only[hp,Bool.false_or,Bool.and_eq_true]at h5
  exact anc_spec ops _ _ _ (List.all_eq_true.1 h5.1 j (by simpa using hj))
 ·have h5:=(h3 i o hi).2
  simp only[hp,Bool.false_or,Bool.and_eq_true]at h5
  have hkl:=(Array.getElem?_eq_some_iff.1 hk).1
  have h6:=List.all_eq_true.1 h5.2 k (by simpa using hkl)
  simp only[show ¬k≤i from by omega,decide_false,Bool.false_or]at h6
  exact anc_spec ops _ _ _ h6
def idxOf (l:List Oper)(t:Nat):Option Nat:=l.findIdx? fun o=>o.dst==some t
theorem idxOf_some {l:List Oper}{t i:Nat}(h:idxOf l t=some i):∃o,l[i]? = some o∧o.dst=some t:=by
 obtain⟨hlt,hp,_⟩:=List.findIdx?_eq_some_iff_getElem.1 h
 exact⟨l[i],List.getElem?_eq_getElem hlt,by simpa using hp⟩
theorem idxOf_of {ops:Array Oper}(hD:Draw ops){t i:Nat}{o:Oper}(hi:ops[i]? = some o)(hd:o.dst=some t):idxOf ops.toList t=some i:=by
 cases h:idxOf ops.toList t with
 | none=>
  have:=List.findIdx?_eq_none_iff.1 h o (List.mem_of_getElem? (by simpa using hi))
  simp[hd]at this
 | some j=>
  obtain⟨o',hj,hd'⟩:=idxOf_some h
  rw[hD.nodup i j o o' t hi (by simpa using hj) hd hd']
def stS (ops:Array Oper)(p:Nat)(a vs:Nat→AV)(done:Nat→Bool):Nat→AV:=fun t=>match idxOf ops.toList t with
 | none=>a t
 | some i=>if p≤i∧done i=true then vs i else a t
theorem stS_put {ops:Array Oper}(hD:Draw ops){p i:Nat}{a vs:Nat→AV}{done done':Nat→Bool}{o:Oper}(hi:ops[i]? = some o){d:Tmp}(hd:o.dst=some d)(hp:p≤i)(h1:done' i=true)(h2:∀j,j≠i→done' j=done j) :
  updo (stS ops p a vs done) o.dst (vs i)=stS ops p a vs done':=by
 funext t
 rw[hd]
 simp only[updo,upd]
 by_cases htd:t=d
 ·subst htd
  simp[stS,idxOf_of hD hi hd,hp,h1]
 ·simp only[htd,if_false,stS]
  split
  ·rfl
  ·rename_i j hj
   obtain⟨o',hj',hd'⟩:=idxOf_some hj
   have hne:j≠i:=by
    rintro rfl
    rw[show ops[j]? = some o' from by simpa using hj']at hi
    injection hi with hi;subst hi
    rw[hd]at hd';injection hd' with hd';exact htd hd'.symm
   rw[h2 j hne]
def upTo (n:Nat):Nat→Bool:=fun j=>decide (j < n)
theorem ready_spec {ops:Array Oper}{listed:Array Bool}{i:Nat}(h:i∈Region.ready .any ops listed) :
  ∃o,ops[i]? = some o∧listed.getD i true=false∧∀e∈o.after,Region.binds .any e=true→listed.getD e.on false=true:=by
 simp only[Region.ready,List.mem_filter,List.mem_range,Bool.and_eq_true,Bool.not_eq_true']at h
 obtain⟨hlt,h1,h2⟩:=h
 refine⟨ops[i],Array.getElem?_eq_getElem hlt,h1,fun e he hb=>?_⟩
 rw[Array.getElem?_eq_getElem hlt]at h2
 simp only[Option.map_some,Option.getD_some]at h2
 have h3:=Array.all_eq_true_iff_forall_mem.1 h2 e he
 simpa[hb] using h3
theorem ready_nil {ops:Array Oper}{listed:Array Bool}(hD:Draw ops)(hsz:listed.size=ops.size)(h:Region.ready .any ops listed=[]):∀i,i < ops.size→listed.getD i false=true:=by
 intro i
 induction i using Nat.strongRecOn with
 | _ i ih=>
  intro hlt
  cases hv:listed.getD i false with
  | true=>rfl
  | false=>
   exfalso
   have hg:listed.getD i true=false:=by
    simp only[Array.getD_eq_getD_getElem?,Array.getElem?_eq_getElem (show i < listed.size from by omega),Option.getD_some]at hv ⊢
    exact hv
   have:i∈Region.ready .any ops listed:=by
    simp only[Region.ready,List.mem_filter,List.mem_range,Bool.and_eq_true,Bool.not_eq_true']
    refine⟨hlt,hg,?_⟩
    rw[Array.getElem?_eq_getElem hlt]
    simp only[Option.map_some,Option.getD_some]
    refine Array.all_eq_true_iff_forall_mem.2 fun e he=>?_
    cases hb:Region.binds .any e with
    | false=>simp
    | true=>
     have h4:=hD.edge i _ (Array.getElem?_eq_getElem hlt) e he hb
     simp[ih e.on h4 (by omega)]
   rw[h]at this
   cases this
theorem Good.congr {P:Program}{L:World→Prop}{all:Array Oper}{S:St}{a a':Nat→AV}{o:Oper}{v:AV}(h:∀x∈o.op.operands,evO a x=evO a' x)(hg:∀j w d,o.guard=some (j,w)→(all[j]?).bind (·.dst)=some d→a d=a' d)
  (hgood:Good P L all S a o v):Good P L all S a' o v:=by
 unfold Good gdK at *
 cases hgd:o.guard with
 | none=>
  simp only[hgd]at hgood ⊢
  exact OpK_congr h hgood
 | some jw=>
  obtain⟨j,w⟩:=jw
  simp only[hgd]at hgood ⊢
  cases hd:(all[j]?).bind (·.dst) with
  | none=>simp only[hd]at hgood
  | some d=>
   simp only[hd]at hgood ⊢
   rw[←hg j w d hgd hd]
   split at hgood
   ·rename_i b _
    cases b<;>cases w
    ·exact OpK_congr h (show OpK P L true a S o (fun v' S'=>v'=v∧S'=S) from hgood)
    ·exact hgood
    ·exact hgood
    ·exact OpK_congr h (show OpK P L true a S o (fun v' S'=>v'=v∧S'=S) from hgood)
   ·exact hgood
   ·exact hgood.elim
end HM
