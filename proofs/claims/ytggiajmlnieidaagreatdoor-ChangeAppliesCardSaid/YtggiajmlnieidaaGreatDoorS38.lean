/- Which slots count: the reference. -/
import Derived.Test.YtggiajmlnieidaaGreatDoorS33
import Derived.Test.YtggiajmlnieidaaGreatDoorDa
set_option maxHeartbeats 64000000
set_option maxRecDepth 100000
namespace HM
open Go Go.RowKit Go.Proofs
section
variable (L:World→Prop)
theorem c_Fault37 (n:Net)(s:Sched)(f:Flow)(r:List Int)(hn:n.small)(_hc:s.cells.length≤281474976710656)(hr:r.length≤281474976710656):PCall Tryz.prog L 244 [n.av,s.av,f.av,encIs r] (.int .i64 (wayE n s f r)):=by
 refine PCall.intro mixed [] (nt:=37) Tryz.func244 rfl rfl (by simp) ?_
 refine Wk ?_
 refine cD (c_Check31 L n hn) ?_
 refine Wk ?_
 refine BrK.mk (fun h1=>?_) (fun h1=>?_)<;>(try rw[h1])
 ·refine Wk ?_
  exact resP.mk rfl (Sees.int (by rw[wayE,if_pos (.inl (by simpa using h1))]))
 have h0:netE n=0:=by simpa using h1
 refine Wk ?_
 refine cD (c_Formed L s) ?_
 refine Wk ?_
 refine BrK.mk (fun h2=>?_) (fun h2=>?_)<;>(try rw[h2])
 ·have h2':formB s=false:=by simpa using h2
  refine Wk ?_
  exact resP.mk rfl (Sees.int (by rw[wayE,if_pos (.inr (.inl h2'))]))
 ·have h2':formB s=true:=by simpa using h2
  refine Wk ?_
  refine cD (c_Fault32 L n.nodes f (by have:=(netE_ok h0).nodes;omega) (by have:=(netE_ok h0).nodes;omega)) ?_
  refine Wk ?_
  refine BrK.mk (fun h3=>?_) (fun h3=>?_)<;>(try rw[h3])
  ·refine Wk ?_
   exact resP.mk rfl (Sees.int (by rw[wayE,if_pos (.inr (.inr (by simpa using h3)))]))
  have h3':flowE n.nodes f=0:=by simpa using h3
  have hfb:=flowE_ok h3'
  have e1:¬(netE n≠0∨formB s=false∨flowE n.nodes f≠0):=by simp[h0,h2',h3']
  obtain⟨hs1,_,_⟩:=form_all h2'
  have hsz:=sized_bd hs1
  repeat((conv=>whnf);first|refine sJ ?_|refine aI (by first|exact(show f.period≠0 by omega)|kernel_rfl) ?_ )
  try(conv=>whnf)
  rw[tmod_eq (by omega)]
  refine BrK.mk (fun h4=>?_) (fun h4=>?_)<;>(try rw[h4])
  ·refine Wk ?_
   exact resP.mk rfl (Sees.int (by rw[wayE,if_neg e1,if_pos (by simpa using h4)]))
  refine Wk ?_
  refine cD (c_Check33 L n hn f.src f.dst r hr) ?_
  refine Wk ?_
  exact resP.mk rfl (Sees.int (by rw[wayE,if_neg e1,if_neg (by simpa using h4)]))
def hopBx (s:Sched)(f:Flow):List Ob:=[.cells [.int .i64 s.len,.int .i64 s.offs,encCells s.cells] 30,.cells [.int .i64 f.id,.int .i64 f.src,.int .i64 f.dst,.int .i64 f.period,.int .i64 f.phase,.int .i64 f.dead] 46]
theorem c_hop (s:Sched)(f:Flow)(a b at_ stop:Int)(need:Nat)(hc:s.cells.length≤512)(hl:1≤s.len)(h0:0≤at_)(h1:at_≤stop)(h2:stop≤1099511627776)(h3:need≤16) :
  PCall Tryz.prog L 274 [s.av,f.av,.int .i64 a,.int .i64 b,.int .i64 need,.int .i64 at_,.int .i64 (stop-1)] (.tup [encIs (slotsOn s f a b need at_ stop),.bool (((slotsOn s f a b need at_ stop).length:Int)==(need:Int))]):=by
 have ht0:hS s f a b at_ need 0 0=[]:=by rw[hS_zero];simp[allS]
 refine PCall.intro mixed [] (nt:=86) Tryz.func274 rfl rfl (by simp) ?_
 refine Wk ?_
 refine LoopK.run mixed [] (fun d:Nat=>at_+d≤stop) (fun d=>[(2,.int .i64 a),(3,.int .i64 b),(4,.int .i64 need),(6,.int .i64 (stop-1)),(7,.ptr 0 0),(8,.ptr 1 0),(16,.own ((hS s f a b at_ need d 0).map encI) 0),(17,.int .i64 (at_+d))]) (fun d=>⟨hopBx s f,[((hS s f a b at_ need d 0).length,1)],0,0,fun _=>3⟩) (fun d=>(stop-at_).toNat-d) 0 (by omega) ?_ ?_
 ·refine fN ?_<;>repeat' (first|exact fQ|refine And.intro ?_ ?_|exact SeesL.rfl' _|exact Sees.int (by simp)|exact Sees.own (by rw[ht0];rfl)|(show(_,_)=(_,_);rw[ht0];rfl))
 rintro d hd
 have htl:=hS_len s f a b at_ need d 0
 have fin:∀t,(allS (cellsL s f a b) s.len at_ (stop-at_).toNat).take need=t→slotsOn s f a b need at_ stop=t:=fun t ht=>ht
 refine Wk ?_
 refine BrK.mk (fun g1=>?_) (fun g1=>?_)<;>(try rw[g1])
 ·have hlt:at_+d < stop:=by simp at g1;omega
  refine Wk ?_
  refine BrK.mk (fun g2=>?_) (fun g2=>?_)<;>(try rw[g2])
  ·have hnl:(hS s f a b at_ need d 0).length < need:=by simp at g2;omega
   refine Wk ?_
   refine LoopK.run mixed [] (fun j:Nat=>j≤s.cells.length) (fun j=>[(2,.int .i64 a),(3,.int .i64 b),(4,.int .i64 need),(6,.int .i64 (stop-1)),(7,.ptr 0 0),(8,.ptr 1 0),(16,.own ((hS s f a b at_ need d j).map encI) 0),(17,.int .i64 (at_+d)),(18,.int .i64 j)]) (fun j=>⟨hopBx s f,[((hS s f a b at_ need d j).length,1)],0,0,fun _=>3⟩) (fun j=>s.cells.length-j) 0 (by omega) ?_ ?_
   ·refine fN ?_<;>repeat' (first|exact fQ|refine And.intro ?_ ?_|exact SeesL.rfl' _)
   rintro j hj
   have htl:=hS_len s f a b at_ need d j
   refine Wk ?_
   refine BrK.mk (fun g3=>?_) (fun g3=>?_)<;>(try rw[g3])
   ·have hjt:j < s.cells.length:=by simpa using g3
    obtain⟨c,hgc⟩:=getLt hjt
    have hmc:=getMap (f:=Cell.av) hgc
    have skip:offL f.id a b c=true∨c.slot≠(at_+d) % s.len→hS s f a b at_ need d (j+1)=hS s f a b at_ need d j:=hS_miss hgc
    repeat((conv=>whnf);first|refine sJ ?_|refine aI (by first|exact inbMap hjt|exact(show s.len≠0 by omega)|kernel_rfl) ?_|rw[hmc])
    try(conv=>whnf)
    rw[tmod_eq (by omega)]
    refine BrK.mk (fun k1=>?_) (fun k1=>?_)<;>(try rw[k1])
    ·have k1':c.slot=(at_+d) % s.len:=by simpa using k1
     refine Wk ?_
     refine BrK.mk (fun k2=>?_) (fun k2=>?_)<;>(try rw[k2])
     ·refine Wk ?_
      refine BrK.mk (fun k3=>?_) (fun k3=>?_)<;>(try rw[k3])
      ·refine Wk ?_
       refine BrK.mk (fun k4=>?_) (fun k4=>?_)<;>(try rw[k4])
       ·have hoff:offL f.id a b c=false:=by unfold offL;simp at k2 k3 k4;simp[k2,k3,k4]
        refine Wk ?_
        refine BrK.mk (fun k5=>?_) (fun k5=>?_)<;>(try rw[k5])
        ·have hlt2:(hS s f a b at_ need d j).length < need:=by simp at k5;omega
         have hT:=hS_hit hgc hoff k1' hlt2
         repeat((conv=>whnf);first|refine sJ ?_|refine aI (by first|exact Els.map (f:=encI) (fun _=>⟨rfl,rfl⟩)|exact(show _*8≤_ by simp only[List.length_map,List.length_cons,List.length_nil];omega)|exact(by simp only[List.length_map,List.length_cons,List.length_nil,maxLen];omega)|exact(show some (_,_)=some (_,_) by simp only[List.length_map])|kernel_rfl) ?_ )
         try(conv=>whnf)
         refine⟨j+1,by omega,by omega,?_⟩
         rw[hT]
         refine fN ?_<;>repeat' (first|exact fQ|refine And.intro ?_ ?_|exact SeesL.rfl' _|exact Sees.int (succI hjt (by omega))|exact Sees.own (by simp[encI])|(show(_,_)=(_,_);simp only[List.length_append,List.length_map,List.length_cons,List.length_nil]))
        ·have hT:=hS_full hgc (show(hS s f a b at_ need d j).length=need by simp at k5;omega)
         have hT:=hT
         refine Wk ?_
         refine⟨j+1,by omega,by omega,?_⟩
         rw[hT]
         refine fN ?_<;>repeat' (first|exact fQ|refine And.intro ?_ ?_|exact SeesL.rfl' _|exact Sees.int (succI hjt (by omega)))
       ·have hT:=(skip (.inl (by unfold offL;simp at k4;simp[k4])))
        refine Wk ?_
        refine⟨j+1,by omega,by omega,?_⟩
        rw[hT]
        refine fN ?_<;>repeat' (first|exact fQ|refine And.intro ?_ ?_|exact SeesL.rfl' _|exact Sees.int (succI hjt (by omega)))
      ·have hT:=(skip (.inl (by unfold offL;simp at k3;simp[k3])))
       refine Wk ?_
       refine⟨j+1,by omega,by omega,?_⟩
       rw[hT]
       refine fN ?_<;>repeat' (first|exact fQ|refine And.intro ?_ ?_|exact SeesL.rfl' _|exact Sees.int (succI hjt (by omega)))
     ·have hT:=(skip (.inl (by unfold offL;simp at k2;simp[k2])))
      refine Wk ?_
      refine⟨j+1,by omega,by omega,?_⟩
      rw[hT]
      refine fN ?_<;>repeat' (first|exact fQ|refine And.intro ?_ ?_|exact SeesL.rfl' _|exact Sees.int (succI hjt (by omega)))
    ·have hT:=(skip (.inr (by simpa using k1)))
     refine Wk ?_
     refine⟨j+1,by omega,by omega,?_⟩
     rw[hT]
     refine fN ?_<;>repeat' (first|exact fQ|refine And.intro ?_ ?_|exact SeesL.rfl' _|exact Sees.int (succI hjt (by omega)))
   ·have hjn:j=s.cells.length:=by simp at g3;omega
    subst hjn
    refine Wk ?_
    refine⟨d+1,by omega,by omega,?_⟩
    rw[←hS_next]
    refine fN ?_<;>repeat' (first|exact fQ|refine And.intro ?_ ?_|exact SeesL.rfl' _|exact Sees.int (by rw[w64]<;>omega))
  ·have hnl:(hS s f a b at_ need d 0).length=need:=by simp at g2;omega
   rw[fin _ (hS_done (e:=(stop-at_).toNat) (by omega) hnl)]
   refine Wk ?_
   exact resP.mk rfl (Sees.of_eq (by simp[encIs]))
 ·have hde:d=(stop-at_).toNat:=by simp at g1;omega
  rw[fin _ (by rw[hS_zero,hde]:_=hS s f a b at_ need d 0)]
  refine Wk ?_
  exact resP.mk rfl (Sees.of_eq (by simp[encIs]))
end
section
variable (L:World→Prop)
theorem c_relative (l:List Int)(rel:Int)(hl:l.length≤1099511627776)(hb:∀x∈l,0≤x∧x≤4398046511104)(h0:0≤rel∧rel≤4398046511104):PCall Tryz.prog L 238 [encIs l,.int .i64 rel] (encIs (l.map (·-rel))):=by
 refine PCall.intro mixed [] (nt:=24) Tryz.func238 rfl rfl (by simp) ?_
 refine Wk ?_
 refine LoopK.run mixed [] (fun (k:Nat)=>k≤l.length) (fun k=>[(0,encIs l),(1,.int .i64 rel),(5,.own (((l.take k).map (·-rel)).map encI) 0),(6,.int .i64 k)]) (fun k=>⟨[],[(k,1)],0,0,fun _=>3⟩) (fun k=>l.length-k) 0 (by omega) ?_ ?_
 ·refine fN ?_<;>repeat' (first|exact fQ|refine And.intro ?_ ?_ )
 rintro k hk
 refine Wk ?_
 refine BrK.mk (fun g=>?_) (fun g=>?_)<;>(try rw[g])
 ·have hlt:k < l.length:=by simpa using g
  obtain⟨x,hx⟩:=getLt hlt
  have hmx:=getMap (f:=encI) hx
  have hxb:=hb x (List.mem_of_getElem? hx)
  have hw:IntKind.i64.wrap (x-rel)=x-rel:=w64 (by omega) (by omega)
  have hkl:(l.take k).length=k:=by rw[List.length_take];omega
  repeat((conv=>whnf);first|refine sJ ?_|refine aI (by first|exact inbMap hlt|exact Els.map (f:=encI) (fun _=>⟨rfl,rfl⟩)|exact(show _*8≤_ by simp only[List.length_map,List.length_cons,List.length_nil,hkl];omega)|exact(by simp only[List.length_map,List.length_cons,List.length_nil,maxLen,hkl];omega)|exact(show some (_,_)=some (_,_) by simp only[List.length_map,hkl])|kernel_rfl) ?_|rw[hmx])
  try(conv=>whnf)
  refine⟨k+1,by omega,by omega,?_⟩
  refine fN ?_<;>repeat' (first|exact fQ|refine And.intro ?_ ?_|exact Sees.int (succI hlt (by omega))|exact Sees.own (by rw[take_succ hx,hw];simp[encI])|(show(_,_)=(_,_);simp only[List.length_append,List.length_map,List.length_cons,List.length_nil,hkl]))
 ·have hk':k=l.length:=by simp at g;omega
  subst hk'
  refine Wk ?_
  exact resP.mk rfl (Sees.sl (by rw[List.take_length]))
theorem slotsUp_step' {n:Net}{s:Sched}{f:Flow}{r:List Int}{rel more:Int}{k:Nat}{o:List Int}{a:Int}(h:slotsUp n s f r rel more k=some (o,a)){t:List Int}(ht:slotsOn s f (r.getD k 0) (r.getD (k+1) 0) (needAt n r more k) a (rel+f.period)=t)(hl:t.length=needAt n r more k):slotsUp n s f r rel more (k+1)=some (o++t,nextA a t):=by
 simp only[slotsUp,h,ht,hl,Nat.lt_irrefl,if_false]
theorem slotsUp_stop' {n:Net}{s:Sched}{f:Flow}{r:List Int}{rel more:Int}{k:Nat}{o:List Int}{a:Int}(h:slotsUp n s f r rel more k=some (o,a)){t:List Int}(ht:slotsOn s f (r.getD k 0) (r.getD (k+1) 0) (needAt n r more k) a (rel+f.period)=t)(hl:t.length < needAt n r more k):slotsUp n s f r rel more (k+1)=none:=by
 simp only[slotsUp,h,ht,hl,if_true]
def sl37 (n:Net)(s:Sched)(f:Flow):List Ob:=[.cells [.int .i64 n.nodes,encRows n.power,.int .i64 n.noise,.int .i64 n.thr,encLinks n.links,encIs n.margin] 26,.cells [.int .i64 s.len,.int .i64 s.offs,encCells s.cells] 30,.cells [.int .i64 f.id,.int .i64 f.src,.int .i64 f.dst,.int .i64 f.period,.int .i64 f.phase,.int .i64 f.dead] 46]
theorem c_Slots37 (n:Net)(s:Sched)(f:Flow)(r:List Int)(rel more:Int)(hn:n.links.length≤281474976710656)(h:WayOk n s f r)(hm0:0≤more)(hm1:more≤8)(hr0:0≤rel)(hr1:rel≤1048576) :
  PCall Tryz.prog L 237 [n.av,s.av,f.av,encIs r,.int .i64 rel,.int .i64 more] (slAV (slotsW n s f r rel more)):=by
 have hlen:=h.len
 have hfl:=h.flow
 obtain⟨hsz,hcl,hfm⟩:=form_all h.form
 have hsb:=sized_bd hsz
 have hwp:IntKind.i64.wrap (rel+f.period)=rel+f.period:=w64 (by omega) (by omega)
 have hwp1:IntKind.i64.wrap (rel+f.period-1)=rel+f.period-1:=w64 (by omega) (by omega)
 refine PCall.intro mixed [] (nt:=75) Tryz.func237 rfl rfl (by simp) ?_
 refine Wk ?_
 refine LoopK.run mixed [] (fun st:Nat×List Int×Int=>st.1+1≤r.length∧slotsUp n s f r rel more st.1=some (st.2.1,st.2.2)) (fun st=>[(3,encIs r),(4,.int .i64 rel),(5,.int .i64 more),(6,.ptr 0 0),(7,.ptr 1 0),(8,.ptr 2 0),(14,.own (st.2.1.map encI) 0),(15,.int .i64 st.2.2),(16,.int .i64 (st.1+1:Nat))]) (fun st=>⟨sl37 n s f,[(st.2.1.length,1)],0,0,fun _=>3⟩) (fun st=>r.length-st.1) (0,[],rel) ⟨by simp;omega,rfl⟩ ?_ ?_
 ·refine fN ?_<;>repeat' (first|exact fQ|refine And.intro ?_ ?_|exact SeesL.rfl' _)
 rintro⟨k,o,a⟩ ⟨hk,hup⟩
 simp only at hk hup
 obtain⟨u1,u2,u3,u4⟩:=slotsUp_ok (by omega) hup
 refine Wk ?_
 refine BrK.mk (fun hb=>?_) (fun hb=>?_)<;>try rw[hb]
 ·have hlt:k+1 < r.length:=lenLt hb
  obtain⟨y,hgy⟩:=getLt hlt
  have hmy:=getMap (f:=encI) hgy
  obtain⟨x,hgx⟩:=getLt (l:=r) (k:=k) (by omega)
  have hmx:=getMap (f:=encI) hgx
  have hxd:r.getD k 0=x:=by rw[List.getD_eq_getElem?_getD,hgx];rfl
  have hyd:r.getD (k+1) 0=y:=by rw[List.getD_eq_getElem?_getD,hgy];rfl
  have hw:IntKind.i64.wrap (((k+1:Nat):Int)-1)=(k:Int):=by rw[w64]<;>omega
  obtain⟨i,l,e1,e2,e3,e4,e5,e6,e7⟩:=h.at hlt
  rw[hxd,hyd]at e1
  have hL:lossL n x y=l.loss:=by unfold lossL;rw[e1,Int.toNat_natCast,e2]
  have hnu:=h.need hm0 hm1 (k:=k) (by omega)
  have hneed:IntKind.i64.wrap (IntKind.i64.wrap (l.loss+1)+more)=(needAt n r more k:Int):=by rw[w64 (x:=l.loss+1) (by omega) (by omega),w64 (by omega) (by omega),needAt,e7];omega
  have hnle:needAt n r more k≤16∧1≤needAt n r more k:=by unfold needAt;rw[e7];omega
  repeat((conv=>whnf);first|refine sJ ?_|refine aI (by first|exact inbMap hlt|(rw[hw];exact inbMap (by omega))|kernel_rfl) ?_|rw[hw]|rw[hmx]|rw[hmy])
  try(conv=>whnf)
  refine cD (c_Loss33 L n hn x y (by omega)) ?_
  rw[hL]
  obtain⟨need,hnd⟩:∃need,need=needAt n r more k:=⟨_,rfl⟩
  refine Wk ?_
  rw[hneed,hwp,hwp1,←hnd]
  rw[←hnd]at hnle
  refine cD (c_hop L s f x y a (rel+f.period) need hcl (by omega) (by omega) (by omega) (by omega) (by omega)) ?_
  have hlt16:=slotsOn_le s f x y need a (rel+f.period)
  have hmem:∀z∈slotsOn s f x y need a (rel+f.period),a≤z∧z < rel+f.period:=fun z hz=>slotsOn_mem hz
  obtain⟨t,ht⟩:∃t,slotsOn s f x y need a (rel+f.period)=t:=⟨_,rfl⟩
  rw[ht]at hlt16 hmem ⊢
  have ht':slotsOn s f (r.getD k 0) (r.getD (k+1) 0) (needAt n r more k) a (rel+f.period)=t:=by rw[hxd,hyd,←hnd,ht]
  refine Wk ?_
  refine BrK.mk (fun g1=>?_) (fun g1=>?_)<;>(try rw[g1])
  ·have hs:=slotsUp_stop' hup ht' (by rw[←hnd];simp at g1;omega)
   refine Wk ?_
   exact resP.mk rfl (Sees.of_eq (by rw[slotsW,slotsUp_none hs (by omega)];rfl))
  ·have hlen2:t.length=need:=by simp at g1;omega
   have hs:=slotsUp_step' hup ht' (by rw[←hnd];exact hlen2)
   obtain⟨z,hz⟩:=Option.isSome_iff_exists.1 (List.getLast?_isSome.2 (show t≠[] by rintro rfl;simp at hlen2;omega))
   have hz2:t[t.length-1]? = some z:=by rw[←List.getLast?_eq_getElem?,hz]
   have hmz:=getMap (f:=encI) hz2
   have hzb:=hmem z (List.mem_of_getLast? hz)
   have hwl:IntKind.i64.wrap (((List.map encI t).length:Int)-1)=((t.length-1:Nat):Int):=by rw[w64]<;>simp<;>omega
   have hnx:nextA a t=z+1:=by rw[nextA,hz]
   repeat((conv=>whnf);first|refine sJ ?_|refine aI (by first|exact Els.map (f:=encI) (fun _=>⟨rfl,rfl⟩)|exact(show _*8≤_ by simp only[List.length_map];omega)|exact(by simp only[List.length_map,maxLen];omega)|exact(show some (_,_)=some (_,_) by simp only[List.length_map])|(rw[hwl];exact inbMap (by omega))|kernel_rfl) ?_|rw[hwl]|rw[hmz])
   try(conv=>whnf)
   refine⟨(k+1,o++t,nextA a t),⟨by simp only;omega,hs⟩,by simp only;omega,?_⟩
   refine fN ?_<;>repeat' (first|exact fQ|refine And.intro ?_ ?_|exact SeesL.rfl' _|exact Sees.own (by simp)|exact Sees.int (by simp only[hnx];rw[w64]<;>omega)|exact Sees.int (succI hlt (by omega))|(show(_,_)=(_,_);simp only[List.length_append,List.length_map]))
 ·have hk':k=r.length-1:=by have:=lenGe hb;omega
  subst hk'
  refine Wk ?_
  exact resP.mk rfl (Sees.of_eq (by rw[slotsW,hup];rfl))
end
section
variable (L:World→Prop)
theorem relR_none {n:Net}{s:Sched}{f:Flow}{r:List Int}{more rel:Int}(h:slotsW n s f r rel more=none):relR n s f r more rel=none:=by rw[relR,h];rfl
theorem slotsW_some {n:Net}{s:Sched}{f:Flow}{r:List Int}{more rel:Int}{l:List Int}(hw:WayOk n s f r)(hm0:0≤more)(hm1:more≤8)(h:slotsW n s f r rel more=some l) :
  ∃z,l.getLast? = some z∧relR n s f r more rel=some (z-rel+1,l.map (·-rel))∧rel≤z∧z < rel+f.period∧l.length≤144∧l≠[]∧∀x∈l,rel≤x∧x < rel+f.period:=by
 have hl:=hw.len
 have hfl:=hw.flow
 unfold slotsW at h
 cases hu:slotsUp n s f r rel more (r.length-1) with
 | none=>rw[hu]at h;cases h
 | some oa=>
  obtain⟨o,a⟩:=oa
  rw[hu]at h
  injection h with h
  simp only at h
  subst h
  obtain⟨u1,u2,u3,u4⟩:=slotsUp_ok (by omega) hu
  have hnu:=hw.need hm0 hm1 (k:=r.length-1) (Nat.le_refl _)
  obtain⟨_,l,_,_,_,_,g1,g2,g3⟩:=hw.at (i:=0) (by omega)
  have h1:needUp n r more 1≤needUp n r more (r.length-1):=needUp_mono (by omega)
  have h2:0 < needAt n r more 0:=by unfold needAt;rw[g3];omega
  have h3:needUp n r more 1=needAt n r more 0:=by simp[needUp]
  have hne:o≠[]:=by rintro rfl;simp at u1;omega
  obtain⟨z,hz⟩:=Option.isSome_iff_exists.1 (List.getLast?_isSome.2 hne)
  have hzb:=u4 z (List.mem_of_getLast? hz)
  exact⟨z,hz,by rw[relR,slotsW,hu];simp[List.getLastD_eq_getLast?,hz],hzb.1,hzb.2,by omega,hne,u4⟩
end
section
variable (L:World→Prop)
theorem c_Most37 (n:Net)(s:Sched)(f:Flow)(r:List Int)(more:Int)(hl:n.links.length≤281474976710656)(h:WayOk n s f r)(hm0:0≤more)(hm1:more≤8) :
  PCall Tryz.prog L 173 [n.av,s.av,f.av,encIs r,.int .i64 more] (bndAV (boundR n s f r more)):=by
 have hfl:=h.flow
 obtain⟨hsz,hcl,hfm⟩:=form_all h.form
 have hsb:=sized_bd hsz
 refine PCall.intro mixed [] (nt:=70) Tryz.func173 rfl rfl (by simp) ?_
 refine Wk ?_
 refine LoopK.run mixed [] (fun st:Nat×Bnd=>st.1≤relsN s f∧boundUp n s f r more st.1=some st.2) (fun st=>[(3,encIs r),(4,.int .i64 more),(5,.ptr 0 0),(6,.ptr 1 0),(7,.ptr 2 0),(14,.int .i64 st.2.b),(15,.int .i64 st.2.w),(16,encIs st.2.l),(17,.int .i64 (f.phase+st.1*f.period))]) (fun _=>⟨sl37 n s f,[],0,0,fun _=>0⟩) (fun st=>relsN s f-st.1) (0,⟨0,0,[]⟩) ⟨by simp,rfl⟩ ?_ ?_
 ·refine fN ?_<;>repeat' (first|exact fQ|refine And.intro ?_ ?_|exact SeesL.rfl' _|exact Sees.int (by simp)|exact Sees.elems rfl)
 rintro⟨k,x⟩ ⟨hk,hup⟩
 simp only at hk hup
 have hlt:=relsN_lt (s:=s) (f:=f) (k:=k) (by omega)
 have hms:((k+1:Nat):Int)*f.period=k*f.period+f.period:=by rw[Int.natCast_add,Int.add_mul];simp
 have hp0:0≤(k:Int)*f.period:=Int.mul_nonneg (by omega) (by omega)
 refine Wk ?_
 refine BrK.mk (fun hb=>?_) (fun hb=>?_)<;>try rw[hb]
 ·have hb':f.phase+k*f.period < s.len:=by simpa using hb
  have hkl:=hlt.2 hb'
  refine Wk ?_
  refine cD (c_Slots37 L n s f r (f.phase+k*f.period) more hl h hm0 hm1 (by omega) (by omega)) ?_
  cases hS:slotsW n s f r (f.phase+k*f.period) more with
  | none=>
   refine Wk ?_
   exact resP.mk rfl (Sees.of_eq (by rw[boundR,boundUp_none (boundUp_stop (relR_none hS)) hkl];rfl))
  | some l=>
   obtain⟨z,hz,hR,hz0,hz1,hll,hne,hmem⟩:=slotsW_some h hm0 hm1 hS
   have hnx:=boundUp_some hup hR
   have hlp:0 < l.length:=List.length_pos_iff.2 hne
   have hz2:l[l.length-1]? = some z:=by rw[←List.getLast?_eq_getElem?,hz]
   have hmz:=getMap (f:=encI) hz2
   have hwl:IntKind.i64.wrap (((List.map encI l).length:Int)-1)=((l.length-1:Nat):Int):=by rw[w64]<;>simp<;>omega
   have hwz:IntKind.i64.wrap (IntKind.i64.wrap (z-(f.phase+k*f.period))+1)=z-(f.phase+k*f.period)+1:=by rw[w64 (x:=z-(f.phase+k*f.period)) (by omega) (by omega),w64 (by omega) (by omega)]
   repeat((conv=>whnf);first|refine sJ ?_|refine aI (by first|(rw[hwl];exact inbMap (by omega))|kernel_rfl) ?_|rw[hwl]|rw[hmz])
   try(conv=>whnf)
   rw[hwz]
   refine BrK.mk (fun h1=>?_) (fun h1=>?_)<;>(try rw[h1])
   ·rw[if_pos (by simpa using h1)]at hnx
    repeat((conv=>whnf);first|refine sJ ?_|refine aI (by first|(rw[hwl];exact inbMap (by omega))|kernel_rfl) ?_|rw[hwl]|rw[hmz])
    try(conv=>whnf)
    refine cD (c_relative L l (f.phase+k*f.period) (by omega) (fun x hx=>by have:=hmem x hx;omega) (by omega)) ?_
    refine Wk ?_
    refine⟨(k+1,_),⟨hkl,hnx⟩,by simp only;omega,?_⟩
    refine fN ?_<;>repeat' (first|exact fQ|refine And.intro ?_ ?_|exact SeesL.rfl' _|exact Sees.int hwz|exact Sees.int (by simp only[hms];rw[w64]<;>omega))
   ·rw[if_neg (by simpa using h1)]at hnx
    refine Wk ?_
    refine⟨(k+1,_),⟨hkl,hnx⟩,by simp only;omega,?_⟩
    refine fN ?_<;>repeat' (first|exact fQ|refine And.intro ?_ ?_|exact SeesL.rfl' _|exact Sees.int (by simp only[hms];rw[w64]<;>omega))
 ·have hk':k=relsN s f:=by
   rcases Nat.lt_or_ge k (relsN s f) with hh|hh
   ·have:=hlt.1 hh
    simp at hb;omega
   ·omega
  subst hk'
  refine Wk ?_
  exact resP.mk rfl (Sees.of_eq (by rw[boundR,hup];rfl))
theorem c_Route37 (n:Net)(s:Sched)(f:Flow)(r:List Int)(hn:n.small)(hc:s.cells.length≤281474976710656)(hr:r.length≤281474976710656)(hl:n.links.length≤281474976710656) :
  PCall Tryz.prog L 195 [n.av,s.av,f.av,encIs r] (.tup [.int .i64 (routeM n s f r).1,.int .i64 (routeM n s f r).2.1,encIs (routeM n s f r).2.2.1,.int .i64 (routeM n s f r).2.2.2]):=by
 refine PCall.intro mixed [] (nt:=40) Tryz.func195 rfl rfl (by simp) ?_
 refine Wk ?_
 refine cD (c_Fault37 L n s f r hn hc hr) ?_
 refine Wk ?_
 refine BrK.mk (fun h1=>?_) (fun h1=>?_)<;>(try rw[h1])
 ·refine Wk ?_
  exact resP.mk rfl (Sees.of_eq (by rw[routeM,if_pos (by simpa using h1)];rfl))
 have h1':wayE n s f r=0:=by simpa using h1
 have e1:¬wayE n s f r≠0:=by simpa using h1'
 have hw:=wayE_ok h1'
 refine Wk ?_
 refine cD (c_Most37 L n s f r 0 hl hw (by omega) (by omega)) ?_
 cases hB:boundR n s f r 0 with
 | none=>
  refine Wk ?_
  exact resP.mk rfl (Sees.of_eq (by rw[routeM,if_neg e1,hB];rfl))
 | some x=>
  refine Wk ?_
  exact resP.mk rfl (Sees.of_eq (by rw[routeM,if_neg e1,hB];rfl))
end
section
variable (L:World→Prop)
end
end HM
