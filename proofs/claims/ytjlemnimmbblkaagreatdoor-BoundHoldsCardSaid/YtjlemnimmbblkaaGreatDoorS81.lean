/- A player: a slot as a whole. -/
import Derived.Test.YtjlemnimmbblkaaGreatDoorS80
import Derived.Test.YtjlemnimmbblkaaGreatDoorDb

set_option maxRecDepth 100000
namespace HM
open Go Go.RowKit Go.Proofs

section
variable (L : World → Prop) {kx : KX}
set_option maxHeartbeats 4000000 in
theorem i_slot (S : St) (pb ch : Nat) (l : List Flow) (s : Sched) (x : List Rule) (Q : PL) (t : Nat) (r : RunL) {K : AV → St → Prop} (hI : PIn (PTk kx) S pb ch l s x Q) (hl : FlowsOk l) (hs : (scriptM x).2 = 0) (hSim : SimE l ((t : Int) - 1) Q r) (ht : t ≤ 1073741824) (hc : s.cells.length ≤ 1048576)
    (ha : Q.atts.length ≤ 536870912) (hd : Q.dels.length ≤ 536870912) (hK0 : ∀ S', PIn (PTk kx) S' pb ch l s x (slotS l s x Q t) → K (.tup []) S') :
    ICall Tryz.prog L 22 [.ptr pb 0, .int .i64 t] S K := by
  have hQ := hSim.len
  have h0 := hSim.start hl (by omega)
  rw [show ((t : Int) - 1 + 1) = t from by omega] at h0
  obtain ⟨Q1, hQ1⟩ : ∃ Q1 : PL, Q1 = ⟨releaseS l t Q.sts, Q.atts, Q.dels⟩ := ⟨_, rfl⟩
  rw [← hQ1] at h0
  refine ICall.intro mixed [2] (nt := 40) Tryz.func22 rfl rfl (by simp) ?_
  repeat ((conv => whnf); first | refine sJ ?_ | refine And.intro (by first | exact trivial | kernel_rfl) ?_ )
  try (conv => whnf)
  refine CallK.inl rfl ?_
  refine i_release L (kx := kx) _ pb ch l s x Q t (PInv.frames hI rfl rfl rfl) hl.len hQ (by omega) hl.ok fun S1 hI1 => ?_
  rw [← hQ1] at hI1
  obtain ⟨g, sv, dv, hP1⟩ := hI1
  have hp1 := hP1.p
  repeat ((conv => whnf); first | refine sJ ?_ | refine And.intro (by first | exact trivial | kernel_rfl) ?_ )
  try (conv => whnf)
  refine SeqK.cutN mixed [] [7] (fun (_ : Unit) S2 => PIn (PTk kx) S2 pb ch l s x Q1) (fun _ => [(0, .ptr pb 0), (1, .int .i64 t), (4, .int .i64 Q.dels.length)]) ?_ ?_
  · have hQd : Q1.dels = Q.dels := by rw [hQ1]
    rcases hP1.d with ⟨h1, h2⟩ | ⟨db, ex, h1, h2⟩
    · rw [h2] at hp1
      repeat ((conv => whnf); first | refine sJ ?_ | refine And.intro (by first | exact trivial | kernel_rfl) ?_ | rw [hp1])
      try (conv => whnf)
      exact ⟨(), ⟨g, sv, dv, hP1⟩, Sees.of_eq rfl, Sees.of_eq rfl, Sees.int (by rw [← hQd, h1]; rfl), trivial⟩
    · rw [h1] at hp1
      repeat ((conv => whnf); first | refine sJ ?_ | refine And.intro (by first | exact trivial | kernel_rfl) ?_ | rw [hp1])
      try (conv => whnf)
      exact ⟨(), ⟨g, sv, dv, hP1⟩, Sees.of_eq rfl, Sees.of_eq rfl, Sees.int (by rw [hQd]), trivial⟩
  clear hp1 hP1
  rintro ⟨⟩ S2 ⟨g2, sv2, dv2, hP2⟩
  have hp2 := hP2.p
  repeat ((conv => whnf); first | refine sJ ?_ | refine And.intro (by first | exact trivial | kernel_rfl) ?_ | rw [hp2])
  try (conv => whnf)
  obtain ⟨cs, hcs⟩ : ∃ cs, cs = atM s t := ⟨_, rfl⟩
  have hcl : cs.length ≤ 1048576 := by rw [hcs]; exact Nat.le_trans (at_len s t) hc
  refine SeqK.cutN mixed [] [] (fun (_ : Unit) S3 => PIn (PTk kx) S3 pb ch l s x (cs.foldl (attemptS l x t) Q1)) (fun _ => [(0, .ptr pb 0), (1, .int .i64 t), (4, .int .i64 Q.dels.length)]) ?_ ?_
  · repeat ((conv => whnf); first | refine sJ ?_ | refine And.intro (by first | exact trivial | kernel_rfl) ?_ | rw [hp2])
    try (conv => whnf)
    first | refine CallK.data rfl (c_At L s t (by omega) (by omega)) rfl ?_ | refine CallP.data rfl (c_At L s t (by omega) (by omega)) rfl ?_
    rw [← hcs]
    repeat ((conv => whnf); first | refine sJ ?_ | refine And.intro (by first | exact trivial | kernel_rfl) ?_ )
    try (conv => whnf)
    refine LoopK.runS mixed [] (fun (k : Nat) S3 => k ≤ cs.length ∧ PIn (PTk kx) S3 pb ch l s x ((cs.take k).foldl (attemptS l x t) Q1)) (fun k => [(0, .ptr pb 0), (1, .int .i64 t), (4, .int .i64 Q.dels.length), (21, encCells cs), (22, .int .i64 cs.length), (23, .int .i64 k)]) (fun k => cs.length - k) 0 ⟨by omega, g2, sv2, dv2, hP2⟩ ?_ ?_
    · exact ⟨Sees.of_eq rfl, Sees.of_eq rfl, Sees.of_eq rfl, Sees.of_eq rfl, Sees.int (by simp), Sees.of_eq rfl, trivial⟩
    rintro k S3 ⟨hk, hI3⟩
    refine Wk ?_
    refine BrK.mk (fun hb => ?_) (fun hb => ?_) <;> (try rw [hb])
    · have hlt : k < cs.length := by simpa using hb
      obtain ⟨c, hgc⟩ := getLt hlt
      have hmc := getMap (f := Cell.av) hgc
      have hSk := Sim.fold hl (by omega : (t : Int) ≤ 1099511627776) (by omega) x (cs.take k) h0
      obtain ⟨Qk, hQk⟩ : ∃ Qk, Qk = (cs.take k).foldl (attemptS l x t) Q1 := ⟨_, rfl⟩
      have hlen := fold_len l x t (cs.take k) Q1
      rw [← hQk] at hSk hlen hI3
      obtain ⟨hok, htr⟩ := hSk.ask
      have hQ1a : Q1.atts = Q.atts := by rw [hQ1]
      have hQ1d : Q1.dels = Q.dels := by rw [hQ1]
      rw [hQ1a, hQ1d, List.length_take] at hlen
      repeat ((conv => whnf); first | refine sJ ?_ | refine And.intro (by first | exact trivial | exact inbMap hlt | kernel_rfl) ?_ | rw [hmc] | rw [St.addB_get] | rw [St.setB_get (St.addB_get _ _)])
      try (conv => whnf)
      refine CallK.inl rfl ?_
      refine i_attempt L (kx := kx) _ pb ch l s x Qk c t ?_ hl.len hSk.len hs hok (fun i p hp h0 a b => ?_) (by omega) (by omega) (by omega) fun S4 hI4 => ?_
      · obtain ⟨g3, sv3, dv3, hP3⟩ := hI3
        refine ⟨g3, sv3, dv3, hP3.more (fun id o ho => ?_) rfl rfl⟩
        have := (List.getElem?_eq_some_iff.1 ho).1
        rw [St.setB_ne (by omega)]
        exact St.addB_old ho
      · have := htr i p hp h0 a b
        omega
      · rw [hQk, ← fold_step l x t hgc] at hI4
        refine Wk ?_
        exact ⟨k + 1, ⟨by omega, hI4⟩, by omega, Sees.of_eq rfl, Sees.of_eq rfl, Sees.of_eq rfl, Sees.of_eq rfl, Sees.of_eq rfl, Sees.int (succI hlt (by omega)), trivial⟩
    · have hk' : k = cs.length := by simp at hb; omega
      subst hk'
      rw [List.take_length] at hI3
      refine Wk ?_
      exact ⟨(), hI3, Sees.of_eq rfl, Sees.of_eq rfl, Sees.of_eq rfl, trivial⟩
  · clear hp2 hP2
    rintro ⟨⟩ S3 ⟨g3, sv3, dv3, hP3⟩
    have hSn := Sim.fold hl (by omega : (t : Int) ≤ 1099511627776) (by omega) x cs h0
    obtain ⟨Qn, hQn⟩ : ∃ Qn, Qn = cs.foldl (attemptS l x t) Q1 := ⟨_, rfl⟩
    rw [← hQn] at hSn hP3
    have hlq := fold_len l x t cs Q1
    rw [← hQn, show Q1.dels = Q.dels from by rw [hQ1]] at hlq
    obtain ⟨new, hnew, hend⟩ := hSn.slotEnd
    have hslot : slotS l s x Q t = ⟨Qn.sts, Qn.atts, Qn.dels.take Q.dels.length ++ (Qn.dels.drop Q.dels.length).mergeSort (fun a b => decide (a.flow ≤ b.flow))⟩ := by
      rw [slotS, ← hQ1, ← hcs, ← hQn]
    have hp3 := hP3.p
    rcases hP3.d with ⟨h1, h2⟩ | ⟨db, ex, h1, h2⟩
    · rw [h2] at hp3
      have hb0 : Q.dels = [] := by rw [h1] at hnew; exact (List.append_eq_nil_iff.1 hnew.symm).1
      have hn0 : new = [] := by rw [h1] at hnew; exact (List.append_eq_nil_iff.1 hnew.symm).2
      rw [hb0]
      repeat ((conv => whnf); first | refine sJ ?_ | refine And.intro (by first | exact trivial | kernel_rfl) ?_ | rw [hp3])
      try (conv => whnf)
      refine CallK.inl rfl ?_
      refine ICall.sort0 k_sortD0 ?_
      repeat ((conv => whnf); first | refine sJ ?_ | refine And.intro (by first | exact trivial | kernel_rfl) ?_ )
      try (conv => whnf)
      refine hK0 _ ?_
      rw [hslot, hend [] (by rw [hn0]) .nil, List.append_nil, hb0]
      have : Qn = ⟨Qn.sts, Qn.atts, []⟩ := by rw [← h1]
      rw [← this]
      exact PInv.frames ⟨g3, sv3, dv3, hP3⟩ rfl rfl rfl
    · rw [h1] at hp3
      have hlen : Qn.dels.length = Q.dels.length + new.length := by rw [hnew]; simp
      have hic : InC (Q.dels.length : Int) Qn.dels.length := ⟨by omega, by omega⟩
      repeat ((conv => whnf); first | refine sJ ?_ | refine And.intro (by first | exact trivial | exact hic | kernel_rfl) ?_ | rw [hp3])
      try (conv => whnf)
      refine CallK.inl rfl ?_
      have h2' : S3.bx[db]? = some (.cells (flatE (Q.dels.map Del.av) ++ flatE (new.map Del.av) ++ ex) 97) := by
        rw [h2, hnew, List.map_append, flatE_app]; rfl
      have hfl := (delWide Q.dels).flen
      rw [List.length_map] at hfl
      refine ICall.sort (av := Del.av) (enc := Del.enc) (lt := ltOf cfD) (by decide) (fun _ => rfl) Del.enc_ok k_sortD k_sortD0 h2' (by omega) (by rw [hfl]; simp) (by omega) fun ds hp hps => ?_
      repeat ((conv => whnf); first | refine sJ ?_ | refine And.intro (by first | exact trivial | kernel_rfl) ?_ )
      try (conv => whnf)
      refine hK0 _ ?_
      have hps' : ds.Pairwise fun a b => a.flow ≤ b.flow := hps.imp fun {a b} hab => by
        rw [ltD] at hab
        simpa using hab
      rw [hslot, hend ds hp hps']
      have hlen2 : (Q.dels ++ ds).length = Qn.dels.length := by rw [List.length_append, hlen, hp.length_eq]
      have hfin := hP3.sortD h1 h2 hlen2
      rw [List.map_append, flatE_app] at hfin
      exact PInv.frames hfin rfl rfl rfl
end
end HM
