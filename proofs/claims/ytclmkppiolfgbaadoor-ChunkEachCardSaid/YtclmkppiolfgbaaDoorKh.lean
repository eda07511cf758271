import Derived.Test.YtclmkppiolfgbaaDoorKg
namespace Go.Proofs.YtclmkppiolfgbaaDoor
open Go.Proofs
open Go.W
attribute [local irreducible] Decidable.decide
set_option linter.unusedSimpArgs false
set_option linter.unusedVariables false
theorem Tryd.agg41 : aggB Tryd.prog 41 = some true := by kernel_rfl
theorem Tryd.build70 : Build Tryd.prog 70 #[(0, 1), (1, 1)] #[.slice none 0 0, .int .i64 0] := ⟨_, .agg #[.slice none 0 0, .int .i64 0], Tryd.underlying70, by kernel_rfl, rfl, fun w => by kernel_rfl⟩
theorem Tryd.build74 : Build Tryd.prog 74 #[(0, 1), (1, 1), (2, 1), (3, 1), (4, 1), (5, 1), (6, 1)] #[.int .i64 0, .int .i64 0, .int .u64 0, .int .u64 0, .bool false, .int .i64 0, .int .i64 0] := ⟨_, .agg #[.int .i64 0, .int .i64 0, .int .u64 0, .int .u64 0, .bool false, .int .i64 0, .int .i64 0], Tryd.underlying74, by kernel_rfl, rfl, fun w => by kernel_rfl⟩
theorem Tryd.goes33 : Goes Tryd.prog 33 := ⟨_, Tryd.func33, by kernel_rfl, by kernel_rfl⟩
theorem Tryd.size41 : sizeB Tryd.prog 41 = some 3 := by kernel_rfl
theorem Tryd.zero41 : zeroB Tryd.prog 41 = some #[.int .i64 0, .float .f64 0, .bool false] := by kernel_rfl


theorem Tab.ne {w : World} {o : Option Nat} (ht : Tab w) (hg : Ge w o) : 1 ∉ o.toList := fun h => by
  have := ht.lt
  cases o with
  | none => cases h
  | some g => simp at h; subst h; have := hg _ rfl; omega
theorem nm3 {w : World} {bz bw : Nat} {ob : Option Nat} (ht : Tab w) (h1 : Ge w (some bz)) (h2 : Ge w (some bw)) (h3 : Ge w ob) : 1 ∉ bz :: bw :: ob.toList := fun h => by
  rcases List.mem_cons.1 h with h | h
  · exact ht.ne h1 (by simp [h])
  · rcases List.mem_cons.1 h with h | h
    · exact ht.ne h2 (by simp [h])
    · exact ht.ne h3 h
theorem ge3 {X : List Nat} {w : World} {bz bw : Nat} {ob : Option Nat} (h1 : Ge w (some bz)) (h2 : Ge w (some bw)) (h3 : Ge w ob) : ∀ y, y ∈ bz :: bw :: ob.toList → y ∈ X ∨ w.heap.size ≤ y := fun y h => by
  rcases List.mem_cons.1 h with h | h
  · exact .inr (by subst h; exact h1 _ rfl)
  · rcases List.mem_cons.1 h with h | h
    · exact .inr (by subst h; exact h2 _ rfl)
    · exact h3.mem y h
theorem ge2 {X : List Nat} {w : World} {bw : Nat} {ob : Option Nat} (h2 : Ge w (some bw)) (h3 : Ge w ob) : ∀ y, y ∈ bw :: ob.toList → y ∈ X ∨ w.heap.size ≤ y := fun y h => by
  rcases List.mem_cons.1 h with h | h
  · exact .inr (by subst h; exact h2 _ rfl)
  · exact h3.mem y h
theorem mem3 {w : World} {bz bw : Nat} {ob ob1 : Option Nat} (h : ob1 = ob ∨ Ge w ob1) : ∀ y, y ∈ bz :: bw :: ob1.toList → y ∈ bz :: bw :: ob.toList ∨ w.heap.size ≤ y := fun y hy => by
  rcases List.mem_cons.1 hy with h1 | h1
  · left; simp [h1]
  · exact (wr_mem h y h1).imp (List.mem_cons_of_mem _) id
theorem wr0 {w : World} {bw : Nat} {U : TypeId} {rest : List Value} (h : w.heap[bw]? = some (.cells (.slice none 0 0 :: .int .i64 0 :: rest).toArray U (0, 0))) : Wr w bw U rest [] none 0 0 [] none :=
  ⟨h, OwnS.nil _ _ _, PacksN.nil 0, Apart.nil _⟩

theorem pack_new {X : List Nat} {w : World} {v0 : Value} {ds : List Smp} (hs : RSl 3 RSmp X w v0 ds) (hl : ds.length ≤ 140737488355328) (ht : Tab w) :
    Calls Tryd.prog 13 #[v0] w (Ret fun r w' => ∃ a n c bs e ob, r = .tuple #[.slice a n c, .int .i64 e] ∧ OwnS w' 5 1 a n c (bs.map bv) ob ∧ (∀ b, b ∈ bs → b < 256) ∧ Ge w ob ∧ PackIs ds bs e ∧ Evo [] w w') := by
  have hok := rsl_ok hs
  have hs0 := hs
  obtain ⟨a0, c0, rfl, hlc, _⟩ := hs
  refine calls_of_cw (N := 54) Tryd.func13 rfl rfl rfl ?_
  refine cw_seq ?_
  refine cw_region ?_
  refine wl_val rfl (ex_assign rfl) ?_
  refine wl_val rfl (ex_assign rfl) ?_
  refine wl_nil (nrm_then ?_)
  refine cw_seq ?_
  refine cw_seq ?_
  refine cw_region ?_
  refine wl_val rfl (ex_move rfl) ?_
  refine wl_val rfl (ex_len_slice rfl Tryd.underlying22 rfl) ?_
  refine wl_val rfl (ex_gtr rfl rfl) ?_
  refine wl_nil (nrm_then ?_)
  refine cw_if rfl (fun hc11 => ?_) (fun hc11 => ?_)
  · skip
    refine cw_seq ?_
    refine cw_region ?_
    refine wl_val rfl (ex_assign rfl) ?_
    refine wl_val rfl (ex_assign rfl) ?_
    refine wl_nil (nrm_then ?_)
    refine cw_ret (ret_then (body_ret2 rfl rfl rfl ?_))
    exact ⟨none, 0, 0, [], 1, none, rfl, OwnS.nil _ _ _, fun _ h => (by cases h), Ge.nil _, .inl ⟨by omega, rfl, rfl⟩, (Evo.refl [] w)⟩
  · skip
    refine cw_skip (nrm_then ?_)
    refine cw_seq ?_
    refine cw_seq ?_
    refine cw_region ?_
    refine wl_val rfl (ex_assign rfl) ?_
    refine wl_nil (nrm_then ?_)
    refine cw_block ?_
    refine cw_loop (α := Nat) (1) (fun k => [(4, .int .i64 (k : Nat))]) [(0, _)] (fun k wr => Evo [] w wr ∧ (1 ≤ k ∧ (k ≤ ds.length ∨ k = 1) ∧ RisesTo ds k)) (fun k => ds.length - k) ⟨rfl, trivial⟩ ⟨rfl, trivial⟩ ⟨Evo.refl _ _, ⟨Nat.le_refl _, .inr rfl, fun i _ h => by omega⟩⟩ ?_
    rintro k wr1 ⟨hV2, ⟨hk1, hk, hrs⟩⟩
    show CW _ _ _ _ [(4, _), (0, _)] _
    have hE3 := (Evo.refl [] w).then hV2
    refine cw_seq ?_
    refine cw_seq ?_
    refine cw_region ?_
    refine wl_val rfl (ex_move rfl) ?_
    refine wl_val rfl (ex_move rfl) ?_
    refine wl_val rfl (ex_len_slice rfl Tryd.underlying22 rfl) ?_
    refine wl_val rfl (ex_lss rfl rfl) ?_
    refine wl_nil (nrm_then ?_)
    refine cw_if rfl (fun hc15 => ?_) (fun hc15 => ?_)
    · skip
      have hk' : k < ds.length := by omega
      refine cw_skip (nrm_then ?_)
      refine cw_seq ?_
      refine cw_block ?_
      refine cw_seq ?_
      obtain ⟨_, b1, o1, rfl, -, hc1⟩ := smp_at hs0 hk'
      obtain ⟨_, b2, o2, ha2, -, hc2⟩ := smp_at hs0 (k := k - 1) (by omega)
      cases ha2
      refine cw_quiet (by kernel_rfl) (by kernel_rfl) ?_
      refine ql_val rfl (fun _ hq5 => ex_move rfl) ?_
      refine ql_val rfl (fun _ hq5 => ex_move rfl) ?_
      refine ql_val rfl (fun _ hq5 => ex_indexAddr (n := k) rfl rfl Tryd.elem22 (by omega)) ?_
      refine ql_val rfl (fun _ hq5 => ex_fieldAddr rfl Tryd.fld41_0) ?_
      refine ql_val rfl (fun _ hq5 => ex_load1 rfl Tryd.agg2 ((hc1.evo (hE3.then hq5) (by simp)) 0 _ rfl)) ?_
      refine ql_val rfl (fun _ hq5 => ex_move rfl) ?_
      refine ql_val rfl (fun _ hq5 => ex_move rfl) ?_
      refine ql_val rfl (fun _ hq5 => ex_sub_i64 rfl rfl (by omega) (by omega)) ?_
      refine ql_val rfl (fun _ hq5 => ex_indexAddrZ (n := k - 1) rfl rfl (by omega) Tryd.elem22 (by omega)) ?_
      refine ql_val rfl (fun _ hq5 => ex_fieldAddr rfl Tryd.fld41_0) ?_
      refine ql_val rfl (fun _ hq5 => ex_load1 rfl Tryd.agg2 ((hc2.evo (hE3.then hq5) (by simp)) 0 _ rfl)) ?_
      refine ql_val rfl (fun _ hq5 => ex_leq rfl rfl) ?_
      refine ql_nil (fun wq4 hq5 => nrm_then ?_)
      have hE6 := hE3.then hq5
      have hE7 := hV2.then hq5
      refine cw_if rfl (fun hc29 => ?_) (fun hc29 => ?_)
      · skip
        refine cw_seq ?_
        refine cw_region ?_
        refine wl_val rfl (ex_assign rfl) ?_
        refine wl_val rfl (ex_assign rfl) ?_
        refine wl_nil (nrm_then ?_)
        refine cw_ret (ret_block (ret_then (ret_then (ret_block (ret_then (body_ret2 rfl rfl rfl ?_))))))
        exact ⟨none, 0, 0, [], 170, none, rfl, OwnS.nil _ _ _, fun _ h => (by cases h), Ge.nil _, .inr (.inl ⟨by omega, fun h => by have := h (k - 1) (by omega); simp only [Nat.sub_add_cancel hk1] at this; omega, rfl, rfl⟩), hE6⟩
      · skip
        refine cw_skip (nrm_block (nrm_then ?_))
        refine cw_region ?_
        refine wl_val rfl (ex_move rfl) ?_
        refine wl_val rfl (ex_add_i64 rfl rfl (by omega) (by omega)) ?_
        refine wl_val rfl (ex_assign rfl) ?_
        refine wl_nil (nrm_same ?_)
        refine ⟨k + 1, ?_, ⟨rfl, trivial⟩, ⟨rfl, trivial⟩, hE7, ?_⟩
        · omega
        · skip
          exact ⟨by omega, by omega, hrs.succ hk' (by omega) (by omega)⟩
    · skip
      refine cw_exit (ex_then (ex_then (ex_here (nrm_then ?_))))
      refine cw_seq ?_
      refine cw_region ?_
      refine wl_val rfl (ex_build (vs := []) Tryd.build70 rfl (cells := [_, _]) rfl) ?_
      refine wl_boxA rfl rfl fun b8 w9 hB10 hs11 hw12 => ?_
      have hG13 := Ge.new hE3 hs11
      have hG14 := Ge.new hV2 hs11
      have hE15 := hE3.then hw12
      have hE16 := hV2.then hw12
      refine wl_val rfl (ex_build (vs := []) Tryd.build74 rfl (cells := [_, _, _, _, _, _, _]) rfl) ?_
      refine wl_boxA rfl rfl fun b17 w18 hB19 hs20 hw21 => ?_
      have hA22 := Apart.new (Lt.blk hB10) hs20
      have hG23 := Ge.new hE15 hs20
      have hG24 := Ge.new hE16 hs20
      have hE25 := hE15.then hw21
      have hE26 := hE16.then hw21
      have hB27 := hw21.blk0 hB10
      refine wl_val rfl (ex_assign rfl) ?_
      refine wl_val rfl (ex_assign rfl) ?_
      refine wl_nil (nrm_then ?_)
      refine cw_seq ?_
      refine cw_region ?_
      refine wl_val rfl (ex_move rfl) ?_
      refine wl_val rfl (ex_move rfl) ?_
      refine wl_val rfl (ex_len_slice rfl Tryd.underlying22 rfl) ?_
      refine wl_val rfl (ex_convU rfl Tryd.underlying3 Tryd.underlying72) ?_
      rw [u64_of (show ds.length < 18446744073709551616 by omega)]
      refine wl_call1 (vs := [_, _, _]) Tryd.goes32 rfl (put_ok (wr0 (rest := []) hB27) ds.length 17 (by omega) (by omega) (by simp)) rfl ?_
      rintro _ w28 ⟨rfl, a1, m1, c1, bs1, ob1, hW1, hw29, hb1⟩
      have hA9 := ap_ob (Apart.nil (some b17)) (Lt.blk hB19) hb1
      have hg1 := ge_ob (Ge.nil _) hE25 hb1
      have hE30 := hE25.step hw29 (ge2 hG13 (Ge.nil _))
      have hB31 := hw29.blk hB19 (nm2 hA22.symm (Apart.nil _))
      refine wl_nil (nrm_then ?_)
      refine cw_seq ?_
      refine cw_seq ?_
      refine cw_region ?_
      refine wl_val rfl (ex_move rfl) ?_
      refine wl_val rfl (ex_len_slice rfl Tryd.underlying22 rfl) ?_
      refine wl_val rfl (ex_move rfl) ?_
      refine wl_nil (nrm_then ?_)
      refine cw_block ?_
      refine cw_loop (α := Nat × Option Addr × Nat × Nat × List Nat × Option Nat) ((0, a1, m1, c1, bs1, ob1)) (fun x => [(41, .int .i64 (x.1 : Nat))]) [(5, _), (6, _), (39, _), (40, _)] (fun x wr => Evo (b17 :: b8 :: ob1.toList) w28 wr ∧ (x.1 ≤ ds.length ∧ Wr wr b8 70 [] (bitsTo ds x.1) x.2.1 x.2.2.1 x.2.2.2.1 x.2.2.2.2.1 x.2.2.2.2.2 ∧ wr.heap[b17]? = some (.cells (zv (stAt ds x.1)).toArray 74 (0, 0)) ∧ Apart (some b17) x.2.2.2.2.2 ∧ (x.2.2.2.2.2 = ob1 ∨ Ge w28 x.2.2.2.2.2))) (fun x => ds.length - x.1) ⟨rfl, trivial⟩ ⟨rfl, rfl, rfl, rfl, trivial⟩ ⟨Evo.refl _ _, ⟨Nat.zero_le _, by rw [bitsTo_zero]; exact hW1, by rw [stAt_zero]; exact hB31, hA9, .inl rfl⟩⟩ ?_
      rintro ⟨k, a2, m2, c2, bs2, ob2⟩ wr32 ⟨hV33, ⟨hk, hR, hZ, hzo, hob2⟩⟩
      show CW _ _ _ _ [(41, .int .i64 (k : Nat)), (5, _), (6, _), (39, _), (40, _)] _
      try dsimp only at hk
      try dsimp only at hR
      try dsimp only at hZ
      try dsimp only at hzo
      try dsimp only at hob2
      have hE34 := hE30.step hV33 (ge3 hG23 hG13 hg1)
      have hg2 := ge_ob hg1 hE30 hob2
      have hbl := bitsTo_len ds k
      have hso := stAt_ok k hok
      have hsn := stAt_n (l := ds) hk
      refine cw_seq ?_
      refine cw_region ?_
      refine wl_val rfl (ex_lss rfl rfl) ?_
      refine wl_nil (nrm_then ?_)
      refine cw_seq ?_
      refine cw_if rfl (fun hc42 => ?_) (fun hc42 => ?_)
      · skip
        have hk' : k < ds.length := by omega
        obtain ⟨_, b1, o1, rfl, -, hc1⟩ := smp_at hs0 hk'
        refine cw_skip (nrm_then ?_)
        refine cw_seq ?_
        refine cw_block ?_
        refine cw_seq ?_
        refine cw_region ?_
        refine wl_val rfl (ex_indexAddr (n := k) rfl rfl Tryd.elem22 (by omega)) ?_
        refine wl_val rfl (ex_loadA rfl Tryd.agg41 Tryd.size41 (vs := [_, _, _]) rfl (hc1.evo hE34 (by simp))) ?_
        refine wl_alloc rfl Tryd.zero41 fun b35 w36 hB37 hs38 hw39 => ?_
        have hA40 := Apart.new (Lt.blk hR.blk) hs38
        have hA41 := Apart.new (Lt.blk hZ) hs38
        have hA42 := Apart.new (Lt.own hR.own) hs38
        have hG43 := Ge.new hE34 hs38
        have hG44 := Ge.new hV33 hs38
        have hE45 := hE34.then hw39
        have hE46 := hV33.then hw39
        have hB47 := hw39.blk0 hR.blk
        have hB48 := hw39.blk0 hZ
        have hO49 := hR.own.evo0 hw39
        refine wl_storeBlk rfl rfl Tryd.size41 hB37 rfl rfl ⟨by first | rfl | assumption, by first | rfl | assumption, by first | rfl | assumption, trivial⟩ fun w50 hB51 hw52 => ?_
        have hE53 := hE45.step hw52 hG43.mem1
        have hE54 := hE46.step hw52 hG44.mem1
        have hB55 := hw52.blk hB47 hA40.nmem1
        have hB56 := hw52.blk hB48 hA41.nmem1
        have hO57 := hO49.evo hw52 hA42.own1
        refine wl_nil (nrm_then ?_)
        refine cw_region ?_
        refine wl_val rfl (ex_move rfl) ?_
        refine wl_val rfl (ex_move rfl) ?_
        refine wl_val rfl (ex_loadBlk rfl Tryd.agg41 Tryd.size41 hB51 rfl) ?_
        refine wl_call1 (vs := [_, _, _]) Tryd.goes33 rfl (writeA_ok (s := ds[k]) ⟨hB55, hO57, hR.pk, hR.ap⟩ hB56 hA22.symm hzo hso (by omega) (hok _ (List.getElem_mem hk')) (by omega) (ht.evo hE53 (by simp)) (nm3 ht hG23 hG13 hg2)) rfl ?_
        rintro _ w58 ⟨rfl, a3, m3, c3, bs3, ob3, hW3, hZ3, hw59, hb3⟩
        have hob3 := ob_trans hob2 hE54 hb3
        have hzo3 := ap_ob hzo (Lt.blk hB56) hb3
        have hE60 := hE53.step hw59 (ge3 hG23 hG13 hg2)
        have hE61 := hE54.step hw59 (mem3 hob2)
        refine wl_nil (nrm_block (nrm_then ?_))
        refine cw_region ?_
        refine wl_val rfl (ex_add_i64 rfl rfl (by omega) (by omega)) ?_
        refine wl_val rfl (ex_move rfl) ?_
        refine wl_nil (nrm_same ?_)
        refine ⟨(k + 1, a3, m3, c3, bs3, ob3), ?_, ⟨rfl, trivial⟩, ⟨rfl, rfl, rfl, rfl, trivial⟩, hE61, ?_⟩
        · (try dsimp only); omega
        · skip
          try dsimp only
          refine ⟨by omega, ?_, ?_, hzo3, hob3⟩
          · rw [bitsTo_succ hk']; exact ⟨hW3.blk, hW3.own, hW3.pk, hW3.ap⟩
          · rw [stAt_succ hk']; exact hZ3
      · skip
        refine cw_exit (ex_then (ex_then (ex_here (nrm_then ?_))))
        refine cw_seq ?_
        refine cw_region ?_
        refine wl_val rfl (ex_move rfl) ?_
        refine wl_val rfl (ex_nilCheck rfl) ?_
        refine wl_val rfl (ex_fieldAddr rfl Tryd.fld70_0) ?_
        refine wl_val rfl (ex_load1 rfl Tryd.agg24 (cell_nth hR.blk rfl)) ?_
        refine wl_val rfl (ex_assign rfl) ?_
        refine wl_val rfl (ex_assign rfl) ?_
        refine wl_nil (nrm_then ?_)
        refine cw_ret (body_ret2 rfl rfl rfl ?_)
        have hkl : k = ds.length := by omega
        have hpk := hR.pk
        rw [bitsTo_all ds (by omega)] at hpk
        exact ⟨a2, m2, c2, bs2, 0, ob2, rfl, hR.own, hpk.lt, hg2, .inr (.inr ⟨by omega, hrs.all (by omega), hpk, rfl⟩), hE34⟩


theorem pack_ok {X : List Nat} {w : World} {v0 : Value} {ds : List Smp} (hs : RSl 3 RSmp X w v0 ds) (hl : ds.length ≤ 140737488355328) (ht : Tab w) :
    Calls Tryd.prog 13 #[v0] w (Ret fun r w' => ∃ v bs e, r = .tuple #[v, .int .i64 e] ∧ RSl 1 RB [] w' v bs ∧ PackIs ds bs e ∧ Evo [] w w') :=
  (pack_new hs hl ht).mono fun _ _ ⟨v, he, _, _, _, bs, e1, _, hv, hO, hb, _, hP, hE⟩ => ⟨v, he, _, bs, e1, hv, own_rsl hO hb (fun _ _ => by simp), hP, hE⟩

end Go.Proofs.YtclmkppiolfgbaaDoor
