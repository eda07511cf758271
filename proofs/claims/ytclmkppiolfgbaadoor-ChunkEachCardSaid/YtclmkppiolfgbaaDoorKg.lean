import Derived.Test.YtclmkppiolfgbaaDoorKf
namespace Go.Proofs.YtclmkppiolfgbaaDoor
open Go.Proofs
open Go.W
attribute [local irreducible] Decidable.decide
set_option linter.unusedSimpArgs false
set_option linter.unusedVariables false


theorem writeB_ok {w : World} {bw : Nat} {U V : TypeId} {l : List Bool} {a : Option Addr} {m c : Nat} {bs : List Nat} {ob : Option Nat} {z : Stt} {s : Smp} (hW : Wr w bw U (zv z) l a m c bs ob)  (hz : z.Ok) (hn : z.n ≤ 1000000) (hs : s.Ok) (hl : l.length ≤ 100000000000) (ht : Tab w) (h1 : 1 ∉ (bw :: ob.toList)) :
    Calls Tryd.prog 33 #[.pointer (some ⟨bw, 2, none⟩), .pointer (some ⟨bw, 0, none⟩), .agg #[.int .i64 s.t, .float .f64 s.v, .bool s.st]] w (Ret fun r w' => r = .tuple #[] ∧ ∃ a' m' c' bs' ob', Wr w' bw U (zv (step z s).2) (l ++ (step z s).1) a' m' c' bs' ob' ∧  Evo (bw :: ob.toList) w w' ∧ (ob' = ob ∨ Ge w ob')) := by
  obtain ⟨hB0, hO0, hP0, hA0⟩ := hW
  have hzf := hz.f
  have hx := xor_lt (cb_lt hs.v) hz.b
  refine calls_of_cw (N := 160) Tryd.func33 rfl rfl rfl ?_
  refine cw_seq ?_
  refine cw_region ?_
  refine wl_boxA rfl rfl fun b1 w2 hB3 hs4 hw5 => ?_
  have hA6 := Apart.new (Lt.blk hB0) hs4
  have hA7 := Apart.new (Lt.own hO0) hs4
  have hG8 := Ge.new (Evo.refl (bw :: ob.toList) w) hs4
  have hE9 := (Evo.refl (bw :: ob.toList) w).then hw5
  have hB10 := hw5.blk0 hB0
  have hO11 := hO0.evo0 hw5
  refine wl_nil (nrm_then ?_)
  refine cw_seq ?_
  refine cw_cut (α := Option Addr × Nat × Nat × List Nat × Option Nat) (fun y => []) [(0, _), (1, _), (5, _)] (fun y wr => Evo (bw :: ob.toList) w2 wr ∧ (Wr wr bw U [.int .i64 z.n, .int .i64 z.t, .int .u64 (u64 (tnext z s).d), .int .u64 z.b, .bool z.f.is, .int .i64 z.f.l, .int .i64 z.f.r] (l ++ tpart z s) y.1 y.2.1 y.2.2.1 y.2.2.2.1 y.2.2.2.2 ∧ (y.2.2.2.2 = ob ∨ Ge w y.2.2.2.2) ∧ (y.2.2.2.2 = ob ∨ Ge w2 y.2.2.2.2))) ⟨rfl, rfl, rfl, trivial⟩ ?_ ?_
  · skip
    refine cw_seq ?_
    refine cw_region ?_
    refine wl_val rfl (ex_move rfl) ?_
    refine wl_val rfl (ex_nilCheck rfl) ?_
    refine wl_val rfl (ex_fieldAddr rfl Tryd.fld74_0) ?_
    refine wl_val rfl (ex_load1 rfl Tryd.agg3 (cell_nth hB10 rfl)) ?_
    refine wl_val rfl (ex_eql rfl rfl) ?_
    refine wl_nil (nrm_then ?_)
    refine cw_if rfl (fun hc14 => ?_) (fun hc14 => ?_)
    · skip
      refine cw_seq ?_
      refine cw_region ?_
      refine wl_val rfl (ex_move rfl) ?_
      refine wl_val rfl (ex_fieldAddr rfl Tryd.fld41_0) ?_
      refine wl_val rfl (ex_load1 rfl Tryd.agg2 (cell_nth hB3 rfl)) ?_
      refine wl_val rfl (ex_convU rfl Tryd.underlying2 Tryd.underlying72) ?_
      refine wl_call1 (vs := [_, _, _]) Tryd.goes32 rfl (put_ok ⟨hB10, hO11, hP0, hA0⟩ (u64 s.t) 64 (by omega) (u64_lt _) (by first | omega | (simp only [List.length_append, num_length]; omega))) rfl ?_
      rintro _ w13 ⟨rfl, a2, m2, c2, bs2, ob2, hW2, hw14, hb2⟩
      have hob2 := ob_trans (.inl rfl) hE9 hb2
      have hoc2 := ob_trans (.inl rfl) (Evo.refl (bw :: ob.toList) w2) hb2
      have hA12 := ap_ob hA7.symm (Lt.blk hB3) hb2
      have hE15 := hE9.step hw14 (wr_mem (.inl rfl))
      have hE16 := (Evo.refl (bw :: ob.toList) w2).step hw14 (wr_mem (.inl rfl))
      have hB17 := hw14.blk hB3 (nm2 hA6.symm hA7.symm)
      refine wl_nil (nrm_then ?_)
      refine cw_region ?_
      refine wl_val rfl (ex_move rfl) ?_
      refine wl_val rfl (ex_nilCheck rfl) ?_
      refine wl_val rfl (ex_fieldAddr rfl Tryd.fld74_2) ?_
      refine wl_store1 rfl rfl (by first | rfl | assumption) Tryd.size72 hW2.blk rfl fun w18 hB19 hw20 => ?_
      have hE21 := hE15.step hw20 (fun y hy => .inl (by simp at hy; simp [hy]))
      have hE22 := hE16.step hw20 (fun y hy => .inl (by simp at hy; simp [hy]))
      have hB23 := hw20.blk hB17 hA6.symm.nmem1
      have hO24 := hW2.own.evo hw20 hW2.ap.symm.own1
      try simp only [List.setIfInBounds_toArray, List.set_cons_zero, List.set_cons_succ, Nat.reduceAdd, Nat.zero_add, Nat.add_zero] at hB19
      refine wl_nil (nrm_same ?_)
      refine ⟨(a2, m2, c2, bs2, ob2), trivial, ⟨rfl, rfl, rfl, trivial⟩, hE22, ?_⟩
      have hz0 : z.n = 0 := by omega
      have e1 : (tnext z s).d = 0 := by simp only [tnext, if_pos hz0]
      have e2 : tpart z s = num (u64 s.t) 64 := by simp only [tpart, if_pos hz0]
      rw [e1, e2]
      have hZf := hB19
      exact ⟨⟨hZf, hO24, hW2.pk, hW2.ap⟩, hob2, hoc2⟩
    · skip
      refine cw_seq ?_
      refine cw_any (fun w0 w' => Evo [] w0 w') (by kernel_rfl) (fun w25 hw26 => ?_)
      have hE27 := hE9.then hw26
      have hE28 := (Evo.refl (bw :: ob.toList) w2).then hw26
      have hB29 := hw26.blk0 hB10
      have hO30 := hO11.evo0 hw26
      have hB31 := hw26.blk0 hB3
      refine ae_take 0 rfl (by kernel_rfl) (by kernel_rfl) (by kernel_rfl) rfl (fun _ hS => ex_fieldAddr rfl Tryd.fld41_0) (Evo.refl [] w25) ?_
      refine ae_take 1 rfl (by kernel_rfl) (by kernel_rfl) (by kernel_rfl) rfl (fun _ hS => ex_load1 rfl Tryd.agg2 (cell_nth (hS.blk0 hB31) rfl)) (Evo.refl [] w25) ?_
      refine ae_take 2 rfl (by kernel_rfl) (by kernel_rfl) (by kernel_rfl) rfl (fun _ hS => ex_convU rfl Tryd.underlying2 Tryd.underlying72) (Evo.refl [] w25) ?_
      refine ae_take 3 rfl (by kernel_rfl) (by kernel_rfl) (by kernel_rfl) rfl (fun _ hS => ex_move rfl) (Evo.refl [] w25) ?_
      refine ae_take 4 rfl (by kernel_rfl) (by kernel_rfl) (by kernel_rfl) rfl (fun _ hS => ex_nilCheck rfl) (Evo.refl [] w25) ?_
      refine ae_take 5 rfl (by kernel_rfl) (by kernel_rfl) (by kernel_rfl) rfl (fun _ hS => ex_fieldAddr rfl Tryd.fld74_1) (Evo.refl [] w25) ?_
      refine ae_take 6 rfl (by kernel_rfl) (by kernel_rfl) (by kernel_rfl) rfl (fun _ hS => ex_load1 rfl Tryd.agg2 (cell_nth (hS.blk0 hB29) rfl)) (Evo.refl [] w25) ?_
      refine ae_take 7 rfl (by kernel_rfl) (by kernel_rfl) (by kernel_rfl) rfl (fun _ hS => ex_convU rfl Tryd.underlying2 Tryd.underlying72) (Evo.refl [] w25) ?_
      refine ae_take 8 rfl (by kernel_rfl) (by kernel_rfl) (by kernel_rfl) rfl (fun _ hS => ex_subU rfl rfl) (Evo.refl [] w25) ?_
      refine ae_take 9 rfl (by kernel_rfl) (by kernel_rfl) (by kernel_rfl) rfl (fun _ hS => ex_assign rfl) (Evo.refl [] w25) ?_
      refine ae_done (by kernel_rfl) (nrm_then ?_)
      refine cw_seq ?_
      refine cw_region ?_
      refine wl_val rfl (ex_move rfl) ?_
      refine wl_val rfl (ex_move rfl) ?_
      refine wl_val rfl (ex_move rfl) ?_
      refine wl_val rfl (ex_nilCheck rfl) ?_
      refine wl_val rfl (ex_fieldAddr rfl Tryd.fld74_2) ?_
      refine wl_val rfl (ex_load1 rfl Tryd.agg72 (cell_nth hB29 rfl)) ?_
      refine wl_val rfl (ex_subU rfl rfl) ?_
      refine wl_val rfl (ex_convI rfl Tryd.underlying72 Tryd.underlying2) ?_
      rw [u64_sub2]
      refine wl_call1 (vs := [_, _]) Tryd.goes46 rfl (putTime_ok ⟨hB29, hO30, hP0, hA0⟩ (i64 (s.t - z.t - z.d)) (i64_rng _) (by first | omega | (simp only [List.length_append, num_length]; omega))) rfl ?_
      rintro _ w33 ⟨rfl, a3, m3, c3, bs3, ob3, hW3, hw34, hb3⟩
      have hob3 := ob_trans (.inl rfl) hE27 hb3
      have hoc3 := ob_trans (.inl rfl) hE28 hb3
      have hA32 := ap_ob hA7.symm (Lt.blk hB31) hb3
      have hE35 := hE27.step hw34 (wr_mem (.inl rfl))
      have hE36 := hE28.step hw34 (wr_mem (.inl rfl))
      have hB37 := hw34.blk hB31 (nm2 hA6.symm hA7.symm)
      refine wl_nil (nrm_then ?_)
      refine cw_region ?_
      refine wl_val rfl (ex_move rfl) ?_
      refine wl_val rfl (ex_move rfl) ?_
      refine wl_val rfl (ex_nilCheck rfl) ?_
      refine wl_val rfl (ex_fieldAddr rfl Tryd.fld74_2) ?_
      refine wl_store1 rfl rfl (by first | rfl | assumption) Tryd.size72 hW3.blk rfl fun w38 hB39 hw40 => ?_
      have hE41 := hE35.step hw40 (fun y hy => .inl (by simp at hy; simp [hy]))
      have hE42 := hE36.step hw40 (fun y hy => .inl (by simp at hy; simp [hy]))
      have hB43 := hw40.blk hB37 hA6.symm.nmem1
      have hO44 := hW3.own.evo hw40 hW3.ap.symm.own1
      try simp only [List.setIfInBounds_toArray, List.set_cons_zero, List.set_cons_succ, Nat.reduceAdd, Nat.zero_add, Nat.add_zero] at hB39
      refine wl_nil (nrm_same ?_)
      refine ⟨(a3, m3, c3, bs3, ob3), trivial, ⟨rfl, rfl, rfl, trivial⟩, hE42, ?_⟩
      have hz0 : ¬ z.n = 0 := by omega
      have e1 : (tnext z s).d = i64 (s.t - z.t) := by simp only [tnext, if_neg hz0]
      have e2 : tpart z s = tbits (i64 (s.t - z.t - z.d)) := by simp only [tpart, if_neg hz0]
      rw [e1, e2]
      have hZf := hB39
      rw [u64_sub1] at hZf
      exact ⟨⟨hZf, hO44, hW3.pk, hW3.ap⟩, hob3, hoc3⟩
  · skip
    rintro ⟨a1, m1, c1, bs1, ob1⟩ w45 ⟨hV46, ⟨hW1, hob1, hoq1⟩⟩
    refine nrm_then ?_
    show CW _ _ _ _ [(0, _), (1, _), (5, _)] _
    try dsimp only at hW1
    try dsimp only at hob1
    try dsimp only at hoq1
    have hE47 := hE9.step hV46 (fun y hy => .inl hy)
    have hB48 := hV46.blk hB3 (nm2 hA6.symm hA7.symm)
    have htl := tpart_len z s
    have hapb := ap_ob hA7.symm (Lt.blk hB3) hoq1
    refine cw_seq ?_
    refine cw_any (fun w0 w' => Evo [bw] w0 w') (by kernel_rfl) (fun w49 hw50 => ?_)
    have hE51 := hE47.then hw50
    have hB52 := hw50.blk0 hB48
    have hB53 := hw50.blk0 hW1.blk
    have hO54 := hW1.own.evo0 hw50
    refine ae_take 0 rfl (by kernel_rfl) (by kernel_rfl) (by kernel_rfl) rfl (fun _ hS => ex_move rfl) (Evo.refl [bw] w49) ?_
    refine ae_take 1 rfl (by kernel_rfl) (by kernel_rfl) (by kernel_rfl) rfl (fun _ hS => ex_move rfl) (Evo.refl [bw] w49) ?_
    refine ae_take 2 rfl (by kernel_rfl) (by kernel_rfl) (by kernel_rfl) rfl (fun _ hS => ex_move rfl) (Evo.refl [bw] w49) ?_
    refine ae_take 3 rfl (by kernel_rfl) (by kernel_rfl) (by kernel_rfl) rfl (fun _ hS => ex_nilCheck rfl) (Evo.refl [bw] w49) ?_
    refine ae_take 4 rfl (by kernel_rfl) (by kernel_rfl) (by kernel_rfl) rfl (fun _ hS => ex_fieldAddr rfl Tryd.fld74_0) (Evo.refl [bw] w49) ?_
    refine ae_take 7 rfl (by kernel_rfl) (by kernel_rfl) (by kernel_rfl) rfl (fun _ hS => ex_fieldAddr rfl Tryd.fld41_0) (Evo.refl [bw] w49) ?_
    refine ae_take 8 rfl (by kernel_rfl) (by kernel_rfl) (by kernel_rfl) rfl (fun _ hS => ex_load1 rfl Tryd.agg2 (cell_nth (hS.blk hB52 (hA6.symm.nmem1)) rfl)) (Evo.refl [bw] w49) ?_
    refine ae_loud [5] (by kernel_rfl) rfl ⟨?_, trivial⟩
    refine a_step rfl ?_
    refine wl_val rfl (ex_load1 rfl Tryd.agg3 (cell_nth hB53 rfl)) ?_
    refine wl_nil (ae_next (.inl (Evo.refl [bw] w49)) ?_)
    refine ae_take 6 rfl (by kernel_rfl) (by kernel_rfl) (by kernel_rfl) rfl (fun _ hS => ex_add_i64 rfl rfl (by omega) (by omega)) (Evo.refl [bw] w49) ?_
    refine ae_take 9 rfl (by kernel_rfl) (by kernel_rfl) (by kernel_rfl) rfl (fun _ hS => ex_nilCheck rfl) (Evo.refl [bw] w49) ?_
    refine ae_take 10 rfl (by kernel_rfl) (by kernel_rfl) (by kernel_rfl) rfl (fun _ hS => ex_fieldAddr rfl Tryd.fld74_0) (Evo.refl [bw] w49) ?_
    refine ae_loud [11] (by kernel_rfl) rfl ⟨?_, trivial⟩
    refine a_step rfl ?_
    refine wl_store1 rfl rfl (by first | rfl | assumption) Tryd.size3 hB53 rfl fun w55 hB56 hw57 => ?_
    have hE58 := hE51.step hw57 (fun y hy => .inl (by simp at hy; simp [hy]))
    have hE59 := (Evo.refl [bw] w49).step hw57 (fun y hy => .inl (by simp at hy; simp [hy]))
    have hB60 := hw57.blk hB52 hA6.symm.nmem1
    have hO61 := hO54.evo hw57 hW1.ap.symm.own1
    try simp only [List.setIfInBounds_toArray, List.set_cons_zero, List.set_cons_succ, Nat.reduceAdd, Nat.zero_add, Nat.add_zero] at hB56
    refine wl_nil (ae_next (.inl hE59) ?_)
    refine ae_take 12 rfl (by kernel_rfl) (by kernel_rfl) (by kernel_rfl) rfl (fun _ hS => ex_nilCheck rfl) hE59 ?_
    refine ae_take 13 rfl (by kernel_rfl) (by kernel_rfl) (by kernel_rfl) rfl (fun _ hS => ex_fieldAddr rfl Tryd.fld74_1) hE59 ?_
    refine ae_loud [14] (by kernel_rfl) rfl ⟨?_, trivial⟩
    refine a_step rfl ?_
    refine wl_store1 rfl rfl (by first | rfl | assumption) Tryd.size2 hB56 rfl fun w62 hB63 hw64 => ?_
    have hE65 := hE58.step hw64 (fun y hy => .inl (by simp at hy; simp [hy]))
    have hE66 := hE59.step hw64 (fun y hy => .inl (by simp at hy; simp [hy]))
    have hB67 := hw64.blk hB60 hA6.symm.nmem1
    have hO68 := hO61.evo hw64 hW1.ap.symm.own1
    try simp only [List.setIfInBounds_toArray, List.set_cons_zero, List.set_cons_succ, Nat.reduceAdd, Nat.zero_add, Nat.add_zero] at hB63
    refine wl_nil (ae_next (.inl hE66) ?_)
    refine ae_done (by kernel_rfl) (nrm_then ?_)
    refine cw_seq ?_
    refine cw_seq ?_
    refine cw_region ?_
    refine wl_val rfl (ex_fieldAddr rfl Tryd.fld41_2) ?_
    refine wl_val rfl (ex_load1 rfl Tryd.agg4 (cell_nth hB67 rfl)) ?_
    refine wl_nil (nrm_then ?_)
    refine cw_ifb rfl (fun hc59 => ?_) (fun hc59 => ?_)
    · skip
      refine cw_seq ?_
      refine cw_region ?_
      refine wl_val rfl (ex_move rfl) ?_
      refine wl_call1 (vs := [_, _, _]) Tryd.goes32 rfl (put_ok ⟨hB63, hO68, hW1.pk, hW1.ap⟩ 7 3 (by omega) (by omega) (by first | omega | (simp only [List.length_append, num_length]; omega))) rfl ?_
      rintro _ w70 ⟨rfl, a4, m4, c4, bs4, ob4, hW4, hw71, hb4⟩
      have hob4 := ob_trans hob1 hE65 hb4
      have hA69 := ap_ob hapb (Lt.blk hB67) hb4
      have hE72 := hE65.step hw71 (wr_mem hob1)
      have hB73 := hw71.blk hB67 (nm2 hA6.symm hapb)
      refine wl_nil (nrm_then ?_)
      refine cw_ret (ret_then (body_ret0 rfl ?_))
      rw [step_st hc59]
      dsimp only
      refine ⟨rfl, a4, m4, c4, bs4, ob4, ?_, hE72, hob4⟩
      rw [← List.append_assoc]; exact ⟨hW4.blk, hW4.own, hW4.pk, hW4.ap⟩
    · skip
      refine cw_skip (nrm_then ?_)
      refine cw_seq ?_
      refine cw_any (fun w0 w' => Evo [] w0 w') (by kernel_rfl) (fun w74 hw75 => ?_)
      have hE76 := hE65.then hw75
      have hB77 := hw75.blk0 hB67
      have hB78 := hw75.blk0 hB63
      have hO79 := hO68.evo0 hw75
      refine ae_take 0 rfl (by kernel_rfl) (by kernel_rfl) (by kernel_rfl) rfl (fun _ hS => ex_fieldAddr rfl Tryd.fld41_1) (Evo.refl [] w74) ?_
      refine ae_take 1 rfl (by kernel_rfl) (by kernel_rfl) (by kernel_rfl) rfl (fun _ hS => ex_load1 rfl Tryd.agg39 (cell_nth (hS.blk0 hB77) rfl)) (Evo.refl [] w74) ?_
      refine ae_take 3 rfl (by kernel_rfl) (by kernel_rfl) (by kernel_rfl) rfl (fun _ hS => ex_move rfl) (Evo.refl [] w74) ?_
      refine ae_take 4 rfl (by kernel_rfl) (by kernel_rfl) (by kernel_rfl) rfl (fun _ hS => ex_nilCheck rfl) (Evo.refl [] w74) ?_
      refine ae_take 5 rfl (by kernel_rfl) (by kernel_rfl) (by kernel_rfl) rfl (fun _ hS => ex_fieldAddr rfl Tryd.fld74_3) (Evo.refl [] w74) ?_
      refine ae_take 6 rfl (by kernel_rfl) (by kernel_rfl) (by kernel_rfl) rfl (fun _ hS => ex_load1 rfl Tryd.agg72 (cell_nth (hS.blk0 hB78) rfl)) (Evo.refl [] w74) ?_
      refine ae_loud [2] (by kernel_rfl) rfl ⟨?_, trivial⟩
      refine a_step rfl ?_
      refine wl_call1 (vs := [_]) Tryd.goes47 rfl (numBits_ok s.v hs.v) rfl ?_
      rintro _ w80 ⟨rfl, hw81⟩
      have hE82 := hE76.then hw81
      have hE83 := (Evo.refl [] w74).then hw81
      have hB84 := hw81.blk0 hB77
      have hB85 := hw81.blk0 hB78
      have hO86 := hO79.evo0 hw81
      refine wl_nil (ae_next (.inl hE83) ?_)
      refine ae_take 7 rfl (by kernel_rfl) (by kernel_rfl) (by kernel_rfl) rfl (fun _ hS => ex_xorN (m := cb s.v) (n := z.b) rfl rfl (by omega) (by omega) rfl (cb_lt hs.v) (hz.b)) hE83 ?_
      refine ae_take 8 rfl (by kernel_rfl) (by kernel_rfl) (by kernel_rfl) rfl (fun _ hS => ex_assign rfl) hE83 ?_
      refine ae_done (by kernel_rfl) (nrm_then ?_)
      refine cw_seq ?_
      refine cw_region ?_
      refine wl_val rfl (ex_move rfl) ?_
      refine wl_val rfl (ex_nilCheck rfl) ?_
      refine wl_val rfl (ex_fieldAddr rfl Tryd.fld74_3) ?_
      refine wl_val rfl (ex_load1 rfl Tryd.agg72 (cell_nth hB85 rfl)) ?_
      refine wl_val rfl (ex_move rfl) ?_
      refine wl_val rfl (ex_xorN (m := z.b) (n := cb s.v ^^^ z.b) rfl rfl (by omega) (by omega) rfl (hz.b) (hx)) ?_
      rw [show z.b ^^^ (cb s.v ^^^ z.b) = cb s.v by rw [Nat.xor_comm (cb s.v), ← Nat.xor_assoc, Nat.xor_self, Nat.zero_xor]]
      refine wl_val rfl (ex_nilCheck rfl) ?_
      refine wl_val rfl (ex_fieldAddr rfl Tryd.fld74_3) ?_
      refine wl_store1 rfl rfl (by first | rfl | assumption) Tryd.size72 hB85 rfl fun w87 hB88 hw89 => ?_
      have hE90 := hE82.step hw89 (fun y hy => .inl (by simp at hy; simp [hy]))
      have hO91 := hO86.evo hw89 hW1.ap.symm.own1
      try simp only [List.setIfInBounds_toArray, List.set_cons_zero, List.set_cons_succ, Nat.reduceAdd, Nat.zero_add, Nat.add_zero] at hB88
      refine wl_nil (nrm_then ?_)
      refine cw_seq ?_
      refine cw_seq ?_
      refine cw_region ?_
      refine wl_val rfl (ex_move rfl) ?_
      refine wl_val rfl (ex_eql rfl rfl) ?_
      refine wl_nil (nrm_then ?_)
      refine cw_if rfl (fun hc79 => ?_) (fun hc79 => ?_)
      · skip
        refine cw_seq ?_
        refine cw_region ?_
        refine wl_val rfl (ex_move rfl) ?_
        refine wl_call1 (vs := [_, _, _]) Tryd.goes32 rfl (put_ok ⟨hB88, hO91, hW1.pk, hW1.ap⟩ 0 1 (by omega) (by omega) (by first | omega | (simp only [List.length_append, num_length]; omega))) rfl ?_
        rintro _ w92 ⟨rfl, a5, m5, c5, bs5, ob5, hW5, hw93, hb5⟩
        have hob5 := ob_trans hob1 hE90 hb5
        have hE94 := hE90.step hw93 (wr_mem hob1)
        refine wl_nil (nrm_then ?_)
        refine cw_ret (ret_then (body_ret0 rfl ?_))
        have hx0 : cb s.v ^^^ z.b = 0 := by omega
        rw [step_v hc59, vbits, if_pos hx0]
        dsimp only
        refine ⟨rfl, a5, m5, c5, bs5, ob5, ?_, hE94, hob5⟩
        rw [← List.append_assoc]; exact ⟨hW5.blk, hW5.own, hW5.pk, hW5.ap⟩
      · skip
        have h0 : cb s.v ^^^ z.b ≠ 0 := by omega
        refine cw_skip (nrm_then ?_)
        refine cw_seq ?_
        refine cw_region ?_
        refine wl_val rfl (ex_move rfl) ?_
        refine wl_call1 (vs := [_]) Tryd.goes48 rfl (lz_call (cb s.v ^^^ z.b) _ hx) rfl ?_
        rintro _ w95 ⟨rfl, hw96⟩
        have hE97 := hE90.then hw96
        have hB98 := hw96.blk0 hB88
        have hO99 := hO91.evo0 hw96
        refine wl_val rfl (ex_move rfl) ?_
        refine wl_call1 (vs := [_]) Tryd.goes49 rfl (tz_ok (ht.evo hE97 h1) (cb s.v ^^^ z.b) hx h0) rfl ?_
        rintro _ w100 ⟨rfl, hw101⟩
        have hE102 := hE97.then hw101
        have hB103 := hw101.blk0 hB98
        have hO104 := hO99.evo0 hw101
        have hlt := lz_tz h0 hx
        refine wl_val rfl (ex_assign rfl) ?_
        refine wl_val rfl (ex_assign rfl) ?_
        refine wl_nil (nrm_then ?_)
        refine cw_seq ?_
        refine cw_seq ?_
        refine cw_region ?_
        refine wl_val rfl (ex_move rfl) ?_
        refine wl_val rfl (ex_nilCheck rfl) ?_
        refine wl_val rfl (ex_fieldAddr rfl Tryd.fld74_4) ?_
        refine wl_val rfl (ex_load1 rfl Tryd.agg4 (cell_nth hB103 rfl)) ?_
        refine wl_val rfl (ex_move rfl) ?_
        refine wl_splitb (t := 90) rfl (fun hs90 => ?_) (fun hs90 => ?_)
        · skip
          refine wl_go rfl rfl rfl rfl ?_
          refine wl_val rfl (ex_move rfl) ?_
          refine wl_go rfl rfl rfl rfl ?_
          refine wl_val rfl (ex_nilCheck rfl) ?_
          refine wl_go rfl rfl rfl rfl ?_
          refine wl_val rfl (ex_fieldAddr rfl Tryd.fld74_5) ?_
          refine wl_go rfl rfl rfl rfl ?_
          refine wl_val rfl (ex_load1 rfl Tryd.agg3 (cell_nth hB103 rfl)) ?_
          refine wl_go rfl rfl rfl rfl ?_
          refine wl_val rfl (ex_move rfl) ?_
          refine wl_go rfl rfl rfl rfl ?_
          refine wl_val rfl (ex_leq rfl rfl) ?_
          refine wl_val rfl (ex_pick_t rfl rfl) ?_
          refine wl_val rfl (ex_move rfl) ?_
          refine wl_split (t := 98) rfl (fun hs98 => ?_) (fun hs98 => ?_)
          · skip
            refine wl_go rfl rfl rfl rfl ?_
            refine wl_val rfl (ex_move rfl) ?_
            refine wl_go rfl rfl rfl rfl ?_
            refine wl_val rfl (ex_nilCheck rfl) ?_
            refine wl_go rfl rfl rfl rfl ?_
            refine wl_val rfl (ex_fieldAddr rfl Tryd.fld74_6) ?_
            refine wl_go rfl rfl rfl rfl ?_
            refine wl_val rfl (ex_load1 rfl Tryd.agg3 (cell_nth hB103 rfl)) ?_
            refine wl_go rfl rfl rfl rfl ?_
            refine wl_val rfl (ex_move rfl) ?_
            refine wl_go rfl rfl rfl rfl ?_
            refine wl_val rfl (ex_leq rfl rfl) ?_
            refine wl_val rfl (ex_pick_t rfl rfl) ?_
            refine wl_nil (nrm_then ?_)
            refine cw_if rfl (fun hc105 => ?_) (fun hc105 => ?_)
            · skip
              refine cw_seq ?_
              refine cw_region ?_
              refine wl_val rfl (ex_move rfl) ?_
              refine wl_call1 (vs := [_, _, _]) Tryd.goes32 rfl (put_ok ⟨hB103, hO104, hW1.pk, hW1.ap⟩ 2 2 (by omega) (by omega) (by first | omega | (simp only [List.length_append, num_length]; omega))) rfl ?_
              rintro _ w105 ⟨rfl, a6, m6, c6, bs6, ob6, hW6, hw106, hb6⟩
              have hob6 := ob_trans hob1 hE102 hb6
              have hE107 := hE102.step hw106 (wr_mem hob1)
              refine wl_nil (nrm_then ?_)
              refine cw_seq ?_
              refine cw_any (fun w0 w' => Evo (bw :: ob6.toList) w0 w') (by kernel_rfl) (fun w108 hw109 => ?_)
              have hE110 := hE107.then hw109
              have hB111 := hw109.blk0 hW6.blk
              have hO112 := hW6.own.evo0 hw109
              refine ae_take 0 rfl (by kernel_rfl) (by kernel_rfl) (by kernel_rfl) rfl (fun _ hS => ex_move rfl) (Evo.refl (bw :: ob6.toList) w108) ?_
              refine ae_take 1 rfl (by kernel_rfl) (by kernel_rfl) (by kernel_rfl) rfl (fun _ hS => ex_move rfl) (Evo.refl (bw :: ob6.toList) w108) ?_
              refine ae_take 2 rfl (by kernel_rfl) (by kernel_rfl) (by kernel_rfl) rfl (fun _ hS => ex_move rfl) (Evo.refl (bw :: ob6.toList) w108) ?_
              refine ae_take 3 rfl (by kernel_rfl) (by kernel_rfl) (by kernel_rfl) rfl (fun _ hS => ex_nilCheck rfl) (Evo.refl (bw :: ob6.toList) w108) ?_
              refine ae_take 4 rfl (by kernel_rfl) (by kernel_rfl) (by kernel_rfl) rfl (fun _ hS => ex_fieldAddr rfl Tryd.fld74_6) (Evo.refl (bw :: ob6.toList) w108) ?_
              refine ae_take 7 rfl (by kernel_rfl) (by kernel_rfl) (by kernel_rfl) rfl (fun _ hS => ex_move rfl) (Evo.refl (bw :: ob6.toList) w108) ?_
              refine ae_take 8 rfl (by kernel_rfl) (by kernel_rfl) (by kernel_rfl) rfl (fun _ hS => ex_nilCheck rfl) (Evo.refl (bw :: ob6.toList) w108) ?_
              refine ae_take 9 rfl (by kernel_rfl) (by kernel_rfl) (by kernel_rfl) rfl (fun _ hS => ex_fieldAddr rfl Tryd.fld74_5) (Evo.refl (bw :: ob6.toList) w108) ?_
              refine ae_take 12 rfl (by kernel_rfl) (by kernel_rfl) (by kernel_rfl) rfl (fun _ hS => ex_move rfl) (Evo.refl (bw :: ob6.toList) w108) ?_
              refine ae_take 13 rfl (by kernel_rfl) (by kernel_rfl) (by kernel_rfl) rfl (fun _ hS => ex_nilCheck rfl) (Evo.refl (bw :: ob6.toList) w108) ?_
              refine ae_take 14 rfl (by kernel_rfl) (by kernel_rfl) (by kernel_rfl) rfl (fun _ hS => ex_fieldAddr rfl Tryd.fld74_6) (Evo.refl (bw :: ob6.toList) w108) ?_
              refine ae_loud [5, 10, 15] (by kernel_rfl) rfl ⟨?_, ?_, ?_, trivial⟩
              · skip
                refine a_step rfl ?_
                refine wl_val rfl (ex_load1 rfl Tryd.agg3 (cell_nth hB111 rfl)) ?_
                refine wl_nil (ae_next (.inl (Evo.refl (bw :: ob6.toList) w108)) ?_)
                refine ae_take 6 rfl (by kernel_rfl) (by kernel_rfl) (by kernel_rfl) rfl (fun _ hS => ex_shrN (m := (cb s.v ^^^ z.b)) (n := z.f.r) rfl rfl (by omega) (by omega) (by first | exact Nat.le_of_ble_eq_true rfl | (simp only [IntKind.bits]; omega))) (Evo.refl (bw :: ob6.toList) w108) ?_
                refine ae_loud [10, 15] (by kernel_rfl) rfl ⟨?_, ?_, trivial⟩
                · skip
                  refine a_step rfl ?_
                  refine wl_val rfl (ex_load1 rfl Tryd.agg3 (cell_nth hB111 rfl)) ?_
                  refine wl_nil (ae_next (.inl (Evo.refl (bw :: ob6.toList) w108)) ?_)
                  refine ae_take 11 rfl (by kernel_rfl) (by kernel_rfl) (by kernel_rfl) rfl (fun _ hS => ex_sub_i64 rfl rfl (by omega) (by omega)) (Evo.refl (bw :: ob6.toList) w108) ?_
                  refine ae_loud [15] (by kernel_rfl) rfl ⟨?_, trivial⟩
                  refine a_step rfl ?_
                  refine wl_val rfl (ex_load1 rfl Tryd.agg3 (cell_nth hB111 rfl)) ?_
                  refine wl_nil (ae_next (.inl (Evo.refl (bw :: ob6.toList) w108)) ?_)
                  refine ae_take 16 rfl (by kernel_rfl) (by kernel_rfl) (by kernel_rfl) rfl (fun _ hS => ex_sub_i64 rfl rfl (by omega) (by omega)) (Evo.refl (bw :: ob6.toList) w108) ?_
                  rw [show ((64 : Int) - (z.f.l : Nat) - (z.f.r : Nat)) = ((64 - z.f.l - z.f.r : Nat) : Int) by omega]
                  refine ae_loud [17] (by kernel_rfl) rfl ⟨?_, trivial⟩
                  refine a_step rfl ?_
                  refine wl_call1 (vs := [_, _, _]) Tryd.goes32 rfl (put_ok ⟨hB111, hO112, hW6.pk, hW6.ap⟩ ((cb s.v ^^^ z.b) / 2 ^ z.f.r) (64 - z.f.l - z.f.r) (by omega) (Nat.lt_of_le_of_lt (Nat.div_le_self _ _) hx) (by first | omega | (simp only [List.length_append, num_length]; omega))) rfl ?_
                  rintro _ w113 ⟨rfl, a7, m7, c7, bs7, ob7, hW7, hw114, hb7⟩
                  have hob7 := ob_trans hob6 hE110 hb7
                  have hE115 := hE110.step hw114 (wr_mem hob6)
                  have hE116 := (Evo.refl (bw :: ob6.toList) w108).step hw114 (fun y hy => .inl hy)
                  refine wl_nil (ae_next (.inl hE116) ?_)
                  refine ae_done (by kernel_rfl) (nrm_then ?_)
                  refine cw_ret (ret_then (body_ret0 rfl ?_))
                  have hff : z.f.is = true ∧ z.f.l ≤ lz (cb s.v ^^^ z.b) ∧ z.f.r ≤ tz (cb s.v ^^^ z.b) := ⟨hs90, by omega, by omega⟩
                  rw [step_v hc59, vbits, if_neg h0, if_pos hff]
                  dsimp only
                  refine ⟨rfl, a7, m7, c7, bs7, ob7, ?_, hE115, hob7⟩
                  rw [← List.append_assoc, ← List.append_assoc]; exact ⟨hW7.blk, hW7.own, hW7.pk, hW7.ap⟩
                · skip
                  refine a_step rfl ?_
                  refine wl_val rfl (ex_load1 rfl Tryd.agg3 (cell_nth hB111 rfl)) ?_
                  refine wl_nil (ae_next (.inl (Evo.refl (bw :: ob6.toList) w108)) ?_)
                  refine ae_loud [10] (by kernel_rfl) rfl ⟨?_, trivial⟩
                  refine a_step rfl ?_
                  refine wl_val rfl (ex_load1 rfl Tryd.agg3 (cell_nth hB111 rfl)) ?_
                  refine wl_nil (ae_next (.inl (Evo.refl (bw :: ob6.toList) w108)) ?_)
                  refine ae_take 11 rfl (by kernel_rfl) (by kernel_rfl) (by kernel_rfl) rfl (fun _ hS => ex_sub_i64 rfl rfl (by omega) (by omega)) (Evo.refl (bw :: ob6.toList) w108) ?_
                  refine ae_take 16 rfl (by kernel_rfl) (by kernel_rfl) (by kernel_rfl) rfl (fun _ hS => ex_sub_i64 rfl rfl (by omega) (by omega)) (Evo.refl (bw :: ob6.toList) w108) ?_
                  rw [show ((64 : Int) - (z.f.l : Nat) - (z.f.r : Nat)) = ((64 - z.f.l - z.f.r : Nat) : Int) by omega]
                  refine ae_loud [17] (by kernel_rfl) rfl ⟨?_, trivial⟩
                  refine a_step rfl ?_
                  refine wl_call1 (vs := [_, _, _]) Tryd.goes32 rfl (put_ok ⟨hB111, hO112, hW6.pk, hW6.ap⟩ ((cb s.v ^^^ z.b) / 2 ^ z.f.r) (64 - z.f.l - z.f.r) (by omega) (Nat.lt_of_le_of_lt (Nat.div_le_self _ _) hx) (by first | omega | (simp only [List.length_append, num_length]; omega))) rfl ?_
                  rintro _ w117 ⟨rfl, a7, m7, c7, bs7, ob7, hW7, hw118, hb7⟩
                  have hob7 := ob_trans hob6 hE110 hb7
                  have hE119 := hE110.step hw118 (wr_mem hob6)
                  have hE120 := (Evo.refl (bw :: ob6.toList) w108).step hw118 (fun y hy => .inl hy)
                  refine wl_nil (ae_next (.inl hE120) ?_)
                  refine ae_done (by kernel_rfl) (nrm_then ?_)
                  refine cw_ret (ret_then (body_ret0 rfl ?_))
                  have hff : z.f.is = true ∧ z.f.l ≤ lz (cb s.v ^^^ z.b) ∧ z.f.r ≤ tz (cb s.v ^^^ z.b) := ⟨hs90, by omega, by omega⟩
                  rw [step_v hc59, vbits, if_neg h0, if_pos hff]
                  dsimp only
                  refine ⟨rfl, a7, m7, c7, bs7, ob7, ?_, hE119, hob7⟩
                  rw [← List.append_assoc, ← List.append_assoc]; exact ⟨hW7.blk, hW7.own, hW7.pk, hW7.ap⟩
              · skip
                refine a_step rfl ?_
                refine wl_val rfl (ex_load1 rfl Tryd.agg3 (cell_nth hB111 rfl)) ?_
                refine wl_nil (ae_next (.inl (Evo.refl (bw :: ob6.toList) w108)) ?_)
                refine ae_take 11 rfl (by kernel_rfl) (by kernel_rfl) (by kernel_rfl) rfl (fun _ hS => ex_sub_i64 rfl rfl (by omega) (by omega)) (Evo.refl (bw :: ob6.toList) w108) ?_
                refine ae_loud [5, 15] (by kernel_rfl) rfl ⟨?_, ?_, trivial⟩
                · skip
                  refine a_step rfl ?_
                  refine wl_val rfl (ex_load1 rfl Tryd.agg3 (cell_nth hB111 rfl)) ?_
                  refine wl_nil (ae_next (.inl (Evo.refl (bw :: ob6.toList) w108)) ?_)
                  refine ae_take 6 rfl (by kernel_rfl) (by kernel_rfl) (by kernel_rfl) rfl (fun _ hS => ex_shrN (m := (cb s.v ^^^ z.b)) (n := z.f.r) rfl rfl (by omega) (by omega) (by first | exact Nat.le_of_ble_eq_true rfl | (simp only [IntKind.bits]; omega))) (Evo.refl (bw :: ob6.toList) w108) ?_
                  refine ae_loud [15] (by kernel_rfl) rfl ⟨?_, trivial⟩
                  refine a_step rfl ?_
                  refine wl_val rfl (ex_load1 rfl Tryd.agg3 (cell_nth hB111 rfl)) ?_
                  refine wl_nil (ae_next (.inl (Evo.refl (bw :: ob6.toList) w108)) ?_)
                  refine ae_take 16 rfl (by kernel_rfl) (by kernel_rfl) (by kernel_rfl) rfl (fun _ hS => ex_sub_i64 rfl rfl (by omega) (by omega)) (Evo.refl (bw :: ob6.toList) w108) ?_
                  rw [show ((64 : Int) - (z.f.l : Nat) - (z.f.r : Nat)) = ((64 - z.f.l - z.f.r : Nat) : Int) by omega]
                  refine ae_loud [17] (by kernel_rfl) rfl ⟨?_, trivial⟩
                  refine a_step rfl ?_
                  refine wl_call1 (vs := [_, _, _]) Tryd.goes32 rfl (put_ok ⟨hB111, hO112, hW6.pk, hW6.ap⟩ ((cb s.v ^^^ z.b) / 2 ^ z.f.r) (64 - z.f.l - z.f.r) (by omega) (Nat.lt_of_le_of_lt (Nat.div_le_self _ _) hx) (by first | omega | (simp only [List.length_append, num_length]; omega))) rfl ?_
                  rintro _ w121 ⟨rfl, a7, m7, c7, bs7, ob7, hW7, hw122, hb7⟩
                  have hob7 := ob_trans hob6 hE110 hb7
                  have hE123 := hE110.step hw122 (wr_mem hob6)
                  have hE124 := (Evo.refl (bw :: ob6.toList) w108).step hw122 (fun y hy => .inl hy)
                  refine wl_nil (ae_next (.inl hE124) ?_)
                  refine ae_done (by kernel_rfl) (nrm_then ?_)
                  refine cw_ret (ret_then (body_ret0 rfl ?_))
                  have hff : z.f.is = true ∧ z.f.l ≤ lz (cb s.v ^^^ z.b) ∧ z.f.r ≤ tz (cb s.v ^^^ z.b) := ⟨hs90, by omega, by omega⟩
                  rw [step_v hc59, vbits, if_neg h0, if_pos hff]
                  dsimp only
                  refine ⟨rfl, a7, m7, c7, bs7, ob7, ?_, hE123, hob7⟩
                  rw [← List.append_assoc, ← List.append_assoc]; exact ⟨hW7.blk, hW7.own, hW7.pk, hW7.ap⟩
                · skip
                  refine a_step rfl ?_
                  refine wl_val rfl (ex_load1 rfl Tryd.agg3 (cell_nth hB111 rfl)) ?_
                  refine wl_nil (ae_next (.inl (Evo.refl (bw :: ob6.toList) w108)) ?_)
                  refine ae_take 16 rfl (by kernel_rfl) (by kernel_rfl) (by kernel_rfl) rfl (fun _ hS => ex_sub_i64 rfl rfl (by omega) (by omega)) (Evo.refl (bw :: ob6.toList) w108) ?_
                  rw [show ((64 : Int) - (z.f.l : Nat) - (z.f.r : Nat)) = ((64 - z.f.l - z.f.r : Nat) : Int) by omega]
                  refine ae_loud [5] (by kernel_rfl) rfl ⟨?_, trivial⟩
                  refine a_step rfl ?_
                  refine wl_val rfl (ex_load1 rfl Tryd.agg3 (cell_nth hB111 rfl)) ?_
                  refine wl_nil (ae_next (.inl (Evo.refl (bw :: ob6.toList) w108)) ?_)
                  refine ae_take 6 rfl (by kernel_rfl) (by kernel_rfl) (by kernel_rfl) rfl (fun _ hS => ex_shrN (m := (cb s.v ^^^ z.b)) (n := z.f.r) rfl rfl (by omega) (by omega) (by first | exact Nat.le_of_ble_eq_true rfl | (simp only [IntKind.bits]; omega))) (Evo.refl (bw :: ob6.toList) w108) ?_
                  refine ae_loud [17] (by kernel_rfl) rfl ⟨?_, trivial⟩
                  refine a_step rfl ?_
                  refine wl_call1 (vs := [_, _, _]) Tryd.goes32 rfl (put_ok ⟨hB111, hO112, hW6.pk, hW6.ap⟩ ((cb s.v ^^^ z.b) / 2 ^ z.f.r) (64 - z.f.l - z.f.r) (by omega) (Nat.lt_of_le_of_lt (Nat.div_le_self _ _) hx) (by first | omega | (simp only [List.length_append, num_length]; omega))) rfl ?_
                  rintro _ w125 ⟨rfl, a7, m7, c7, bs7, ob7, hW7, hw126, hb7⟩
                  have hob7 := ob_trans hob6 hE110 hb7
                  have hE127 := hE110.step hw126 (wr_mem hob6)
                  have hE128 := (Evo.refl (bw :: ob6.toList) w108).step hw126 (fun y hy => .inl hy)
                  refine wl_nil (ae_next (.inl hE128) ?_)
                  refine ae_done (by kernel_rfl) (nrm_then ?_)
                  refine cw_ret (ret_then (body_ret0 rfl ?_))
                  have hff : z.f.is = true ∧ z.f.l ≤ lz (cb s.v ^^^ z.b) ∧ z.f.r ≤ tz (cb s.v ^^^ z.b) := ⟨hs90, by omega, by omega⟩
                  rw [step_v hc59, vbits, if_neg h0, if_pos hff]
                  dsimp only
                  refine ⟨rfl, a7, m7, c7, bs7, ob7, ?_, hE127, hob7⟩
                  rw [← List.append_assoc, ← List.append_assoc]; exact ⟨hW7.blk, hW7.own, hW7.pk, hW7.ap⟩
              · skip
                refine a_step rfl ?_
                refine wl_val rfl (ex_load1 rfl Tryd.agg3 (cell_nth hB111 rfl)) ?_
                refine wl_nil (ae_next (.inl (Evo.refl (bw :: ob6.toList) w108)) ?_)
                refine ae_loud [5, 10] (by kernel_rfl) rfl ⟨?_, ?_, trivial⟩
                · skip
                  refine a_step rfl ?_
                  refine wl_val rfl (ex_load1 rfl Tryd.agg3 (cell_nth hB111 rfl)) ?_
                  refine wl_nil (ae_next (.inl (Evo.refl (bw :: ob6.toList) w108)) ?_)
                  refine ae_take 6 rfl (by kernel_rfl) (by kernel_rfl) (by kernel_rfl) rfl (fun _ hS => ex_shrN (m := (cb s.v ^^^ z.b)) (n := z.f.r) rfl rfl (by omega) (by omega) (by first | exact Nat.le_of_ble_eq_true rfl | (simp only [IntKind.bits]; omega))) (Evo.refl (bw :: ob6.toList) w108) ?_
                  refine ae_loud [10] (by kernel_rfl) rfl ⟨?_, trivial⟩
                  refine a_step rfl ?_
                  refine wl_val rfl (ex_load1 rfl Tryd.agg3 (cell_nth hB111 rfl)) ?_
                  refine wl_nil (ae_next (.inl (Evo.refl (bw :: ob6.toList) w108)) ?_)
                  refine ae_take 11 rfl (by kernel_rfl) (by kernel_rfl) (by kernel_rfl) rfl (fun _ hS => ex_sub_i64 rfl rfl (by omega) (by omega)) (Evo.refl (bw :: ob6.toList) w108) ?_
                  refine ae_take 16 rfl (by kernel_rfl) (by kernel_rfl) (by kernel_rfl) rfl (fun _ hS => ex_sub_i64 rfl rfl (by omega) (by omega)) (Evo.refl (bw :: ob6.toList) w108) ?_
                  rw [show ((64 : Int) - (z.f.l : Nat) - (z.f.r : Nat)) = ((64 - z.f.l - z.f.r : Nat) : Int) by omega]
                  refine ae_loud [17] (by kernel_rfl) rfl ⟨?_, trivial⟩
                  refine a_step rfl ?_
                  refine wl_call1 (vs := [_, _, _]) Tryd.goes32 rfl (put_ok ⟨hB111, hO112, hW6.pk, hW6.ap⟩ ((cb s.v ^^^ z.b) / 2 ^ z.f.r) (64 - z.f.l - z.f.r) (by omega) (Nat.lt_of_le_of_lt (Nat.div_le_self _ _) hx) (by first | omega | (simp only [List.length_append, num_length]; omega))) rfl ?_
                  rintro _ w129 ⟨rfl, a7, m7, c7, bs7, ob7, hW7, hw130, hb7⟩
                  have hob7 := ob_trans hob6 hE110 hb7
                  have hE131 := hE110.step hw130 (wr_mem hob6)
                  have hE132 := (Evo.refl (bw :: ob6.toList) w108).step hw130 (fun y hy => .inl hy)
                  refine wl_nil (ae_next (.inl hE132) ?_)
                  refine ae_done (by kernel_rfl) (nrm_then ?_)
                  refine cw_ret (ret_then (body_ret0 rfl ?_))
                  have hff : z.f.is = true ∧ z.f.l ≤ lz (cb s.v ^^^ z.b) ∧ z.f.r ≤ tz (cb s.v ^^^ z.b) := ⟨hs90, by omega, by omega⟩
                  rw [step_v hc59, vbits, if_neg h0, if_pos hff]
                  dsimp only
                  refine ⟨rfl, a7, m7, c7, bs7, ob7, ?_, hE131, hob7⟩
                  rw [← List.append_assoc, ← List.append_assoc]; exact ⟨hW7.blk, hW7.own, hW7.pk, hW7.ap⟩
                · skip
                  refine a_step rfl ?_
                  refine wl_val rfl (ex_load1 rfl Tryd.agg3 (cell_nth hB111 rfl)) ?_
                  refine wl_nil (ae_next (.inl (Evo.refl (bw :: ob6.toList) w108)) ?_)
                  refine ae_take 11 rfl (by kernel_rfl) (by kernel_rfl) (by kernel_rfl) rfl (fun _ hS => ex_sub_i64 rfl rfl (by omega) (by omega)) (Evo.refl (bw :: ob6.toList) w108) ?_
                  refine ae_take 16 rfl (by kernel_rfl) (by kernel_rfl) (by kernel_rfl) rfl (fun _ hS => ex_sub_i64 rfl rfl (by omega) (by omega)) (Evo.refl (bw :: ob6.toList) w108) ?_
                  rw [show ((64 : Int) - (z.f.l : Nat) - (z.f.r : Nat)) = ((64 - z.f.l - z.f.r : Nat) : Int) by omega]
                  refine ae_loud [5] (by kernel_rfl) rfl ⟨?_, trivial⟩
                  refine a_step rfl ?_
                  refine wl_val rfl (ex_load1 rfl Tryd.agg3 (cell_nth hB111 rfl)) ?_
                  refine wl_nil (ae_next (.inl (Evo.refl (bw :: ob6.toList) w108)) ?_)
                  refine ae_take 6 rfl (by kernel_rfl) (by kernel_rfl) (by kernel_rfl) rfl (fun _ hS => ex_shrN (m := (cb s.v ^^^ z.b)) (n := z.f.r) rfl rfl (by omega) (by omega) (by first | exact Nat.le_of_ble_eq_true rfl | (simp only [IntKind.bits]; omega))) (Evo.refl (bw :: ob6.toList) w108) ?_
                  refine ae_loud [17] (by kernel_rfl) rfl ⟨?_, trivial⟩
                  refine a_step rfl ?_
                  refine wl_call1 (vs := [_, _, _]) Tryd.goes32 rfl (put_ok ⟨hB111, hO112, hW6.pk, hW6.ap⟩ ((cb s.v ^^^ z.b) / 2 ^ z.f.r) (64 - z.f.l - z.f.r) (by omega) (Nat.lt_of_le_of_lt (Nat.div_le_self _ _) hx) (by first | omega | (simp only [List.length_append, num_length]; omega))) rfl ?_
                  rintro _ w133 ⟨rfl, a7, m7, c7, bs7, ob7, hW7, hw134, hb7⟩
                  have hob7 := ob_trans hob6 hE110 hb7
                  have hE135 := hE110.step hw134 (wr_mem hob6)
                  have hE136 := (Evo.refl (bw :: ob6.toList) w108).step hw134 (fun y hy => .inl hy)
                  refine wl_nil (ae_next (.inl hE136) ?_)
                  refine ae_done (by kernel_rfl) (nrm_then ?_)
                  refine cw_ret (ret_then (body_ret0 rfl ?_))
                  have hff : z.f.is = true ∧ z.f.l ≤ lz (cb s.v ^^^ z.b) ∧ z.f.r ≤ tz (cb s.v ^^^ z.b) := ⟨hs90, by omega, by omega⟩
                  rw [step_v hc59, vbits, if_neg h0, if_pos hff]
                  dsimp only
                  refine ⟨rfl, a7, m7, c7, bs7, ob7, ?_, hE135, hob7⟩
                  rw [← List.append_assoc, ← List.append_assoc]; exact ⟨hW7.blk, hW7.own, hW7.pk, hW7.ap⟩
            · skip
              refine cw_skip (nrm_then ?_)
              refine cw_seq ?_
              refine cw_region ?_
              refine wl_val rfl (ex_move rfl) ?_
              refine wl_val rfl (ex_move rfl) ?_
              refine wl_val rfl (ex_move rfl) ?_
              refine wl_val rfl (ex_move rfl) ?_
              refine wl_val rfl (ex_move rfl) ?_
              refine wl_val rfl (ex_nilCheck rfl) ?_
              refine wl_val rfl (ex_fieldAddr rfl Tryd.fld74_4) ?_
              refine wl_store1 rfl rfl (by first | rfl | assumption) Tryd.size4 hB103 rfl fun w137 hB138 hw139 => ?_
              have hE140 := hE102.step hw139 (fun y hy => .inl (by simp at hy; simp [hy]))
              have hO141 := hO104.evo hw139 hW1.ap.symm.own1
              try simp only [List.setIfInBounds_toArray, List.set_cons_zero, List.set_cons_succ, Nat.reduceAdd, Nat.zero_add, Nat.add_zero] at hB138
              refine wl_val rfl (ex_nilCheck rfl) ?_
              refine wl_val rfl (ex_fieldAddr rfl Tryd.fld74_5) ?_
              refine wl_store1 rfl rfl (by first | rfl | assumption) Tryd.size3 hB138 rfl fun w142 hB143 hw144 => ?_
              have hE145 := hE140.step hw144 (fun y hy => .inl (by simp at hy; simp [hy]))
              have hO146 := hO141.evo hw144 hW1.ap.symm.own1
              try simp only [List.setIfInBounds_toArray, List.set_cons_zero, List.set_cons_succ, Nat.reduceAdd, Nat.zero_add, Nat.add_zero] at hB143
              refine wl_val rfl (ex_nilCheck rfl) ?_
              refine wl_val rfl (ex_fieldAddr rfl Tryd.fld74_6) ?_
              refine wl_store1 rfl rfl (by first | rfl | assumption) Tryd.size3 hB143 rfl fun w147 hB148 hw149 => ?_
              have hE150 := hE145.step hw149 (fun y hy => .inl (by simp at hy; simp [hy]))
              have hO151 := hO146.evo hw149 hW1.ap.symm.own1
              try simp only [List.setIfInBounds_toArray, List.set_cons_zero, List.set_cons_succ, Nat.reduceAdd, Nat.zero_add, Nat.add_zero] at hB148
              refine wl_nil (nrm_then ?_)
              refine cw_seq ?_
              refine cw_region ?_
              refine wl_val rfl (ex_move rfl) ?_
              refine wl_call1 (vs := [_, _, _]) Tryd.goes32 rfl (put_ok ⟨hB148, hO151, hW1.pk, hW1.ap⟩ 6 3 (by omega) (by omega) (by first | omega | (simp only [List.length_append, num_length]; omega))) rfl ?_
              rintro _ w152 ⟨rfl, a8, m8, c8, bs8, ob8, hW8, hw153, hb8⟩
              have hob8 := ob_trans hob1 hE150 hb8
              have hE154 := hE150.step hw153 (wr_mem hob1)
              refine wl_nil (nrm_then ?_)
              refine cw_seq ?_
              refine cw_region ?_
              refine wl_val rfl (ex_move rfl) ?_
              refine wl_val rfl (ex_move rfl) ?_
              refine wl_val rfl (ex_convU rfl Tryd.underlying3 Tryd.underlying72) ?_
              rw [u64_of (show lz (cb s.v ^^^ z.b) < 18446744073709551616 by omega)]
              refine wl_call1 (vs := [_, _, _]) Tryd.goes32 rfl (put_ok ⟨hW8.blk, hW8.own, hW8.pk, hW8.ap⟩ (lz (cb s.v ^^^ z.b)) 6 (by omega) (by omega) (by first | omega | (simp only [List.length_append, num_length]; omega))) rfl ?_
              rintro _ w155 ⟨rfl, a9, m9, c9, bs9, ob9, hW9, hw156, hb9⟩
              have hob9 := ob_trans hob8 hE154 hb9
              have hE157 := hE154.step hw156 (wr_mem hob8)
              refine wl_nil (nrm_then ?_)
              refine cw_seq ?_
              refine cw_region ?_
              refine wl_val rfl (ex_move rfl) ?_
              refine wl_val rfl (ex_move rfl) ?_
              refine wl_val rfl (ex_sub_i64 rfl rfl (by omega) (by omega)) ?_
              refine wl_val rfl (ex_move rfl) ?_
              refine wl_val rfl (ex_sub_i64 rfl rfl (by omega) (by omega)) ?_
              refine wl_val rfl (ex_sub_i64 rfl rfl (by omega) (by omega)) ?_
              refine wl_val rfl (ex_convU rfl Tryd.underlying3 Tryd.underlying72) ?_
              rw [show u64 ((64 : Int) - (lz (cb s.v ^^^ z.b) : Nat) - (tz (cb s.v ^^^ z.b) : Nat) - 1) = 63 - lz (cb s.v ^^^ z.b) - tz (cb s.v ^^^ z.b) by unfold u64; omega]
              refine wl_call1 (vs := [_, _, _]) Tryd.goes32 rfl (put_ok ⟨hW9.blk, hW9.own, hW9.pk, hW9.ap⟩ (63 - lz (cb s.v ^^^ z.b) - tz (cb s.v ^^^ z.b)) 6 (by omega) (by omega) (by first | omega | (simp only [List.length_append, num_length]; omega))) rfl ?_
              rintro _ w158 ⟨rfl, a10, m10, c10, bs10, ob10, hW10, hw159, hb10⟩
              have hob10 := ob_trans hob9 hE157 hb10
              have hE160 := hE157.step hw159 (wr_mem hob9)
              refine wl_nil (nrm_then ?_)
              refine cw_region ?_
              refine wl_val rfl (ex_move rfl) ?_
              refine wl_val rfl (ex_move rfl) ?_
              refine wl_val rfl (ex_move rfl) ?_
              refine wl_val rfl (ex_shrN (m := (cb s.v ^^^ z.b)) (n := tz (cb s.v ^^^ z.b)) rfl rfl (by omega) (by omega) (by first | exact Nat.le_of_ble_eq_true rfl | (simp only [IntKind.bits]; omega))) ?_
              refine wl_val rfl (ex_move rfl) ?_
              refine wl_val rfl (ex_sub_i64 rfl rfl (by omega) (by omega)) ?_
              refine wl_val rfl (ex_move rfl) ?_
              refine wl_val rfl (ex_sub_i64 rfl rfl (by omega) (by omega)) ?_
              rw [show ((64 : Int) - (lz (cb s.v ^^^ z.b) : Nat) - (tz (cb s.v ^^^ z.b) : Nat)) = ((64 - lz (cb s.v ^^^ z.b) - tz (cb s.v ^^^ z.b) : Nat) : Int) by omega]
              refine wl_call1 (vs := [_, _, _]) Tryd.goes32 rfl (put_ok ⟨hW10.blk, hW10.own, hW10.pk, hW10.ap⟩ ((cb s.v ^^^ z.b) / 2 ^ tz (cb s.v ^^^ z.b)) (64 - lz (cb s.v ^^^ z.b) - tz (cb s.v ^^^ z.b)) (by omega) (Nat.lt_of_le_of_lt (Nat.div_le_self _ _) hx) (by first | omega | (simp only [List.length_append, num_length]; omega))) rfl ?_
              rintro _ w161 ⟨rfl, a11, m11, c11, bs11, ob11, hW11, hw162, hb11⟩
              have hob11 := ob_trans hob10 hE160 hb11
              have hE163 := hE160.step hw162 (wr_mem hob10)
              refine wl_nil (body_end0 rfl ?_)
              have hff : ¬ (z.f.is = true ∧ z.f.l ≤ lz (cb s.v ^^^ z.b) ∧ z.f.r ≤ tz (cb s.v ^^^ z.b)) := fun ⟨h1, h2, h3⟩ => by first | omega | (rw [h1] at hs90; cases hs90)
              rw [step_v hc59, vbits, if_neg h0, if_neg hff]
              dsimp only
              refine ⟨rfl, a11, m11, c11, bs11, ob11, ?_, hE163, hob11⟩
              rw [← List.append_assoc, ← List.append_assoc, ← List.append_assoc, ← List.append_assoc]; exact ⟨hW11.blk, hW11.own, hW11.pk, hW11.ap⟩
          · skip
            refine wl_no rfl rfl rfl rfl rfl rfl ?_
            refine wl_no rfl rfl rfl rfl rfl rfl ?_
            refine wl_no rfl rfl rfl rfl rfl rfl ?_
            refine wl_no rfl rfl rfl rfl rfl rfl ?_
            refine wl_no rfl rfl rfl rfl rfl rfl ?_
            refine wl_no rfl rfl rfl rfl rfl rfl ?_
            refine wl_val rfl (ex_pick_f rfl rfl) ?_
            refine wl_nil (nrm_then ?_)
            refine cw_false rfl ?_
            refine cw_skip (nrm_then ?_)
            refine cw_seq ?_
            refine cw_region ?_
            refine wl_val rfl (ex_move rfl) ?_
            refine wl_val rfl (ex_move rfl) ?_
            refine wl_val rfl (ex_move rfl) ?_
            refine wl_val rfl (ex_move rfl) ?_
            refine wl_val rfl (ex_move rfl) ?_
            refine wl_val rfl (ex_nilCheck rfl) ?_
            refine wl_val rfl (ex_fieldAddr rfl Tryd.fld74_4) ?_
            refine wl_store1 rfl rfl (by first | rfl | assumption) Tryd.size4 hB103 rfl fun w164 hB165 hw166 => ?_
            have hE167 := hE102.step hw166 (fun y hy => .inl (by simp at hy; simp [hy]))
            have hO168 := hO104.evo hw166 hW1.ap.symm.own1
            try simp only [List.setIfInBounds_toArray, List.set_cons_zero, List.set_cons_succ, Nat.reduceAdd, Nat.zero_add, Nat.add_zero] at hB165
            refine wl_val rfl (ex_nilCheck rfl) ?_
            refine wl_val rfl (ex_fieldAddr rfl Tryd.fld74_5) ?_
            refine wl_store1 rfl rfl (by first | rfl | assumption) Tryd.size3 hB165 rfl fun w169 hB170 hw171 => ?_
            have hE172 := hE167.step hw171 (fun y hy => .inl (by simp at hy; simp [hy]))
            have hO173 := hO168.evo hw171 hW1.ap.symm.own1
            try simp only [List.setIfInBounds_toArray, List.set_cons_zero, List.set_cons_succ, Nat.reduceAdd, Nat.zero_add, Nat.add_zero] at hB170
            refine wl_val rfl (ex_nilCheck rfl) ?_
            refine wl_val rfl (ex_fieldAddr rfl Tryd.fld74_6) ?_
            refine wl_store1 rfl rfl (by first | rfl | assumption) Tryd.size3 hB170 rfl fun w174 hB175 hw176 => ?_
            have hE177 := hE172.step hw176 (fun y hy => .inl (by simp at hy; simp [hy]))
            have hO178 := hO173.evo hw176 hW1.ap.symm.own1
            try simp only [List.setIfInBounds_toArray, List.set_cons_zero, List.set_cons_succ, Nat.reduceAdd, Nat.zero_add, Nat.add_zero] at hB175
            refine wl_nil (nrm_then ?_)
            refine cw_seq ?_
            refine cw_region ?_
            refine wl_val rfl (ex_move rfl) ?_
            refine wl_call1 (vs := [_, _, _]) Tryd.goes32 rfl (put_ok ⟨hB175, hO178, hW1.pk, hW1.ap⟩ 6 3 (by omega) (by omega) (by first | omega | (simp only [List.length_append, num_length]; omega))) rfl ?_
            rintro _ w179 ⟨rfl, a8, m8, c8, bs8, ob8, hW8, hw180, hb8⟩
            have hob8 := ob_trans hob1 hE177 hb8
            have hE181 := hE177.step hw180 (wr_mem hob1)
            refine wl_nil (nrm_then ?_)
            refine cw_seq ?_
            refine cw_region ?_
            refine wl_val rfl (ex_move rfl) ?_
            refine wl_val rfl (ex_move rfl) ?_
            refine wl_val rfl (ex_convU rfl Tryd.underlying3 Tryd.underlying72) ?_
            rw [u64_of (show lz (cb s.v ^^^ z.b) < 18446744073709551616 by omega)]
            refine wl_call1 (vs := [_, _, _]) Tryd.goes32 rfl (put_ok ⟨hW8.blk, hW8.own, hW8.pk, hW8.ap⟩ (lz (cb s.v ^^^ z.b)) 6 (by omega) (by omega) (by first | omega | (simp only [List.length_append, num_length]; omega))) rfl ?_
            rintro _ w182 ⟨rfl, a9, m9, c9, bs9, ob9, hW9, hw183, hb9⟩
            have hob9 := ob_trans hob8 hE181 hb9
            have hE184 := hE181.step hw183 (wr_mem hob8)
            refine wl_nil (nrm_then ?_)
            refine cw_seq ?_
            refine cw_region ?_
            refine wl_val rfl (ex_move rfl) ?_
            refine wl_val rfl (ex_move rfl) ?_
            refine wl_val rfl (ex_sub_i64 rfl rfl (by omega) (by omega)) ?_
            refine wl_val rfl (ex_move rfl) ?_
            refine wl_val rfl (ex_sub_i64 rfl rfl (by omega) (by omega)) ?_
            refine wl_val rfl (ex_sub_i64 rfl rfl (by omega) (by omega)) ?_
            refine wl_val rfl (ex_convU rfl Tryd.underlying3 Tryd.underlying72) ?_
            rw [show u64 ((64 : Int) - (lz (cb s.v ^^^ z.b) : Nat) - (tz (cb s.v ^^^ z.b) : Nat) - 1) = 63 - lz (cb s.v ^^^ z.b) - tz (cb s.v ^^^ z.b) by unfold u64; omega]
            refine wl_call1 (vs := [_, _, _]) Tryd.goes32 rfl (put_ok ⟨hW9.blk, hW9.own, hW9.pk, hW9.ap⟩ (63 - lz (cb s.v ^^^ z.b) - tz (cb s.v ^^^ z.b)) 6 (by omega) (by omega) (by first | omega | (simp only [List.length_append, num_length]; omega))) rfl ?_
            rintro _ w185 ⟨rfl, a10, m10, c10, bs10, ob10, hW10, hw186, hb10⟩
            have hob10 := ob_trans hob9 hE184 hb10
            have hE187 := hE184.step hw186 (wr_mem hob9)
            refine wl_nil (nrm_then ?_)
            refine cw_region ?_
            refine wl_val rfl (ex_move rfl) ?_
            refine wl_val rfl (ex_move rfl) ?_
            refine wl_val rfl (ex_move rfl) ?_
            refine wl_val rfl (ex_shrN (m := (cb s.v ^^^ z.b)) (n := tz (cb s.v ^^^ z.b)) rfl rfl (by omega) (by omega) (by first | exact Nat.le_of_ble_eq_true rfl | (simp only [IntKind.bits]; omega))) ?_
            refine wl_val rfl (ex_move rfl) ?_
            refine wl_val rfl (ex_sub_i64 rfl rfl (by omega) (by omega)) ?_
            refine wl_val rfl (ex_move rfl) ?_
            refine wl_val rfl (ex_sub_i64 rfl rfl (by omega) (by omega)) ?_
            rw [show ((64 : Int) - (lz (cb s.v ^^^ z.b) : Nat) - (tz (cb s.v ^^^ z.b) : Nat)) = ((64 - lz (cb s.v ^^^ z.b) - tz (cb s.v ^^^ z.b) : Nat) : Int) by omega]
            refine wl_call1 (vs := [_, _, _]) Tryd.goes32 rfl (put_ok ⟨hW10.blk, hW10.own, hW10.pk, hW10.ap⟩ ((cb s.v ^^^ z.b) / 2 ^ tz (cb s.v ^^^ z.b)) (64 - lz (cb s.v ^^^ z.b) - tz (cb s.v ^^^ z.b)) (by omega) (Nat.lt_of_le_of_lt (Nat.div_le_self _ _) hx) (by first | omega | (simp only [List.length_append, num_length]; omega))) rfl ?_
            rintro _ w188 ⟨rfl, a11, m11, c11, bs11, ob11, hW11, hw189, hb11⟩
            have hob11 := ob_trans hob10 hE187 hb11
            have hE190 := hE187.step hw189 (wr_mem hob10)
            refine wl_nil (body_end0 rfl ?_)
            have hff : ¬ (z.f.is = true ∧ z.f.l ≤ lz (cb s.v ^^^ z.b) ∧ z.f.r ≤ tz (cb s.v ^^^ z.b)) := fun ⟨h1, h2, h3⟩ => by first | omega | (rw [h1] at hs90; cases hs90)
            rw [step_v hc59, vbits, if_neg h0, if_neg hff]
            dsimp only
            refine ⟨rfl, a11, m11, c11, bs11, ob11, ?_, hE190, hob11⟩
            rw [← List.append_assoc, ← List.append_assoc, ← List.append_assoc, ← List.append_assoc]; exact ⟨hW11.blk, hW11.own, hW11.pk, hW11.ap⟩
        · skip
          refine wl_no rfl rfl rfl rfl rfl rfl ?_
          refine wl_no rfl rfl rfl rfl rfl rfl ?_
          refine wl_no rfl rfl rfl rfl rfl rfl ?_
          refine wl_no rfl rfl rfl rfl rfl rfl ?_
          refine wl_no rfl rfl rfl rfl rfl rfl ?_
          refine wl_no rfl rfl rfl rfl rfl rfl ?_
          refine wl_val rfl (ex_pick_f rfl rfl) ?_
          refine wl_val rfl (ex_move rfl) ?_
          refine wl_no rfl rfl rfl rfl rfl rfl ?_
          refine wl_no rfl rfl rfl rfl rfl rfl ?_
          refine wl_no rfl rfl rfl rfl rfl rfl ?_
          refine wl_no rfl rfl rfl rfl rfl rfl ?_
          refine wl_no rfl rfl rfl rfl rfl rfl ?_
          refine wl_no rfl rfl rfl rfl rfl rfl ?_
          refine wl_val rfl (ex_pick_f rfl rfl) ?_
          refine wl_nil (nrm_then ?_)
          refine cw_false rfl ?_
          refine cw_skip (nrm_then ?_)
          refine cw_seq ?_
          refine cw_region ?_
          refine wl_val rfl (ex_move rfl) ?_
          refine wl_val rfl (ex_move rfl) ?_
          refine wl_val rfl (ex_move rfl) ?_
          refine wl_val rfl (ex_move rfl) ?_
          refine wl_val rfl (ex_move rfl) ?_
          refine wl_val rfl (ex_nilCheck rfl) ?_
          refine wl_val rfl (ex_fieldAddr rfl Tryd.fld74_4) ?_
          refine wl_store1 rfl rfl (by first | rfl | assumption) Tryd.size4 hB103 rfl fun w191 hB192 hw193 => ?_
          have hE194 := hE102.step hw193 (fun y hy => .inl (by simp at hy; simp [hy]))
          have hO195 := hO104.evo hw193 hW1.ap.symm.own1
          try simp only [List.setIfInBounds_toArray, List.set_cons_zero, List.set_cons_succ, Nat.reduceAdd, Nat.zero_add, Nat.add_zero] at hB192
          refine wl_val rfl (ex_nilCheck rfl) ?_
          refine wl_val rfl (ex_fieldAddr rfl Tryd.fld74_5) ?_
          refine wl_store1 rfl rfl (by first | rfl | assumption) Tryd.size3 hB192 rfl fun w196 hB197 hw198 => ?_
          have hE199 := hE194.step hw198 (fun y hy => .inl (by simp at hy; simp [hy]))
          have hO200 := hO195.evo hw198 hW1.ap.symm.own1
          try simp only [List.setIfInBounds_toArray, List.set_cons_zero, List.set_cons_succ, Nat.reduceAdd, Nat.zero_add, Nat.add_zero] at hB197
          refine wl_val rfl (ex_nilCheck rfl) ?_
          refine wl_val rfl (ex_fieldAddr rfl Tryd.fld74_6) ?_
          refine wl_store1 rfl rfl (by first | rfl | assumption) Tryd.size3 hB197 rfl fun w201 hB202 hw203 => ?_
          have hE204 := hE199.step hw203 (fun y hy => .inl (by simp at hy; simp [hy]))
          have hO205 := hO200.evo hw203 hW1.ap.symm.own1
          try simp only [List.setIfInBounds_toArray, List.set_cons_zero, List.set_cons_succ, Nat.reduceAdd, Nat.zero_add, Nat.add_zero] at hB202
          refine wl_nil (nrm_then ?_)
          refine cw_seq ?_
          refine cw_region ?_
          refine wl_val rfl (ex_move rfl) ?_
          refine wl_call1 (vs := [_, _, _]) Tryd.goes32 rfl (put_ok ⟨hB202, hO205, hW1.pk, hW1.ap⟩ 6 3 (by omega) (by omega) (by first | omega | (simp only [List.length_append, num_length]; omega))) rfl ?_
          rintro _ w206 ⟨rfl, a8, m8, c8, bs8, ob8, hW8, hw207, hb8⟩
          have hob8 := ob_trans hob1 hE204 hb8
          have hE208 := hE204.step hw207 (wr_mem hob1)
          refine wl_nil (nrm_then ?_)
          refine cw_seq ?_
          refine cw_region ?_
          refine wl_val rfl (ex_move rfl) ?_
          refine wl_val rfl (ex_move rfl) ?_
          refine wl_val rfl (ex_convU rfl Tryd.underlying3 Tryd.underlying72) ?_
          rw [u64_of (show lz (cb s.v ^^^ z.b) < 18446744073709551616 by omega)]
          refine wl_call1 (vs := [_, _, _]) Tryd.goes32 rfl (put_ok ⟨hW8.blk, hW8.own, hW8.pk, hW8.ap⟩ (lz (cb s.v ^^^ z.b)) 6 (by omega) (by omega) (by first | omega | (simp only [List.length_append, num_length]; omega))) rfl ?_
          rintro _ w209 ⟨rfl, a9, m9, c9, bs9, ob9, hW9, hw210, hb9⟩
          have hob9 := ob_trans hob8 hE208 hb9
          have hE211 := hE208.step hw210 (wr_mem hob8)
          refine wl_nil (nrm_then ?_)
          refine cw_seq ?_
          refine cw_region ?_
          refine wl_val rfl (ex_move rfl) ?_
          refine wl_val rfl (ex_move rfl) ?_
          refine wl_val rfl (ex_sub_i64 rfl rfl (by omega) (by omega)) ?_
          refine wl_val rfl (ex_move rfl) ?_
          refine wl_val rfl (ex_sub_i64 rfl rfl (by omega) (by omega)) ?_
          refine wl_val rfl (ex_sub_i64 rfl rfl (by omega) (by omega)) ?_
          refine wl_val rfl (ex_convU rfl Tryd.underlying3 Tryd.underlying72) ?_
          rw [show u64 ((64 : Int) - (lz (cb s.v ^^^ z.b) : Nat) - (tz (cb s.v ^^^ z.b) : Nat) - 1) = 63 - lz (cb s.v ^^^ z.b) - tz (cb s.v ^^^ z.b) by unfold u64; omega]
          refine wl_call1 (vs := [_, _, _]) Tryd.goes32 rfl (put_ok ⟨hW9.blk, hW9.own, hW9.pk, hW9.ap⟩ (63 - lz (cb s.v ^^^ z.b) - tz (cb s.v ^^^ z.b)) 6 (by omega) (by omega) (by first | omega | (simp only [List.length_append, num_length]; omega))) rfl ?_
          rintro _ w212 ⟨rfl, a10, m10, c10, bs10, ob10, hW10, hw213, hb10⟩
          have hob10 := ob_trans hob9 hE211 hb10
          have hE214 := hE211.step hw213 (wr_mem hob9)
          refine wl_nil (nrm_then ?_)
          refine cw_region ?_
          refine wl_val rfl (ex_move rfl) ?_
          refine wl_val rfl (ex_move rfl) ?_
          refine wl_val rfl (ex_move rfl) ?_
          refine wl_val rfl (ex_shrN (m := (cb s.v ^^^ z.b)) (n := tz (cb s.v ^^^ z.b)) rfl rfl (by omega) (by omega) (by first | exact Nat.le_of_ble_eq_true rfl | (simp only [IntKind.bits]; omega))) ?_
          refine wl_val rfl (ex_move rfl) ?_
          refine wl_val rfl (ex_sub_i64 rfl rfl (by omega) (by omega)) ?_
          refine wl_val rfl (ex_move rfl) ?_
          refine wl_val rfl (ex_sub_i64 rfl rfl (by omega) (by omega)) ?_
          rw [show ((64 : Int) - (lz (cb s.v ^^^ z.b) : Nat) - (tz (cb s.v ^^^ z.b) : Nat)) = ((64 - lz (cb s.v ^^^ z.b) - tz (cb s.v ^^^ z.b) : Nat) : Int) by omega]
          refine wl_call1 (vs := [_, _, _]) Tryd.goes32 rfl (put_ok ⟨hW10.blk, hW10.own, hW10.pk, hW10.ap⟩ ((cb s.v ^^^ z.b) / 2 ^ tz (cb s.v ^^^ z.b)) (64 - lz (cb s.v ^^^ z.b) - tz (cb s.v ^^^ z.b)) (by omega) (Nat.lt_of_le_of_lt (Nat.div_le_self _ _) hx) (by first | omega | (simp only [List.length_append, num_length]; omega))) rfl ?_
          rintro _ w215 ⟨rfl, a11, m11, c11, bs11, ob11, hW11, hw216, hb11⟩
          have hob11 := ob_trans hob10 hE214 hb11
          have hE217 := hE214.step hw216 (wr_mem hob10)
          refine wl_nil (body_end0 rfl ?_)
          have hff : ¬ (z.f.is = true ∧ z.f.l ≤ lz (cb s.v ^^^ z.b) ∧ z.f.r ≤ tz (cb s.v ^^^ z.b)) := fun ⟨h1, h2, h3⟩ => by first | omega | (rw [h1] at hs90; cases hs90)
          rw [step_v hc59, vbits, if_neg h0, if_neg hff]
          dsimp only
          refine ⟨rfl, a11, m11, c11, bs11, ob11, ?_, hE217, hob11⟩
          rw [← List.append_assoc, ← List.append_assoc, ← List.append_assoc, ← List.append_assoc]; exact ⟨hW11.blk, hW11.own, hW11.pk, hW11.ap⟩

end Go.Proofs.YtclmkppiolfgbaaDoor
