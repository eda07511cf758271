import Derived.Test.YtclmkppiolfgbaaDoorKe
namespace Go.Proofs.YtclmkppiolfgbaaDoor
open Go.Proofs
open Go.W
attribute [local irreducible] Decidable.decide
set_option linter.unusedSimpArgs false
set_option linter.unusedVariables false
theorem Tryd.agg72 : aggB Tryd.prog 72 = some false := by kernel_rfl
theorem Tryd.fld74_0 : fieldB Tryd.prog 74 0 = some 0 := by kernel_rfl
theorem Tryd.fld74_1 : fieldB Tryd.prog 74 1 = some 1 := by kernel_rfl
theorem Tryd.fld74_2 : fieldB Tryd.prog 74 2 = some 2 := by kernel_rfl
theorem Tryd.fld74_3 : fieldB Tryd.prog 74 3 = some 3 := by kernel_rfl
theorem Tryd.fld74_4 : fieldB Tryd.prog 74 4 = some 4 := by kernel_rfl
theorem Tryd.fld74_5 : fieldB Tryd.prog 74 5 = some 5 := by kernel_rfl
theorem Tryd.fld74_6 : fieldB Tryd.prog 74 6 = some 6 := by kernel_rfl
theorem Tryd.goes46 : Goes Tryd.prog 46 := ⟨_, Tryd.func46, by kernel_rfl, by kernel_rfl⟩
theorem Tryd.goes47 : Goes Tryd.prog 47 := ⟨_, Tryd.func47, by kernel_rfl, by kernel_rfl⟩
theorem Tryd.goes48 : Goes Tryd.prog 48 := ⟨_, Tryd.func48, by kernel_rfl, by kernel_rfl⟩
theorem Tryd.goes49 : Goes Tryd.prog 49 := ⟨_, Tryd.func49, by kernel_rfl, by kernel_rfl⟩
theorem Tryd.size2 : sizeB Tryd.prog 2 = some 1 := by kernel_rfl
theorem Tryd.size4 : sizeB Tryd.prog 4 = some 1 := by kernel_rfl
theorem Tryd.size72 : sizeB Tryd.prog 72 = some 1 := by kernel_rfl


/-- A state's cells. -/
def zvL (n t : Int) (d b : Nat) (f : Frm) : List Value := [.int .i64 n, .int .i64 t, .int .u64 d, .int .u64 b, .bool f.is, .int .i64 f.l, .int .i64 f.r]
abbrev zv (z : Stt) : List Value := [.int .i64 z.n, .int .i64 z.t, .int .u64 (u64 z.d), .int .u64 z.b, .bool z.f.is, .int .i64 z.f.l, .int .i64 z.f.r]
theorem nm2 {b bw : Nat} {ob : Option Nat} (h1 : Apart (some b) (some bw)) (h2 : Apart (some b) ob) : b ∉ bw :: ob.toList := fun h => by
  rcases List.mem_cons.1 h with h | h
  · exact h1 b rfl (by rw [h])
  · exact h2.nmem h
theorem u64_sub2 (x y d : Int) : i64 ((u64 ((u64 ((u64 x : Int) - (u64 y : Int)) : Int) - (u64 d : Int)) : Nat) : Int) = i64 (x - y - d) := by unfold i64 u64; omega
theorem u64_sub1 (x y : Int) : u64 ((u64 x : Int) - (u64 y : Int)) = u64 (i64 (x - y)) := by unfold i64 u64; split <;> omega
theorem neq_ap {a b : Nat} (h : a ≠ b) : Apart (some a) (some b) := fun g h1 h2 => by cases h1; cases h2; exact h rfl

theorem writeA_ok {w : World} {bw bz : Nat} {U V : TypeId} {l : List Bool} {a : Option Addr} {m c : Nat} {bs : List Nat} {ob : Option Nat} {z : Stt} {s : Smp} (hW : Wr w bw U [] l a m c bs ob) (hZ0 : w.heap[bz]? = some (.cells (zv z).toArray V (0, 0))) (hzw : Apart (some bz) (some bw)) (hzo : Apart (some bz) ob) (hz : z.Ok) (hn : z.n ≤ 1000000) (hs : s.Ok) (hl : l.length ≤ 100000000000) (ht : Tab w) (h1 : 1 ∉ (bz :: bw :: ob.toList)) :
    Calls Tryd.prog 33 #[.pointer (some ⟨bz, 0, none⟩), .pointer (some ⟨bw, 0, none⟩), .agg #[.int .i64 s.t, .float .f64 s.v, .bool s.st]] w (Ret fun r w' => r = .tuple #[] ∧ ∃ a' m' c' bs' ob', Wr w' bw U [] (l ++ (step z s).1) a' m' c' bs' ob' ∧ w'.heap[bz]? = some (.cells (zv (step z s).2).toArray V (0, 0)) ∧ Evo (bz :: bw :: ob.toList) w w' ∧ (ob' = ob ∨ Ge w ob')) := by
  obtain ⟨hB0, hO0, hP0, hA0⟩ := hW
  have hzf := hz.f
  have hx := xor_lt (cb_lt hs.v) hz.b
  refine calls_of_cw (N := 160) Tryd.func33 rfl rfl rfl ?_
  refine cw_seq ?_
  refine cw_region ?_
  refine wl_boxA rfl rfl fun b1 w2 hB3 hs4 hw5 => ?_
  have hA6 := Apart.new (Lt.blk hB0) hs4
  have hA7 := Apart.new (Lt.blk hZ0) hs4
  have hA8 := Apart.new (Lt.own hO0) hs4
  have hG9 := Ge.new (Evo.refl (bz :: bw :: ob.toList) w) hs4
  have hE10 := (Evo.refl (bz :: bw :: ob.toList) w).then hw5
  have hB11 := hw5.blk0 hB0
  have hB12 := hw5.blk0 hZ0
  have hO13 := hO0.evo0 hw5
  refine wl_nil (nrm_then ?_)
  refine cw_seq ?_
  refine cw_cut (α := Option Addr × Nat × Nat × List Nat × Option Nat) (fun y => []) [(0, _), (1, _), (5, _)] (fun y wr => Evo (bz :: bw :: ob.toList) w2 wr ∧ (Wr wr bw U [] (l ++ tpart z s) y.1 y.2.1 y.2.2.1 y.2.2.2.1 y.2.2.2.2 ∧ wr.heap[bz]? = some (.cells ([.int .i64 z.n, .int .i64 z.t, .int .u64 (u64 (tnext z s).d), .int .u64 z.b, .bool z.f.is, .int .i64 z.f.l, .int .i64 z.f.r] : List Value).toArray V (0, 0)) ∧ Apart (some bz) y.2.2.2.2 ∧ (y.2.2.2.2 = ob ∨ Ge w y.2.2.2.2) ∧ (y.2.2.2.2 = ob ∨ Ge w2 y.2.2.2.2))) ⟨rfl, rfl, rfl, trivial⟩ ?_ ?_
  · skip
    refine cw_seq ?_
    refine cw_region ?_
    refine wl_val rfl (ex_move rfl) ?_
    refine wl_val rfl (ex_nilCheck rfl) ?_
    refine wl_val rfl (ex_fieldAddr rfl Tryd.fld74_0) ?_
    refine wl_val rfl (ex_load1 rfl Tryd.agg3 (cell_nth hB12 rfl)) ?_
    refine wl_val rfl (ex_eql rfl rfl) ?_
    refine wl_nil (nrm_then ?_)
    refine cw_if rfl (fun hc14 => ?_) (fun hc14 => ?_)
    · skip
      refine cw_seq ?_
      refine cw_region ?_
      refine wl_val rfl (ex_move rfl) ?_
      refine wl_val rfl (ex_fieldAddr rfl Tryd.fld41_0) ?_
      refine wl_val rfl (ex_load1 rfl Tryd.agg2 (cell_nth hB3 rfl)) ?_
      refine wl_val rfl (ex_convU rfl Tryd.underlying2 Tryd.underlying72) ?_
      refine wl_call1 (vs := [_, _, _]) Tryd.goes32 rfl (put_ok ⟨hB11, hO13, hP0, hA0⟩ (u64 s.t) 64 (by omega) (u64_lt _) (by first | omega | (simp only [List.length_append, num_length]; omega))) rfl ?_
      rintro _ w16 ⟨rfl, a2, m2, c2, bs2, ob2, hW2, hw17, hb2⟩
      have hob2 := ob_trans (.inl rfl) hE10 hb2
      have hoc2 := ob_trans (.inl rfl) (Evo.refl (bz :: bw :: ob.toList) w2) hb2
      have hA14 := ap_ob hzo (Lt.blk hB12) hb2
      have hA15 := ap_ob hA8.symm (Lt.blk hB3) hb2
      have hE18 := hE10.step hw17 (fun y hy => (wr_mem (.inl rfl) y hy).imp (List.mem_cons_of_mem _) id)
      have hE19 := (Evo.refl (bz :: bw :: ob.toList) w2).step hw17 (fun y hy => (wr_mem (.inl rfl) y hy).imp (List.mem_cons_of_mem _) id)
      have hB20 := hw17.blk hB12 (nm2 hzw hzo)
      have hB21 := hw17.blk hB3 (nm2 hA6.symm hA8.symm)
      refine wl_nil (nrm_then ?_)
      refine cw_region ?_
      refine wl_val rfl (ex_move rfl) ?_
      refine wl_val rfl (ex_nilCheck rfl) ?_
      refine wl_val rfl (ex_fieldAddr rfl Tryd.fld74_2) ?_
      refine wl_store1 rfl rfl (by first | rfl | assumption) Tryd.size72 hB20 rfl fun w22 hB23 hw24 => ?_
      have hE25 := hE18.step hw24 (fun y hy => .inl (by simp at hy; simp [hy]))
      have hE26 := hE19.step hw24 (fun y hy => .inl (by simp at hy; simp [hy]))
      have hB27 := hw24.blk hB21 hA7.symm.nmem1
      have hB28 := hw24.blk hW2.blk hzw.symm.nmem1
      have hO29 := hW2.own.evo hw24 hA14.symm.own1
      try simp only [List.setIfInBounds_toArray, List.set_cons_zero, List.set_cons_succ, Nat.reduceAdd, Nat.zero_add, Nat.add_zero] at hB23
      refine wl_nil (nrm_same ?_)
      refine ⟨(a2, m2, c2, bs2, ob2), trivial, ⟨rfl, rfl, rfl, trivial⟩, hE26, ?_⟩
      have hz0 : z.n = 0 := by omega
      have e1 : (tnext z s).d = 0 := by simp only [tnext, if_pos hz0]
      have e2 : tpart z s = num (u64 s.t) 64 := by simp only [tpart, if_pos hz0]
      rw [e1, e2]
      have hZf := hB23
      exact ⟨⟨hB28, hO29, hW2.pk, hW2.ap⟩, hZf, hA14, hob2, hoc2⟩
    · skip
      refine cw_seq ?_
      refine cw_any (fun w0 w' => Evo [] w0 w') (by kernel_rfl) (fun w30 hw31 => ?_)
      have hE32 := hE10.then hw31
      have hE33 := (Evo.refl (bz :: bw :: ob.toList) w2).then hw31
      have hB34 := hw31.blk0 hB11
      have hB35 := hw31.blk0 hB12
      have hO36 := hO13.evo0 hw31
      have hB37 := hw31.blk0 hB3
      refine ae_take 0 rfl (by kernel_rfl) (by kernel_rfl) (by kernel_rfl) rfl (fun _ hS => ex_fieldAddr rfl Tryd.fld41_0) (Evo.refl [] w30) ?_
      refine ae_take 1 rfl (by kernel_rfl) (by kernel_rfl) (by kernel_rfl) rfl (fun _ hS => ex_load1 rfl Tryd.agg2 (cell_nth (hS.blk0 hB37) rfl)) (Evo.refl [] w30) ?_
      refine ae_take 2 rfl (by kernel_rfl) (by kernel_rfl) (by kernel_rfl) rfl (fun _ hS => ex_convU rfl Tryd.underlying2 Tryd.underlying72) (Evo.refl [] w30) ?_
      refine ae_take 3 rfl (by kernel_rfl) (by kernel_rfl) (by kernel_rfl) rfl (fun _ hS => ex_move rfl) (Evo.refl [] w30) ?_
      refine ae_take 4 rfl (by kernel_rfl) (by kernel_rfl) (by kernel_rfl) rfl (fun _ hS => ex_nilCheck rfl) (Evo.refl [] w30) ?_
      refine ae_take 5 rfl (by kernel_rfl) (by kernel_rfl) (by kernel_rfl) rfl (fun _ hS => ex_fieldAddr rfl Tryd.fld74_1) (Evo.refl [] w30) ?_
      refine ae_take 6 rfl (by kernel_rfl) (by kernel_rfl) (by kernel_rfl) rfl (fun _ hS => ex_load1 rfl Tryd.agg2 (cell_nth (hS.blk0 hB35) rfl)) (Evo.refl [] w30) ?_
      refine ae_take 7 rfl (by kernel_rfl) (by kernel_rfl) (by kernel_rfl) rfl (fun _ hS => ex_convU rfl Tryd.underlying2 Tryd.underlying72) (Evo.refl [] w30) ?_
      refine ae_take 8 rfl (by kernel_rfl) (by kernel_rfl) (by kernel_rfl) rfl (fun _ hS => ex_subU rfl rfl) (Evo.refl [] w30) ?_
      refine ae_take 9 rfl (by kernel_rfl) (by kernel_rfl) (by kernel_rfl) rfl (fun _ hS => ex_assign rfl) (Evo.refl [] w30) ?_
      refine ae_done (by kernel_rfl) (nrm_then ?_)
      refine cw_seq ?_
      refine cw_region ?_
      refine wl_val rfl (ex_move rfl) ?_
      refine wl_val rfl (ex_move rfl) ?_
      refine wl_val rfl (ex_move rfl) ?_
      refine wl_val rfl (ex_nilCheck rfl) ?_
      refine wl_val rfl (ex_fieldAddr rfl Tryd.fld74_2) ?_
      refine wl_val rfl (ex_load1 rfl Tryd.agg72 (cell_nth hB35 rfl)) ?_
      refine wl_val rfl (ex_subU rfl rfl) ?_
      refine wl_val rfl (ex_convI rfl Tryd.underlying72 Tryd.underlying2) ?_
      rw [u64_sub2]
      refine wl_call1 (vs := [_, _]) Tryd.goes46 rfl (putTime_ok ⟨hB34, hO36, hP0, hA0⟩ (i64 (s.t - z.t - z.d)) (i64_rng _) (by first | omega | (simp only [List.length_append, num_length]; omega))) rfl ?_
      rintro _ w40 ⟨rfl, a3, m3, c3, bs3, ob3, hW3, hw41, hb3⟩
      have hob3 := ob_trans (.inl rfl) hE32 hb3
      have hoc3 := ob_trans (.inl rfl) hE33 hb3
      have hA38 := ap_ob hzo (Lt.blk hB35) hb3
      have hA39 := ap_ob hA8.symm (Lt.blk hB37) hb3
      have hE42 := hE32.step hw41 (fun y hy => (wr_mem (.inl rfl) y hy).imp (List.mem_cons_of_mem _) id)
      have hE43 := hE33.step hw41 (fun y hy => (wr_mem (.inl rfl) y hy).imp (List.mem_cons_of_mem _) id)
      have hB44 := hw41.blk hB35 (nm2 hzw hzo)
      have hB45 := hw41.blk hB37 (nm2 hA6.symm hA8.symm)
      refine wl_nil (nrm_then ?_)
      refine cw_region ?_
      refine wl_val rfl (ex_move rfl) ?_
      refine wl_val rfl (ex_move rfl) ?_
      refine wl_val rfl (ex_nilCheck rfl) ?_
      refine wl_val rfl (ex_fieldAddr rfl Tryd.fld74_2) ?_
      refine wl_store1 rfl rfl (by first | rfl | assumption) Tryd.size72 hB44 rfl fun w46 hB47 hw48 => ?_
      have hE49 := hE42.step hw48 (fun y hy => .inl (by simp at hy; simp [hy]))
      have hE50 := hE43.step hw48 (fun y hy => .inl (by simp at hy; simp [hy]))
      have hB51 := hw48.blk hB45 hA7.symm.nmem1
      have hB52 := hw48.blk hW3.blk hzw.symm.nmem1
      have hO53 := hW3.own.evo hw48 hA38.symm.own1
      try simp only [List.setIfInBounds_toArray, List.set_cons_zero, List.set_cons_succ, Nat.reduceAdd, Nat.zero_add, Nat.add_zero] at hB47
      refine wl_nil (nrm_same ?_)
      refine ⟨(a3, m3, c3, bs3, ob3), trivial, ⟨rfl, rfl, rfl, trivial⟩, hE50, ?_⟩
      have hz0 : ¬ z.n = 0 := by omega
      have e1 : (tnext z s).d = i64 (s.t - z.t) := by simp only [tnext, if_neg hz0]
      have e2 : tpart z s = tbits (i64 (s.t - z.t - z.d)) := by simp only [tpart, if_neg hz0]
      rw [e1, e2]
      have hZf := hB47
      rw [u64_sub1] at hZf
      exact ⟨⟨hB52, hO53, hW3.pk, hW3.ap⟩, hZf, hA38, hob3, hoc3⟩
  · skip
    rintro ⟨a1, m1, c1, bs1, ob1⟩ w54 ⟨hV55, ⟨hW1, hZ1, hzo1, hob1, hoq1⟩⟩
    refine nrm_then ?_
    show CW _ _ _ _ [(0, _), (1, _), (5, _)] _
    try dsimp only at hW1
    try dsimp only at hZ1
    try dsimp only at hzo1
    try dsimp only at hob1
    try dsimp only at hoq1
    have hE56 := hE10.step hV55 (fun y hy => .inl hy)
    have hB57 := hV55.blk hB3 (by intro h; rcases List.mem_cons.1 h with h | h; { exact hA7.symm _ rfl (by rw [h]) }; { exact nm2 hA6.symm hA8.symm h })
    have htl := tpart_len z s
    have hapb := ap_ob hA8.symm (Lt.blk hB3) hoq1
    refine cw_seq ?_
    refine cw_any (fun w0 w' => Evo [bz] w0 w') (by kernel_rfl) (fun w58 hw59 => ?_)
    have hE60 := hE56.then hw59
    have hB61 := hw59.blk0 hB57
    have hB62 := hw59.blk0 hW1.blk
    have hO63 := hW1.own.evo0 hw59
    have hB64 := hw59.blk0 hZ1
    refine ae_take 0 rfl (by kernel_rfl) (by kernel_rfl) (by kernel_rfl) rfl (fun _ hS => ex_move rfl) (Evo.refl [bz] w58) ?_
    refine ae_take 1 rfl (by kernel_rfl) (by kernel_rfl) (by kernel_rfl) rfl (fun _ hS => ex_move rfl) (Evo.refl [bz] w58) ?_
    refine ae_take 2 rfl (by kernel_rfl) (by kernel_rfl) (by kernel_rfl) rfl (fun _ hS => ex_move rfl) (Evo.refl [bz] w58) ?_
    refine ae_take 3 rfl (by kernel_rfl) (by kernel_rfl) (by kernel_rfl) rfl (fun _ hS => ex_nilCheck rfl) (Evo.refl [bz] w58) ?_
    refine ae_take 4 rfl (by kernel_rfl) (by kernel_rfl) (by kernel_rfl) rfl (fun _ hS => ex_fieldAddr rfl Tryd.fld74_0) (Evo.refl [bz] w58) ?_
    refine ae_take 7 rfl (by kernel_rfl) (by kernel_rfl) (by kernel_rfl) rfl (fun _ hS => ex_fieldAddr rfl Tryd.fld41_0) (Evo.refl [bz] w58) ?_
    refine ae_take 8 rfl (by kernel_rfl) (by kernel_rfl) (by kernel_rfl) rfl (fun _ hS => ex_load1 rfl Tryd.agg2 (cell_nth (hS.blk hB61 (hA7.symm.nmem1)) rfl)) (Evo.refl [bz] w58) ?_
    refine ae_loud [5] (by kernel_rfl) rfl ⟨?_, trivial⟩
    refine a_step rfl ?_
    refine wl_val rfl (ex_load1 rfl Tryd.agg3 (cell_nth hB64 rfl)) ?_
    refine wl_nil (ae_next (.inl (Evo.refl [bz] w58)) ?_)
    refine ae_take 6 rfl (by kernel_rfl) (by kernel_rfl) (by kernel_rfl) rfl (fun _ hS => ex_add_i64 rfl rfl (by omega) (by omega)) (Evo.refl [bz] w58) ?_
    refine ae_take 9 rfl (by kernel_rfl) (by kernel_rfl) (by kernel_rfl) rfl (fun _ hS => ex_nilCheck rfl) (Evo.refl [bz] w58) ?_
    refine ae_take 10 rfl (by kernel_rfl) (by kernel_rfl) (by kernel_rfl) rfl (fun _ hS => ex_fieldAddr rfl Tryd.fld74_0) (Evo.refl [bz] w58) ?_
    refine ae_loud [11] (by kernel_rfl) rfl ⟨?_, trivial⟩
    refine a_step rfl ?_
    refine wl_store1 rfl rfl (by first | rfl | assumption) Tryd.size3 hB64 rfl fun w65 hB66 hw67 => ?_
    have hE68 := hE60.step hw67 (fun y hy => .inl (by simp at hy; simp [hy]))
    have hE69 := (Evo.refl [bz] w58).step hw67 (fun y hy => .inl (by simp at hy; simp [hy]))
    have hB70 := hw67.blk hB61 hA7.symm.nmem1
    have hB71 := hw67.blk hB62 hzw.symm.nmem1
    have hO72 := hO63.evo hw67 hzo1.symm.own1
    try simp only [List.setIfInBounds_toArray, List.set_cons_zero, List.set_cons_succ, Nat.reduceAdd, Nat.zero_add, Nat.add_zero] at hB66
    refine wl_nil (ae_next (.inl hE69) ?_)
    refine ae_take 12 rfl (by kernel_rfl) (by kernel_rfl) (by kernel_rfl) rfl (fun _ hS => ex_nilCheck rfl) hE69 ?_
    refine ae_take 13 rfl (by kernel_rfl) (by kernel_rfl) (by kernel_rfl) rfl (fun _ hS => ex_fieldAddr rfl Tryd.fld74_1) hE69 ?_
    refine ae_loud [14] (by kernel_rfl) rfl ⟨?_, trivial⟩
    refine a_step rfl ?_
    refine wl_store1 rfl rfl (by first | rfl | assumption) Tryd.size2 hB66 rfl fun w73 hB74 hw75 => ?_
    have hE76 := hE68.step hw75 (fun y hy => .inl (by simp at hy; simp [hy]))
    have hE77 := hE69.step hw75 (fun y hy => .inl (by simp at hy; simp [hy]))
    have hB78 := hw75.blk hB70 hA7.symm.nmem1
    have hB79 := hw75.blk hB71 hzw.symm.nmem1
    have hO80 := hO72.evo hw75 hzo1.symm.own1
    try simp only [List.setIfInBounds_toArray, List.set_cons_zero, List.set_cons_succ, Nat.reduceAdd, Nat.zero_add, Nat.add_zero] at hB74
    refine wl_nil (ae_next (.inl hE77) ?_)
    refine ae_done (by kernel_rfl) (nrm_then ?_)
    refine cw_seq ?_
    refine cw_seq ?_
    refine cw_region ?_
    refine wl_val rfl (ex_fieldAddr rfl Tryd.fld41_2) ?_
    refine wl_val rfl (ex_load1 rfl Tryd.agg4 (cell_nth hB78 rfl)) ?_
    refine wl_nil (nrm_then ?_)
    refine cw_ifb rfl (fun hc59 => ?_) (fun hc59 => ?_)
    · skip
      refine cw_seq ?_
      refine cw_region ?_
      refine wl_val rfl (ex_move rfl) ?_
      refine wl_call1 (vs := [_, _, _]) Tryd.goes32 rfl (put_ok ⟨hB79, hO80, hW1.pk, hW1.ap⟩ 7 3 (by omega) (by omega) (by first | omega | (simp only [List.length_append, num_length]; omega))) rfl ?_
      rintro _ w83 ⟨rfl, a4, m4, c4, bs4, ob4, hW4, hw84, hb4⟩
      have hob4 := ob_trans hob1 hE76 hb4
      have hA81 := ap_ob hapb (Lt.blk hB78) hb4
      have hA82 := ap_ob hzo1 (Lt.blk hB74) hb4
      have hE85 := hE76.step hw84 (fun y hy => (wr_mem hob1 y hy).imp (List.mem_cons_of_mem _) id)
      have hB86 := hw84.blk hB78 (nm2 hA6.symm hapb)
      have hB87 := hw84.blk hB74 (nm2 hzw hzo1)
      refine wl_nil (nrm_then ?_)
      refine cw_ret (ret_then (body_ret0 rfl ?_))
      rw [step_st hc59]
      refine ⟨rfl, a4, m4, c4, bs4, ob4, ?_, hB87, hE85, hob4⟩
      rw [← List.append_assoc]; exact ⟨hW4.blk, hW4.own, hW4.pk, hW4.ap⟩
    · skip
      refine cw_skip (nrm_then ?_)
      refine cw_seq ?_
      refine cw_any (fun w0 w' => Evo [] w0 w') (by kernel_rfl) (fun w88 hw89 => ?_)
      have hE90 := hE76.then hw89
      have hB91 := hw89.blk0 hB78
      have hB92 := hw89.blk0 hB79
      have hO93 := hO80.evo0 hw89
      have hB94 := hw89.blk0 hB74
      refine ae_take 0 rfl (by kernel_rfl) (by kernel_rfl) (by kernel_rfl) rfl (fun _ hS => ex_fieldAddr rfl Tryd.fld41_1) (Evo.refl [] w88) ?_
      refine ae_take 1 rfl (by kernel_rfl) (by kernel_rfl) (by kernel_rfl) rfl (fun _ hS => ex_load1 rfl Tryd.agg39 (cell_nth (hS.blk0 hB91) rfl)) (Evo.refl [] w88) ?_
      refine ae_take 3 rfl (by kernel_rfl) (by kernel_rfl) (by kernel_rfl) rfl (fun _ hS => ex_move rfl) (Evo.refl [] w88) ?_
      refine ae_take 4 rfl (by kernel_rfl) (by kernel_rfl) (by kernel_rfl) rfl (fun _ hS => ex_nilCheck rfl) (Evo.refl [] w88) ?_
      refine ae_take 5 rfl (by kernel_rfl) (by kernel_rfl) (by kernel_rfl) rfl (fun _ hS => ex_fieldAddr rfl Tryd.fld74_3) (Evo.refl [] w88) ?_
      refine ae_take 6 rfl (by kernel_rfl) (by kernel_rfl) (by kernel_rfl) rfl (fun _ hS => ex_load1 rfl Tryd.agg72 (cell_nth (hS.blk0 hB94) rfl)) (Evo.refl [] w88) ?_
      refine ae_loud [2] (by kernel_rfl) rfl ⟨?_, trivial⟩
      refine a_step rfl ?_
      refine wl_call1 (vs := [_]) Tryd.goes47 rfl (numBits_ok s.v hs.v) rfl ?_
      rintro _ w95 ⟨rfl, hw96⟩
      have hE97 := hE90.then hw96
      have hE98 := (Evo.refl [] w88).then hw96
      have hB99 := hw96.blk0 hB91
      have hB100 := hw96.blk0 hB92
      have hO101 := hO93.evo0 hw96
      have hB102 := hw96.blk0 hB94
      refine wl_nil (ae_next (.inl hE98) ?_)
      refine ae_take 7 rfl (by kernel_rfl) (by kernel_rfl) (by kernel_rfl) rfl (fun _ hS => ex_xorN (m := cb s.v) (n := z.b) rfl rfl (by omega) (by omega) rfl (cb_lt hs.v) (hz.b)) hE98 ?_
      refine ae_take 8 rfl (by kernel_rfl) (by kernel_rfl) (by kernel_rfl) rfl (fun _ hS => ex_assign rfl) hE98 ?_
      refine ae_done (by kernel_rfl) (nrm_then ?_)
      refine cw_seq ?_
      refine cw_region ?_
      refine wl_val rfl (ex_move rfl) ?_
      refine wl_val rfl (ex_nilCheck rfl) ?_
      refine wl_val rfl (ex_fieldAddr rfl Tryd.fld74_3) ?_
      refine wl_val rfl (ex_load1 rfl Tryd.agg72 (cell_nth hB102 rfl)) ?_
      refine wl_val rfl (ex_move rfl) ?_
      refine wl_val rfl (ex_xorN (m := z.b) (n := cb s.v ^^^ z.b) rfl rfl (by omega) (by omega) rfl (hz.b) (hx)) ?_
      rw [show z.b ^^^ (cb s.v ^^^ z.b) = cb s.v by rw [Nat.xor_comm (cb s.v), ← Nat.xor_assoc, Nat.xor_self, Nat.zero_xor]]
      refine wl_val rfl (ex_nilCheck rfl) ?_
      refine wl_val rfl (ex_fieldAddr rfl Tryd.fld74_3) ?_
      refine wl_store1 rfl rfl (by first | rfl | assumption) Tryd.size72 hB102 rfl fun w103 hB104 hw105 => ?_
      have hE106 := hE97.step hw105 (fun y hy => .inl (by simp at hy; simp [hy]))
      have hB107 := hw105.blk hB100 hzw.symm.nmem1
      have hO108 := hO101.evo hw105 hzo1.symm.own1
      try simp only [List.setIfInBounds_toArray, List.set_cons_zero, List.set_cons_succ, Nat.reduceAdd, Nat.zero_add, Nat.add_zero] at hB104
      refine wl_nil (nrm_then ?_)
      refine cw_seq ?_
      refine cw_seq ?_
      refine cw_region ?_
      refine wl_val rfl (ex_move rfl) ?_
      refine wl_val rfl (ex_eql rfl rfl) ?_
      refine wl_nil (nrm_then ?_)
      refine cw_if rfl (fun hc79 => ?_) (fun hc79 => ?_)
      · skip
        refine cw_seq ?_
        refine cw_region ?_
        refine wl_val rfl (ex_move rfl) ?_
        refine wl_call1 (vs := [_, _, _]) Tryd.goes32 rfl (put_ok ⟨hB107, hO108, hW1.pk, hW1.ap⟩ 0 1 (by omega) (by omega) (by first | omega | (simp only [List.length_append, num_length]; omega))) rfl ?_
        rintro _ w110 ⟨rfl, a5, m5, c5, bs5, ob5, hW5, hw111, hb5⟩
        have hob5 := ob_trans hob1 hE106 hb5
        have hA109 := ap_ob hzo1 (Lt.blk hB104) hb5
        have hE112 := hE106.step hw111 (fun y hy => (wr_mem hob1 y hy).imp (List.mem_cons_of_mem _) id)
        have hB113 := hw111.blk hB104 (nm2 hzw hzo1)
        refine wl_nil (nrm_then ?_)
        refine cw_ret (ret_then (body_ret0 rfl ?_))
        have hx0 : cb s.v ^^^ z.b = 0 := by omega
        rw [step_v hc59, vbits, if_pos hx0]
        refine ⟨rfl, a5, m5, c5, bs5, ob5, ?_, hB113, hE112, hob5⟩
        rw [← List.append_assoc]; exact ⟨hW5.blk, hW5.own, hW5.pk, hW5.ap⟩
      · skip
        have h0 : cb s.v ^^^ z.b ≠ 0 := by omega
        refine cw_skip (nrm_then ?_)
        refine cw_seq ?_
        refine cw_region ?_
        refine wl_val rfl (ex_move rfl) ?_
        refine wl_call1 (vs := [_]) Tryd.goes48 rfl (lz_call (cb s.v ^^^ z.b) _ hx) rfl ?_
        rintro _ w114 ⟨rfl, hw115⟩
        have hE116 := hE106.then hw115
        have hB117 := hw115.blk0 hB107
        have hO118 := hO108.evo0 hw115
        have hB119 := hw115.blk0 hB104
        refine wl_val rfl (ex_move rfl) ?_
        refine wl_call1 (vs := [_]) Tryd.goes49 rfl (tz_ok (ht.evo hE116 h1) (cb s.v ^^^ z.b) hx h0) rfl ?_
        rintro _ w120 ⟨rfl, hw121⟩
        have hE122 := hE116.then hw121
        have hB123 := hw121.blk0 hB117
        have hO124 := hO118.evo0 hw121
        have hB125 := hw121.blk0 hB119
        have hlt := lz_tz h0 hx
        refine wl_val rfl (ex_assign rfl) ?_
        refine wl_val rfl (ex_assign rfl) ?_
        refine wl_nil (nrm_then ?_)
        refine cw_seq ?_
        refine cw_seq ?_
        refine cw_region ?_
        refine wl_val rfl (ex_move rfl) ?_
        refine wl_val rfl (ex_nilCheck rfl) ?_
        refine wl_val rfl (ex_fieldAddr rfl Tryd.fld74_4) ?_
        refine wl_val rfl (ex_load1 rfl Tryd.agg4 (cell_nth hB125 rfl)) ?_
        refine wl_val rfl (ex_move rfl) ?_
        refine wl_splitb (t := 90) rfl (fun hs90 => ?_) (fun hs90 => ?_)
        · skip
          refine wl_go rfl rfl rfl rfl ?_
          refine wl_val rfl (ex_move rfl) ?_
          refine wl_go rfl rfl rfl rfl ?_
          refine wl_val rfl (ex_nilCheck rfl) ?_
          refine wl_go rfl rfl rfl rfl ?_
          refine wl_val rfl (ex_fieldAddr rfl Tryd.fld74_5) ?_
          refine wl_go rfl rfl rfl rfl ?_
          refine wl_val rfl (ex_load1 rfl Tryd.agg3 (cell_nth hB125 rfl)) ?_
          refine wl_go rfl rfl rfl rfl ?_
          refine wl_val rfl (ex_move rfl) ?_
          refine wl_go rfl rfl rfl rfl ?_
          refine wl_val rfl (ex_leq rfl rfl) ?_
          refine wl_val rfl (ex_pick_t rfl rfl) ?_
          refine wl_val rfl (ex_move rfl) ?_
          refine wl_split (t := 98) rfl (fun hs98 => ?_) (fun hs98 => ?_)
          · skip
            refine wl_go rfl rfl rfl rfl ?_
            refine wl_val rfl (ex_move rfl) ?_
            refine wl_go rfl rfl rfl rfl ?_
            refine wl_val rfl (ex_nilCheck rfl) ?_
            refine wl_go rfl rfl rfl rfl ?_
            refine wl_val rfl (ex_fieldAddr rfl Tryd.fld74_6) ?_
            refine wl_go rfl rfl rfl rfl ?_
            refine wl_val rfl (ex_load1 rfl Tryd.agg3 (cell_nth hB125 rfl)) ?_
            refine wl_go rfl rfl rfl rfl ?_
            refine wl_val rfl (ex_move rfl) ?_
            refine wl_go rfl rfl rfl rfl ?_
            refine wl_val rfl (ex_leq rfl rfl) ?_
            refine wl_val rfl (ex_pick_t rfl rfl) ?_
            refine wl_nil (nrm_then ?_)
            refine cw_if rfl (fun hc105 => ?_) (fun hc105 => ?_)
            · skip
              refine cw_seq ?_
              refine cw_region ?_
              refine wl_val rfl (ex_move rfl) ?_
              refine wl_call1 (vs := [_, _, _]) Tryd.goes32 rfl (put_ok ⟨hB123, hO124, hW1.pk, hW1.ap⟩ 2 2 (by omega) (by omega) (by first | omega | (simp only [List.length_append, num_length]; omega))) rfl ?_
              rintro _ w127 ⟨rfl, a6, m6, c6, bs6, ob6, hW6, hw128, hb6⟩
              have hob6 := ob_trans hob1 hE122 hb6
              have hA126 := ap_ob hzo1 (Lt.blk hB125) hb6
              have hE129 := hE122.step hw128 (fun y hy => (wr_mem hob1 y hy).imp (List.mem_cons_of_mem _) id)
              have hB130 := hw128.blk hB125 (nm2 hzw hzo1)
              refine wl_nil (nrm_then ?_)
              refine cw_seq ?_
              refine cw_any (fun w0 w' => Evo (bw :: ob6.toList) w0 w') (by kernel_rfl) (fun w131 hw132 => ?_)
              have hE133 := hE129.then hw132
              have hB134 := hw132.blk0 hB130
              have hB135 := hw132.blk0 hW6.blk
              have hO136 := hW6.own.evo0 hw132
              refine ae_take 0 rfl (by kernel_rfl) (by kernel_rfl) (by kernel_rfl) rfl (fun _ hS => ex_move rfl) (Evo.refl (bw :: ob6.toList) w131) ?_
              refine ae_take 1 rfl (by kernel_rfl) (by kernel_rfl) (by kernel_rfl) rfl (fun _ hS => ex_move rfl) (Evo.refl (bw :: ob6.toList) w131) ?_
              refine ae_take 2 rfl (by kernel_rfl) (by kernel_rfl) (by kernel_rfl) rfl (fun _ hS => ex_move rfl) (Evo.refl (bw :: ob6.toList) w131) ?_
              refine ae_take 3 rfl (by kernel_rfl) (by kernel_rfl) (by kernel_rfl) rfl (fun _ hS => ex_nilCheck rfl) (Evo.refl (bw :: ob6.toList) w131) ?_
              refine ae_take 4 rfl (by kernel_rfl) (by kernel_rfl) (by kernel_rfl) rfl (fun _ hS => ex_fieldAddr rfl Tryd.fld74_6) (Evo.refl (bw :: ob6.toList) w131) ?_
              refine ae_take 5 rfl (by kernel_rfl) (by kernel_rfl) (by kernel_rfl) rfl (fun _ hS => ex_load1 rfl Tryd.agg3 (cell_nth (hS.blk hB134 (nm2 hzw hA126)) rfl)) (Evo.refl (bw :: ob6.toList) w131) ?_
              refine ae_take 6 rfl (by kernel_rfl) (by kernel_rfl) (by kernel_rfl) rfl (fun _ hS => ex_shrN (m := (cb s.v ^^^ z.b)) (n := z.f.r) rfl rfl (by omega) (by omega) (by first | exact Nat.le_of_ble_eq_true rfl | (simp only [IntKind.bits]; omega))) (Evo.refl (bw :: ob6.toList) w131) ?_
              refine ae_take 7 rfl (by kernel_rfl) (by kernel_rfl) (by kernel_rfl) rfl (fun _ hS => ex_move rfl) (Evo.refl (bw :: ob6.toList) w131) ?_
              refine ae_take 8 rfl (by kernel_rfl) (by kernel_rfl) (by kernel_rfl) rfl (fun _ hS => ex_nilCheck rfl) (Evo.refl (bw :: ob6.toList) w131) ?_
              refine ae_take 9 rfl (by kernel_rfl) (by kernel_rfl) (by kernel_rfl) rfl (fun _ hS => ex_fieldAddr rfl Tryd.fld74_5) (Evo.refl (bw :: ob6.toList) w131) ?_
              refine ae_take 10 rfl (by kernel_rfl) (by kernel_rfl) (by kernel_rfl) rfl (fun _ hS => ex_load1 rfl Tryd.agg3 (cell_nth (hS.blk hB134 (nm2 hzw hA126)) rfl)) (Evo.refl (bw :: ob6.toList) w131) ?_
              refine ae_take 11 rfl (by kernel_rfl) (by kernel_rfl) (by kernel_rfl) rfl (fun _ hS => ex_sub_i64 rfl rfl (by omega) (by omega)) (Evo.refl (bw :: ob6.toList) w131) ?_
              refine ae_take 12 rfl (by kernel_rfl) (by kernel_rfl) (by kernel_rfl) rfl (fun _ hS => ex_move rfl) (Evo.refl (bw :: ob6.toList) w131) ?_
              refine ae_take 13 rfl (by kernel_rfl) (by kernel_rfl) (by kernel_rfl) rfl (fun _ hS => ex_nilCheck rfl) (Evo.refl (bw :: ob6.toList) w131) ?_
              refine ae_take 14 rfl (by kernel_rfl) (by kernel_rfl) (by kernel_rfl) rfl (fun _ hS => ex_fieldAddr rfl Tryd.fld74_6) (Evo.refl (bw :: ob6.toList) w131) ?_
              refine ae_take 15 rfl (by kernel_rfl) (by kernel_rfl) (by kernel_rfl) rfl (fun _ hS => ex_load1 rfl Tryd.agg3 (cell_nth (hS.blk hB134 (nm2 hzw hA126)) rfl)) (Evo.refl (bw :: ob6.toList) w131) ?_
              refine ae_take 16 rfl (by kernel_rfl) (by kernel_rfl) (by kernel_rfl) rfl (fun _ hS => ex_sub_i64 rfl rfl (by omega) (by omega)) (Evo.refl (bw :: ob6.toList) w131) ?_
              rw [show ((64 : Int) - (z.f.l : Nat) - (z.f.r : Nat)) = ((64 - z.f.l - z.f.r : Nat) : Int) by omega]
              refine ae_loud [17] (by kernel_rfl) rfl ⟨?_, trivial⟩
              refine a_step rfl ?_
              refine wl_call1 (vs := [_, _, _]) Tryd.goes32 rfl (put_ok ⟨hB135, hO136, hW6.pk, hW6.ap⟩ ((cb s.v ^^^ z.b) / 2 ^ z.f.r) (64 - z.f.l - z.f.r) (by omega) (Nat.lt_of_le_of_lt (Nat.div_le_self _ _) hx) (by first | omega | (simp only [List.length_append, num_length]; omega))) rfl ?_
              rintro _ w138 ⟨rfl, a7, m7, c7, bs7, ob7, hW7, hw139, hb7⟩
              have hob7 := ob_trans hob6 hE133 hb7
              have hA137 := ap_ob hA126 (Lt.blk hB134) hb7
              have hE140 := hE133.step hw139 (fun y hy => (wr_mem hob6 y hy).imp (List.mem_cons_of_mem _) id)
              have hE141 := (Evo.refl (bw :: ob6.toList) w131).step hw139 (fun y hy => .inl hy)
              have hB142 := hw139.blk hB134 (nm2 hzw hA126)
              refine wl_nil (ae_next (.inl hE141) ?_)
              refine ae_done (by kernel_rfl) (nrm_then ?_)
              refine cw_ret (ret_then (body_ret0 rfl ?_))
              have hff : z.f.is = true ∧ z.f.l ≤ lz (cb s.v ^^^ z.b) ∧ z.f.r ≤ tz (cb s.v ^^^ z.b) := ⟨hs90, by omega, by omega⟩
              rw [step_v hc59, vbits, if_neg h0, if_pos hff]
              refine ⟨rfl, a7, m7, c7, bs7, ob7, ?_, hB142, hE140, hob7⟩
              rw [← List.append_assoc, ← List.append_assoc]; exact ⟨hW7.blk, hW7.own, hW7.pk, hW7.ap⟩
            · skip
              refine cw_skip (nrm_then ?_)
              refine cw_seq ?_
              refine cw_region ?_
              refine wl_val rfl (ex_move rfl) ?_
              refine wl_val rfl (ex_move rfl) ?_
              refine wl_val rfl (ex_move rfl) ?_
              refine wl_val rfl (ex_move rfl) ?_
              refine wl_val rfl (ex_move rfl) ?_
              refine wl_val rfl (ex_nilCheck rfl) ?_
              refine wl_val rfl (ex_fieldAddr rfl Tryd.fld74_4) ?_
              refine wl_store1 rfl rfl (by first | rfl | assumption) Tryd.size4 hB125 rfl fun w143 hB144 hw145 => ?_
              have hE146 := hE122.step hw145 (fun y hy => .inl (by simp at hy; simp [hy]))
              have hB147 := hw145.blk hB123 hzw.symm.nmem1
              have hO148 := hO124.evo hw145 hzo1.symm.own1
              try simp only [List.setIfInBounds_toArray, List.set_cons_zero, List.set_cons_succ, Nat.reduceAdd, Nat.zero_add, Nat.add_zero] at hB144
              refine wl_val rfl (ex_nilCheck rfl) ?_
              refine wl_val rfl (ex_fieldAddr rfl Tryd.fld74_5) ?_
              refine wl_store1 rfl rfl (by first | rfl | assumption) Tryd.size3 hB144 rfl fun w149 hB150 hw151 => ?_
              have hE152 := hE146.step hw151 (fun y hy => .inl (by simp at hy; simp [hy]))
              have hB153 := hw151.blk hB147 hzw.symm.nmem1
              have hO154 := hO148.evo hw151 hzo1.symm.own1
              try simp only [List.setIfInBounds_toArray, List.set_cons_zero, List.set_cons_succ, Nat.reduceAdd, Nat.zero_add, Nat.add_zero] at hB150
              refine wl_val rfl (ex_nilCheck rfl) ?_
              refine wl_val rfl (ex_fieldAddr rfl Tryd.fld74_6) ?_
              refine wl_store1 rfl rfl (by first | rfl | assumption) Tryd.size3 hB150 rfl fun w155 hB156 hw157 => ?_
              have hE158 := hE152.step hw157 (fun y hy => .inl (by simp at hy; simp [hy]))
              have hB159 := hw157.blk hB153 hzw.symm.nmem1
              have hO160 := hO154.evo hw157 hzo1.symm.own1
              try simp only [List.setIfInBounds_toArray, List.set_cons_zero, List.set_cons_succ, Nat.reduceAdd, Nat.zero_add, Nat.add_zero] at hB156
              refine wl_nil (nrm_then ?_)
              refine cw_seq ?_
              refine cw_region ?_
              refine wl_val rfl (ex_move rfl) ?_
              refine wl_call1 (vs := [_, _, _]) Tryd.goes32 rfl (put_ok ⟨hB159, hO160, hW1.pk, hW1.ap⟩ 6 3 (by omega) (by omega) (by first | omega | (simp only [List.length_append, num_length]; omega))) rfl ?_
              rintro _ w162 ⟨rfl, a8, m8, c8, bs8, ob8, hW8, hw163, hb8⟩
              have hob8 := ob_trans hob1 hE158 hb8
              have hA161 := ap_ob hzo1 (Lt.blk hB156) hb8
              have hE164 := hE158.step hw163 (fun y hy => (wr_mem hob1 y hy).imp (List.mem_cons_of_mem _) id)
              have hB165 := hw163.blk hB156 (nm2 hzw hzo1)
              refine wl_nil (nrm_then ?_)
              refine cw_seq ?_
              refine cw_region ?_
              refine wl_val rfl (ex_move rfl) ?_
              refine wl_val rfl (ex_move rfl) ?_
              refine wl_val rfl (ex_convU rfl Tryd.underlying3 Tryd.underlying72) ?_
              rw [u64_of (show lz (cb s.v ^^^ z.b) < 18446744073709551616 by omega)]
              refine wl_call1 (vs := [_, _, _]) Tryd.goes32 rfl (put_ok ⟨hW8.blk, hW8.own, hW8.pk, hW8.ap⟩ (lz (cb s.v ^^^ z.b)) 6 (by omega) (by omega) (by first | omega | (simp only [List.length_append, num_length]; omega))) rfl ?_
              rintro _ w167 ⟨rfl, a9, m9, c9, bs9, ob9, hW9, hw168, hb9⟩
              have hob9 := ob_trans hob8 hE164 hb9
              have hA166 := ap_ob hA161 (Lt.blk hB165) hb9
              have hE169 := hE164.step hw168 (fun y hy => (wr_mem hob8 y hy).imp (List.mem_cons_of_mem _) id)
              have hB170 := hw168.blk hB165 (nm2 hzw hA161)
              refine wl_nil (nrm_then ?_)
              refine cw_seq ?_
              refine cw_region ?_
              refine wl_val rfl (ex_move rfl) ?_
              refine wl_val rfl (ex_move rfl) ?_
              refine wl_val rfl (ex_sub_i64 rfl rfl (by omega) (by omega)) ?_
              refine wl_val rfl (ex_move rfl) ?_
              refine wl_val rfl (ex_sub_i64 rfl rfl (by omega) (by omega)) ?_
              refine wl_val rfl (ex_sub_i64 rfl rfl (by omega) (by omega)) ?_
              refine wl_val rfl (ex_convU rfl Tryd.underlying3 Tryd.underlying72) ?_
              rw [show u64 ((64 : Int) - (lz (cb s.v ^^^ z.b) : Nat) - (tz (cb s.v ^^^ z.b) : Nat) - 1) = 63 - lz (cb s.v ^^^ z.b) - tz (cb s.v ^^^ z.b) by unfold u64; omega]
              refine wl_call1 (vs := [_, _, _]) Tryd.goes32 rfl (put_ok ⟨hW9.blk, hW9.own, hW9.pk, hW9.ap⟩ (63 - lz (cb s.v ^^^ z.b) - tz (cb s.v ^^^ z.b)) 6 (by omega) (by omega) (by first | omega | (simp only [List.length_append, num_length]; omega))) rfl ?_
              rintro _ w172 ⟨rfl, a10, m10, c10, bs10, ob10, hW10, hw173, hb10⟩
              have hob10 := ob_trans hob9 hE169 hb10
              have hA171 := ap_ob hA166 (Lt.blk hB170) hb10
              have hE174 := hE169.step hw173 (fun y hy => (wr_mem hob9 y hy).imp (List.mem_cons_of_mem _) id)
              have hB175 := hw173.blk hB170 (nm2 hzw hA166)
              refine wl_nil (nrm_then ?_)
              refine cw_region ?_
              refine wl_val rfl (ex_move rfl) ?_
              refine wl_val rfl (ex_move rfl) ?_
              refine wl_val rfl (ex_move rfl) ?_
              refine wl_val rfl (ex_shrN (m := (cb s.v ^^^ z.b)) (n := tz (cb s.v ^^^ z.b)) rfl rfl (by omega) (by omega) (by first | exact Nat.le_of_ble_eq_true rfl | (simp only [IntKind.bits]; omega))) ?_
              refine wl_val rfl (ex_move rfl) ?_
              refine wl_val rfl (ex_sub_i64 rfl rfl (by omega) (by omega)) ?_
              refine wl_val rfl (ex_move rfl) ?_
              refine wl_val rfl (ex_sub_i64 rfl rfl (by omega) (by omega)) ?_
              rw [show ((64 : Int) - (lz (cb s.v ^^^ z.b) : Nat) - (tz (cb s.v ^^^ z.b) : Nat)) = ((64 - lz (cb s.v ^^^ z.b) - tz (cb s.v ^^^ z.b) : Nat) : Int) by omega]
              refine wl_call1 (vs := [_, _, _]) Tryd.goes32 rfl (put_ok ⟨hW10.blk, hW10.own, hW10.pk, hW10.ap⟩ ((cb s.v ^^^ z.b) / 2 ^ tz (cb s.v ^^^ z.b)) (64 - lz (cb s.v ^^^ z.b) - tz (cb s.v ^^^ z.b)) (by omega) (Nat.lt_of_le_of_lt (Nat.div_le_self _ _) hx) (by first | omega | (simp only [List.length_append, num_length]; omega))) rfl ?_
              rintro _ w177 ⟨rfl, a11, m11, c11, bs11, ob11, hW11, hw178, hb11⟩
              have hob11 := ob_trans hob10 hE174 hb11
              have hA176 := ap_ob hA171 (Lt.blk hB175) hb11
              have hE179 := hE174.step hw178 (fun y hy => (wr_mem hob10 y hy).imp (List.mem_cons_of_mem _) id)
              have hB180 := hw178.blk hB175 (nm2 hzw hA171)
              refine wl_nil (body_end0 rfl ?_)
              have hff : ¬ (z.f.is = true ∧ z.f.l ≤ lz (cb s.v ^^^ z.b) ∧ z.f.r ≤ tz (cb s.v ^^^ z.b)) := fun ⟨h1, h2, h3⟩ => by first | omega | (rw [h1] at hs90; cases hs90)
              rw [step_v hc59, vbits, if_neg h0, if_neg hff]
              refine ⟨rfl, a11, m11, c11, bs11, ob11, ?_, hB180, hE179, hob11⟩
              rw [← List.append_assoc, ← List.append_assoc, ← List.append_assoc, ← List.append_assoc]; exact ⟨hW11.blk, hW11.own, hW11.pk, hW11.ap⟩
          · skip
            refine wl_no rfl rfl rfl rfl rfl rfl ?_
            refine wl_no rfl rfl rfl rfl rfl rfl ?_
            refine wl_no rfl rfl rfl rfl rfl rfl ?_
            refine wl_no rfl rfl rfl rfl rfl rfl ?_
            refine wl_no rfl rfl rfl rfl rfl rfl ?_
            refine wl_no rfl rfl rfl rfl rfl rfl ?_
            refine wl_val rfl (ex_pick_f rfl rfl) ?_
            refine wl_nil (nrm_then ?_)
            refine cw_false rfl ?_
            refine cw_skip (nrm_then ?_)
            refine cw_seq ?_
            refine cw_region ?_
            refine wl_val rfl (ex_move rfl) ?_
            refine wl_val rfl (ex_move rfl) ?_
            refine wl_val rfl (ex_move rfl) ?_
            refine wl_val rfl (ex_move rfl) ?_
            refine wl_val rfl (ex_move rfl) ?_
            refine wl_val rfl (ex_nilCheck rfl) ?_
            refine wl_val rfl (ex_fieldAddr rfl Tryd.fld74_4) ?_
            refine wl_store1 rfl rfl (by first | rfl | assumption) Tryd.size4 hB125 rfl fun w181 hB182 hw183 => ?_
            have hE184 := hE122.step hw183 (fun y hy => .inl (by simp at hy; simp [hy]))
            have hB185 := hw183.blk hB123 hzw.symm.nmem1
            have hO186 := hO124.evo hw183 hzo1.symm.own1
            try simp only [List.setIfInBounds_toArray, List.set_cons_zero, List.set_cons_succ, Nat.reduceAdd, Nat.zero_add, Nat.add_zero] at hB182
            refine wl_val rfl (ex_nilCheck rfl) ?_
            refine wl_val rfl (ex_fieldAddr rfl Tryd.fld74_5) ?_
            refine wl_store1 rfl rfl (by first | rfl | assumption) Tryd.size3 hB182 rfl fun w187 hB188 hw189 => ?_
            have hE190 := hE184.step hw189 (fun y hy => .inl (by simp at hy; simp [hy]))
            have hB191 := hw189.blk hB185 hzw.symm.nmem1
            have hO192 := hO186.evo hw189 hzo1.symm.own1
            try simp only [List.setIfInBounds_toArray, List.set_cons_zero, List.set_cons_succ, Nat.reduceAdd, Nat.zero_add, Nat.add_zero] at hB188
            refine wl_val rfl (ex_nilCheck rfl) ?_
            refine wl_val rfl (ex_fieldAddr rfl Tryd.fld74_6) ?_
            refine wl_store1 rfl rfl (by first | rfl | assumption) Tryd.size3 hB188 rfl fun w193 hB194 hw195 => ?_
            have hE196 := hE190.step hw195 (fun y hy => .inl (by simp at hy; simp [hy]))
            have hB197 := hw195.blk hB191 hzw.symm.nmem1
            have hO198 := hO192.evo hw195 hzo1.symm.own1
            try simp only [List.setIfInBounds_toArray, List.set_cons_zero, List.set_cons_succ, Nat.reduceAdd, Nat.zero_add, Nat.add_zero] at hB194
            refine wl_nil (nrm_then ?_)
            refine cw_seq ?_
            refine cw_region ?_
            refine wl_val rfl (ex_move rfl) ?_
            refine wl_call1 (vs := [_, _, _]) Tryd.goes32 rfl (put_ok ⟨hB197, hO198, hW1.pk, hW1.ap⟩ 6 3 (by omega) (by omega) (by first | omega | (simp only [List.length_append, num_length]; omega))) rfl ?_
            rintro _ w200 ⟨rfl, a8, m8, c8, bs8, ob8, hW8, hw201, hb8⟩
            have hob8 := ob_trans hob1 hE196 hb8
            have hA199 := ap_ob hzo1 (Lt.blk hB194) hb8
            have hE202 := hE196.step hw201 (fun y hy => (wr_mem hob1 y hy).imp (List.mem_cons_of_mem _) id)
            have hB203 := hw201.blk hB194 (nm2 hzw hzo1)
            refine wl_nil (nrm_then ?_)
            refine cw_seq ?_
            refine cw_region ?_
            refine wl_val rfl (ex_move rfl) ?_
            refine wl_val rfl (ex_move rfl) ?_
            refine wl_val rfl (ex_convU rfl Tryd.underlying3 Tryd.underlying72) ?_
            rw [u64_of (show lz (cb s.v ^^^ z.b) < 18446744073709551616 by omega)]
            refine wl_call1 (vs := [_, _, _]) Tryd.goes32 rfl (put_ok ⟨hW8.blk, hW8.own, hW8.pk, hW8.ap⟩ (lz (cb s.v ^^^ z.b)) 6 (by omega) (by omega) (by first | omega | (simp only [List.length_append, num_length]; omega))) rfl ?_
            rintro _ w205 ⟨rfl, a9, m9, c9, bs9, ob9, hW9, hw206, hb9⟩
            have hob9 := ob_trans hob8 hE202 hb9
            have hA204 := ap_ob hA199 (Lt.blk hB203) hb9
            have hE207 := hE202.step hw206 (fun y hy => (wr_mem hob8 y hy).imp (List.mem_cons_of_mem _) id)
            have hB208 := hw206.blk hB203 (nm2 hzw hA199)
            refine wl_nil (nrm_then ?_)
            refine cw_seq ?_
            refine cw_region ?_
            refine wl_val rfl (ex_move rfl) ?_
            refine wl_val rfl (ex_move rfl) ?_
            refine wl_val rfl (ex_sub_i64 rfl rfl (by omega) (by omega)) ?_
            refine wl_val rfl (ex_move rfl) ?_
            refine wl_val rfl (ex_sub_i64 rfl rfl (by omega) (by omega)) ?_
            refine wl_val rfl (ex_sub_i64 rfl rfl (by omega) (by omega)) ?_
            refine wl_val rfl (ex_convU rfl Tryd.underlying3 Tryd.underlying72) ?_
            rw [show u64 ((64 : Int) - (lz (cb s.v ^^^ z.b) : Nat) - (tz (cb s.v ^^^ z.b) : Nat) - 1) = 63 - lz (cb s.v ^^^ z.b) - tz (cb s.v ^^^ z.b) by unfold u64; omega]
            refine wl_call1 (vs := [_, _, _]) Tryd.goes32 rfl (put_ok ⟨hW9.blk, hW9.own, hW9.pk, hW9.ap⟩ (63 - lz (cb s.v ^^^ z.b) - tz (cb s.v ^^^ z.b)) 6 (by omega) (by omega) (by first | omega | (simp only [List.length_append, num_length]; omega))) rfl ?_
            rintro _ w210 ⟨rfl, a10, m10, c10, bs10, ob10, hW10, hw211, hb10⟩
            have hob10 := ob_trans hob9 hE207 hb10
            have hA209 := ap_ob hA204 (Lt.blk hB208) hb10
            have hE212 := hE207.step hw211 (fun y hy => (wr_mem hob9 y hy).imp (List.mem_cons_of_mem _) id)
            have hB213 := hw211.blk hB208 (nm2 hzw hA204)
            refine wl_nil (nrm_then ?_)
            refine cw_region ?_
            refine wl_val rfl (ex_move rfl) ?_
            refine wl_val rfl (ex_move rfl) ?_
            refine wl_val rfl (ex_move rfl) ?_
            refine wl_val rfl (ex_shrN (m := (cb s.v ^^^ z.b)) (n := tz (cb s.v ^^^ z.b)) rfl rfl (by omega) (by omega) (by first | exact Nat.le_of_ble_eq_true rfl | (simp only [IntKind.bits]; omega))) ?_
            refine wl_val rfl (ex_move rfl) ?_
            refine wl_val rfl (ex_sub_i64 rfl rfl (by omega) (by omega)) ?_
            refine wl_val rfl (ex_move rfl) ?_
            refine wl_val rfl (ex_sub_i64 rfl rfl (by omega) (by omega)) ?_
            rw [show ((64 : Int) - (lz (cb s.v ^^^ z.b) : Nat) - (tz (cb s.v ^^^ z.b) : Nat)) = ((64 - lz (cb s.v ^^^ z.b) - tz (cb s.v ^^^ z.b) : Nat) : Int) by omega]
            refine wl_call1 (vs := [_, _, _]) Tryd.goes32 rfl (put_ok ⟨hW10.blk, hW10.own, hW10.pk, hW10.ap⟩ ((cb s.v ^^^ z.b) / 2 ^ tz (cb s.v ^^^ z.b)) (64 - lz (cb s.v ^^^ z.b) - tz (cb s.v ^^^ z.b)) (by omega) (Nat.lt_of_le_of_lt (Nat.div_le_self _ _) hx) (by first | omega | (simp only [List.length_append, num_length]; omega))) rfl ?_
            rintro _ w215 ⟨rfl, a11, m11, c11, bs11, ob11, hW11, hw216, hb11⟩
            have hob11 := ob_trans hob10 hE212 hb11
            have hA214 := ap_ob hA209 (Lt.blk hB213) hb11
            have hE217 := hE212.step hw216 (fun y hy => (wr_mem hob10 y hy).imp (List.mem_cons_of_mem _) id)
            have hB218 := hw216.blk hB213 (nm2 hzw hA209)
            refine wl_nil (body_end0 rfl ?_)
            have hff : ¬ (z.f.is = true ∧ z.f.l ≤ lz (cb s.v ^^^ z.b) ∧ z.f.r ≤ tz (cb s.v ^^^ z.b)) := fun ⟨h1, h2, h3⟩ => by first | omega | (rw [h1] at hs90; cases hs90)
            rw [step_v hc59, vbits, if_neg h0, if_neg hff]
            refine ⟨rfl, a11, m11, c11, bs11, ob11, ?_, hB218, hE217, hob11⟩
            rw [← List.append_assoc, ← List.append_assoc, ← List.append_assoc, ← List.append_assoc]; exact ⟨hW11.blk, hW11.own, hW11.pk, hW11.ap⟩
        · skip
          refine wl_no rfl rfl rfl rfl rfl rfl ?_
          refine wl_no rfl rfl rfl rfl rfl rfl ?_
          refine wl_no rfl rfl rfl rfl rfl rfl ?_
          refine wl_no rfl rfl rfl rfl rfl rfl ?_
          refine wl_no rfl rfl rfl rfl rfl rfl ?_
          refine wl_no rfl rfl rfl rfl rfl rfl ?_
          refine wl_val rfl (ex_pick_f rfl rfl) ?_
          refine wl_val rfl (ex_move rfl) ?_
          refine wl_no rfl rfl rfl rfl rfl rfl ?_
          refine wl_no rfl rfl rfl rfl rfl rfl ?_
          refine wl_no rfl rfl rfl rfl rfl rfl ?_
          refine wl_no rfl rfl rfl rfl rfl rfl ?_
          refine wl_no rfl rfl rfl rfl rfl rfl ?_
          refine wl_no rfl rfl rfl rfl rfl rfl ?_
          refine wl_val rfl (ex_pick_f rfl rfl) ?_
          refine wl_nil (nrm_then ?_)
          refine cw_false rfl ?_
          refine cw_skip (nrm_then ?_)
          refine cw_seq ?_
          refine cw_region ?_
          refine wl_val rfl (ex_move rfl) ?_
          refine wl_val rfl (ex_move rfl) ?_
          refine wl_val rfl (ex_move rfl) ?_
          refine wl_val rfl (ex_move rfl) ?_
          refine wl_val rfl (ex_move rfl) ?_
          refine wl_val rfl (ex_nilCheck rfl) ?_
          refine wl_val rfl (ex_fieldAddr rfl Tryd.fld74_4) ?_
          refine wl_store1 rfl rfl (by first | rfl | assumption) Tryd.size4 hB125 rfl fun w219 hB220 hw221 => ?_
          have hE222 := hE122.step hw221 (fun y hy => .inl (by simp at hy; simp [hy]))
          have hB223 := hw221.blk hB123 hzw.symm.nmem1
          have hO224 := hO124.evo hw221 hzo1.symm.own1
          try simp only [List.setIfInBounds_toArray, List.set_cons_zero, List.set_cons_succ, Nat.reduceAdd, Nat.zero_add, Nat.add_zero] at hB220
          refine wl_val rfl (ex_nilCheck rfl) ?_
          refine wl_val rfl (ex_fieldAddr rfl Tryd.fld74_5) ?_
          refine wl_store1 rfl rfl (by first | rfl | assumption) Tryd.size3 hB220 rfl fun w225 hB226 hw227 => ?_
          have hE228 := hE222.step hw227 (fun y hy => .inl (by simp at hy; simp [hy]))
          have hB229 := hw227.blk hB223 hzw.symm.nmem1
          have hO230 := hO224.evo hw227 hzo1.symm.own1
          try simp only [List.setIfInBounds_toArray, List.set_cons_zero, List.set_cons_succ, Nat.reduceAdd, Nat.zero_add, Nat.add_zero] at hB226
          refine wl_val rfl (ex_nilCheck rfl) ?_
          refine wl_val rfl (ex_fieldAddr rfl Tryd.fld74_6) ?_
          refine wl_store1 rfl rfl (by first | rfl | assumption) Tryd.size3 hB226 rfl fun w231 hB232 hw233 => ?_
          have hE234 := hE228.step hw233 (fun y hy => .inl (by simp at hy; simp [hy]))
          have hB235 := hw233.blk hB229 hzw.symm.nmem1
          have hO236 := hO230.evo hw233 hzo1.symm.own1
          try simp only [List.setIfInBounds_toArray, List.set_cons_zero, List.set_cons_succ, Nat.reduceAdd, Nat.zero_add, Nat.add_zero] at hB232
          refine wl_nil (nrm_then ?_)
          refine cw_seq ?_
          refine cw_region ?_
          refine wl_val rfl (ex_move rfl) ?_
          refine wl_call1 (vs := [_, _, _]) Tryd.goes32 rfl (put_ok ⟨hB235, hO236, hW1.pk, hW1.ap⟩ 6 3 (by omega) (by omega) (by first | omega | (simp only [List.length_append, num_length]; omega))) rfl ?_
          rintro _ w238 ⟨rfl, a8, m8, c8, bs8, ob8, hW8, hw239, hb8⟩
          have hob8 := ob_trans hob1 hE234 hb8
          have hA237 := ap_ob hzo1 (Lt.blk hB232) hb8
          have hE240 := hE234.step hw239 (fun y hy => (wr_mem hob1 y hy).imp (List.mem_cons_of_mem _) id)
          have hB241 := hw239.blk hB232 (nm2 hzw hzo1)
          refine wl_nil (nrm_then ?_)
          refine cw_seq ?_
          refine cw_region ?_
          refine wl_val rfl (ex_move rfl) ?_
          refine wl_val rfl (ex_move rfl) ?_
          refine wl_val rfl (ex_convU rfl Tryd.underlying3 Tryd.underlying72) ?_
          rw [u64_of (show lz (cb s.v ^^^ z.b) < 18446744073709551616 by omega)]
          refine wl_call1 (vs := [_, _, _]) Tryd.goes32 rfl (put_ok ⟨hW8.blk, hW8.own, hW8.pk, hW8.ap⟩ (lz (cb s.v ^^^ z.b)) 6 (by omega) (by omega) (by first | omega | (simp only [List.length_append, num_length]; omega))) rfl ?_
          rintro _ w243 ⟨rfl, a9, m9, c9, bs9, ob9, hW9, hw244, hb9⟩
          have hob9 := ob_trans hob8 hE240 hb9
          have hA242 := ap_ob hA237 (Lt.blk hB241) hb9
          have hE245 := hE240.step hw244 (fun y hy => (wr_mem hob8 y hy).imp (List.mem_cons_of_mem _) id)
          have hB246 := hw244.blk hB241 (nm2 hzw hA237)
          refine wl_nil (nrm_then ?_)
          refine cw_seq ?_
          refine cw_region ?_
          refine wl_val rfl (ex_move rfl) ?_
          refine wl_val rfl (ex_move rfl) ?_
          refine wl_val rfl (ex_sub_i64 rfl rfl (by omega) (by omega)) ?_
          refine wl_val rfl (ex_move rfl) ?_
          refine wl_val rfl (ex_sub_i64 rfl rfl (by omega) (by omega)) ?_
          refine wl_val rfl (ex_sub_i64 rfl rfl (by omega) (by omega)) ?_
          refine wl_val rfl (ex_convU rfl Tryd.underlying3 Tryd.underlying72) ?_
          rw [show u64 ((64 : Int) - (lz (cb s.v ^^^ z.b) : Nat) - (tz (cb s.v ^^^ z.b) : Nat) - 1) = 63 - lz (cb s.v ^^^ z.b) - tz (cb s.v ^^^ z.b) by unfold u64; omega]
          refine wl_call1 (vs := [_, _, _]) Tryd.goes32 rfl (put_ok ⟨hW9.blk, hW9.own, hW9.pk, hW9.ap⟩ (63 - lz (cb s.v ^^^ z.b) - tz (cb s.v ^^^ z.b)) 6 (by omega) (by omega) (by first | omega | (simp only [List.length_append, num_length]; omega))) rfl ?_
          rintro _ w248 ⟨rfl, a10, m10, c10, bs10, ob10, hW10, hw249, hb10⟩
          have hob10 := ob_trans hob9 hE245 hb10
          have hA247 := ap_ob hA242 (Lt.blk hB246) hb10
          have hE250 := hE245.step hw249 (fun y hy => (wr_mem hob9 y hy).imp (List.mem_cons_of_mem _) id)
          have hB251 := hw249.blk hB246 (nm2 hzw hA242)
          refine wl_nil (nrm_then ?_)
          refine cw_region ?_
          refine wl_val rfl (ex_move rfl) ?_
          refine wl_val rfl (ex_move rfl) ?_
          refine wl_val rfl (ex_move rfl) ?_
          refine wl_val rfl (ex_shrN (m := (cb s.v ^^^ z.b)) (n := tz (cb s.v ^^^ z.b)) rfl rfl (by omega) (by omega) (by first | exact Nat.le_of_ble_eq_true rfl | (simp only [IntKind.bits]; omega))) ?_
          refine wl_val rfl (ex_move rfl) ?_
          refine wl_val rfl (ex_sub_i64 rfl rfl (by omega) (by omega)) ?_
          refine wl_val rfl (ex_move rfl) ?_
          refine wl_val rfl (ex_sub_i64 rfl rfl (by omega) (by omega)) ?_
          rw [show ((64 : Int) - (lz (cb s.v ^^^ z.b) : Nat) - (tz (cb s.v ^^^ z.b) : Nat)) = ((64 - lz (cb s.v ^^^ z.b) - tz (cb s.v ^^^ z.b) : Nat) : Int) by omega]
          refine wl_call1 (vs := [_, _, _]) Tryd.goes32 rfl (put_ok ⟨hW10.blk, hW10.own, hW10.pk, hW10.ap⟩ ((cb s.v ^^^ z.b) / 2 ^ tz (cb s.v ^^^ z.b)) (64 - lz (cb s.v ^^^ z.b) - tz (cb s.v ^^^ z.b)) (by omega) (Nat.lt_of_le_of_lt (Nat.div_le_self _ _) hx) (by first | omega | (simp only [List.length_append, num_length]; omega))) rfl ?_
          rintro _ w253 ⟨rfl, a11, m11, c11, bs11, ob11, hW11, hw254, hb11⟩
          have hob11 := ob_trans hob10 hE250 hb11
          have hA252 := ap_ob hA247 (Lt.blk hB251) hb11
          have hE255 := hE250.step hw254 (fun y hy => (wr_mem hob10 y hy).imp (List.mem_cons_of_mem _) id)
          have hB256 := hw254.blk hB251 (nm2 hzw hA247)
          refine wl_nil (body_end0 rfl ?_)
          have hff : ¬ (z.f.is = true ∧ z.f.l ≤ lz (cb s.v ^^^ z.b) ∧ z.f.r ≤ tz (cb s.v ^^^ z.b)) := fun ⟨h1, h2, h3⟩ => by first | omega | (rw [h1] at hs90; cases hs90)
          rw [step_v hc59, vbits, if_neg h0, if_neg hff]
          refine ⟨rfl, a11, m11, c11, bs11, ob11, ?_, hB256, hE255, hob11⟩
          rw [← List.append_assoc, ← List.append_assoc, ← List.append_assoc, ← List.append_assoc]; exact ⟨hW11.blk, hW11.own, hW11.pk, hW11.ap⟩

end Go.Proofs.YtclmkppiolfgbaaDoor
