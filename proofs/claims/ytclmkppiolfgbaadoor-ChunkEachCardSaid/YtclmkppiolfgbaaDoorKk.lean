import Derived.Test.YtclmkppiolfgbaaDoorKj
namespace Go.Proofs.YtclmkppiolfgbaaDoor
open Go.Proofs
open Go.W
attribute [local irreducible] Decidable.decide
set_option linter.unusedSimpArgs false
set_option linter.unusedVariables false
theorem Tryd.goes50 : Goes Tryd.prog 50 := ⟨_, Tryd.func50, by kernel_rfl, by kernel_rfl⟩
theorem Tryd.goes52 : Goes Tryd.prog 52 := ⟨_, Tryd.func52, by kernel_rfl, by kernel_rfl⟩
theorem Tryd.size39 : sizeB Tryd.prog 39 = some 1 := by kernel_rfl


theorem nmc {b c : Nat} {l : List Nat} (h : Apart (some b) (some c)) (k : b ∉ l) : b ∉ c :: l := fun hm => by
  rcases List.mem_cons.1 hm with h1 | h1
  · exact h b rfl (by rw [h1])
  · exact k h1
theorem dec_cast (a b : Nat) : ((a : Int) = (b : Int)) ↔ a = b := Int.ofNat_inj
theorem rhead_0 {B : List Bool} {z : Stt} {r : Rd} (h : z.n = 0) : rhead B z r = (i64 (get B r 64).1, 0, (get B r 64).2) := by unfold rhead; rw [if_pos h]
theorem rhead_s {B : List Bool} {z : Stt} {r : Rd} (h : ¬ z.n = 0) : rhead B z r = (i64 (z.t + i64 (z.d + (rtime B r).1)), i64 (z.d + (rtime B r).1), (rtime B r).2) := by unfold rhead; rw [if_neg h]
theorem rhead_at8 {bs : List Nat} {z : Stt} {r : Rd} (h : r.at' ≤ 8 * bs.length) : (rhead (unpk bs) z r).2.2.at' ≤ 8 * bs.length := by
  unfold rhead; split
  · dsimp only; exact get_at8 h _
  · dsimp only; exact rtime_at8 h
theorem u64_add1 (x y : Int) : u64 ((u64 x : Int) + (u64 y : Int)) = u64 (i64 (x + y)) := by unfold i64 u64; split <;> omega
section
variable {B : List Bool} {z : Stt} {r : Rd}
theorem rframe_1 {f : Frm} {o : Rd} : rframe B f 1 o = (f.is, f, o) := by unfold rframe; rw [if_neg (by omega)]
theorem rframe_2f {f : Frm} {o : Rd} {g k : Nat × Rd} (hg : get B o 6 = g) (hk : get B g.2 6 = k) (hl : 64 < g.1 + (k.1 + 1)) : rframe B f 2 o = (false, f, k.2) := by
  subst hg hk; unfold rframe; rw [if_pos rfl, if_pos hl]
theorem rframe_2 {f : Frm} {o : Rd} {g k : Nat × Rd} (hg : get B o 6 = g) (hk : get B g.2 6 = k) (hl : ¬ 64 < g.1 + (k.1 + 1)) : rframe B f 2 o = (true, ⟨true, g.1, 64 - g.1 - (k.1 + 1)⟩, k.2) := by
  subst hg hk; unfold rframe; rw [if_pos rfl, if_neg hl]
theorem rsmp_3 (h : (ones B (rhead B z r).2.2 3).1 = 3) : rsmp B z r = (⟨(rhead B z r).1, 0, true⟩, decide (z.n = 0 ∨ z.t < (rhead B z r).1), ⟨z.n + 1, (rhead B z r).1, (rhead B z r).2.1, z.b, z.f⟩, (ones B (rhead B z r).2.2 3).2) := by
  unfold rsmp; simp only [h, if_true, rnext]
theorem rsmp_0 (h : (ones B (rhead B z r).2.2 3).1 = 0) : rsmp B z r = (⟨(rhead B z r).1, z.b, false⟩, decide (z.n = 0 ∨ z.t < (rhead B z r).1) && decide (cb z.b = z.b), ⟨z.n + 1, (rhead B z r).1, (rhead B z r).2.1, z.b, z.f⟩, (ones B (rhead B z r).2.2 3).2) := by
  have q : ¬ (0 : Nat) = 3 := by omega
  unfold rsmp; simp only [h, if_neg q, if_true, rnext]
theorem rsmp_1f (h : (ones B (rhead B z r).2.2 3).1 = 1) (hf : z.f.is = false) : rsmp B z r = (⟨(rhead B z r).1, 0, false⟩, false, ⟨z.n + 1, (rhead B z r).1, (rhead B z r).2.1, z.b, z.f⟩, (ones B (rhead B z r).2.2 3).2) := by
  have q : ¬ (1 : Nat) = 3 := by omega
  have q2 : ¬ (1 : Nat) = 0 := by omega
  unfold rsmp; simp only [h, if_neg q, if_neg q2, rframe_1, hf, if_true, rnext]
theorem rsmp_1 (h : (ones B (rhead B z r).2.2 3).1 = 1) (hf : z.f.is = true) {g : Nat × Rd} (hg : get B (ones B (rhead B z r).2.2 3).2 (64 - z.f.l - z.f.r) = g) {b : Nat} (hb : z.b ^^^ (g.1 * 2 ^ z.f.r % 18446744073709551616) = b) :
    rsmp B z r = (⟨(rhead B z r).1, b, false⟩, decide (z.n = 0 ∨ z.t < (rhead B z r).1) && decide (cb b = b), ⟨z.n + 1, (rhead B z r).1, (rhead B z r).2.1, b, z.f⟩, g.2) := by
  subst hg hb
  have q : ¬ (1 : Nat) = 3 := by omega
  have q2 : ¬ (1 : Nat) = 0 := by omega
  have q3 : ¬ true = false := by decide
  unfold rsmp; simp only [h, if_neg q, if_neg q2, rframe_1, hf, if_neg q3, rnext]
theorem rsmp_2f (h : (ones B (rhead B z r).2.2 3).1 = 2) {g k : Nat × Rd} (hg : get B (ones B (rhead B z r).2.2 3).2 6 = g) (hk : get B g.2 6 = k) (hl : 64 < g.1 + (k.1 + 1)) : rsmp B z r = (⟨(rhead B z r).1, 0, false⟩, false, ⟨z.n + 1, (rhead B z r).1, (rhead B z r).2.1, z.b, z.f⟩, k.2) := by
  have q : ¬ (2 : Nat) = 3 := by omega
  have q2 : ¬ (2 : Nat) = 0 := by omega
  unfold rsmp; simp only [h, if_neg q, if_neg q2, rframe_2f hg hk hl, if_true, rnext]
theorem rsmp_2 (h : (ones B (rhead B z r).2.2 3).1 = 2) {g k : Nat × Rd} (hg : get B (ones B (rhead B z r).2.2 3).2 6 = g) (hk : get B g.2 6 = k) (hl : ¬ 64 < g.1 + (k.1 + 1)) {q : Nat × Rd} (hq : get B k.2 (64 - g.1 - (64 - g.1 - (k.1 + 1))) = q) {b : Nat} (hb : z.b ^^^ (q.1 * 2 ^ (64 - g.1 - (k.1 + 1)) % 18446744073709551616) = b) :
    rsmp B z r = (⟨(rhead B z r).1, b, false⟩, decide (z.n = 0 ∨ z.t < (rhead B z r).1) && decide (cb b = b), ⟨z.n + 1, (rhead B z r).1, (rhead B z r).2.1, b, ⟨true, g.1, 64 - g.1 - (k.1 + 1)⟩⟩, q.2) := by
  have q1 : ¬ (2 : Nat) = 3 := by omega
  have q2 : ¬ (2 : Nat) = 0 := by omega
  have q3 : ¬ true = false := by decide
  unfold rsmp; simp only [h, if_neg q1, if_neg q2, rframe_2 hg hk hl, if_neg q3, rnext]
  subst hq hb; rfl
end

theorem read_ok {X : List Nat} {w : World} {br bz : Nat} {U V : TypeId} {sv : Value} {bs : List Nat} {r : Rd} {z : Stt} (hB0 : w.heap[br]? = some (.cells (rv sv r).toArray U (0, 0))) (hZ0 : w.heap[bz]? = some (.cells (zv z).toArray V (0, 0))) (hs : RSl 1 RB X w sv bs) (hx : br ∈ X) (hxz : bz ∈ X) (hzr : Apart (some bz) (some br)) (hz : z.Ok) (hn : z.n ≤ 1000000) (hl : bs.length ≤ 140737488355328) (ha : r.at' ≤ 8 * bs.length) :
    Calls Tryd.prog 35 #[.pointer (some ⟨bz, 0, none⟩), .pointer (some ⟨br, 0, none⟩)] w (Ret fun v w' => v = .tuple #[.agg #[.int .i64 (rsmp (unpk bs) z r).1.t, .float .f64 (rsmp (unpk bs) z r).1.v, .bool (rsmp (unpk bs) z r).1.st], .bool (rsmp (unpk bs) z r).2.1] ∧ w'.heap[br]? = some (.cells (rv sv (rsmp (unpk bs) z r).2.2.2).toArray U (0, 0)) ∧ w'.heap[bz]? = some (.cells (zv (rsmp (unpk bs) z r).2.2.1).toArray V (0, 0)) ∧ Evo [bz, br] w w') := by
  have hmX : ∀ y, y ∈ [bz, br] → y ∈ X := fun y hy => by rcases List.mem_cons.1 hy with h | h; { rw [h]; exact hxz }; { rw [List.mem_singleton.1 h]; exact hx }
  have hzf := hz.f
  refine calls_of_cw (N := 155) Tryd.func35 rfl rfl rfl ?_
  refine cw_seq ?_
  refine cw_region ?_
  refine wl_alloc rfl Tryd.zero41 fun b1 w2 hB3 hs4 hw5 => ?_
  have hA6 := Apart.new (Lt.blk hB0) hs4
  have hA7 := Apart.new (Lt.blk hZ0) hs4
  have hG8 := Ge.new (Evo.refl [bz, br] w) hs4
  have hE9 := (Evo.refl [bz, br] w).then hw5
  have hB10 := hw5.blk0 hB0
  have hB11 := hw5.blk0 hZ0
  refine wl_val rfl (ex_assign rfl) ?_
  refine wl_nil (nrm_then ?_)
  refine cw_seq ?_
  refine cw_region ?_
  refine wl_alloc rfl Tryd.zero41 fun b12 w13 hB14 hs15 hw16 => ?_
  have hA17 := Apart.new (Lt.blk hB10) hs15
  have hA18 := Apart.new (Lt.blk hB11) hs15
  have hA19 := Apart.new (Lt.blk hB3) hs15
  have hG20 := Ge.new hE9 hs15
  have hE21 := hE9.then hw16
  have hB22 := hw16.blk0 hB10
  have hB23 := hw16.blk0 hB11
  have hB24 := hw16.blk0 hB3
  refine wl_nil (nrm_then ?_)
  refine cw_seq ?_
  refine cw_cut (α := Unit) (fun x => []) [(0, _), (1, _), (4, _), (5, _), (6, _)] (fun x wr => Evo [b12, bz, br] w13 wr ∧ (wr.heap[b12]? = some (.cells ([.int .i64 (rhead (unpk bs) z r).1, .float .f64 0, .bool false] : List Value).toArray 41 (0, 0)) ∧ wr.heap[bz]? = some (.cells ([.int .i64 z.n, .int .i64 z.t, .int .u64 (u64 (rhead (unpk bs) z r).2.1), .int .u64 z.b, .bool z.f.is, .int .i64 z.f.l, .int .i64 z.f.r] : List Value).toArray V (0, 0)) ∧ wr.heap[br]? = some (.cells (rv sv (rhead (unpk bs) z r).2.2).toArray U (0, 0)))) ⟨rfl, rfl, rfl, rfl, rfl, trivial⟩ ?_ ?_
  · skip
    refine cw_seq ?_
    refine cw_region ?_
    refine wl_val rfl (ex_move rfl) ?_
    refine wl_val rfl (ex_nilCheck rfl) ?_
    refine wl_val rfl (ex_fieldAddr rfl Tryd.fld74_0) ?_
    refine wl_val rfl (ex_load1 rfl Tryd.agg3 (cell_nth hB23 rfl)) ?_
    refine wl_val rfl (ex_eql rfl rfl) ?_
    refine wl_nil (nrm_then ?_)
    refine cw_if rfl (fun hc14 => ?_) (fun hc14 => ?_)
    · skip
      refine cw_seq ?_
      refine cw_region ?_
      refine wl_val rfl (ex_move rfl) ?_
      refine wl_call1 (vs := [_, _]) Tryd.goes34 rfl (get_ok hB22 (RSl.evo RB.pers ((hE21).mono hmX) hs) hx hl ha 64 (by omega)) rfl ?_
      rintro _ w25 ⟨rfl, hR1, hw26⟩
      have hE27 := hE21.step hw26 (fun y hy => .inl (by simp at hy; simp [hy]))
      have hE28 := (Evo.refl [b12, bz, br] w13).step hw26 (fun y hy => .inl (by simp at hy; simp [hy]))
      have hB29 := hw26.blk hB23 hzr.nmem1
      have hB30 := hw26.blk hB24 hA6.symm.nmem1
      have hB31 := hw26.blk hB14 hA17.symm.nmem1
      refine wl_val rfl (ex_convI rfl Tryd.underlying72 Tryd.underlying2) ?_
      refine wl_val rfl (ex_fieldAddr rfl Tryd.fld41_0) ?_
      refine wl_store1 rfl rfl (by first | rfl | assumption) Tryd.size2 hB31 rfl fun w32 hB33 hw34 => ?_
      have hE35 := hE27.step hw34 hG20.mem1
      have hE36 := hE28.step hw34 (fun y hy => .inl (by simp at hy; simp [hy]))
      have hB37 := hw34.blk hR1 hA17.nmem1
      have hB38 := hw34.blk hB29 hA18.nmem1
      have hB39 := hw34.blk hB30 hA19.nmem1
      try simp only [List.setIfInBounds_toArray, List.set_cons_zero, List.set_cons_succ, Nat.reduceAdd, Nat.zero_add, Nat.add_zero] at hB33
      refine wl_nil (nrm_then ?_)
      refine cw_region ?_
      refine wl_val rfl (ex_move rfl) ?_
      refine wl_val rfl (ex_nilCheck rfl) ?_
      refine wl_val rfl (ex_fieldAddr rfl Tryd.fld74_2) ?_
      refine wl_store1 rfl rfl (by first | rfl | assumption) Tryd.size72 hB38 rfl fun w40 hB41 hw42 => ?_
      have hE43 := hE35.step hw42 (fun y hy => .inl (by simp at hy; simp [hy]))
      have hE44 := hE36.step hw42 (fun y hy => .inl (by simp at hy; simp [hy]))
      have hB45 := hw42.blk hB37 hzr.symm.nmem1
      have hB46 := hw42.blk hB39 hA7.symm.nmem1
      have hB47 := hw42.blk hB33 hA18.symm.nmem1
      try simp only [List.setIfInBounds_toArray, List.set_cons_zero, List.set_cons_succ, Nat.reduceAdd, Nat.zero_add, Nat.add_zero] at hB41
      refine wl_nil (nrm_same ?_)
      refine ⟨(), trivial, ⟨rfl, rfl, rfl, rfl, rfl, trivial⟩, hE44, ?_⟩
      have hz0 : z.n = 0 := by omega
      rw [rhead_0 hz0]
      dsimp only
      exact ⟨hB47, hB41, hB45⟩
    · skip
      refine cw_seq ?_
      refine cw_any (fun w0 w' => Evo [bz, br] w0 w') (by kernel_rfl) (fun w48 hw49 => ?_)
      have hE50 := hE21.then hw49
      have hE51 := (Evo.refl [b12, bz, br] w13).then hw49
      have hB52 := hw49.blk0 hB22
      have hB53 := hw49.blk0 hB23
      have hB54 := hw49.blk0 hB24
      have hB55 := hw49.blk0 hB14
      refine ae_take 0 rfl (by kernel_rfl) (by kernel_rfl) (by kernel_rfl) rfl (fun _ hS => ex_move rfl) (Evo.refl [bz, br] w48) ?_
      refine ae_take 1 rfl (by kernel_rfl) (by kernel_rfl) (by kernel_rfl) rfl (fun _ hS => ex_nilCheck rfl) (Evo.refl [bz, br] w48) ?_
      refine ae_take 2 rfl (by kernel_rfl) (by kernel_rfl) (by kernel_rfl) rfl (fun _ hS => ex_fieldAddr rfl Tryd.fld74_2) (Evo.refl [bz, br] w48) ?_
      refine ae_take 4 rfl (by kernel_rfl) (by kernel_rfl) (by kernel_rfl) rfl (fun _ hS => ex_move rfl) (Evo.refl [bz, br] w48) ?_
      refine ae_loud [3, 5] (by kernel_rfl) rfl ⟨?_, ?_, trivial⟩
      · skip
        refine a_step rfl ?_
        refine wl_val rfl (ex_load1 rfl Tryd.agg72 (cell_nth hB53 rfl)) ?_
        refine wl_nil (ae_next (.inl (Evo.refl [bz, br] w48)) ?_)
        refine ae_loud [5] (by kernel_rfl) rfl ⟨?_, trivial⟩
        refine a_step rfl ?_
        refine wl_call1 (vs := [_]) Tryd.goes50 rfl (rtime_ok hB52 (RSl.evo RB.pers ((hE50).mono hmX) hs) hx hl ha ) rfl ?_
        rintro _ w56 ⟨rfl, hR1, hw57⟩
        have hE58 := hE50.step hw57 (fun y hy => .inl (by simp at hy; simp [hy]))
        have hE59 := hE51.step hw57 (fun y hy => .inl (by simp at hy; simp [hy]))
        have hE60 := (Evo.refl [bz, br] w48).step hw57 (fun y hy => .inl (by simp at hy; simp [hy]))
        have hB61 := hw57.blk hB53 hzr.nmem1
        have hB62 := hw57.blk hB54 hA6.symm.nmem1
        have hB63 := hw57.blk hB55 hA17.symm.nmem1
        refine wl_nil (ae_next (.inl hE60) ?_)
        refine ae_take 6 rfl (by kernel_rfl) (by kernel_rfl) (by kernel_rfl) rfl (fun _ hS => ex_convU rfl Tryd.underlying2 Tryd.underlying72) hE60 ?_
        refine ae_take 7 rfl (by kernel_rfl) (by kernel_rfl) (by kernel_rfl) rfl (fun _ hS => ex_addU rfl rfl) hE60 ?_
        rw [u64_add1]
        refine ae_take 8 rfl (by kernel_rfl) (by kernel_rfl) (by kernel_rfl) rfl (fun _ hS => ex_nilCheck rfl) hE60 ?_
        refine ae_take 9 rfl (by kernel_rfl) (by kernel_rfl) (by kernel_rfl) rfl (fun _ hS => ex_fieldAddr rfl Tryd.fld74_2) hE60 ?_
        refine ae_loud [10] (by kernel_rfl) rfl ⟨?_, trivial⟩
        refine a_step rfl ?_
        refine wl_store1 rfl rfl (by first | rfl | assumption) Tryd.size72 hB61 rfl fun w64 hB65 hw66 => ?_
        have hE67 := hE58.step hw66 (fun y hy => .inl (by simp at hy; simp [hy]))
        have hE68 := hE59.step hw66 (fun y hy => .inl (by simp at hy; simp [hy]))
        have hE69 := hE60.step hw66 (fun y hy => .inl (by simp at hy; simp [hy]))
        have hB70 := hw66.blk hR1 hzr.symm.nmem1
        have hB71 := hw66.blk hB62 hA7.symm.nmem1
        have hB72 := hw66.blk hB63 hA18.symm.nmem1
        try simp only [List.setIfInBounds_toArray, List.set_cons_zero, List.set_cons_succ, Nat.reduceAdd, Nat.zero_add, Nat.add_zero] at hB65
        refine wl_nil (ae_next (.inl hE69) ?_)
        refine ae_done (by kernel_rfl) (nrm_then ?_)
        refine cw_any (fun w0 w' => Evo [] w0 w') (by kernel_rfl) (fun w73 hw74 => ?_)
        have hE75 := hE67.then hw74
        have hE76 := hE68.then hw74
        have hB77 := hw74.blk0 hB70
        have hB78 := hw74.blk0 hB65
        have hB79 := hw74.blk0 hB71
        have hB80 := hw74.blk0 hB72
        refine ae_take 0 rfl (by kernel_rfl) (by kernel_rfl) (by kernel_rfl) rfl (fun _ hS => ex_move rfl) (Evo.refl [] w73) ?_
        refine ae_take 1 rfl (by kernel_rfl) (by kernel_rfl) (by kernel_rfl) rfl (fun _ hS => ex_nilCheck rfl) (Evo.refl [] w73) ?_
        refine ae_take 2 rfl (by kernel_rfl) (by kernel_rfl) (by kernel_rfl) rfl (fun _ hS => ex_fieldAddr rfl Tryd.fld74_1) (Evo.refl [] w73) ?_
        refine ae_take 3 rfl (by kernel_rfl) (by kernel_rfl) (by kernel_rfl) rfl (fun _ hS => ex_load1 rfl Tryd.agg2 (cell_nth (hS.blk0 hB78) rfl)) (Evo.refl [] w73) ?_
        refine ae_take 4 rfl (by kernel_rfl) (by kernel_rfl) (by kernel_rfl) rfl (fun _ hS => ex_move rfl) (Evo.refl [] w73) ?_
        refine ae_take 5 rfl (by kernel_rfl) (by kernel_rfl) (by kernel_rfl) rfl (fun _ hS => ex_nilCheck rfl) (Evo.refl [] w73) ?_
        refine ae_take 6 rfl (by kernel_rfl) (by kernel_rfl) (by kernel_rfl) rfl (fun _ hS => ex_fieldAddr rfl Tryd.fld74_2) (Evo.refl [] w73) ?_
        refine ae_take 7 rfl (by kernel_rfl) (by kernel_rfl) (by kernel_rfl) rfl (fun _ hS => ex_load1 rfl Tryd.agg72 (cell_nth (hS.blk0 hB78) rfl)) (Evo.refl [] w73) ?_
        refine ae_take 8 rfl (by kernel_rfl) (by kernel_rfl) (by kernel_rfl) rfl (fun _ hS => ex_convI rfl Tryd.underlying72 Tryd.underlying2) (Evo.refl [] w73) ?_
        rw [i64_u64, i64_i64]
        refine ae_take 9 rfl (by kernel_rfl) (by kernel_rfl) (by kernel_rfl) rfl (fun _ hS => ex_addI rfl rfl) (Evo.refl [] w73) ?_
        refine ae_take 10 rfl (by kernel_rfl) (by kernel_rfl) (by kernel_rfl) rfl (fun _ hS => ex_fieldAddr rfl Tryd.fld41_0) (Evo.refl [] w73) ?_
        refine ae_loud [11] (by kernel_rfl) rfl ⟨?_, trivial⟩
        refine a_step rfl ?_
        refine wl_store1 rfl rfl (by first | rfl | assumption) Tryd.size2 hB80 rfl fun w81 hB82 hw83 => ?_
        have hE84 := hE75.step hw83 hG20.mem1
        have hE85 := hE76.step hw83 (fun y hy => .inl (by simp at hy; simp [hy]))
        have hB87 := hw83.blk hB77 hA17.nmem1
        have hB88 := hw83.blk hB78 hA18.nmem1
        have hB89 := hw83.blk hB79 hA19.nmem1
        try simp only [List.setIfInBounds_toArray, List.set_cons_zero, List.set_cons_succ, Nat.reduceAdd, Nat.zero_add, Nat.add_zero] at hB82
        refine wl_nil (ae_next (.inr (by kernel_rfl)) ?_)
        refine ae_done (by kernel_rfl) (nrm_same ?_)
        refine ⟨(), trivial, ⟨rfl, rfl, rfl, rfl, rfl, trivial⟩, hE85, ?_⟩
        have hz0 : ¬ z.n = 0 := by omega
        rw [rhead_s hz0]
        dsimp only
        exact ⟨hB82, hB88, hB87⟩
      · skip
        refine a_step rfl ?_
        refine wl_call1 (vs := [_]) Tryd.goes50 rfl (rtime_ok hB52 (RSl.evo RB.pers ((hE50).mono hmX) hs) hx hl ha ) rfl ?_
        rintro _ w90 ⟨rfl, hR1, hw91⟩
        have hE92 := hE50.step hw91 (fun y hy => .inl (by simp at hy; simp [hy]))
        have hE93 := hE51.step hw91 (fun y hy => .inl (by simp at hy; simp [hy]))
        have hE94 := (Evo.refl [bz, br] w48).step hw91 (fun y hy => .inl (by simp at hy; simp [hy]))
        have hB95 := hw91.blk hB53 hzr.nmem1
        have hB96 := hw91.blk hB54 hA6.symm.nmem1
        have hB97 := hw91.blk hB55 hA17.symm.nmem1
        refine wl_nil (ae_next (.inl hE94) ?_)
        refine ae_take 6 rfl (by kernel_rfl) (by kernel_rfl) (by kernel_rfl) rfl (fun _ hS => ex_convU rfl Tryd.underlying2 Tryd.underlying72) hE94 ?_
        refine ae_loud [3] (by kernel_rfl) rfl ⟨?_, trivial⟩
        refine a_step rfl ?_
        refine wl_val rfl (ex_load1 rfl Tryd.agg72 (cell_nth hB95 rfl)) ?_
        refine wl_nil (ae_next (.inl hE94) ?_)
        refine ae_take 7 rfl (by kernel_rfl) (by kernel_rfl) (by kernel_rfl) rfl (fun _ hS => ex_addU rfl rfl) hE94 ?_
        rw [u64_add1]
        refine ae_take 8 rfl (by kernel_rfl) (by kernel_rfl) (by kernel_rfl) rfl (fun _ hS => ex_nilCheck rfl) hE94 ?_
        refine ae_take 9 rfl (by kernel_rfl) (by kernel_rfl) (by kernel_rfl) rfl (fun _ hS => ex_fieldAddr rfl Tryd.fld74_2) hE94 ?_
        refine ae_loud [10] (by kernel_rfl) rfl ⟨?_, trivial⟩
        refine a_step rfl ?_
        refine wl_store1 rfl rfl (by first | rfl | assumption) Tryd.size72 hB95 rfl fun w98 hB99 hw100 => ?_
        have hE101 := hE92.step hw100 (fun y hy => .inl (by simp at hy; simp [hy]))
        have hE102 := hE93.step hw100 (fun y hy => .inl (by simp at hy; simp [hy]))
        have hE103 := hE94.step hw100 (fun y hy => .inl (by simp at hy; simp [hy]))
        have hB104 := hw100.blk hR1 hzr.symm.nmem1
        have hB105 := hw100.blk hB96 hA7.symm.nmem1
        have hB106 := hw100.blk hB97 hA18.symm.nmem1
        try simp only [List.setIfInBounds_toArray, List.set_cons_zero, List.set_cons_succ, Nat.reduceAdd, Nat.zero_add, Nat.add_zero] at hB99
        refine wl_nil (ae_next (.inl hE103) ?_)
        refine ae_done (by kernel_rfl) (nrm_then ?_)
        refine cw_any (fun w0 w' => Evo [] w0 w') (by kernel_rfl) (fun w107 hw108 => ?_)
        have hE109 := hE101.then hw108
        have hE110 := hE102.then hw108
        have hB111 := hw108.blk0 hB104
        have hB112 := hw108.blk0 hB99
        have hB113 := hw108.blk0 hB105
        have hB114 := hw108.blk0 hB106
        refine ae_take 0 rfl (by kernel_rfl) (by kernel_rfl) (by kernel_rfl) rfl (fun _ hS => ex_move rfl) (Evo.refl [] w107) ?_
        refine ae_take 1 rfl (by kernel_rfl) (by kernel_rfl) (by kernel_rfl) rfl (fun _ hS => ex_nilCheck rfl) (Evo.refl [] w107) ?_
        refine ae_take 2 rfl (by kernel_rfl) (by kernel_rfl) (by kernel_rfl) rfl (fun _ hS => ex_fieldAddr rfl Tryd.fld74_1) (Evo.refl [] w107) ?_
        refine ae_take 3 rfl (by kernel_rfl) (by kernel_rfl) (by kernel_rfl) rfl (fun _ hS => ex_load1 rfl Tryd.agg2 (cell_nth (hS.blk0 hB112) rfl)) (Evo.refl [] w107) ?_
        refine ae_take 4 rfl (by kernel_rfl) (by kernel_rfl) (by kernel_rfl) rfl (fun _ hS => ex_move rfl) (Evo.refl [] w107) ?_
        refine ae_take 5 rfl (by kernel_rfl) (by kernel_rfl) (by kernel_rfl) rfl (fun _ hS => ex_nilCheck rfl) (Evo.refl [] w107) ?_
        refine ae_take 6 rfl (by kernel_rfl) (by kernel_rfl) (by kernel_rfl) rfl (fun _ hS => ex_fieldAddr rfl Tryd.fld74_2) (Evo.refl [] w107) ?_
        refine ae_take 7 rfl (by kernel_rfl) (by kernel_rfl) (by kernel_rfl) rfl (fun _ hS => ex_load1 rfl Tryd.agg72 (cell_nth (hS.blk0 hB112) rfl)) (Evo.refl [] w107) ?_
        refine ae_take 8 rfl (by kernel_rfl) (by kernel_rfl) (by kernel_rfl) rfl (fun _ hS => ex_convI rfl Tryd.underlying72 Tryd.underlying2) (Evo.refl [] w107) ?_
        rw [i64_u64, i64_i64]
        refine ae_take 9 rfl (by kernel_rfl) (by kernel_rfl) (by kernel_rfl) rfl (fun _ hS => ex_addI rfl rfl) (Evo.refl [] w107) ?_
        refine ae_take 10 rfl (by kernel_rfl) (by kernel_rfl) (by kernel_rfl) rfl (fun _ hS => ex_fieldAddr rfl Tryd.fld41_0) (Evo.refl [] w107) ?_
        refine ae_loud [11] (by kernel_rfl) rfl ⟨?_, trivial⟩
        refine a_step rfl ?_
        refine wl_store1 rfl rfl (by first | rfl | assumption) Tryd.size2 hB114 rfl fun w115 hB116 hw117 => ?_
        have hE118 := hE109.step hw117 hG20.mem1
        have hE119 := hE110.step hw117 (fun y hy => .inl (by simp at hy; simp [hy]))
        have hB121 := hw117.blk hB111 hA17.nmem1
        have hB122 := hw117.blk hB112 hA18.nmem1
        have hB123 := hw117.blk hB113 hA19.nmem1
        try simp only [List.setIfInBounds_toArray, List.set_cons_zero, List.set_cons_succ, Nat.reduceAdd, Nat.zero_add, Nat.add_zero] at hB116
        refine wl_nil (ae_next (.inr (by kernel_rfl)) ?_)
        refine ae_done (by kernel_rfl) (nrm_same ?_)
        refine ⟨(), trivial, ⟨rfl, rfl, rfl, rfl, rfl, trivial⟩, hE119, ?_⟩
        have hz0 : ¬ z.n = 0 := by omega
        rw [rhead_s hz0]
        dsimp only
        exact ⟨hB116, hB122, hB121⟩
  · skip
    rintro x w124 ⟨hV125, ⟨hSm, hZ1, hR2⟩⟩
    refine nrm_then ?_
    show CW _ _ _ _ [(0, _), (1, _), (4, _), (5, _), (6, _)] _
    have hE126 := hE21.step hV125 (fun y hy => by rcases List.mem_cons.1 hy with h | h; { subst h; exact .inr (hG20 _ rfl) }; { exact .inl h })
    have hB127 := hV125.blk hB24 (nmc hA19 (nmc hA7.symm (nmc hA6.symm (by simp))))
    refine cw_seq ?_
    refine cw_cut (α := Bool) (fun x => [(7, .bool x)]) [(0, _), (1, _), (4, _), (5, _), (6, _)] (fun x wr => Evo [] w124 wr ∧ (x = decide (z.n = 0 ∨ z.t < (rhead (unpk bs) z r).1))) ⟨rfl, rfl, rfl, rfl, rfl, trivial⟩ ?_ ?_
    · skip
      refine cw_quiet (by kernel_rfl) (by kernel_rfl) ?_
      refine ql_val rfl (fun _ hq129 => ex_move rfl) ?_
      refine ql_val rfl (fun _ hq129 => ex_nilCheck rfl) ?_
      refine ql_val rfl (fun _ hq129 => ex_fieldAddr rfl Tryd.fld74_0) ?_
      refine ql_val rfl (fun _ hq129 => ex_load1 rfl Tryd.agg3 (cell_nth (hq129.blk0 hZ1) rfl)) ?_
      refine ql_val rfl (fun _ hq129 => ex_eql rfl rfl) ?_
      refine ql_val rfl (fun _ hq129 => ex_move rfl) ?_
      refine ql_split (t := 48) rfl (fun hs48 => ?_) (fun hs48 => ?_)
      · skip
        refine ql_no rfl rfl rfl rfl rfl rfl ?_
        refine ql_no rfl rfl rfl rfl rfl rfl ?_
        refine ql_no rfl rfl rfl rfl rfl rfl ?_
        refine ql_no rfl rfl rfl rfl rfl rfl ?_
        refine ql_no rfl rfl rfl rfl rfl rfl ?_
        refine ql_no rfl rfl rfl rfl rfl rfl ?_
        refine ql_no rfl rfl rfl rfl rfl rfl ?_
        refine ql_val rfl (fun _ hq129 => ex_pick_t rfl rfl) ?_
        refine ql_val rfl (fun _ hq129 => ex_assign rfl) ?_
        refine ql_nil (fun wq128 hq129 => nrm_same ?_)
        have hE130 := hE126.then hq129
        have hE131 := (Evo.refl [] w124).then hq129
        have hB132 := hq129.blk0 hB127
        have hB133 := hq129.blk0 hSm
        have hB134 := hq129.blk0 hZ1
        have hB135 := hq129.blk0 hR2
        refine ⟨true, ⟨rfl, trivial⟩, ⟨rfl, rfl, rfl, rfl, rfl, trivial⟩, hE131, ?_⟩
        have hz0 : z.n = 0 := by omega
        exact (decide_eq_true (.inl hz0)).symm
      · skip
        refine ql_go rfl rfl rfl rfl ?_
        refine ql_val rfl (fun _ hq129 => ex_fieldAddr rfl Tryd.fld41_0) ?_
        refine ql_go rfl rfl rfl rfl ?_
        refine ql_val rfl (fun _ hq129 => ex_load1 rfl Tryd.agg2 (cell_nth (hq129.blk0 hSm) rfl)) ?_
        refine ql_go rfl rfl rfl rfl ?_
        refine ql_val rfl (fun _ hq129 => ex_move rfl) ?_
        refine ql_go rfl rfl rfl rfl ?_
        refine ql_val rfl (fun _ hq129 => ex_nilCheck rfl) ?_
        refine ql_go rfl rfl rfl rfl ?_
        refine ql_val rfl (fun _ hq129 => ex_fieldAddr rfl Tryd.fld74_1) ?_
        refine ql_go rfl rfl rfl rfl ?_
        refine ql_val rfl (fun _ hq129 => ex_load1 rfl Tryd.agg2 (cell_nth (hq129.blk0 hZ1) rfl)) ?_
        refine ql_go rfl rfl rfl rfl ?_
        refine ql_val rfl (fun _ hq129 => ex_gtr rfl rfl) ?_
        refine ql_val rfl (fun _ hq129 => ex_pick_f rfl rfl) ?_
        refine ql_val rfl (fun _ hq129 => ex_assign rfl) ?_
        refine ql_nil (fun wq128 hq129 => nrm_same ?_)
        have hE136 := hE126.then hq129
        have hE137 := (Evo.refl [] w124).then hq129
        have hB138 := hq129.blk0 hB127
        have hB139 := hq129.blk0 hSm
        have hB140 := hq129.blk0 hZ1
        have hB141 := hq129.blk0 hR2
        refine ⟨(decide ((rhead (unpk bs) z r).1 > z.t)), ⟨rfl, trivial⟩, ⟨rfl, rfl, rfl, rfl, rfl, trivial⟩, hE137, ?_⟩
        have hz0 : ¬ z.n = 0 := by omega
        exact decide_eq_decide.2 ⟨fun h => .inr h, fun h => h.resolve_left hz0⟩
    · skip
      rintro x w142 ⟨hV143, hok⟩
      refine nrm_then ?_
      show CW _ _ _ _ [(7, _), (0, _), (1, _), (4, _), (5, _), (6, _)] _
      have hE144 := hE126.then hV143
      have hB145 := hV143.blk0 hB127
      have hB146 := hV143.blk0 hSm
      have hB147 := hV143.blk0 hZ1
      have hB148 := hV143.blk0 hR2
      have hol := ones_le (unpk bs) 3 (rhead (unpk bs) z r).2.2
      have hha := rhead_at8 (z := z) ha
      have hoa := ones_at8 hha 3
      refine cw_seq ?_
      refine cw_any (fun w0 w' => Evo [bz] w0 w') (by kernel_rfl) (fun w149 hw150 => ?_)
      have hE151 := hE144.then hw150
      have hB152 := hw150.blk0 hB145
      have hB153 := hw150.blk0 hB146
      have hB154 := hw150.blk0 hB147
      have hB155 := hw150.blk0 hB148
      refine ae_take 0 rfl (by kernel_rfl) (by kernel_rfl) (by kernel_rfl) rfl (fun _ hS => ex_move rfl) (Evo.refl [bz] w149) ?_
      refine ae_take 1 rfl (by kernel_rfl) (by kernel_rfl) (by kernel_rfl) rfl (fun _ hS => ex_move rfl) (Evo.refl [bz] w149) ?_
      refine ae_take 2 rfl (by kernel_rfl) (by kernel_rfl) (by kernel_rfl) rfl (fun _ hS => ex_move rfl) (Evo.refl [bz] w149) ?_
      refine ae_take 3 rfl (by kernel_rfl) (by kernel_rfl) (by kernel_rfl) rfl (fun _ hS => ex_nilCheck rfl) (Evo.refl [bz] w149) ?_
      refine ae_take 4 rfl (by kernel_rfl) (by kernel_rfl) (by kernel_rfl) rfl (fun _ hS => ex_fieldAddr rfl Tryd.fld74_0) (Evo.refl [bz] w149) ?_
      refine ae_take 7 rfl (by kernel_rfl) (by kernel_rfl) (by kernel_rfl) rfl (fun _ hS => ex_fieldAddr rfl Tryd.fld41_0) (Evo.refl [bz] w149) ?_
      refine ae_take 8 rfl (by kernel_rfl) (by kernel_rfl) (by kernel_rfl) rfl (fun _ hS => ex_load1 rfl Tryd.agg2 (cell_nth (hS.blk hB153 (hA18.symm.nmem1)) rfl)) (Evo.refl [bz] w149) ?_
      refine ae_loud [5] (by kernel_rfl) rfl ⟨?_, trivial⟩
      refine a_step rfl ?_
      refine wl_val rfl (ex_load1 rfl Tryd.agg3 (cell_nth hB154 rfl)) ?_
      refine wl_nil (ae_next (.inl (Evo.refl [bz] w149)) ?_)
      refine ae_take 6 rfl (by kernel_rfl) (by kernel_rfl) (by kernel_rfl) rfl (fun _ hS => ex_add_i64 rfl rfl (by omega) (by omega)) (Evo.refl [bz] w149) ?_
      refine ae_take 9 rfl (by kernel_rfl) (by kernel_rfl) (by kernel_rfl) rfl (fun _ hS => ex_nilCheck rfl) (Evo.refl [bz] w149) ?_
      refine ae_take 10 rfl (by kernel_rfl) (by kernel_rfl) (by kernel_rfl) rfl (fun _ hS => ex_fieldAddr rfl Tryd.fld74_0) (Evo.refl [bz] w149) ?_
      refine ae_loud [11] (by kernel_rfl) rfl ⟨?_, trivial⟩
      refine a_step rfl ?_
      refine wl_store1 rfl rfl (by first | rfl | assumption) Tryd.size3 hB154 rfl fun w156 hB157 hw158 => ?_
      have hE159 := hE151.step hw158 (fun y hy => .inl (by simp at hy; simp [hy]))
      have hE160 := (Evo.refl [bz] w149).step hw158 (fun y hy => .inl (by simp at hy; simp [hy]))
      have hB161 := hw158.blk hB152 hA7.symm.nmem1
      have hB162 := hw158.blk hB153 hA18.symm.nmem1
      have hB163 := hw158.blk hB155 hzr.symm.nmem1
      try simp only [List.setIfInBounds_toArray, List.set_cons_zero, List.set_cons_succ, Nat.reduceAdd, Nat.zero_add, Nat.add_zero] at hB157
      refine wl_nil (ae_next (.inl hE160) ?_)
      refine ae_take 12 rfl (by kernel_rfl) (by kernel_rfl) (by kernel_rfl) rfl (fun _ hS => ex_nilCheck rfl) hE160 ?_
      refine ae_take 13 rfl (by kernel_rfl) (by kernel_rfl) (by kernel_rfl) rfl (fun _ hS => ex_fieldAddr rfl Tryd.fld74_1) hE160 ?_
      refine ae_loud [14] (by kernel_rfl) rfl ⟨?_, trivial⟩
      refine a_step rfl ?_
      refine wl_store1 rfl rfl (by first | rfl | assumption) Tryd.size2 hB157 rfl fun w164 hB165 hw166 => ?_
      have hE167 := hE159.step hw166 (fun y hy => .inl (by simp at hy; simp [hy]))
      have hE168 := hE160.step hw166 (fun y hy => .inl (by simp at hy; simp [hy]))
      have hB169 := hw166.blk hB161 hA7.symm.nmem1
      have hB170 := hw166.blk hB162 hA18.symm.nmem1
      have hB171 := hw166.blk hB163 hzr.symm.nmem1
      try simp only [List.setIfInBounds_toArray, List.set_cons_zero, List.set_cons_succ, Nat.reduceAdd, Nat.zero_add, Nat.add_zero] at hB165
      refine wl_nil (ae_next (.inl hE168) ?_)
      refine ae_done (by kernel_rfl) (nrm_then ?_)
      refine cw_seq ?_
      refine cw_cut (α := Nat × Frm × Rd) (fun y => []) [(0, _), (4, _), (6, _), (7, _)] (fun y wr => Evo [bz, br] w164 wr ∧ (wr.heap[bz]? = some (.cells ([.int .i64 (z.n + 1 : Nat), .int .i64 (rhead (unpk bs) z r).1, .int .u64 (u64 (rhead (unpk bs) z r).2.1), .int .u64 y.1, .bool y.2.1.is, .int .i64 y.2.1.l, .int .i64 y.2.1.r] : List Value).toArray V (0, 0)) ∧ wr.heap[br]? = some (.cells (rv sv y.2.2).toArray U (0, 0)) ∧ rsmp (unpk bs) z r = (⟨(rhead (unpk bs) z r).1, y.1, false⟩, decide (z.n = 0 ∨ z.t < (rhead (unpk bs) z r).1) && decide (cb y.1 = y.1), ⟨z.n + 1, (rhead (unpk bs) z r).1, (rhead (unpk bs) z r).2.1, y.1, y.2.1⟩, y.2.2) ∧ y.1 < 18446744073709551616)) ⟨rfl, rfl, rfl, rfl, trivial⟩ ?_ ?_
      · skip
        refine cw_seq ?_
        refine cw_region ?_
        refine wl_val rfl (ex_move rfl) ?_
        refine wl_call1 (vs := [_, _]) Tryd.goes51 rfl (ones_ok hB171 (RSl.evo RB.pers ((hE167).mono hmX) hs) hx hl hha 3 (by omega)) rfl ?_
        rintro _ w172 ⟨rfl, hR3, hw173⟩
        have hE174 := hE167.step hw173 (fun y hy => .inl (by simp at hy; simp [hy]))
        have hE175 := (Evo.refl [bz, br] w164).step hw173 (fun y hy => .inl (by simp at hy; simp [hy]))
        have hB176 := hw173.blk hB169 hA6.symm.nmem1
        have hB177 := hw173.blk hB170 hA17.symm.nmem1
        have hB178 := hw173.blk hB165 hzr.nmem1
        refine wl_nil (nrm_then ?_)
        refine cw_block ?_
        refine cw_seq ?_
        refine cw_cut (α := Frm × Rd) (fun y => []) [(0, _), (1, _), (4, _), (6, _), (7, _)] (fun y wr => Evo [bz, br] w172 wr ∧ (wr.heap[bz]? = some (.cells ([.int .i64 (z.n + 1 : Nat), .int .i64 (rhead (unpk bs) z r).1, .int .u64 (u64 (rhead (unpk bs) z r).2.1), .int .u64 z.b, .bool y.1.is, .int .i64 y.1.l, .int .i64 y.1.r] : List Value).toArray V (0, 0)) ∧ wr.heap[br]? = some (.cells (rv sv y.2).toArray U (0, 0)) ∧ (y.1.is = false → rsmp (unpk bs) z r = (⟨(rhead (unpk bs) z r).1, 0, false⟩, false, ⟨z.n + 1, (rhead (unpk bs) z r).1, (rhead (unpk bs) z r).2.1, z.b, y.1⟩, y.2)) ∧ (y.1.is = true → ∀ {g : Nat × Rd}, get (unpk bs) y.2 (64 - y.1.l - y.1.r) = g → ∀ {b : Nat}, z.b ^^^ (g.1 * 2 ^ y.1.r % 18446744073709551616) = b → rsmp (unpk bs) z r = (⟨(rhead (unpk bs) z r).1, b, false⟩, decide (z.n = 0 ∨ z.t < (rhead (unpk bs) z r).1) && decide (cb b = b), ⟨z.n + 1, (rhead (unpk bs) z r).1, (rhead (unpk bs) z r).2.1, b, y.1⟩, g.2)) ∧ y.2.at' ≤ 8 * bs.length ∧ y.1.l + y.1.r ≤ 64)) ⟨rfl, rfl, rfl, rfl, rfl, trivial⟩ ?_ ?_
        · skip
          refine cw_block ?_
          refine cw_seq ?_
          refine cw_block ?_
          refine cw_seq ?_
          refine cw_block ?_
          refine cw_seq ?_
          refine cw_seq ?_
          refine cw_seq ?_
          refine cw_region ?_
          refine wl_val rfl (ex_eql rfl rfl) ?_
          refine wl_val rfl (ex_assign rfl) ?_
          refine wl_nil (nrm_then ?_)
          refine cw_if rfl (fun hc72 => ?_) (fun hc72 => ?_)
          · skip
            refine cw_exit (ex_then (ex_then (ex_here (nrm_then ?_))))
            refine cw_seq ?_
            refine cw_seq ?_
            refine cw_region ?_
            refine wl_val rfl (ex_fieldAddr rfl Tryd.fld41_2) ?_
            refine wl_store1 rfl rfl (by first | rfl | assumption) Tryd.size4 hB177 rfl fun w179 hB180 hw181 => ?_
            have hE182 := hE174.step hw181 hG20.mem1
            have hB185 := hw181.blk hB176 hA19.nmem1
            have hB186 := hw181.blk hB178 hA18.nmem1
            have hB187 := hw181.blk hR3 hA17.nmem1
            try simp only [List.setIfInBounds_toArray, List.set_cons_zero, List.set_cons_succ, Nat.reduceAdd, Nat.zero_add, Nat.add_zero] at hB180
            refine wl_nil (nrm_then ?_)
            refine cw_seq ?_
            refine cw_region ?_
            refine wl_val rfl (ex_loadBlk rfl Tryd.agg41 Tryd.size41 hB180 rfl) ?_
            refine wl_val rfl (ex_move rfl) ?_
            refine wl_storeBlk rfl rfl Tryd.size41 hB185 rfl rfl ⟨by first | rfl | assumption, by first | rfl | assumption, by first | rfl | assumption, trivial⟩ fun w188 hB189 hw190 => ?_
            have hE191 := hE182.step hw190 hG8.mem1
            have hB192 := hw190.blk hB180 hA19.symm.nmem1
            have hB193 := hw190.blk hB186 hA7.nmem1
            have hB194 := hw190.blk hB187 hA6.nmem1
            try simp only [List.setIfInBounds_toArray, List.set_cons_zero, List.set_cons_succ, Nat.reduceAdd, Nat.zero_add, Nat.add_zero] at hB189
            refine wl_val rfl (ex_assign rfl) ?_
            refine wl_nil (nrm_then ?_)
            refine cw_ret (ret_then (ret_block (ret_then (ret_block (ret_then (ret_then (ret_block (ret_then (ret_then (body_retC2 rfl (ResOk.cellA rfl Tryd.agg41 Tryd.size41 hB189 rfl) (ResOk.tmp rfl) ?_))))))))))
            rw [rsmp_3 (by omega), ← hok]
            exact ⟨rfl, hB194, hB193, hE191⟩
          · skip
            refine cw_skip (nrm_then ?_)
            refine cw_seq ?_
            refine cw_seq ?_
            refine cw_region ?_
            refine wl_val rfl (ex_eql rfl rfl) ?_
            refine wl_val rfl (ex_assign rfl) ?_
            refine wl_nil (nrm_then ?_)
            refine cw_if rfl (fun hc74 => ?_) (fun hc74 => ?_)
            · skip
              refine cw_exit (ex_then (ex_then (ex_past rfl (ex_then (ex_here (nrm_then ?_))))))
              refine cw_seq ?_
              refine cw_region ?_
              refine wl_val rfl (ex_move rfl) ?_
              refine wl_call1 (vs := [_, _]) Tryd.goes34 rfl (get_ok hR3 (RSl.evo RB.pers ((hE174).mono hmX) hs) hx hl hoa 6 (by omega)) rfl ?_
              rintro _ w195 ⟨rfl, hR4, hw196⟩
              have hE197 := hE174.step hw196 (fun y hy => .inl (by simp at hy; simp [hy]))
              have hE198 := hE175.step hw196 (fun y hy => .inl (by simp at hy; simp [hy]))
              have hE199 := (Evo.refl [bz, br] w172).step hw196 (fun y hy => .inl (by simp at hy; simp [hy]))
              have hB200 := hw196.blk hB176 hA6.symm.nmem1
              have hB201 := hw196.blk hB177 hA17.symm.nmem1
              have hB202 := hw196.blk hB178 hzr.nmem1
              refine wl_val rfl (ex_convI rfl Tryd.underlying72 Tryd.underlying3) ?_
              have hg1 := get_lt (unpk bs) (ones (unpk bs) (rhead (unpk bs) z r).2.2 3).2 6
              rw [i64_of (n := (((get (unpk bs) (ones (unpk bs) (rhead (unpk bs) z r).2.2 3).2 6).1 : Nat) : Int)) (by omega) (by omega)]
              refine wl_val rfl (ex_assign rfl) ?_
              refine wl_nil (nrm_then ?_)
              refine cw_seq ?_
              refine cw_region ?_
              refine wl_val rfl (ex_move rfl) ?_
              refine wl_call1 (vs := [_, _]) Tryd.goes34 rfl (get_ok hR4 (RSl.evo RB.pers ((hE197).mono hmX) hs) hx hl (get_at8 hoa 6) 6 (by omega)) rfl ?_
              rintro _ w203 ⟨rfl, hR5, hw204⟩
              have hE205 := hE197.step hw204 (fun y hy => .inl (by simp at hy; simp [hy]))
              have hE206 := hE198.step hw204 (fun y hy => .inl (by simp at hy; simp [hy]))
              have hE207 := hE199.step hw204 (fun y hy => .inl (by simp at hy; simp [hy]))
              have hB208 := hw204.blk hB200 hA6.symm.nmem1
              have hB209 := hw204.blk hB201 hA17.symm.nmem1
              have hB210 := hw204.blk hB202 hzr.nmem1
              refine wl_val rfl (ex_convI rfl Tryd.underlying72 Tryd.underlying3) ?_
              have hg2 := get_lt (unpk bs) (get (unpk bs) (ones (unpk bs) (rhead (unpk bs) z r).2.2 3).2 6).2 6
              rw [i64_of (n := (((get (unpk bs) (get (unpk bs) (ones (unpk bs) (rhead (unpk bs) z r).2.2 3).2 6).2 6).1 : Nat) : Int)) (by omega) (by omega)]
              refine wl_val rfl (ex_add_i64 rfl rfl (by omega) (by omega)) ?_
              refine wl_val rfl (ex_assign rfl) ?_
              refine wl_nil (nrm_then ?_)
              refine cw_seq ?_
              refine cw_seq ?_
              refine cw_region ?_
              refine wl_val rfl (ex_move rfl) ?_
              refine wl_val rfl (ex_move rfl) ?_
              refine wl_val rfl (ex_add_i64 rfl rfl (by omega) (by omega)) ?_
              refine wl_val rfl (ex_gtr rfl rfl) ?_
              refine wl_nil (nrm_then ?_)
              refine cw_if rfl (fun hc91 => ?_) (fun hc91 => ?_)
              · skip
                refine cw_seq ?_
                refine cw_region ?_
                refine wl_val rfl (ex_loadBlk rfl Tryd.agg41 Tryd.size41 hB209 rfl) ?_
                refine wl_storeBlk rfl rfl Tryd.size41 hB208 rfl rfl ⟨by first | rfl | assumption, by first | rfl | assumption, by first | rfl | assumption, trivial⟩ fun w211 hB212 hw213 => ?_
                have hE214 := hE205.step hw213 hG8.mem1
                have hB217 := hw213.blk hB209 hA19.symm.nmem1
                have hB218 := hw213.blk hB210 hA7.nmem1
                have hB219 := hw213.blk hR5 hA6.nmem1
                try simp only [List.setIfInBounds_toArray, List.set_cons_zero, List.set_cons_succ, Nat.reduceAdd, Nat.zero_add, Nat.add_zero] at hB212
                refine wl_val rfl (ex_assign rfl) ?_
                refine wl_nil (nrm_then ?_)
                refine cw_ret (ret_then (ret_block (ret_then (ret_then (ret_block (ret_then (ret_then (body_retC2 rfl (ResOk.cellA rfl Tryd.agg41 Tryd.size41 hB212 rfl) (ResOk.tmp rfl) ?_))))))))
                rw [rsmp_2f (by omega) rfl rfl (by omega)]
                exact ⟨rfl, hB219, hB218, hE214⟩
              · skip
                refine cw_skip (nrm_then ?_)
                refine cw_region ?_
                refine wl_val rfl (ex_move rfl) ?_
                refine wl_val rfl (ex_move rfl) ?_
                refine wl_val rfl (ex_move rfl) ?_
                refine wl_val rfl (ex_move rfl) ?_
                refine wl_val rfl (ex_move rfl) ?_
                refine wl_val rfl (ex_sub_i64 rfl rfl (by omega) (by omega)) ?_
                refine wl_val rfl (ex_move rfl) ?_
                refine wl_val rfl (ex_sub_i64 rfl rfl (by omega) (by omega)) ?_
                rw [show ((64 : Int) - ((get (unpk bs) (ones (unpk bs) (rhead (unpk bs) z r).2.2 3).2 6).1 : Nat) - (((get (unpk bs) (get (unpk bs) (ones (unpk bs) (rhead (unpk bs) z r).2.2 3).2 6).2 6).1 : Nat) + 1)) = ((64 - (get (unpk bs) (ones (unpk bs) (rhead (unpk bs) z r).2.2 3).2 6).1 - ((get (unpk bs) (get (unpk bs) (ones (unpk bs) (rhead (unpk bs) z r).2.2 3).2 6).2 6).1 + 1) : Nat) : Int) by omega]
                refine wl_val rfl (ex_nilCheck rfl) ?_
                refine wl_val rfl (ex_fieldAddr rfl Tryd.fld74_4) ?_
                refine wl_store1 rfl rfl (by first | rfl | assumption) Tryd.size4 hB210 rfl fun w220 hB221 hw222 => ?_
                have hE223 := hE205.step hw222 (fun y hy => .inl (by simp at hy; simp [hy]))
                have hE224 := hE206.step hw222 (fun y hy => .inl (by simp at hy; simp [hy]))
                have hE225 := hE207.step hw222 (fun y hy => .inl (by simp at hy; simp [hy]))
                have hB226 := hw222.blk hB208 hA7.symm.nmem1
                have hB227 := hw222.blk hB209 hA18.symm.nmem1
                have hB228 := hw222.blk hR5 hzr.symm.nmem1
                try simp only [List.setIfInBounds_toArray, List.set_cons_zero, List.set_cons_succ, Nat.reduceAdd, Nat.zero_add, Nat.add_zero] at hB221
                refine wl_val rfl (ex_nilCheck rfl) ?_
                refine wl_val rfl (ex_fieldAddr rfl Tryd.fld74_5) ?_
                refine wl_store1 rfl rfl (by first | rfl | assumption) Tryd.size3 hB221 rfl fun w229 hB230 hw231 => ?_
                have hE232 := hE223.step hw231 (fun y hy => .inl (by simp at hy; simp [hy]))
                have hE233 := hE224.step hw231 (fun y hy => .inl (by simp at hy; simp [hy]))
                have hE234 := hE225.step hw231 (fun y hy => .inl (by simp at hy; simp [hy]))
                have hB235 := hw231.blk hB226 hA7.symm.nmem1
                have hB236 := hw231.blk hB227 hA18.symm.nmem1
                have hB237 := hw231.blk hB228 hzr.symm.nmem1
                try simp only [List.setIfInBounds_toArray, List.set_cons_zero, List.set_cons_succ, Nat.reduceAdd, Nat.zero_add, Nat.add_zero] at hB230
                refine wl_val rfl (ex_nilCheck rfl) ?_
                refine wl_val rfl (ex_fieldAddr rfl Tryd.fld74_6) ?_
                refine wl_store1 rfl rfl (by first | rfl | assumption) Tryd.size3 hB230 rfl fun w238 hB239 hw240 => ?_
                have hE241 := hE232.step hw240 (fun y hy => .inl (by simp at hy; simp [hy]))
                have hE242 := hE233.step hw240 (fun y hy => .inl (by simp at hy; simp [hy]))
                have hE243 := hE234.step hw240 (fun y hy => .inl (by simp at hy; simp [hy]))
                have hB244 := hw240.blk hB235 hA7.symm.nmem1
                have hB245 := hw240.blk hB236 hA18.symm.nmem1
                have hB246 := hw240.blk hB237 hzr.symm.nmem1
                try simp only [List.setIfInBounds_toArray, List.set_cons_zero, List.set_cons_succ, Nat.reduceAdd, Nat.zero_add, Nat.add_zero] at hB239
                refine wl_nil (nrm_block (nrm_same ?_))
                refine ⟨(⟨true, (get (unpk bs) (ones (unpk bs) (rhead (unpk bs) z r).2.2 3).2 6).1, 64 - (get (unpk bs) (ones (unpk bs) (rhead (unpk bs) z r).2.2 3).2 6).1 - ((get (unpk bs) (get (unpk bs) (ones (unpk bs) (rhead (unpk bs) z r).2.2 3).2 6).2 6).1 + 1)⟩, (get (unpk bs) (get (unpk bs) (ones (unpk bs) (rhead (unpk bs) z r).2.2 3).2 6).2 6).2), trivial, ⟨rfl, rfl, rfl, rfl, rfl, trivial⟩, hE243, ?_⟩
                exact ⟨hB239, hB246, fun h => by simp at h, fun _ _ hg _ hb => rsmp_2 (by omega) rfl rfl (by omega) hg hb, get_at8 (get_at8 hoa 6) 6, by dsimp only; omega⟩
            · skip
              refine cw_skip (nrm_then ?_)
              refine cw_seq ?_
              refine cw_region ?_
              refine wl_val rfl (ex_eql rfl rfl) ?_
              refine wl_val rfl (ex_assign rfl) ?_
              refine wl_nil (nrm_then ?_)
              refine cw_if rfl (fun hc76 => ?_) (fun hc76 => ?_)
              · skip
                refine cw_exit (ex_then (ex_past rfl (ex_then (ex_past rfl (ex_then (ex_here (nrm_same ?_)))))))
                refine ⟨(z.f, (ones (unpk bs) (rhead (unpk bs) z r).2.2 3).2), trivial, ⟨rfl, rfl, rfl, rfl, rfl, trivial⟩, (Evo.refl [bz, br] w172), ?_⟩
                exact ⟨hB178, hR3, fun h => rsmp_1f (by omega) h, fun h _ hg _ hb => rsmp_1 (by omega) h hg hb, hoa, hzf⟩
              · skip
                refine cw_skip (nrm_then ?_)
                refine cw_exit (ex_past rfl (ex_then (ex_past rfl (ex_then (ex_past rfl (ex_then (ex_then (ex_here (nrm_same ?_)))))))))
                refine ⟨(z.b, z.f, (ones (unpk bs) (rhead (unpk bs) z r).2.2 3).2), trivial, ⟨rfl, rfl, rfl, rfl, trivial⟩, hE175, ?_⟩
                exact ⟨hB178, hR3, rsmp_0 (by omega), hz.b⟩
        · skip
          rintro ⟨ff, qq⟩ w247 ⟨hV248, ⟨hZ4, hR4, hJ1, hJ2, hqa, hfl⟩⟩
          refine nrm_then ?_
          show CW _ _ _ _ [(0, _), (1, _), (4, _), (6, _), (7, _)] _
          try dsimp only at hZ4
          try dsimp only at hR4
          try dsimp only at hJ1
          try dsimp only at hJ2
          try dsimp only at hqa
          try dsimp only at hfl
          have hE249 := hE174.step hV248 (fun y hy => .inl hy)
          have hE250 := hE175.step hV248 (fun y hy => .inl hy)
          have hB251 := hV248.blk hB176 (nmc hA7.symm (nmc hA6.symm (by simp)))
          have hB252 := hV248.blk hB177 (nmc hA18.symm (nmc hA17.symm (by simp)))
          refine cw_seq ?_
          refine cw_seq ?_
          refine cw_seq ?_
          refine cw_region ?_
          refine wl_val rfl (ex_move rfl) ?_
          refine wl_val rfl (ex_nilCheck rfl) ?_
          refine wl_val rfl (ex_fieldAddr rfl Tryd.fld74_4) ?_
          refine wl_val rfl (ex_load1 rfl Tryd.agg4 (cell_nth hZ4 rfl)) ?_
          refine wl_val rfl (ex_notb rfl) ?_
          refine wl_nil (nrm_then ?_)
          refine cw_ifb rfl (fun hc111 => ?_) (fun hc111 => ?_)
          · skip
            refine cw_seq ?_
            refine cw_region ?_
            refine wl_val rfl (ex_loadBlk rfl Tryd.agg41 Tryd.size41 hB252 rfl) ?_
            refine wl_storeBlk rfl rfl Tryd.size41 hB251 rfl rfl ⟨by first | rfl | assumption, by first | rfl | assumption, by first | rfl | assumption, trivial⟩ fun w253 hB254 hw255 => ?_
            have hE256 := hE249.step hw255 hG8.mem1
            have hB258 := hw255.blk hB252 hA19.symm.nmem1
            have hB259 := hw255.blk hZ4 hA7.nmem1
            have hB260 := hw255.blk hR4 hA6.nmem1
            try simp only [List.setIfInBounds_toArray, List.set_cons_zero, List.set_cons_succ, Nat.reduceAdd, Nat.zero_add, Nat.add_zero] at hB254
            refine wl_val rfl (ex_assign rfl) ?_
            refine wl_nil (nrm_then ?_)
            refine cw_ret (ret_then (ret_then (ret_block (ret_then (ret_then (body_retC2 rfl (ResOk.cellA rfl Tryd.agg41 Tryd.size41 hB254 rfl) (ResOk.tmp rfl) ?_))))))
            rw [hJ1 (by simpa using hc111)]
            exact ⟨rfl, hB260, hB259, hE256⟩
          · skip
            refine cw_skip (nrm_then ?_)
            refine cw_any (fun w0 w' => Evo [bz, br] w0 w') (by kernel_rfl) (fun w261 hw262 => ?_)
            have hE263 := hE249.then hw262
            have hE264 := hE250.then hw262
            have hB265 := hw262.blk0 hB251
            have hB266 := hw262.blk0 hB252
            have hB267 := hw262.blk0 hZ4
            have hB268 := hw262.blk0 hR4
            refine ae_take 0 rfl (by kernel_rfl) (by kernel_rfl) (by kernel_rfl) rfl (fun _ hS => ex_move rfl) (Evo.refl [bz, br] w261) ?_
            refine ae_take 1 rfl (by kernel_rfl) (by kernel_rfl) (by kernel_rfl) rfl (fun _ hS => ex_nilCheck rfl) (Evo.refl [bz, br] w261) ?_
            refine ae_take 2 rfl (by kernel_rfl) (by kernel_rfl) (by kernel_rfl) rfl (fun _ hS => ex_fieldAddr rfl Tryd.fld74_3) (Evo.refl [bz, br] w261) ?_
            refine ae_take 4 rfl (by kernel_rfl) (by kernel_rfl) (by kernel_rfl) rfl (fun _ hS => ex_move rfl) (Evo.refl [bz, br] w261) ?_
            refine ae_take 5 rfl (by kernel_rfl) (by kernel_rfl) (by kernel_rfl) rfl (fun _ hS => ex_move rfl) (Evo.refl [bz, br] w261) ?_
            refine ae_take 6 rfl (by kernel_rfl) (by kernel_rfl) (by kernel_rfl) rfl (fun _ hS => ex_nilCheck rfl) (Evo.refl [bz, br] w261) ?_
            refine ae_take 7 rfl (by kernel_rfl) (by kernel_rfl) (by kernel_rfl) rfl (fun _ hS => ex_fieldAddr rfl Tryd.fld74_5) (Evo.refl [bz, br] w261) ?_
            refine ae_take 10 rfl (by kernel_rfl) (by kernel_rfl) (by kernel_rfl) rfl (fun _ hS => ex_move rfl) (Evo.refl [bz, br] w261) ?_
            refine ae_take 11 rfl (by kernel_rfl) (by kernel_rfl) (by kernel_rfl) rfl (fun _ hS => ex_nilCheck rfl) (Evo.refl [bz, br] w261) ?_
            refine ae_take 12 rfl (by kernel_rfl) (by kernel_rfl) (by kernel_rfl) rfl (fun _ hS => ex_fieldAddr rfl Tryd.fld74_6) (Evo.refl [bz, br] w261) ?_
            refine ae_take 16 rfl (by kernel_rfl) (by kernel_rfl) (by kernel_rfl) rfl (fun _ hS => ex_move rfl) (Evo.refl [bz, br] w261) ?_
            refine ae_take 17 rfl (by kernel_rfl) (by kernel_rfl) (by kernel_rfl) rfl (fun _ hS => ex_nilCheck rfl) (Evo.refl [bz, br] w261) ?_
            refine ae_take 18 rfl (by kernel_rfl) (by kernel_rfl) (by kernel_rfl) rfl (fun _ hS => ex_fieldAddr rfl Tryd.fld74_6) (Evo.refl [bz, br] w261) ?_
            refine ae_loud [3, 8, 13, 19] (by kernel_rfl) rfl ⟨?_, ?_, ?_, ?_, trivial⟩
            · skip
              refine a_step rfl ?_
              refine wl_val rfl (ex_load1 rfl Tryd.agg72 (cell_nth hB267 rfl)) ?_
              refine wl_nil (ae_next (.inl (Evo.refl [bz, br] w261)) ?_)
              refine ae_loud [8, 13, 19] (by kernel_rfl) rfl ⟨?_, ?_, ?_, trivial⟩
              · skip
                refine a_step rfl ?_
                refine wl_val rfl (ex_load1 rfl Tryd.agg3 (cell_nth hB267 rfl)) ?_
                refine wl_nil (ae_next (.inl (Evo.refl [bz, br] w261)) ?_)
                refine ae_take 9 rfl (by kernel_rfl) (by kernel_rfl) (by kernel_rfl) rfl (fun _ hS => ex_sub_i64 rfl rfl (by omega) (by omega)) (Evo.refl [bz, br] w261) ?_
                refine ae_loud [13, 19] (by kernel_rfl) rfl ⟨?_, ?_, trivial⟩
                · skip
                  refine a_step rfl ?_
                  refine wl_val rfl (ex_load1 rfl Tryd.agg3 (cell_nth hB267 rfl)) ?_
                  refine wl_nil (ae_next (.inl (Evo.refl [bz, br] w261)) ?_)
                  refine ae_take 14 rfl (by kernel_rfl) (by kernel_rfl) (by kernel_rfl) rfl (fun _ hS => ex_sub_i64 rfl rfl (by omega) (by omega)) (Evo.refl [bz, br] w261) ?_
                  rw [show ((64 : Int) - (ff.l : Nat) - (ff.r : Nat)) = ((64 - ff.l - ff.r : Nat) : Int) by omega]
                  refine ae_loud [15, 19] (by kernel_rfl) rfl ⟨?_, ?_, trivial⟩
                  · skip
                    refine a_step rfl ?_
                    refine wl_call1 (vs := [_, _]) Tryd.goes34 rfl (get_ok hB268 (RSl.evo RB.pers ((hE263).mono hmX) hs) hx hl hqa (64 - ff.l - ff.r) (by omega)) rfl ?_
                    rintro _ w269 ⟨rfl, hR9, hw270⟩
                    have hE271 := hE263.step hw270 (fun y hy => .inl (by simp at hy; simp [hy]))
                    have hE272 := hE264.step hw270 (fun y hy => .inl (by simp at hy; simp [hy]))
                    have hE273 := (Evo.refl [bz, br] w261).step hw270 (fun y hy => .inl (by simp at hy; simp [hy]))
                    have hB274 := hw270.blk hB265 hA6.symm.nmem1
                    have hB275 := hw270.blk hB266 hA17.symm.nmem1
                    have hB276 := hw270.blk hB267 hzr.nmem1
                    refine wl_nil (ae_next (.inl hE273) ?_)
                    refine ae_loud [19] (by kernel_rfl) rfl ⟨?_, trivial⟩
                    refine a_step rfl ?_
                    refine wl_val rfl (ex_load1 rfl Tryd.agg3 (cell_nth hB276 rfl)) ?_
                    refine wl_nil (ae_next (.inl hE273) ?_)
                    refine ae_take 20 rfl (by kernel_rfl) (by kernel_rfl) (by kernel_rfl) rfl (fun _ hS => ex_shlN (m := (get (unpk bs) qq (64 - ff.l - ff.r)).1) (n := ff.r) rfl rfl (by first | rfl | omega) (by first | rfl | omega) (by first | exact Nat.le_of_ble_eq_true rfl | (simp only [IntKind.bits]; omega)) rfl) hE273 ?_
                    rw [show (2 : Nat) ^ IntKind.u64.bits = 18446744073709551616 from rfl]
                    refine ae_take 21 rfl (by kernel_rfl) (by kernel_rfl) (by kernel_rfl) rfl (fun _ hS => ex_xorN (m := z.b) (n := ((get (unpk bs) qq (64 - ff.l - ff.r)).1 * 2 ^ ff.r % 18446744073709551616)) rfl rfl (by rfl) (by rfl) rfl (hz.b) (Nat.mod_lt _ (by decide))) hE273 ?_
                    refine ae_take 22 rfl (by kernel_rfl) (by kernel_rfl) (by kernel_rfl) rfl (fun _ hS => ex_nilCheck rfl) hE273 ?_
                    refine ae_take 23 rfl (by kernel_rfl) (by kernel_rfl) (by kernel_rfl) rfl (fun _ hS => ex_fieldAddr rfl Tryd.fld74_3) hE273 ?_
                    refine ae_loud [24] (by kernel_rfl) rfl ⟨?_, trivial⟩
                    refine a_step rfl ?_
                    refine wl_store1 rfl rfl (by first | rfl | assumption) Tryd.size72 hB276 rfl fun w277 hB278 hw279 => ?_
                    have hE280 := hE271.step hw279 (fun y hy => .inl (by simp at hy; simp [hy]))
                    have hE281 := hE272.step hw279 (fun y hy => .inl (by simp at hy; simp [hy]))
                    have hE282 := hE273.step hw279 (fun y hy => .inl (by simp at hy; simp [hy]))
                    have hB283 := hw279.blk hB274 hA7.symm.nmem1
                    have hB284 := hw279.blk hB275 hA18.symm.nmem1
                    have hB285 := hw279.blk hR9 hzr.symm.nmem1
                    try simp only [List.setIfInBounds_toArray, List.set_cons_zero, List.set_cons_succ, Nat.reduceAdd, Nat.zero_add, Nat.add_zero] at hB278
                    refine wl_nil (ae_next (.inl hE282) ?_)
                    refine ae_done (by kernel_rfl) (nrm_then ?_)
                    refine cw_exit (ex_here (nrm_same ?_))
                    refine ⟨(z.b ^^^ ((get (unpk bs) qq (64 - ff.l - ff.r)).1 * 2 ^ ff.r % 18446744073709551616), ff, (get (unpk bs) qq (64 - ff.l - ff.r)).2), trivial, ⟨rfl, rfl, rfl, rfl, trivial⟩, hE281, ?_⟩
                    exact ⟨hB278, hB285, hJ2 (by simpa using hc111) rfl rfl, xor_lt hz.b (Nat.mod_lt _ (by decide))⟩
                  · skip
                    refine a_step rfl ?_
                    refine wl_val rfl (ex_load1 rfl Tryd.agg3 (cell_nth hB267 rfl)) ?_
                    refine wl_nil (ae_next (.inl (Evo.refl [bz, br] w261)) ?_)
                    refine ae_loud [15] (by kernel_rfl) rfl ⟨?_, trivial⟩
                    refine a_step rfl ?_
                    refine wl_call1 (vs := [_, _]) Tryd.goes34 rfl (get_ok hB268 (RSl.evo RB.pers ((hE263).mono hmX) hs) hx hl hqa (64 - ff.l - ff.r) (by omega)) rfl ?_
                    rintro _ w286 ⟨rfl, hR9, hw287⟩
                    have hE288 := hE263.step hw287 (fun y hy => .inl (by simp at hy; simp [hy]))
                    have hE289 := hE264.step hw287 (fun y hy => .inl (by simp at hy; simp [hy]))
                    have hE290 := (Evo.refl [bz, br] w261).step hw287 (fun y hy => .inl (by simp at hy; simp [hy]))
                    have hB291 := hw287.blk hB265 hA6.symm.nmem1
                    have hB292 := hw287.blk hB266 hA17.symm.nmem1
                    have hB293 := hw287.blk hB267 hzr.nmem1
                    refine wl_nil (ae_next (.inl hE290) ?_)
                    refine ae_take 20 rfl (by kernel_rfl) (by kernel_rfl) (by kernel_rfl) rfl (fun _ hS => ex_shlN (m := (get (unpk bs) qq (64 - ff.l - ff.r)).1) (n := ff.r) rfl rfl (by first | rfl | omega) (by first | rfl | omega) (by first | exact Nat.le_of_ble_eq_true rfl | (simp only [IntKind.bits]; omega)) rfl) hE290 ?_
                    rw [show (2 : Nat) ^ IntKind.u64.bits = 18446744073709551616 from rfl]
                    refine ae_take 21 rfl (by kernel_rfl) (by kernel_rfl) (by kernel_rfl) rfl (fun _ hS => ex_xorN (m := z.b) (n := ((get (unpk bs) qq (64 - ff.l - ff.r)).1 * 2 ^ ff.r % 18446744073709551616)) rfl rfl (by rfl) (by rfl) rfl (hz.b) (Nat.mod_lt _ (by decide))) hE290 ?_
                    refine ae_take 22 rfl (by kernel_rfl) (by kernel_rfl) (by kernel_rfl) rfl (fun _ hS => ex_nilCheck rfl) hE290 ?_
                    refine ae_take 23 rfl (by kernel_rfl) (by kernel_rfl) (by kernel_rfl) rfl (fun _ hS => ex_fieldAddr rfl Tryd.fld74_3) hE290 ?_
                    refine ae_loud [24] (by kernel_rfl) rfl ⟨?_, trivial⟩
                    refine a_step rfl ?_
                    refine wl_store1 rfl rfl (by first | rfl | assumption) Tryd.size72 hB293 rfl fun w294 hB295 hw296 => ?_
                    have hE297 := hE288.step hw296 (fun y hy => .inl (by simp at hy; simp [hy]))
                    have hE298 := hE289.step hw296 (fun y hy => .inl (by simp at hy; simp [hy]))
                    have hE299 := hE290.step hw296 (fun y hy => .inl (by simp at hy; simp [hy]))
                    have hB300 := hw296.blk hB291 hA7.symm.nmem1
                    have hB301 := hw296.blk hB292 hA18.symm.nmem1
                    have hB302 := hw296.blk hR9 hzr.symm.nmem1
                    try simp only [List.setIfInBounds_toArray, List.set_cons_zero, List.set_cons_succ, Nat.reduceAdd, Nat.zero_add, Nat.add_zero] at hB295
                    refine wl_nil (ae_next (.inl hE299) ?_)
                    refine ae_done (by kernel_rfl) (nrm_then ?_)
                    refine cw_exit (ex_here (nrm_same ?_))
                    refine ⟨(z.b ^^^ ((get (unpk bs) qq (64 - ff.l - ff.r)).1 * 2 ^ ff.r % 18446744073709551616), ff, (get (unpk bs) qq (64 - ff.l - ff.r)).2), trivial, ⟨rfl, rfl, rfl, rfl, trivial⟩, hE298, ?_⟩
                    exact ⟨hB295, hB302, hJ2 (by simpa using hc111) rfl rfl, xor_lt hz.b (Nat.mod_lt _ (by decide))⟩
                · skip
                  refine a_step rfl ?_
                  refine wl_val rfl (ex_load1 rfl Tryd.agg3 (cell_nth hB267 rfl)) ?_
                  refine wl_nil (ae_next (.inl (Evo.refl [bz, br] w261)) ?_)
                  refine ae_loud [13] (by kernel_rfl) rfl ⟨?_, trivial⟩
                  refine a_step rfl ?_
                  refine wl_val rfl (ex_load1 rfl Tryd.agg3 (cell_nth hB267 rfl)) ?_
                  refine wl_nil (ae_next (.inl (Evo.refl [bz, br] w261)) ?_)
                  refine ae_take 14 rfl (by kernel_rfl) (by kernel_rfl) (by kernel_rfl) rfl (fun _ hS => ex_sub_i64 rfl rfl (by omega) (by omega)) (Evo.refl [bz, br] w261) ?_
                  rw [show ((64 : Int) - (ff.l : Nat) - (ff.r : Nat)) = ((64 - ff.l - ff.r : Nat) : Int) by omega]
                  refine ae_loud [15] (by kernel_rfl) rfl ⟨?_, trivial⟩
                  refine a_step rfl ?_
                  refine wl_call1 (vs := [_, _]) Tryd.goes34 rfl (get_ok hB268 (RSl.evo RB.pers ((hE263).mono hmX) hs) hx hl hqa (64 - ff.l - ff.r) (by omega)) rfl ?_
                  rintro _ w303 ⟨rfl, hR9, hw304⟩
                  have hE305 := hE263.step hw304 (fun y hy => .inl (by simp at hy; simp [hy]))
                  have hE306 := hE264.step hw304 (fun y hy => .inl (by simp at hy; simp [hy]))
                  have hE307 := (Evo.refl [bz, br] w261).step hw304 (fun y hy => .inl (by simp at hy; simp [hy]))
                  have hB308 := hw304.blk hB265 hA6.symm.nmem1
                  have hB309 := hw304.blk hB266 hA17.symm.nmem1
                  have hB310 := hw304.blk hB267 hzr.nmem1
                  refine wl_nil (ae_next (.inl hE307) ?_)
                  refine ae_take 20 rfl (by kernel_rfl) (by kernel_rfl) (by kernel_rfl) rfl (fun _ hS => ex_shlN (m := (get (unpk bs) qq (64 - ff.l - ff.r)).1) (n := ff.r) rfl rfl (by first | rfl | omega) (by first | rfl | omega) (by first | exact Nat.le_of_ble_eq_true rfl | (simp only [IntKind.bits]; omega)) rfl) hE307 ?_
                  rw [show (2 : Nat) ^ IntKind.u64.bits = 18446744073709551616 from rfl]
                  refine ae_take 21 rfl (by kernel_rfl) (by kernel_rfl) (by kernel_rfl) rfl (fun _ hS => ex_xorN (m := z.b) (n := ((get (unpk bs) qq (64 - ff.l - ff.r)).1 * 2 ^ ff.r % 18446744073709551616)) rfl rfl (by rfl) (by rfl) rfl (hz.b) (Nat.mod_lt _ (by decide))) hE307 ?_
                  refine ae_take 22 rfl (by kernel_rfl) (by kernel_rfl) (by kernel_rfl) rfl (fun _ hS => ex_nilCheck rfl) hE307 ?_
                  refine ae_take 23 rfl (by kernel_rfl) (by kernel_rfl) (by kernel_rfl) rfl (fun _ hS => ex_fieldAddr rfl Tryd.fld74_3) hE307 ?_
                  refine ae_loud [24] (by kernel_rfl) rfl ⟨?_, trivial⟩
                  refine a_step rfl ?_
                  refine wl_store1 rfl rfl (by first | rfl | assumption) Tryd.size72 hB310 rfl fun w311 hB312 hw313 => ?_
                  have hE314 := hE305.step hw313 (fun y hy => .inl (by simp at hy; simp [hy]))
                  have hE315 := hE306.step hw313 (fun y hy => .inl (by simp at hy; simp [hy]))
                  have hE316 := hE307.step hw313 (fun y hy => .inl (by simp at hy; simp [hy]))
                  have hB317 := hw313.blk hB308 hA7.symm.nmem1
                  have hB318 := hw313.blk hB309 hA18.symm.nmem1
                  have hB319 := hw313.blk hR9 hzr.symm.nmem1
                  try simp only [List.setIfInBounds_toArray, List.set_cons_zero, List.set_cons_succ, Nat.reduceAdd, Nat.zero_add, Nat.add_zero] at hB312
                  refine wl_nil (ae_next (.inl hE316) ?_)
                  refine ae_done (by kernel_rfl) (nrm_then ?_)
                  refine cw_exit (ex_here (nrm_same ?_))
                  refine ⟨(z.b ^^^ ((get (unpk bs) qq (64 - ff.l - ff.r)).1 * 2 ^ ff.r % 18446744073709551616), ff, (get (unpk bs) qq (64 - ff.l - ff.r)).2), trivial, ⟨rfl, rfl, rfl, rfl, trivial⟩, hE315, ?_⟩
                  exact ⟨hB312, hB319, hJ2 (by simpa using hc111) rfl rfl, xor_lt hz.b (Nat.mod_lt _ (by decide))⟩
              · skip
                refine a_step rfl ?_
                refine wl_val rfl (ex_load1 rfl Tryd.agg3 (cell_nth hB267 rfl)) ?_
                refine wl_nil (ae_next (.inl (Evo.refl [bz, br] w261)) ?_)
                refine ae_loud [8, 19] (by kernel_rfl) rfl ⟨?_, ?_, trivial⟩
                · skip
                  refine a_step rfl ?_
                  refine wl_val rfl (ex_load1 rfl Tryd.agg3 (cell_nth hB267 rfl)) ?_
                  refine wl_nil (ae_next (.inl (Evo.refl [bz, br] w261)) ?_)
                  refine ae_take 9 rfl (by kernel_rfl) (by kernel_rfl) (by kernel_rfl) rfl (fun _ hS => ex_sub_i64 rfl rfl (by omega) (by omega)) (Evo.refl [bz, br] w261) ?_
                  refine ae_take 14 rfl (by kernel_rfl) (by kernel_rfl) (by kernel_rfl) rfl (fun _ hS => ex_sub_i64 rfl rfl (by omega) (by omega)) (Evo.refl [bz, br] w261) ?_
                  rw [show ((64 : Int) - (ff.l : Nat) - (ff.r : Nat)) = ((64 - ff.l - ff.r : Nat) : Int) by omega]
                  refine ae_loud [15, 19] (by kernel_rfl) rfl ⟨?_, ?_, trivial⟩
                  · skip
                    refine a_step rfl ?_
                    refine wl_call1 (vs := [_, _]) Tryd.goes34 rfl (get_ok hB268 (RSl.evo RB.pers ((hE263).mono hmX) hs) hx hl hqa (64 - ff.l - ff.r) (by omega)) rfl ?_
                    rintro _ w320 ⟨rfl, hR9, hw321⟩
                    have hE322 := hE263.step hw321 (fun y hy => .inl (by simp at hy; simp [hy]))
                    have hE323 := hE264.step hw321 (fun y hy => .inl (by simp at hy; simp [hy]))
                    have hE324 := (Evo.refl [bz, br] w261).step hw321 (fun y hy => .inl (by simp at hy; simp [hy]))
                    have hB325 := hw321.blk hB265 hA6.symm.nmem1
                    have hB326 := hw321.blk hB266 hA17.symm.nmem1
                    have hB327 := hw321.blk hB267 hzr.nmem1
                    refine wl_nil (ae_next (.inl hE324) ?_)
                    refine ae_loud [19] (by kernel_rfl) rfl ⟨?_, trivial⟩
                    refine a_step rfl ?_
                    refine wl_val rfl (ex_load1 rfl Tryd.agg3 (cell_nth hB327 rfl)) ?_
                    refine wl_nil (ae_next (.inl hE324) ?_)
                    refine ae_take 20 rfl (by kernel_rfl) (by kernel_rfl) (by kernel_rfl) rfl (fun _ hS => ex_shlN (m := (get (unpk bs) qq (64 - ff.l - ff.r)).1) (n := ff.r) rfl rfl (by first | rfl | omega) (by first | rfl | omega) (by first | exact Nat.le_of_ble_eq_true rfl | (simp only [IntKind.bits]; omega)) rfl) hE324 ?_
                    rw [show (2 : Nat) ^ IntKind.u64.bits = 18446744073709551616 from rfl]
                    refine ae_take 21 rfl (by kernel_rfl) (by kernel_rfl) (by kernel_rfl) rfl (fun _ hS => ex_xorN (m := z.b) (n := ((get (unpk bs) qq (64 - ff.l - ff.r)).1 * 2 ^ ff.r % 18446744073709551616)) rfl rfl (by rfl) (by rfl) rfl (hz.b) (Nat.mod_lt _ (by decide))) hE324 ?_
                    refine ae_take 22 rfl (by kernel_rfl) (by kernel_rfl) (by kernel_rfl) rfl (fun _ hS => ex_nilCheck rfl) hE324 ?_
                    refine ae_take 23 rfl (by kernel_rfl) (by kernel_rfl) (by kernel_rfl) rfl (fun _ hS => ex_fieldAddr rfl Tryd.fld74_3) hE324 ?_
                    refine ae_loud [24] (by kernel_rfl) rfl ⟨?_, trivial⟩
                    refine a_step rfl ?_
                    refine wl_store1 rfl rfl (by first | rfl | assumption) Tryd.size72 hB327 rfl fun w328 hB329 hw330 => ?_
                    have hE331 := hE322.step hw330 (fun y hy => .inl (by simp at hy; simp [hy]))
                    have hE332 := hE323.step hw330 (fun y hy => .inl (by simp at hy; simp [hy]))
                    have hE333 := hE324.step hw330 (fun y hy => .inl (by simp at hy; simp [hy]))
                    have hB334 := hw330.blk hB325 hA7.symm.nmem1
                    have hB335 := hw330.blk hB326 hA18.symm.nmem1
                    have hB336 := hw330.blk hR9 hzr.symm.nmem1
                    try simp only [List.setIfInBounds_toArray, List.set_cons_zero, List.set_cons_succ, Nat.reduceAdd, Nat.zero_add, Nat.add_zero] at hB329
                    refine wl_nil (ae_next (.inl hE333) ?_)
                    refine ae_done (by kernel_rfl) (nrm_then ?_)
                    refine cw_exit (ex_here (nrm_same ?_))
                    refine ⟨(z.b ^^^ ((get (unpk bs) qq (64 - ff.l - ff.r)).1 * 2 ^ ff.r % 18446744073709551616), ff, (get (unpk bs) qq (64 - ff.l - ff.r)).2), trivial, ⟨rfl, rfl, rfl, rfl, trivial⟩, hE332, ?_⟩
                    exact ⟨hB329, hB336, hJ2 (by simpa using hc111) rfl rfl, xor_lt hz.b (Nat.mod_lt _ (by decide))⟩
                  · skip
                    refine a_step rfl ?_
                    refine wl_val rfl (ex_load1 rfl Tryd.agg3 (cell_nth hB267 rfl)) ?_
                    refine wl_nil (ae_next (.inl (Evo.refl [bz, br] w261)) ?_)
                    refine ae_loud [15] (by kernel_rfl) rfl ⟨?_, trivial⟩
                    refine a_step rfl ?_
                    refine wl_call1 (vs := [_, _]) Tryd.goes34 rfl (get_ok hB268 (RSl.evo RB.pers ((hE263).mono hmX) hs) hx hl hqa (64 - ff.l - ff.r) (by omega)) rfl ?_
                    rintro _ w337 ⟨rfl, hR9, hw338⟩
                    have hE339 := hE263.step hw338 (fun y hy => .inl (by simp at hy; simp [hy]))
                    have hE340 := hE264.step hw338 (fun y hy => .inl (by simp at hy; simp [hy]))
                    have hE341 := (Evo.refl [bz, br] w261).step hw338 (fun y hy => .inl (by simp at hy; simp [hy]))
                    have hB342 := hw338.blk hB265 hA6.symm.nmem1
                    have hB343 := hw338.blk hB266 hA17.symm.nmem1
                    have hB344 := hw338.blk hB267 hzr.nmem1
                    refine wl_nil (ae_next (.inl hE341) ?_)
                    refine ae_take 20 rfl (by kernel_rfl) (by kernel_rfl) (by kernel_rfl) rfl (fun _ hS => ex_shlN (m := (get (unpk bs) qq (64 - ff.l - ff.r)).1) (n := ff.r) rfl rfl (by first | rfl | omega) (by first | rfl | omega) (by first | exact Nat.le_of_ble_eq_true rfl | (simp only [IntKind.bits]; omega)) rfl) hE341 ?_
                    rw [show (2 : Nat) ^ IntKind.u64.bits = 18446744073709551616 from rfl]
                    refine ae_take 21 rfl (by kernel_rfl) (by kernel_rfl) (by kernel_rfl) rfl (fun _ hS => ex_xorN (m := z.b) (n := ((get (unpk bs) qq (64 - ff.l - ff.r)).1 * 2 ^ ff.r % 18446744073709551616)) rfl rfl (by rfl) (by rfl) rfl (hz.b) (Nat.mod_lt _ (by decide))) hE341 ?_
                    refine ae_take 22 rfl (by kernel_rfl) (by kernel_rfl) (by kernel_rfl) rfl (fun _ hS => ex_nilCheck rfl) hE341 ?_
                    refine ae_take 23 rfl (by kernel_rfl) (by kernel_rfl) (by kernel_rfl) rfl (fun _ hS => ex_fieldAddr rfl Tryd.fld74_3) hE341 ?_
                    refine ae_loud [24] (by kernel_rfl) rfl ⟨?_, trivial⟩
                    refine a_step rfl ?_
                    refine wl_store1 rfl rfl (by first | rfl | assumption) Tryd.size72 hB344 rfl fun w345 hB346 hw347 => ?_
                    have hE348 := hE339.step hw347 (fun y hy => .inl (by simp at hy; simp [hy]))
                    have hE349 := hE340.step hw347 (fun y hy => .inl (by simp at hy; simp [hy]))
                    have hE350 := hE341.step hw347 (fun y hy => .inl (by simp at hy; simp [hy]))
                    have hB351 := hw347.blk hB342 hA7.symm.nmem1
                    have hB352 := hw347.blk hB343 hA18.symm.nmem1
                    have hB353 := hw347.blk hR9 hzr.symm.nmem1
                    try simp only [List.setIfInBounds_toArray, List.set_cons_zero, List.set_cons_succ, Nat.reduceAdd, Nat.zero_add, Nat.add_zero] at hB346
                    refine wl_nil (ae_next (.inl hE350) ?_)
                    refine ae_done (by kernel_rfl) (nrm_then ?_)
                    refine cw_exit (ex_here (nrm_same ?_))
                    refine ⟨(z.b ^^^ ((get (unpk bs) qq (64 - ff.l - ff.r)).1 * 2 ^ ff.r % 18446744073709551616), ff, (get (unpk bs) qq (64 - ff.l - ff.r)).2), trivial, ⟨rfl, rfl, rfl, rfl, trivial⟩, hE349, ?_⟩
                    exact ⟨hB346, hB353, hJ2 (by simpa using hc111) rfl rfl, xor_lt hz.b (Nat.mod_lt _ (by decide))⟩
                · skip
                  refine a_step rfl ?_
                  refine wl_val rfl (ex_load1 rfl Tryd.agg3 (cell_nth hB267 rfl)) ?_
                  refine wl_nil (ae_next (.inl (Evo.refl [bz, br] w261)) ?_)
                  refine ae_loud [8] (by kernel_rfl) rfl ⟨?_, trivial⟩
                  refine a_step rfl ?_
                  refine wl_val rfl (ex_load1 rfl Tryd.agg3 (cell_nth hB267 rfl)) ?_
                  refine wl_nil (ae_next (.inl (Evo.refl [bz, br] w261)) ?_)
                  refine ae_take 9 rfl (by kernel_rfl) (by kernel_rfl) (by kernel_rfl) rfl (fun _ hS => ex_sub_i64 rfl rfl (by omega) (by omega)) (Evo.refl [bz, br] w261) ?_
                  refine ae_take 14 rfl (by kernel_rfl) (by kernel_rfl) (by kernel_rfl) rfl (fun _ hS => ex_sub_i64 rfl rfl (by omega) (by omega)) (Evo.refl [bz, br] w261) ?_
                  rw [show ((64 : Int) - (ff.l : Nat) - (ff.r : Nat)) = ((64 - ff.l - ff.r : Nat) : Int) by omega]
                  refine ae_loud [15] (by kernel_rfl) rfl ⟨?_, trivial⟩
                  refine a_step rfl ?_
                  refine wl_call1 (vs := [_, _]) Tryd.goes34 rfl (get_ok hB268 (RSl.evo RB.pers ((hE263).mono hmX) hs) hx hl hqa (64 - ff.l - ff.r) (by omega)) rfl ?_
                  rintro _ w354 ⟨rfl, hR9, hw355⟩
                  have hE356 := hE263.step hw355 (fun y hy => .inl (by simp at hy; simp [hy]))
                  have hE357 := hE264.step hw355 (fun y hy => .inl (by simp at hy; simp [hy]))
                  have hE358 := (Evo.refl [bz, br] w261).step hw355 (fun y hy => .inl (by simp at hy; simp [hy]))
                  have hB359 := hw355.blk hB265 hA6.symm.nmem1
                  have hB360 := hw355.blk hB266 hA17.symm.nmem1
                  have hB361 := hw355.blk hB267 hzr.nmem1
                  refine wl_nil (ae_next (.inl hE358) ?_)
                  refine ae_take 20 rfl (by kernel_rfl) (by kernel_rfl) (by kernel_rfl) rfl (fun _ hS => ex_shlN (m := (get (unpk bs) qq (64 - ff.l - ff.r)).1) (n := ff.r) rfl rfl (by first | rfl | omega) (by first | rfl | omega) (by first | exact Nat.le_of_ble_eq_true rfl | (simp only [IntKind.bits]; omega)) rfl) hE358 ?_
                  rw [show (2 : Nat) ^ IntKind.u64.bits = 18446744073709551616 from rfl]
                  refine ae_take 21 rfl (by kernel_rfl) (by kernel_rfl) (by kernel_rfl) rfl (fun _ hS => ex_xorN (m := z.b) (n := ((get (unpk bs) qq (64 - ff.l - ff.r)).1 * 2 ^ ff.r % 18446744073709551616)) rfl rfl (by rfl) (by rfl) rfl (hz.b) (Nat.mod_lt _ (by decide))) hE358 ?_
                  refine ae_take 22 rfl (by kernel_rfl) (by kernel_rfl) (by kernel_rfl) rfl (fun _ hS => ex_nilCheck rfl) hE358 ?_
                  refine ae_take 23 rfl (by kernel_rfl) (by kernel_rfl) (by kernel_rfl) rfl (fun _ hS => ex_fieldAddr rfl Tryd.fld74_3) hE358 ?_
                  refine ae_loud [24] (by kernel_rfl) rfl ⟨?_, trivial⟩
                  refine a_step rfl ?_
                  refine wl_store1 rfl rfl (by first | rfl | assumption) Tryd.size72 hB361 rfl fun w362 hB363 hw364 => ?_
                  have hE365 := hE356.step hw364 (fun y hy => .inl (by simp at hy; simp [hy]))
                  have hE366 := hE357.step hw364 (fun y hy => .inl (by simp at hy; simp [hy]))
                  have hE367 := hE358.step hw364 (fun y hy => .inl (by simp at hy; simp [hy]))
                  have hB368 := hw364.blk hB359 hA7.symm.nmem1
                  have hB369 := hw364.blk hB360 hA18.symm.nmem1
                  have hB370 := hw364.blk hR9 hzr.symm.nmem1
                  try simp only [List.setIfInBounds_toArray, List.set_cons_zero, List.set_cons_succ, Nat.reduceAdd, Nat.zero_add, Nat.add_zero] at hB363
                  refine wl_nil (ae_next (.inl hE367) ?_)
                  refine ae_done (by kernel_rfl) (nrm_then ?_)
                  refine cw_exit (ex_here (nrm_same ?_))
                  refine ⟨(z.b ^^^ ((get (unpk bs) qq (64 - ff.l - ff.r)).1 * 2 ^ ff.r % 18446744073709551616), ff, (get (unpk bs) qq (64 - ff.l - ff.r)).2), trivial, ⟨rfl, rfl, rfl, rfl, trivial⟩, hE366, ?_⟩
                  exact ⟨hB363, hB370, hJ2 (by simpa using hc111) rfl rfl, xor_lt hz.b (Nat.mod_lt _ (by decide))⟩
              · skip
                refine a_step rfl ?_
                refine wl_val rfl (ex_load1 rfl Tryd.agg3 (cell_nth hB267 rfl)) ?_
                refine wl_nil (ae_next (.inl (Evo.refl [bz, br] w261)) ?_)
                refine ae_loud [8, 13] (by kernel_rfl) rfl ⟨?_, ?_, trivial⟩
                · skip
                  refine a_step rfl ?_
                  refine wl_val rfl (ex_load1 rfl Tryd.agg3 (cell_nth hB267 rfl)) ?_
                  refine wl_nil (ae_next (.inl (Evo.refl [bz, br] w261)) ?_)
                  refine ae_take 9 rfl (by kernel_rfl) (by kernel_rfl) (by kernel_rfl) rfl (fun _ hS => ex_sub_i64 rfl rfl (by omega) (by omega)) (Evo.refl [bz, br] w261) ?_
                  refine ae_loud [13] (by kernel_rfl) rfl ⟨?_, trivial⟩
                  refine a_step rfl ?_
                  refine wl_val rfl (ex_load1 rfl Tryd.agg3 (cell_nth hB267 rfl)) ?_
                  refine wl_nil (ae_next (.inl (Evo.refl [bz, br] w261)) ?_)
                  refine ae_take 14 rfl (by kernel_rfl) (by kernel_rfl) (by kernel_rfl) rfl (fun _ hS => ex_sub_i64 rfl rfl (by omega) (by omega)) (Evo.refl [bz, br] w261) ?_
                  rw [show ((64 : Int) - (ff.l : Nat) - (ff.r : Nat)) = ((64 - ff.l - ff.r : Nat) : Int) by omega]
                  refine ae_loud [15] (by kernel_rfl) rfl ⟨?_, trivial⟩
                  refine a_step rfl ?_
                  refine wl_call1 (vs := [_, _]) Tryd.goes34 rfl (get_ok hB268 (RSl.evo RB.pers ((hE263).mono hmX) hs) hx hl hqa (64 - ff.l - ff.r) (by omega)) rfl ?_
                  rintro _ w371 ⟨rfl, hR9, hw372⟩
                  have hE373 := hE263.step hw372 (fun y hy => .inl (by simp at hy; simp [hy]))
                  have hE374 := hE264.step hw372 (fun y hy => .inl (by simp at hy; simp [hy]))
                  have hE375 := (Evo.refl [bz, br] w261).step hw372 (fun y hy => .inl (by simp at hy; simp [hy]))
                  have hB376 := hw372.blk hB265 hA6.symm.nmem1
                  have hB377 := hw372.blk hB266 hA17.symm.nmem1
                  have hB378 := hw372.blk hB267 hzr.nmem1
                  refine wl_nil (ae_next (.inl hE375) ?_)
                  refine ae_take 20 rfl (by kernel_rfl) (by kernel_rfl) (by kernel_rfl) rfl (fun _ hS => ex_shlN (m := (get (unpk bs) qq (64 - ff.l - ff.r)).1) (n := ff.r) rfl rfl (by first | rfl | omega) (by first | rfl | omega) (by first | exact Nat.le_of_ble_eq_true rfl | (simp only [IntKind.bits]; omega)) rfl) hE375 ?_
                  rw [show (2 : Nat) ^ IntKind.u64.bits = 18446744073709551616 from rfl]
                  refine ae_take 21 rfl (by kernel_rfl) (by kernel_rfl) (by kernel_rfl) rfl (fun _ hS => ex_xorN (m := z.b) (n := ((get (unpk bs) qq (64 - ff.l - ff.r)).1 * 2 ^ ff.r % 18446744073709551616)) rfl rfl (by rfl) (by rfl) rfl (hz.b) (Nat.mod_lt _ (by decide))) hE375 ?_
                  refine ae_take 22 rfl (by kernel_rfl) (by kernel_rfl) (by kernel_rfl) rfl (fun _ hS => ex_nilCheck rfl) hE375 ?_
                  refine ae_take 23 rfl (by kernel_rfl) (by kernel_rfl) (by kernel_rfl) rfl (fun _ hS => ex_fieldAddr rfl Tryd.fld74_3) hE375 ?_
                  refine ae_loud [24] (by kernel_rfl) rfl ⟨?_, trivial⟩
                  refine a_step rfl ?_
                  refine wl_store1 rfl rfl (by first | rfl | assumption) Tryd.size72 hB378 rfl fun w379 hB380 hw381 => ?_
                  have hE382 := hE373.step hw381 (fun y hy => .inl (by simp at hy; simp [hy]))
                  have hE383 := hE374.step hw381 (fun y hy => .inl (by simp at hy; simp [hy]))
                  have hE384 := hE375.step hw381 (fun y hy => .inl (by simp at hy; simp [hy]))
                  have hB385 := hw381.blk hB376 hA7.symm.nmem1
                  have hB386 := hw381.blk hB377 hA18.symm.nmem1
                  have hB387 := hw381.blk hR9 hzr.symm.nmem1
                  try simp only [List.setIfInBounds_toArray, List.set_cons_zero, List.set_cons_succ, Nat.reduceAdd, Nat.zero_add, Nat.add_zero] at hB380
                  refine wl_nil (ae_next (.inl hE384) ?_)
                  refine ae_done (by kernel_rfl) (nrm_then ?_)
                  refine cw_exit (ex_here (nrm_same ?_))
                  refine ⟨(z.b ^^^ ((get (unpk bs) qq (64 - ff.l - ff.r)).1 * 2 ^ ff.r % 18446744073709551616), ff, (get (unpk bs) qq (64 - ff.l - ff.r)).2), trivial, ⟨rfl, rfl, rfl, rfl, trivial⟩, hE383, ?_⟩
                  exact ⟨hB380, hB387, hJ2 (by simpa using hc111) rfl rfl, xor_lt hz.b (Nat.mod_lt _ (by decide))⟩
                · skip
                  refine a_step rfl ?_
                  refine wl_val rfl (ex_load1 rfl Tryd.agg3 (cell_nth hB267 rfl)) ?_
                  refine wl_nil (ae_next (.inl (Evo.refl [bz, br] w261)) ?_)
                  refine ae_loud [8] (by kernel_rfl) rfl ⟨?_, trivial⟩
                  refine a_step rfl ?_
                  refine wl_val rfl (ex_load1 rfl Tryd.agg3 (cell_nth hB267 rfl)) ?_
                  refine wl_nil (ae_next (.inl (Evo.refl [bz, br] w261)) ?_)
                  refine ae_take 9 rfl (by kernel_rfl) (by kernel_rfl) (by kernel_rfl) rfl (fun _ hS => ex_sub_i64 rfl rfl (by omega) (by omega)) (Evo.refl [bz, br] w261) ?_
                  refine ae_take 14 rfl (by kernel_rfl) (by kernel_rfl) (by kernel_rfl) rfl (fun _ hS => ex_sub_i64 rfl rfl (by omega) (by omega)) (Evo.refl [bz, br] w261) ?_
                  rw [show ((64 : Int) - (ff.l : Nat) - (ff.r : Nat)) = ((64 - ff.l - ff.r : Nat) : Int) by omega]
                  refine ae_loud [15] (by kernel_rfl) rfl ⟨?_, trivial⟩
                  refine a_step rfl ?_
                  refine wl_call1 (vs := [_, _]) Tryd.goes34 rfl (get_ok hB268 (RSl.evo RB.pers ((hE263).mono hmX) hs) hx hl hqa (64 - ff.l - ff.r) (by omega)) rfl ?_
                  rintro _ w388 ⟨rfl, hR9, hw389⟩
                  have hE390 := hE263.step hw389 (fun y hy => .inl (by simp at hy; simp [hy]))
                  have hE391 := hE264.step hw389 (fun y hy => .inl (by simp at hy; simp [hy]))
                  have hE392 := (Evo.refl [bz, br] w261).step hw389 (fun y hy => .inl (by simp at hy; simp [hy]))
                  have hB393 := hw389.blk hB265 hA6.symm.nmem1
                  have hB394 := hw389.blk hB266 hA17.symm.nmem1
                  have hB395 := hw389.blk hB267 hzr.nmem1
                  refine wl_nil (ae_next (.inl hE392) ?_)
                  refine ae_take 20 rfl (by kernel_rfl) (by kernel_rfl) (by kernel_rfl) rfl (fun _ hS => ex_shlN (m := (get (unpk bs) qq (64 - ff.l - ff.r)).1) (n := ff.r) rfl rfl (by first | rfl | omega) (by first | rfl | omega) (by first | exact Nat.le_of_ble_eq_true rfl | (simp only [IntKind.bits]; omega)) rfl) hE392 ?_
                  rw [show (2 : Nat) ^ IntKind.u64.bits = 18446744073709551616 from rfl]
                  refine ae_take 21 rfl (by kernel_rfl) (by kernel_rfl) (by kernel_rfl) rfl (fun _ hS => ex_xorN (m := z.b) (n := ((get (unpk bs) qq (64 - ff.l - ff.r)).1 * 2 ^ ff.r % 18446744073709551616)) rfl rfl (by rfl) (by rfl) rfl (hz.b) (Nat.mod_lt _ (by decide))) hE392 ?_
                  refine ae_take 22 rfl (by kernel_rfl) (by kernel_rfl) (by kernel_rfl) rfl (fun _ hS => ex_nilCheck rfl) hE392 ?_
                  refine ae_take 23 rfl (by kernel_rfl) (by kernel_rfl) (by kernel_rfl) rfl (fun _ hS => ex_fieldAddr rfl Tryd.fld74_3) hE392 ?_
                  refine ae_loud [24] (by kernel_rfl) rfl ⟨?_, trivial⟩
                  refine a_step rfl ?_
                  refine wl_store1 rfl rfl (by first | rfl | assumption) Tryd.size72 hB395 rfl fun w396 hB397 hw398 => ?_
                  have hE399 := hE390.step hw398 (fun y hy => .inl (by simp at hy; simp [hy]))
                  have hE400 := hE391.step hw398 (fun y hy => .inl (by simp at hy; simp [hy]))
                  have hE401 := hE392.step hw398 (fun y hy => .inl (by simp at hy; simp [hy]))
                  have hB402 := hw398.blk hB393 hA7.symm.nmem1
                  have hB403 := hw398.blk hB394 hA18.symm.nmem1
                  have hB404 := hw398.blk hR9 hzr.symm.nmem1
                  try simp only [List.setIfInBounds_toArray, List.set_cons_zero, List.set_cons_succ, Nat.reduceAdd, Nat.zero_add, Nat.add_zero] at hB397
                  refine wl_nil (ae_next (.inl hE401) ?_)
                  refine ae_done (by kernel_rfl) (nrm_then ?_)
                  refine cw_exit (ex_here (nrm_same ?_))
                  refine ⟨(z.b ^^^ ((get (unpk bs) qq (64 - ff.l - ff.r)).1 * 2 ^ ff.r % 18446744073709551616), ff, (get (unpk bs) qq (64 - ff.l - ff.r)).2), trivial, ⟨rfl, rfl, rfl, rfl, trivial⟩, hE400, ?_⟩
                  exact ⟨hB397, hB404, hJ2 (by simpa using hc111) rfl rfl, xor_lt hz.b (Nat.mod_lt _ (by decide))⟩
            · skip
              refine a_step rfl ?_
              refine wl_val rfl (ex_load1 rfl Tryd.agg3 (cell_nth hB267 rfl)) ?_
              refine wl_nil (ae_next (.inl (Evo.refl [bz, br] w261)) ?_)
              refine ae_take 9 rfl (by kernel_rfl) (by kernel_rfl) (by kernel_rfl) rfl (fun _ hS => ex_sub_i64 rfl rfl (by omega) (by omega)) (Evo.refl [bz, br] w261) ?_
              refine ae_loud [3, 13, 19] (by kernel_rfl) rfl ⟨?_, ?_, ?_, trivial⟩
              · skip
                refine a_step rfl ?_
                refine wl_val rfl (ex_load1 rfl Tryd.agg72 (cell_nth hB267 rfl)) ?_
                refine wl_nil (ae_next (.inl (Evo.refl [bz, br] w261)) ?_)
                refine ae_loud [13, 19] (by kernel_rfl) rfl ⟨?_, ?_, trivial⟩
                · skip
                  refine a_step rfl ?_
                  refine wl_val rfl (ex_load1 rfl Tryd.agg3 (cell_nth hB267 rfl)) ?_
                  refine wl_nil (ae_next (.inl (Evo.refl [bz, br] w261)) ?_)
                  refine ae_take 14 rfl (by kernel_rfl) (by kernel_rfl) (by kernel_rfl) rfl (fun _ hS => ex_sub_i64 rfl rfl (by omega) (by omega)) (Evo.refl [bz, br] w261) ?_
                  rw [show ((64 : Int) - (ff.l : Nat) - (ff.r : Nat)) = ((64 - ff.l - ff.r : Nat) : Int) by omega]
                  refine ae_loud [15, 19] (by kernel_rfl) rfl ⟨?_, ?_, trivial⟩
                  · skip
                    refine a_step rfl ?_
                    refine wl_call1 (vs := [_, _]) Tryd.goes34 rfl (get_ok hB268 (RSl.evo RB.pers ((hE263).mono hmX) hs) hx hl hqa (64 - ff.l - ff.r) (by omega)) rfl ?_
                    rintro _ w405 ⟨rfl, hR9, hw406⟩
                    have hE407 := hE263.step hw406 (fun y hy => .inl (by simp at hy; simp [hy]))
                    have hE408 := hE264.step hw406 (fun y hy => .inl (by simp at hy; simp [hy]))
                    have hE409 := (Evo.refl [bz, br] w261).step hw406 (fun y hy => .inl (by simp at hy; simp [hy]))
                    have hB410 := hw406.blk hB265 hA6.symm.nmem1
                    have hB411 := hw406.blk hB266 hA17.symm.nmem1
                    have hB412 := hw406.blk hB267 hzr.nmem1
                    refine wl_nil (ae_next (.inl hE409) ?_)
                    refine ae_loud [19] (by kernel_rfl) rfl ⟨?_, trivial⟩
                    refine a_step rfl ?_
                    refine wl_val rfl (ex_load1 rfl Tryd.agg3 (cell_nth hB412 rfl)) ?_
                    refine wl_nil (ae_next (.inl hE409) ?_)
                    refine ae_take 20 rfl (by kernel_rfl) (by kernel_rfl) (by kernel_rfl) rfl (fun _ hS => ex_shlN (m := (get (unpk bs) qq (64 - ff.l - ff.r)).1) (n := ff.r) rfl rfl (by first | rfl | omega) (by first | rfl | omega) (by first | exact Nat.le_of_ble_eq_true rfl | (simp only [IntKind.bits]; omega)) rfl) hE409 ?_
                    rw [show (2 : Nat) ^ IntKind.u64.bits = 18446744073709551616 from rfl]
                    refine ae_take 21 rfl (by kernel_rfl) (by kernel_rfl) (by kernel_rfl) rfl (fun _ hS => ex_xorN (m := z.b) (n := ((get (unpk bs) qq (64 - ff.l - ff.r)).1 * 2 ^ ff.r % 18446744073709551616)) rfl rfl (by rfl) (by rfl) rfl (hz.b) (Nat.mod_lt _ (by decide))) hE409 ?_
                    refine ae_take 22 rfl (by kernel_rfl) (by kernel_rfl) (by kernel_rfl) rfl (fun _ hS => ex_nilCheck rfl) hE409 ?_
                    refine ae_take 23 rfl (by kernel_rfl) (by kernel_rfl) (by kernel_rfl) rfl (fun _ hS => ex_fieldAddr rfl Tryd.fld74_3) hE409 ?_
                    refine ae_loud [24] (by kernel_rfl) rfl ⟨?_, trivial⟩
                    refine a_step rfl ?_
                    refine wl_store1 rfl rfl (by first | rfl | assumption) Tryd.size72 hB412 rfl fun w413 hB414 hw415 => ?_
                    have hE416 := hE407.step hw415 (fun y hy => .inl (by simp at hy; simp [hy]))
                    have hE417 := hE408.step hw415 (fun y hy => .inl (by simp at hy; simp [hy]))
                    have hE418 := hE409.step hw415 (fun y hy => .inl (by simp at hy; simp [hy]))
                    have hB419 := hw415.blk hB410 hA7.symm.nmem1
                    have hB420 := hw415.blk hB411 hA18.symm.nmem1
                    have hB421 := hw415.blk hR9 hzr.symm.nmem1
                    try simp only [List.setIfInBounds_toArray, List.set_cons_zero, List.set_cons_succ, Nat.reduceAdd, Nat.zero_add, Nat.add_zero] at hB414
                    refine wl_nil (ae_next (.inl hE418) ?_)
                    refine ae_done (by kernel_rfl) (nrm_then ?_)
                    refine cw_exit (ex_here (nrm_same ?_))
                    refine ⟨(z.b ^^^ ((get (unpk bs) qq (64 - ff.l - ff.r)).1 * 2 ^ ff.r % 18446744073709551616), ff, (get (unpk bs) qq (64 - ff.l - ff.r)).2), trivial, ⟨rfl, rfl, rfl, rfl, trivial⟩, hE417, ?_⟩
                    exact ⟨hB414, hB421, hJ2 (by simpa using hc111) rfl rfl, xor_lt hz.b (Nat.mod_lt _ (by decide))⟩
                  · skip
                    refine a_step rfl ?_
                    refine wl_val rfl (ex_load1 rfl Tryd.agg3 (cell_nth hB267 rfl)) ?_
                    refine wl_nil (ae_next (.inl (Evo.refl [bz, br] w261)) ?_)
                    refine ae_loud [15] (by kernel_rfl) rfl ⟨?_, trivial⟩
                    refine a_step rfl ?_
                    refine wl_call1 (vs := [_, _]) Tryd.goes34 rfl (get_ok hB268 (RSl.evo RB.pers ((hE263).mono hmX) hs) hx hl hqa (64 - ff.l - ff.r) (by omega)) rfl ?_
                    rintro _ w422 ⟨rfl, hR9, hw423⟩
                    have hE424 := hE263.step hw423 (fun y hy => .inl (by simp at hy; simp [hy]))
                    have hE425 := hE264.step hw423 (fun y hy => .inl (by simp at hy; simp [hy]))
                    have hE426 := (Evo.refl [bz, br] w261).step hw423 (fun y hy => .inl (by simp at hy; simp [hy]))
                    have hB427 := hw423.blk hB265 hA6.symm.nmem1
                    have hB428 := hw423.blk hB266 hA17.symm.nmem1
                    have hB429 := hw423.blk hB267 hzr.nmem1
                    refine wl_nil (ae_next (.inl hE426) ?_)
                    refine ae_take 20 rfl (by kernel_rfl) (by kernel_rfl) (by kernel_rfl) rfl (fun _ hS => ex_shlN (m := (get (unpk bs) qq (64 - ff.l - ff.r)).1) (n := ff.r) rfl rfl (by first | rfl | omega) (by first | rfl | omega) (by first | exact Nat.le_of_ble_eq_true rfl | (simp only [IntKind.bits]; omega)) rfl) hE426 ?_
                    rw [show (2 : Nat) ^ IntKind.u64.bits = 18446744073709551616 from rfl]
                    refine ae_take 21 rfl (by kernel_rfl) (by kernel_rfl) (by kernel_rfl) rfl (fun _ hS => ex_xorN (m := z.b) (n := ((get (unpk bs) qq (64 - ff.l - ff.r)).1 * 2 ^ ff.r % 18446744073709551616)) rfl rfl (by rfl) (by rfl) rfl (hz.b) (Nat.mod_lt _ (by decide))) hE426 ?_
                    refine ae_take 22 rfl (by kernel_rfl) (by kernel_rfl) (by kernel_rfl) rfl (fun _ hS => ex_nilCheck rfl) hE426 ?_
                    refine ae_take 23 rfl (by kernel_rfl) (by kernel_rfl) (by kernel_rfl) rfl (fun _ hS => ex_fieldAddr rfl Tryd.fld74_3) hE426 ?_
                    refine ae_loud [24] (by kernel_rfl) rfl ⟨?_, trivial⟩
                    refine a_step rfl ?_
                    refine wl_store1 rfl rfl (by first | rfl | assumption) Tryd.size72 hB429 rfl fun w430 hB431 hw432 => ?_
                    have hE433 := hE424.step hw432 (fun y hy => .inl (by simp at hy; simp [hy]))
                    have hE434 := hE425.step hw432 (fun y hy => .inl (by simp at hy; simp [hy]))
                    have hE435 := hE426.step hw432 (fun y hy => .inl (by simp at hy; simp [hy]))
                    have hB436 := hw432.blk hB427 hA7.symm.nmem1
                    have hB437 := hw432.blk hB428 hA18.symm.nmem1
                    have hB438 := hw432.blk hR9 hzr.symm.nmem1
                    try simp only [List.setIfInBounds_toArray, List.set_cons_zero, List.set_cons_succ, Nat.reduceAdd, Nat.zero_add, Nat.add_zero] at hB431
                    refine wl_nil (ae_next (.inl hE435) ?_)
                    refine ae_done (by kernel_rfl) (nrm_then ?_)
                    refine cw_exit (ex_here (nrm_same ?_))
                    refine ⟨(z.b ^^^ ((get (unpk bs) qq (64 - ff.l - ff.r)).1 * 2 ^ ff.r % 18446744073709551616), ff, (get (unpk bs) qq (64 - ff.l - ff.r)).2), trivial, ⟨rfl, rfl, rfl, rfl, trivial⟩, hE434, ?_⟩
                    exact ⟨hB431, hB438, hJ2 (by simpa using hc111) rfl rfl, xor_lt hz.b (Nat.mod_lt _ (by decide))⟩
                · skip
                  refine a_step rfl ?_
                  refine wl_val rfl (ex_load1 rfl Tryd.agg3 (cell_nth hB267 rfl)) ?_
                  refine wl_nil (ae_next (.inl (Evo.refl [bz, br] w261)) ?_)
                  refine ae_loud [13] (by kernel_rfl) rfl ⟨?_, trivial⟩
                  refine a_step rfl ?_
                  refine wl_val rfl (ex_load1 rfl Tryd.agg3 (cell_nth hB267 rfl)) ?_
                  refine wl_nil (ae_next (.inl (Evo.refl [bz, br] w261)) ?_)
                  refine ae_take 14 rfl (by kernel_rfl) (by kernel_rfl) (by kernel_rfl) rfl (fun _ hS => ex_sub_i64 rfl rfl (by omega) (by omega)) (Evo.refl [bz, br] w261) ?_
                  rw [show ((64 : Int) - (ff.l : Nat) - (ff.r : Nat)) = ((64 - ff.l - ff.r : Nat) : Int) by omega]
                  refine ae_loud [15] (by kernel_rfl) rfl ⟨?_, trivial⟩
                  refine a_step rfl ?_
                  refine wl_call1 (vs := [_, _]) Tryd.goes34 rfl (get_ok hB268 (RSl.evo RB.pers ((hE263).mono hmX) hs) hx hl hqa (64 - ff.l - ff.r) (by omega)) rfl ?_
                  rintro _ w439 ⟨rfl, hR9, hw440⟩
                  have hE441 := hE263.step hw440 (fun y hy => .inl (by simp at hy; simp [hy]))
                  have hE442 := hE264.step hw440 (fun y hy => .inl (by simp at hy; simp [hy]))
                  have hE443 := (Evo.refl [bz, br] w261).step hw440 (fun y hy => .inl (by simp at hy; simp [hy]))
                  have hB444 := hw440.blk hB265 hA6.symm.nmem1
                  have hB445 := hw440.blk hB266 hA17.symm.nmem1
                  have hB446 := hw440.blk hB267 hzr.nmem1
                  refine wl_nil (ae_next (.inl hE443) ?_)
                  refine ae_take 20 rfl (by kernel_rfl) (by kernel_rfl) (by kernel_rfl) rfl (fun _ hS => ex_shlN (m := (get (unpk bs) qq (64 - ff.l - ff.r)).1) (n := ff.r) rfl rfl (by first | rfl | omega) (by first | rfl | omega) (by first | exact Nat.le_of_ble_eq_true rfl | (simp only [IntKind.bits]; omega)) rfl) hE443 ?_
                  rw [show (2 : Nat) ^ IntKind.u64.bits = 18446744073709551616 from rfl]
                  refine ae_take 21 rfl (by kernel_rfl) (by kernel_rfl) (by kernel_rfl) rfl (fun _ hS => ex_xorN (m := z.b) (n := ((get (unpk bs) qq (64 - ff.l - ff.r)).1 * 2 ^ ff.r % 18446744073709551616)) rfl rfl (by rfl) (by rfl) rfl (hz.b) (Nat.mod_lt _ (by decide))) hE443 ?_
                  refine ae_take 22 rfl (by kernel_rfl) (by kernel_rfl) (by kernel_rfl) rfl (fun _ hS => ex_nilCheck rfl) hE443 ?_
                  refine ae_take 23 rfl (by kernel_rfl) (by kernel_rfl) (by kernel_rfl) rfl (fun _ hS => ex_fieldAddr rfl Tryd.fld74_3) hE443 ?_
                  refine ae_loud [24] (by kernel_rfl) rfl ⟨?_, trivial⟩
                  refine a_step rfl ?_
                  refine wl_store1 rfl rfl (by first | rfl | assumption) Tryd.size72 hB446 rfl fun w447 hB448 hw449 => ?_
                  have hE450 := hE441.step hw449 (fun y hy => .inl (by simp at hy; simp [hy]))
                  have hE451 := hE442.step hw449 (fun y hy => .inl (by simp at hy; simp [hy]))
                  have hE452 := hE443.step hw449 (fun y hy => .inl (by simp at hy; simp [hy]))
                  have hB453 := hw449.blk hB444 hA7.symm.nmem1
                  have hB454 := hw449.blk hB445 hA18.symm.nmem1
                  have hB455 := hw449.blk hR9 hzr.symm.nmem1
                  try simp only [List.setIfInBounds_toArray, List.set_cons_zero, List.set_cons_succ, Nat.reduceAdd, Nat.zero_add, Nat.add_zero] at hB448
                  refine wl_nil (ae_next (.inl hE452) ?_)
                  refine ae_done (by kernel_rfl) (nrm_then ?_)
                  refine cw_exit (ex_here (nrm_same ?_))
                  refine ⟨(z.b ^^^ ((get (unpk bs) qq (64 - ff.l - ff.r)).1 * 2 ^ ff.r % 18446744073709551616), ff, (get (unpk bs) qq (64 - ff.l - ff.r)).2), trivial, ⟨rfl, rfl, rfl, rfl, trivial⟩, hE451, ?_⟩
                  exact ⟨hB448, hB455, hJ2 (by simpa using hc111) rfl rfl, xor_lt hz.b (Nat.mod_lt _ (by decide))⟩
              · skip
                refine a_step rfl ?_
                refine wl_val rfl (ex_load1 rfl Tryd.agg3 (cell_nth hB267 rfl)) ?_
                refine wl_nil (ae_next (.inl (Evo.refl [bz, br] w261)) ?_)
                refine ae_take 14 rfl (by kernel_rfl) (by kernel_rfl) (by kernel_rfl) rfl (fun _ hS => ex_sub_i64 rfl rfl (by omega) (by omega)) (Evo.refl [bz, br] w261) ?_
                rw [show ((64 : Int) - (ff.l : Nat) - (ff.r : Nat)) = ((64 - ff.l - ff.r : Nat) : Int) by omega]
                refine ae_loud [3, 15, 19] (by kernel_rfl) rfl ⟨?_, ?_, ?_, trivial⟩
                · skip
                  refine a_step rfl ?_
                  refine wl_val rfl (ex_load1 rfl Tryd.agg72 (cell_nth hB267 rfl)) ?_
                  refine wl_nil (ae_next (.inl (Evo.refl [bz, br] w261)) ?_)
                  refine ae_loud [15, 19] (by kernel_rfl) rfl ⟨?_, ?_, trivial⟩
                  · skip
                    refine a_step rfl ?_
                    refine wl_call1 (vs := [_, _]) Tryd.goes34 rfl (get_ok hB268 (RSl.evo RB.pers ((hE263).mono hmX) hs) hx hl hqa (64 - ff.l - ff.r) (by omega)) rfl ?_
                    rintro _ w456 ⟨rfl, hR9, hw457⟩
                    have hE458 := hE263.step hw457 (fun y hy => .inl (by simp at hy; simp [hy]))
                    have hE459 := hE264.step hw457 (fun y hy => .inl (by simp at hy; simp [hy]))
                    have hE460 := (Evo.refl [bz, br] w261).step hw457 (fun y hy => .inl (by simp at hy; simp [hy]))
                    have hB461 := hw457.blk hB265 hA6.symm.nmem1
                    have hB462 := hw457.blk hB266 hA17.symm.nmem1
                    have hB463 := hw457.blk hB267 hzr.nmem1
                    refine wl_nil (ae_next (.inl hE460) ?_)
                    refine ae_loud [19] (by kernel_rfl) rfl ⟨?_, trivial⟩
                    refine a_step rfl ?_
                    refine wl_val rfl (ex_load1 rfl Tryd.agg3 (cell_nth hB463 rfl)) ?_
                    refine wl_nil (ae_next (.inl hE460) ?_)
                    refine ae_take 20 rfl (by kernel_rfl) (by kernel_rfl) (by kernel_rfl) rfl (fun _ hS => ex_shlN (m := (get (unpk bs) qq (64 - ff.l - ff.r)).1) (n := ff.r) rfl rfl (by first | rfl | omega) (by first | rfl | omega) (by first | exact Nat.le_of_ble_eq_true rfl | (simp only [IntKind.bits]; omega)) rfl) hE460 ?_
                    rw [show (2 : Nat) ^ IntKind.u64.bits = 18446744073709551616 from rfl]
                    refine ae_take 21 rfl (by kernel_rfl) (by kernel_rfl) (by kernel_rfl) rfl (fun _ hS => ex_xorN (m := z.b) (n := ((get (unpk bs) qq (64 - ff.l - ff.r)).1 * 2 ^ ff.r % 18446744073709551616)) rfl rfl (by rfl) (by rfl) rfl (hz.b) (Nat.mod_lt _ (by decide))) hE460 ?_
                    refine ae_take 22 rfl (by kernel_rfl) (by kernel_rfl) (by kernel_rfl) rfl (fun _ hS => ex_nilCheck rfl) hE460 ?_
                    refine ae_take 23 rfl (by kernel_rfl) (by kernel_rfl) (by kernel_rfl) rfl (fun _ hS => ex_fieldAddr rfl Tryd.fld74_3) hE460 ?_
                    refine ae_loud [24] (by kernel_rfl) rfl ⟨?_, trivial⟩
                    refine a_step rfl ?_
                    refine wl_store1 rfl rfl (by first | rfl | assumption) Tryd.size72 hB463 rfl fun w464 hB465 hw466 => ?_
                    have hE467 := hE458.step hw466 (fun y hy => .inl (by simp at hy; simp [hy]))
                    have hE468 := hE459.step hw466 (fun y hy => .inl (by simp at hy; simp [hy]))
                    have hE469 := hE460.step hw466 (fun y hy => .inl (by simp at hy; simp [hy]))
                    have hB470 := hw466.blk hB461 hA7.symm.nmem1
                    have hB471 := hw466.blk hB462 hA18.symm.nmem1
                    have hB472 := hw466.blk hR9 hzr.symm.nmem1
                    try simp only [List.setIfInBounds_toArray, List.set_cons_zero, List.set_cons_succ, Nat.reduceAdd, Nat.zero_add, Nat.add_zero] at hB465
                    refine wl_nil (ae_next (.inl hE469) ?_)
                    refine ae_done (by kernel_rfl) (nrm_then ?_)
                    refine cw_exit (ex_here (nrm_same ?_))
                    refine ⟨(z.b ^^^ ((get (unpk bs) qq (64 - ff.l - ff.r)).1 * 2 ^ ff.r % 18446744073709551616), ff, (get (unpk bs) qq (64 - ff.l - ff.r)).2), trivial, ⟨rfl, rfl, rfl, rfl, trivial⟩, hE468, ?_⟩
                    exact ⟨hB465, hB472, hJ2 (by simpa using hc111) rfl rfl, xor_lt hz.b (Nat.mod_lt _ (by decide))⟩
                  · skip
                    refine a_step rfl ?_
                    refine wl_val rfl (ex_load1 rfl Tryd.agg3 (cell_nth hB267 rfl)) ?_
                    refine wl_nil (ae_next (.inl (Evo.refl [bz, br] w261)) ?_)
                    refine ae_loud [15] (by kernel_rfl) rfl ⟨?_, trivial⟩
                    refine a_step rfl ?_
                    refine wl_call1 (vs := [_, _]) Tryd.goes34 rfl (get_ok hB268 (RSl.evo RB.pers ((hE263).mono hmX) hs) hx hl hqa (64 - ff.l - ff.r) (by omega)) rfl ?_
                    rintro _ w473 ⟨rfl, hR9, hw474⟩
                    have hE475 := hE263.step hw474 (fun y hy => .inl (by simp at hy; simp [hy]))
                    have hE476 := hE264.step hw474 (fun y hy => .inl (by simp at hy; simp [hy]))
                    have hE477 := (Evo.refl [bz, br] w261).step hw474 (fun y hy => .inl (by simp at hy; simp [hy]))
                    have hB478 := hw474.blk hB265 hA6.symm.nmem1
                    have hB479 := hw474.blk hB266 hA17.symm.nmem1
                    have hB480 := hw474.blk hB267 hzr.nmem1
                    refine wl_nil (ae_next (.inl hE477) ?_)
                    refine ae_take 20 rfl (by kernel_rfl) (by kernel_rfl) (by kernel_rfl) rfl (fun _ hS => ex_shlN (m := (get (unpk bs) qq (64 - ff.l - ff.r)).1) (n := ff.r) rfl rfl (by first | rfl | omega) (by first | rfl | omega) (by first | exact Nat.le_of_ble_eq_true rfl | (simp only [IntKind.bits]; omega)) rfl) hE477 ?_
                    rw [show (2 : Nat) ^ IntKind.u64.bits = 18446744073709551616 from rfl]
                    refine ae_take 21 rfl (by kernel_rfl) (by kernel_rfl) (by kernel_rfl) rfl (fun _ hS => ex_xorN (m := z.b) (n := ((get (unpk bs) qq (64 - ff.l - ff.r)).1 * 2 ^ ff.r % 18446744073709551616)) rfl rfl (by rfl) (by rfl) rfl (hz.b) (Nat.mod_lt _ (by decide))) hE477 ?_
                    refine ae_take 22 rfl (by kernel_rfl) (by kernel_rfl) (by kernel_rfl) rfl (fun _ hS => ex_nilCheck rfl) hE477 ?_
                    refine ae_take 23 rfl (by kernel_rfl) (by kernel_rfl) (by kernel_rfl) rfl (fun _ hS => ex_fieldAddr rfl Tryd.fld74_3) hE477 ?_
                    refine ae_loud [24] (by kernel_rfl) rfl ⟨?_, trivial⟩
                    refine a_step rfl ?_
                    refine wl_store1 rfl rfl (by first | rfl | assumption) Tryd.size72 hB480 rfl fun w481 hB482 hw483 => ?_
                    have hE484 := hE475.step hw483 (fun y hy => .inl (by simp at hy; simp [hy]))
                    have hE485 := hE476.step hw483 (fun y hy => .inl (by simp at hy; simp [hy]))
                    have hE486 := hE477.step hw483 (fun y hy => .inl (by simp at hy; simp [hy]))
                    have hB487 := hw483.blk hB478 hA7.symm.nmem1
                    have hB488 := hw483.blk hB479 hA18.symm.nmem1
                    have hB489 := hw483.blk hR9 hzr.symm.nmem1
                    try simp only [List.setIfInBounds_toArray, List.set_cons_zero, List.set_cons_succ, Nat.reduceAdd, Nat.zero_add, Nat.add_zero] at hB482
                    refine wl_nil (ae_next (.inl hE486) ?_)
                    refine ae_done (by kernel_rfl) (nrm_then ?_)
                    refine cw_exit (ex_here (nrm_same ?_))
                    refine ⟨(z.b ^^^ ((get (unpk bs) qq (64 - ff.l - ff.r)).1 * 2 ^ ff.r % 18446744073709551616), ff, (get (unpk bs) qq (64 - ff.l - ff.r)).2), trivial, ⟨rfl, rfl, rfl, rfl, trivial⟩, hE485, ?_⟩
                    exact ⟨hB482, hB489, hJ2 (by simpa using hc111) rfl rfl, xor_lt hz.b (Nat.mod_lt _ (by decide))⟩
                · skip
                  refine a_step rfl ?_
                  refine wl_call1 (vs := [_, _]) Tryd.goes34 rfl (get_ok hB268 (RSl.evo RB.pers ((hE263).mono hmX) hs) hx hl hqa (64 - ff.l - ff.r) (by omega)) rfl ?_
                  rintro _ w490 ⟨rfl, hR9, hw491⟩
                  have hE492 := hE263.step hw491 (fun y hy => .inl (by simp at hy; simp [hy]))
                  have hE493 := hE264.step hw491 (fun y hy => .inl (by simp at hy; simp [hy]))
                  have hE494 := (Evo.refl [bz, br] w261).step hw491 (fun y hy => .inl (by simp at hy; simp [hy]))
                  have hB495 := hw491.blk hB265 hA6.symm.nmem1
                  have hB496 := hw491.blk hB266 hA17.symm.nmem1
                  have hB497 := hw491.blk hB267 hzr.nmem1
                  refine wl_nil (ae_next (.inl hE494) ?_)
                  refine ae_loud [3, 19] (by kernel_rfl) rfl ⟨?_, ?_, trivial⟩
                  · skip
                    refine a_step rfl ?_
                    refine wl_val rfl (ex_load1 rfl Tryd.agg72 (cell_nth hB497 rfl)) ?_
                    refine wl_nil (ae_next (.inl hE494) ?_)
                    refine ae_loud [19] (by kernel_rfl) rfl ⟨?_, trivial⟩
                    refine a_step rfl ?_
                    refine wl_val rfl (ex_load1 rfl Tryd.agg3 (cell_nth hB497 rfl)) ?_
                    refine wl_nil (ae_next (.inl hE494) ?_)
                    refine ae_take 20 rfl (by kernel_rfl) (by kernel_rfl) (by kernel_rfl) rfl (fun _ hS => ex_shlN (m := (get (unpk bs) qq (64 - ff.l - ff.r)).1) (n := ff.r) rfl rfl (by first | rfl | omega) (by first | rfl | omega) (by first | exact Nat.le_of_ble_eq_true rfl | (simp only [IntKind.bits]; omega)) rfl) hE494 ?_
                    rw [show (2 : Nat) ^ IntKind.u64.bits = 18446744073709551616 from rfl]
                    refine ae_take 21 rfl (by kernel_rfl) (by kernel_rfl) (by kernel_rfl) rfl (fun _ hS => ex_xorN (m := z.b) (n := ((get (unpk bs) qq (64 - ff.l - ff.r)).1 * 2 ^ ff.r % 18446744073709551616)) rfl rfl (by rfl) (by rfl) rfl (hz.b) (Nat.mod_lt _ (by decide))) hE494 ?_
                    refine ae_take 22 rfl (by kernel_rfl) (by kernel_rfl) (by kernel_rfl) rfl (fun _ hS => ex_nilCheck rfl) hE494 ?_
                    refine ae_take 23 rfl (by kernel_rfl) (by kernel_rfl) (by kernel_rfl) rfl (fun _ hS => ex_fieldAddr rfl Tryd.fld74_3) hE494 ?_
                    refine ae_loud [24] (by kernel_rfl) rfl ⟨?_, trivial⟩
                    refine a_step rfl ?_
                    refine wl_store1 rfl rfl (by first | rfl | assumption) Tryd.size72 hB497 rfl fun w498 hB499 hw500 => ?_
                    have hE501 := hE492.step hw500 (fun y hy => .inl (by simp at hy; simp [hy]))
                    have hE502 := hE493.step hw500 (fun y hy => .inl (by simp at hy; simp [hy]))
                    have hE503 := hE494.step hw500 (fun y hy => .inl (by simp at hy; simp [hy]))
                    have hB504 := hw500.blk hB495 hA7.symm.nmem1
                    have hB505 := hw500.blk hB496 hA18.symm.nmem1
                    have hB506 := hw500.blk hR9 hzr.symm.nmem1
                    try simp only [List.setIfInBounds_toArray, List.set_cons_zero, List.set_cons_succ, Nat.reduceAdd, Nat.zero_add, Nat.add_zero] at hB499
                    refine wl_nil (ae_next (.inl hE503) ?_)
                    refine ae_done (by kernel_rfl) (nrm_then ?_)
                    refine cw_exit (ex_here (nrm_same ?_))
                    refine ⟨(z.b ^^^ ((get (unpk bs) qq (64 - ff.l - ff.r)).1 * 2 ^ ff.r % 18446744073709551616), ff, (get (unpk bs) qq (64 - ff.l - ff.r)).2), trivial, ⟨rfl, rfl, rfl, rfl, trivial⟩, hE502, ?_⟩
                    exact ⟨hB499, hB506, hJ2 (by simpa using hc111) rfl rfl, xor_lt hz.b (Nat.mod_lt _ (by decide))⟩
                  · skip
                    refine a_step rfl ?_
                    refine wl_val rfl (ex_load1 rfl Tryd.agg3 (cell_nth hB497 rfl)) ?_
                    refine wl_nil (ae_next (.inl hE494) ?_)
                    refine ae_take 20 rfl (by kernel_rfl) (by kernel_rfl) (by kernel_rfl) rfl (fun _ hS => ex_shlN (m := (get (unpk bs) qq (64 - ff.l - ff.r)).1) (n := ff.r) rfl rfl (by first | rfl | omega) (by first | rfl | omega) (by first | exact Nat.le_of_ble_eq_true rfl | (simp only [IntKind.bits]; omega)) rfl) hE494 ?_
                    rw [show (2 : Nat) ^ IntKind.u64.bits = 18446744073709551616 from rfl]
                    refine ae_loud [3] (by kernel_rfl) rfl ⟨?_, trivial⟩
                    refine a_step rfl ?_
                    refine wl_val rfl (ex_load1 rfl Tryd.agg72 (cell_nth hB497 rfl)) ?_
                    refine wl_nil (ae_next (.inl hE494) ?_)
                    refine ae_take 21 rfl (by kernel_rfl) (by kernel_rfl) (by kernel_rfl) rfl (fun _ hS => ex_xorN (m := z.b) (n := ((get (unpk bs) qq (64 - ff.l - ff.r)).1 * 2 ^ ff.r % 18446744073709551616)) rfl rfl (by rfl) (by rfl) rfl (hz.b) (Nat.mod_lt _ (by decide))) hE494 ?_
                    refine ae_take 22 rfl (by kernel_rfl) (by kernel_rfl) (by kernel_rfl) rfl (fun _ hS => ex_nilCheck rfl) hE494 ?_
                    refine ae_take 23 rfl (by kernel_rfl) (by kernel_rfl) (by kernel_rfl) rfl (fun _ hS => ex_fieldAddr rfl Tryd.fld74_3) hE494 ?_
                    refine ae_loud [24] (by kernel_rfl) rfl ⟨?_, trivial⟩
                    refine a_step rfl ?_
                    refine wl_store1 rfl rfl (by first | rfl | assumption) Tryd.size72 hB497 rfl fun w507 hB508 hw509 => ?_
                    have hE510 := hE492.step hw509 (fun y hy => .inl (by simp at hy; simp [hy]))
                    have hE511 := hE493.step hw509 (fun y hy => .inl (by simp at hy; simp [hy]))
                    have hE512 := hE494.step hw509 (fun y hy => .inl (by simp at hy; simp [hy]))
                    have hB513 := hw509.blk hB495 hA7.symm.nmem1
                    have hB514 := hw509.blk hB496 hA18.symm.nmem1
                    have hB515 := hw509.blk hR9 hzr.symm.nmem1
                    try simp only [List.setIfInBounds_toArray, List.set_cons_zero, List.set_cons_succ, Nat.reduceAdd, Nat.zero_add, Nat.add_zero] at hB508
                    refine wl_nil (ae_next (.inl hE512) ?_)
                    refine ae_done (by kernel_rfl) (nrm_then ?_)
                    refine cw_exit (ex_here (nrm_same ?_))
                    refine ⟨(z.b ^^^ ((get (unpk bs) qq (64 - ff.l - ff.r)).1 * 2 ^ ff.r % 18446744073709551616), ff, (get (unpk bs) qq (64 - ff.l - ff.r)).2), trivial, ⟨rfl, rfl, rfl, rfl, trivial⟩, hE511, ?_⟩
                    exact ⟨hB508, hB515, hJ2 (by simpa using hc111) rfl rfl, xor_lt hz.b (Nat.mod_lt _ (by decide))⟩
                · skip
                  refine a_step rfl ?_
                  refine wl_val rfl (ex_load1 rfl Tryd.agg3 (cell_nth hB267 rfl)) ?_
                  refine wl_nil (ae_next (.inl (Evo.refl [bz, br] w261)) ?_)
                  refine ae_loud [3, 15] (by kernel_rfl) rfl ⟨?_, ?_, trivial⟩
                  · skip
                    refine a_step rfl ?_
                    refine wl_val rfl (ex_load1 rfl Tryd.agg72 (cell_nth hB267 rfl)) ?_
                    refine wl_nil (ae_next (.inl (Evo.refl [bz, br] w261)) ?_)
                    refine ae_loud [15] (by kernel_rfl) rfl ⟨?_, trivial⟩
                    refine a_step rfl ?_
                    refine wl_call1 (vs := [_, _]) Tryd.goes34 rfl (get_ok hB268 (RSl.evo RB.pers ((hE263).mono hmX) hs) hx hl hqa (64 - ff.l - ff.r) (by omega)) rfl ?_
                    rintro _ w516 ⟨rfl, hR9, hw517⟩
                    have hE518 := hE263.step hw517 (fun y hy => .inl (by simp at hy; simp [hy]))
                    have hE519 := hE264.step hw517 (fun y hy => .inl (by simp at hy; simp [hy]))
                    have hE520 := (Evo.refl [bz, br] w261).step hw517 (fun y hy => .inl (by simp at hy; simp [hy]))
                    have hB521 := hw517.blk hB265 hA6.symm.nmem1
                    have hB522 := hw517.blk hB266 hA17.symm.nmem1
                    have hB523 := hw517.blk hB267 hzr.nmem1
                    refine wl_nil (ae_next (.inl hE520) ?_)
                    refine ae_take 20 rfl (by kernel_rfl) (by kernel_rfl) (by kernel_rfl) rfl (fun _ hS => ex_shlN (m := (get (unpk bs) qq (64 - ff.l - ff.r)).1) (n := ff.r) rfl rfl (by first | rfl | omega) (by first | rfl | omega) (by first | exact Nat.le_of_ble_eq_true rfl | (simp only [IntKind.bits]; omega)) rfl) hE520 ?_
                    rw [show (2 : Nat) ^ IntKind.u64.bits = 18446744073709551616 from rfl]
                    refine ae_take 21 rfl (by kernel_rfl) (by kernel_rfl) (by kernel_rfl) rfl (fun _ hS => ex_xorN (m := z.b) (n := ((get (unpk bs) qq (64 - ff.l - ff.r)).1 * 2 ^ ff.r % 18446744073709551616)) rfl rfl (by rfl) (by rfl) rfl (hz.b) (Nat.mod_lt _ (by decide))) hE520 ?_
                    refine ae_take 22 rfl (by kernel_rfl) (by kernel_rfl) (by kernel_rfl) rfl (fun _ hS => ex_nilCheck rfl) hE520 ?_
                    refine ae_take 23 rfl (by kernel_rfl) (by kernel_rfl) (by kernel_rfl) rfl (fun _ hS => ex_fieldAddr rfl Tryd.fld74_3) hE520 ?_
                    refine ae_loud [24] (by kernel_rfl) rfl ⟨?_, trivial⟩
                    refine a_step rfl ?_
                    refine wl_store1 rfl rfl (by first | rfl | assumption) Tryd.size72 hB523 rfl fun w524 hB525 hw526 => ?_
                    have hE527 := hE518.step hw526 (fun y hy => .inl (by simp at hy; simp [hy]))
                    have hE528 := hE519.step hw526 (fun y hy => .inl (by simp at hy; simp [hy]))
                    have hE529 := hE520.step hw526 (fun y hy => .inl (by simp at hy; simp [hy]))
                    have hB530 := hw526.blk hB521 hA7.symm.nmem1
                    have hB531 := hw526.blk hB522 hA18.symm.nmem1
                    have hB532 := hw526.blk hR9 hzr.symm.nmem1
                    try simp only [List.setIfInBounds_toArray, List.set_cons_zero, List.set_cons_succ, Nat.reduceAdd, Nat.zero_add, Nat.add_zero] at hB525
                    refine wl_nil (ae_next (.inl hE529) ?_)
                    refine ae_done (by kernel_rfl) (nrm_then ?_)
                    refine cw_exit (ex_here (nrm_same ?_))
                    refine ⟨(z.b ^^^ ((get (unpk bs) qq (64 - ff.l - ff.r)).1 * 2 ^ ff.r % 18446744073709551616), ff, (get (unpk bs) qq (64 - ff.l - ff.r)).2), trivial, ⟨rfl, rfl, rfl, rfl, trivial⟩, hE528, ?_⟩
                    exact ⟨hB525, hB532, hJ2 (by simpa using hc111) rfl rfl, xor_lt hz.b (Nat.mod_lt _ (by decide))⟩
                  · skip
                    refine a_step rfl ?_
                    refine wl_call1 (vs := [_, _]) Tryd.goes34 rfl (get_ok hB268 (RSl.evo RB.pers ((hE263).mono hmX) hs) hx hl hqa (64 - ff.l - ff.r) (by omega)) rfl ?_
                    rintro _ w533 ⟨rfl, hR9, hw534⟩
                    have hE535 := hE263.step hw534 (fun y hy => .inl (by simp at hy; simp [hy]))
                    have hE536 := hE264.step hw534 (fun y hy => .inl (by simp at hy; simp [hy]))
                    have hE537 := (Evo.refl [bz, br] w261).step hw534 (fun y hy => .inl (by simp at hy; simp [hy]))
                    have hB538 := hw534.blk hB265 hA6.symm.nmem1
                    have hB539 := hw534.blk hB266 hA17.symm.nmem1
                    have hB540 := hw534.blk hB267 hzr.nmem1
                    refine wl_nil (ae_next (.inl hE537) ?_)
                    refine ae_take 20 rfl (by kernel_rfl) (by kernel_rfl) (by kernel_rfl) rfl (fun _ hS => ex_shlN (m := (get (unpk bs) qq (64 - ff.l - ff.r)).1) (n := ff.r) rfl rfl (by first | rfl | omega) (by first | rfl | omega) (by first | exact Nat.le_of_ble_eq_true rfl | (simp only [IntKind.bits]; omega)) rfl) hE537 ?_
                    rw [show (2 : Nat) ^ IntKind.u64.bits = 18446744073709551616 from rfl]
                    refine ae_loud [3] (by kernel_rfl) rfl ⟨?_, trivial⟩
                    refine a_step rfl ?_
                    refine wl_val rfl (ex_load1 rfl Tryd.agg72 (cell_nth hB540 rfl)) ?_
                    refine wl_nil (ae_next (.inl hE537) ?_)
                    refine ae_take 21 rfl (by kernel_rfl) (by kernel_rfl) (by kernel_rfl) rfl (fun _ hS => ex_xorN (m := z.b) (n := ((get (unpk bs) qq (64 - ff.l - ff.r)).1 * 2 ^ ff.r % 18446744073709551616)) rfl rfl (by rfl) (by rfl) rfl (hz.b) (Nat.mod_lt _ (by decide))) hE537 ?_
                    refine ae_take 22 rfl (by kernel_rfl) (by kernel_rfl) (by kernel_rfl) rfl (fun _ hS => ex_nilCheck rfl) hE537 ?_
                    refine ae_take 23 rfl (by kernel_rfl) (by kernel_rfl) (by kernel_rfl) rfl (fun _ hS => ex_fieldAddr rfl Tryd.fld74_3) hE537 ?_
                    refine ae_loud [24] (by kernel_rfl) rfl ⟨?_, trivial⟩
                    refine a_step rfl ?_
                    refine wl_store1 rfl rfl (by first | rfl | assumption) Tryd.size72 hB540 rfl fun w541 hB542 hw543 => ?_
                    have hE544 := hE535.step hw543 (fun y hy => .inl (by simp at hy; simp [hy]))
                    have hE545 := hE536.step hw543 (fun y hy => .inl (by simp at hy; simp [hy]))
                    have hE546 := hE537.step hw543 (fun y hy => .inl (by simp at hy; simp [hy]))
                    have hB547 := hw543.blk hB538 hA7.symm.nmem1
                    have hB548 := hw543.blk hB539 hA18.symm.nmem1
                    have hB549 := hw543.blk hR9 hzr.symm.nmem1
                    try simp only [List.setIfInBounds_toArray, List.set_cons_zero, List.set_cons_succ, Nat.reduceAdd, Nat.zero_add, Nat.add_zero] at hB542
                    refine wl_nil (ae_next (.inl hE546) ?_)
                    refine ae_done (by kernel_rfl) (nrm_then ?_)
                    refine cw_exit (ex_here (nrm_same ?_))
                    refine ⟨(z.b ^^^ ((get (unpk bs) qq (64 - ff.l - ff.r)).1 * 2 ^ ff.r % 18446744073709551616), ff, (get (unpk bs) qq (64 - ff.l - ff.r)).2), trivial, ⟨rfl, rfl, rfl, rfl, trivial⟩, hE545, ?_⟩
                    exact ⟨hB542, hB549, hJ2 (by simpa using hc111) rfl rfl, xor_lt hz.b (Nat.mod_lt _ (by decide))⟩
              · skip
                refine a_step rfl ?_
                refine wl_val rfl (ex_load1 rfl Tryd.agg3 (cell_nth hB267 rfl)) ?_
                refine wl_nil (ae_next (.inl (Evo.refl [bz, br] w261)) ?_)
                refine ae_loud [3, 13] (by kernel_rfl) rfl ⟨?_, ?_, trivial⟩
                · skip
                  refine a_step rfl ?_
                  refine wl_val rfl (ex_load1 rfl Tryd.agg72 (cell_nth hB267 rfl)) ?_
                  refine wl_nil (ae_next (.inl (Evo.refl [bz, br] w261)) ?_)
                  refine ae_loud [13] (by kernel_rfl) rfl ⟨?_, trivial⟩
                  refine a_step rfl ?_
                  refine wl_val rfl (ex_load1 rfl Tryd.agg3 (cell_nth hB267 rfl)) ?_
                  refine wl_nil (ae_next (.inl (Evo.refl [bz, br] w261)) ?_)
                  refine ae_take 14 rfl (by kernel_rfl) (by kernel_rfl) (by kernel_rfl) rfl (fun _ hS => ex_sub_i64 rfl rfl (by omega) (by omega)) (Evo.refl [bz, br] w261) ?_
                  rw [show ((64 : Int) - (ff.l : Nat) - (ff.r : Nat)) = ((64 - ff.l - ff.r : Nat) : Int) by omega]
                  refine ae_loud [15] (by kernel_rfl) rfl ⟨?_, trivial⟩
                  refine a_step rfl ?_
                  refine wl_call1 (vs := [_, _]) Tryd.goes34 rfl (get_ok hB268 (RSl.evo RB.pers ((hE263).mono hmX) hs) hx hl hqa (64 - ff.l - ff.r) (by omega)) rfl ?_
                  rintro _ w550 ⟨rfl, hR9, hw551⟩
                  have hE552 := hE263.step hw551 (fun y hy => .inl (by simp at hy; simp [hy]))
                  have hE553 := hE264.step hw551 (fun y hy => .inl (by simp at hy; simp [hy]))
                  have hE554 := (Evo.refl [bz, br] w261).step hw551 (fun y hy => .inl (by simp at hy; simp [hy]))
                  have hB555 := hw551.blk hB265 hA6.symm.nmem1
                  have hB556 := hw551.blk hB266 hA17.symm.nmem1
                  have hB557 := hw551.blk hB267 hzr.nmem1
                  refine wl_nil (ae_next (.inl hE554) ?_)
                  refine ae_take 20 rfl (by kernel_rfl) (by kernel_rfl) (by kernel_rfl) rfl (fun _ hS => ex_shlN (m := (get (unpk bs) qq (64 - ff.l - ff.r)).1) (n := ff.r) rfl rfl (by first | rfl | omega) (by first | rfl | omega) (by first | exact Nat.le_of_ble_eq_true rfl | (simp only [IntKind.bits]; omega)) rfl) hE554 ?_
                  rw [show (2 : Nat) ^ IntKind.u64.bits = 18446744073709551616 from rfl]
                  refine ae_take 21 rfl (by kernel_rfl) (by kernel_rfl) (by kernel_rfl) rfl (fun _ hS => ex_xorN (m := z.b) (n := ((get (unpk bs) qq (64 - ff.l - ff.r)).1 * 2 ^ ff.r % 18446744073709551616)) rfl rfl (by rfl) (by rfl) rfl (hz.b) (Nat.mod_lt _ (by decide))) hE554 ?_
                  refine ae_take 22 rfl (by kernel_rfl) (by kernel_rfl) (by kernel_rfl) rfl (fun _ hS => ex_nilCheck rfl) hE554 ?_
                  refine ae_take 23 rfl (by kernel_rfl) (by kernel_rfl) (by kernel_rfl) rfl (fun _ hS => ex_fieldAddr rfl Tryd.fld74_3) hE554 ?_
                  refine ae_loud [24] (by kernel_rfl) rfl ⟨?_, trivial⟩
                  refine a_step rfl ?_
                  refine wl_store1 rfl rfl (by first | rfl | assumption) Tryd.size72 hB557 rfl fun w558 hB559 hw560 => ?_
                  have hE561 := hE552.step hw560 (fun y hy => .inl (by simp at hy; simp [hy]))
                  have hE562 := hE553.step hw560 (fun y hy => .inl (by simp at hy; simp [hy]))
                  have hE563 := hE554.step hw560 (fun y hy => .inl (by simp at hy; simp [hy]))
                  have hB564 := hw560.blk hB555 hA7.symm.nmem1
                  have hB565 := hw560.blk hB556 hA18.symm.nmem1
                  have hB566 := hw560.blk hR9 hzr.symm.nmem1
                  try simp only [List.setIfInBounds_toArray, List.set_cons_zero, List.set_cons_succ, Nat.reduceAdd, Nat.zero_add, Nat.add_zero] at hB559
                  refine wl_nil (ae_next (.inl hE563) ?_)
                  refine ae_done (by kernel_rfl) (nrm_then ?_)
                  refine cw_exit (ex_here (nrm_same ?_))
                  refine ⟨(z.b ^^^ ((get (unpk bs) qq (64 - ff.l - ff.r)).1 * 2 ^ ff.r % 18446744073709551616), ff, (get (unpk bs) qq (64 - ff.l - ff.r)).2), trivial, ⟨rfl, rfl, rfl, rfl, trivial⟩, hE562, ?_⟩
                  exact ⟨hB559, hB566, hJ2 (by simpa using hc111) rfl rfl, xor_lt hz.b (Nat.mod_lt _ (by decide))⟩
                · skip
                  refine a_step rfl ?_
                  refine wl_val rfl (ex_load1 rfl Tryd.agg3 (cell_nth hB267 rfl)) ?_
                  refine wl_nil (ae_next (.inl (Evo.refl [bz, br] w261)) ?_)
                  refine ae_take 14 rfl (by kernel_rfl) (by kernel_rfl) (by kernel_rfl) rfl (fun _ hS => ex_sub_i64 rfl rfl (by omega) (by omega)) (Evo.refl [bz, br] w261) ?_
                  rw [show ((64 : Int) - (ff.l : Nat) - (ff.r : Nat)) = ((64 - ff.l - ff.r : Nat) : Int) by omega]
                  refine ae_loud [3, 15] (by kernel_rfl) rfl ⟨?_, ?_, trivial⟩
                  · skip
                    refine a_step rfl ?_
                    refine wl_val rfl (ex_load1 rfl Tryd.agg72 (cell_nth hB267 rfl)) ?_
                    refine wl_nil (ae_next (.inl (Evo.refl [bz, br] w261)) ?_)
                    refine ae_loud [15] (by kernel_rfl) rfl ⟨?_, trivial⟩
                    refine a_step rfl ?_
                    refine wl_call1 (vs := [_, _]) Tryd.goes34 rfl (get_ok hB268 (RSl.evo RB.pers ((hE263).mono hmX) hs) hx hl hqa (64 - ff.l - ff.r) (by omega)) rfl ?_
                    rintro _ w567 ⟨rfl, hR9, hw568⟩
                    have hE569 := hE263.step hw568 (fun y hy => .inl (by simp at hy; simp [hy]))
                    have hE570 := hE264.step hw568 (fun y hy => .inl (by simp at hy; simp [hy]))
                    have hE571 := (Evo.refl [bz, br] w261).step hw568 (fun y hy => .inl (by simp at hy; simp [hy]))
                    have hB572 := hw568.blk hB265 hA6.symm.nmem1
                    have hB573 := hw568.blk hB266 hA17.symm.nmem1
                    have hB574 := hw568.blk hB267 hzr.nmem1
                    refine wl_nil (ae_next (.inl hE571) ?_)
                    refine ae_take 20 rfl (by kernel_rfl) (by kernel_rfl) (by kernel_rfl) rfl (fun _ hS => ex_shlN (m := (get (unpk bs) qq (64 - ff.l - ff.r)).1) (n := ff.r) rfl rfl (by first | rfl | omega) (by first | rfl | omega) (by first | exact Nat.le_of_ble_eq_true rfl | (simp only [IntKind.bits]; omega)) rfl) hE571 ?_
                    rw [show (2 : Nat) ^ IntKind.u64.bits = 18446744073709551616 from rfl]
                    refine ae_take 21 rfl (by kernel_rfl) (by kernel_rfl) (by kernel_rfl) rfl (fun _ hS => ex_xorN (m := z.b) (n := ((get (unpk bs) qq (64 - ff.l - ff.r)).1 * 2 ^ ff.r % 18446744073709551616)) rfl rfl (by rfl) (by rfl) rfl (hz.b) (Nat.mod_lt _ (by decide))) hE571 ?_
                    refine ae_take 22 rfl (by kernel_rfl) (by kernel_rfl) (by kernel_rfl) rfl (fun _ hS => ex_nilCheck rfl) hE571 ?_
                    refine ae_take 23 rfl (by kernel_rfl) (by kernel_rfl) (by kernel_rfl) rfl (fun _ hS => ex_fieldAddr rfl Tryd.fld74_3) hE571 ?_
                    refine ae_loud [24] (by kernel_rfl) rfl ⟨?_, trivial⟩
                    refine a_step rfl ?_
                    refine wl_store1 rfl rfl (by first | rfl | assumption) Tryd.size72 hB574 rfl fun w575 hB576 hw577 => ?_
                    have hE578 := hE569.step hw577 (fun y hy => .inl (by simp at hy; simp [hy]))
                    have hE579 := hE570.step hw577 (fun y hy => .inl (by simp at hy; simp [hy]))
                    have hE580 := hE571.step hw577 (fun y hy => .inl (by simp at hy; simp [hy]))
                    have hB581 := hw577.blk hB572 hA7.symm.nmem1
                    have hB582 := hw577.blk hB573 hA18.symm.nmem1
                    have hB583 := hw577.blk hR9 hzr.symm.nmem1
                    try simp only [List.setIfInBounds_toArray, List.set_cons_zero, List.set_cons_succ, Nat.reduceAdd, Nat.zero_add, Nat.add_zero] at hB576
                    refine wl_nil (ae_next (.inl hE580) ?_)
                    refine ae_done (by kernel_rfl) (nrm_then ?_)
                    refine cw_exit (ex_here (nrm_same ?_))
                    refine ⟨(z.b ^^^ ((get (unpk bs) qq (64 - ff.l - ff.r)).1 * 2 ^ ff.r % 18446744073709551616), ff, (get (unpk bs) qq (64 - ff.l - ff.r)).2), trivial, ⟨rfl, rfl, rfl, rfl, trivial⟩, hE579, ?_⟩
                    exact ⟨hB576, hB583, hJ2 (by simpa using hc111) rfl rfl, xor_lt hz.b (Nat.mod_lt _ (by decide))⟩
                  · skip
                    refine a_step rfl ?_
                    refine wl_call1 (vs := [_, _]) Tryd.goes34 rfl (get_ok hB268 (RSl.evo RB.pers ((hE263).mono hmX) hs) hx hl hqa (64 - ff.l - ff.r) (by omega)) rfl ?_
                    rintro _ w584 ⟨rfl, hR9, hw585⟩
                    have hE586 := hE263.step hw585 (fun y hy => .inl (by simp at hy; simp [hy]))
                    have hE587 := hE264.step hw585 (fun y hy => .inl (by simp at hy; simp [hy]))
                    have hE588 := (Evo.refl [bz, br] w261).step hw585 (fun y hy => .inl (by simp at hy; simp [hy]))
                    have hB589 := hw585.blk hB265 hA6.symm.nmem1
                    have hB590 := hw585.blk hB266 hA17.symm.nmem1
                    have hB591 := hw585.blk hB267 hzr.nmem1
                    refine wl_nil (ae_next (.inl hE588) ?_)
                    refine ae_take 20 rfl (by kernel_rfl) (by kernel_rfl) (by kernel_rfl) rfl (fun _ hS => ex_shlN (m := (get (unpk bs) qq (64 - ff.l - ff.r)).1) (n := ff.r) rfl rfl (by first | rfl | omega) (by first | rfl | omega) (by first | exact Nat.le_of_ble_eq_true rfl | (simp only [IntKind.bits]; omega)) rfl) hE588 ?_
                    rw [show (2 : Nat) ^ IntKind.u64.bits = 18446744073709551616 from rfl]
                    refine ae_loud [3] (by kernel_rfl) rfl ⟨?_, trivial⟩
                    refine a_step rfl ?_
                    refine wl_val rfl (ex_load1 rfl Tryd.agg72 (cell_nth hB591 rfl)) ?_
                    refine wl_nil (ae_next (.inl hE588) ?_)
                    refine ae_take 21 rfl (by kernel_rfl) (by kernel_rfl) (by kernel_rfl) rfl (fun _ hS => ex_xorN (m := z.b) (n := ((get (unpk bs) qq (64 - ff.l - ff.r)).1 * 2 ^ ff.r % 18446744073709551616)) rfl rfl (by rfl) (by rfl) rfl (hz.b) (Nat.mod_lt _ (by decide))) hE588 ?_
                    refine ae_take 22 rfl (by kernel_rfl) (by kernel_rfl) (by kernel_rfl) rfl (fun _ hS => ex_nilCheck rfl) hE588 ?_
                    refine ae_take 23 rfl (by kernel_rfl) (by kernel_rfl) (by kernel_rfl) rfl (fun _ hS => ex_fieldAddr rfl Tryd.fld74_3) hE588 ?_
                    refine ae_loud [24] (by kernel_rfl) rfl ⟨?_, trivial⟩
                    refine a_step rfl ?_
                    refine wl_store1 rfl rfl (by first | rfl | assumption) Tryd.size72 hB591 rfl fun w592 hB593 hw594 => ?_
                    have hE595 := hE586.step hw594 (fun y hy => .inl (by simp at hy; simp [hy]))
                    have hE596 := hE587.step hw594 (fun y hy => .inl (by simp at hy; simp [hy]))
                    have hE597 := hE588.step hw594 (fun y hy => .inl (by simp at hy; simp [hy]))
                    have hB598 := hw594.blk hB589 hA7.symm.nmem1
                    have hB599 := hw594.blk hB590 hA18.symm.nmem1
                    have hB600 := hw594.blk hR9 hzr.symm.nmem1
                    try simp only [List.setIfInBounds_toArray, List.set_cons_zero, List.set_cons_succ, Nat.reduceAdd, Nat.zero_add, Nat.add_zero] at hB593
                    refine wl_nil (ae_next (.inl hE597) ?_)
                    refine ae_done (by kernel_rfl) (nrm_then ?_)
                    refine cw_exit (ex_here (nrm_same ?_))
                    refine ⟨(z.b ^^^ ((get (unpk bs) qq (64 - ff.l - ff.r)).1 * 2 ^ ff.r % 18446744073709551616), ff, (get (unpk bs) qq (64 - ff.l - ff.r)).2), trivial, ⟨rfl, rfl, rfl, rfl, trivial⟩, hE596, ?_⟩
                    exact ⟨hB593, hB600, hJ2 (by simpa using hc111) rfl rfl, xor_lt hz.b (Nat.mod_lt _ (by decide))⟩
            · skip
              refine a_step rfl ?_
              refine wl_val rfl (ex_load1 rfl Tryd.agg3 (cell_nth hB267 rfl)) ?_
              refine wl_nil (ae_next (.inl (Evo.refl [bz, br] w261)) ?_)
              refine ae_loud [3, 8, 19] (by kernel_rfl) rfl ⟨?_, ?_, ?_, trivial⟩
              · skip
                refine a_step rfl ?_
                refine wl_val rfl (ex_load1 rfl Tryd.agg72 (cell_nth hB267 rfl)) ?_
                refine wl_nil (ae_next (.inl (Evo.refl [bz, br] w261)) ?_)
                refine ae_loud [8, 19] (by kernel_rfl) rfl ⟨?_, ?_, trivial⟩
                · skip
                  refine a_step rfl ?_
                  refine wl_val rfl (ex_load1 rfl Tryd.agg3 (cell_nth hB267 rfl)) ?_
                  refine wl_nil (ae_next (.inl (Evo.refl [bz, br] w261)) ?_)
                  refine ae_take 9 rfl (by kernel_rfl) (by kernel_rfl) (by kernel_rfl) rfl (fun _ hS => ex_sub_i64 rfl rfl (by omega) (by omega)) (Evo.refl [bz, br] w261) ?_
                  refine ae_take 14 rfl (by kernel_rfl) (by kernel_rfl) (by kernel_rfl) rfl (fun _ hS => ex_sub_i64 rfl rfl (by omega) (by omega)) (Evo.refl [bz, br] w261) ?_
                  rw [show ((64 : Int) - (ff.l : Nat) - (ff.r : Nat)) = ((64 - ff.l - ff.r : Nat) : Int) by omega]
                  refine ae_loud [15, 19] (by kernel_rfl) rfl ⟨?_, ?_, trivial⟩
                  · skip
                    refine a_step rfl ?_
                    refine wl_call1 (vs := [_, _]) Tryd.goes34 rfl (get_ok hB268 (RSl.evo RB.pers ((hE263).mono hmX) hs) hx hl hqa (64 - ff.l - ff.r) (by omega)) rfl ?_
                    rintro _ w601 ⟨rfl, hR9, hw602⟩
                    have hE603 := hE263.step hw602 (fun y hy => .inl (by simp at hy; simp [hy]))
                    have hE604 := hE264.step hw602 (fun y hy => .inl (by simp at hy; simp [hy]))
                    have hE605 := (Evo.refl [bz, br] w261).step hw602 (fun y hy => .inl (by simp at hy; simp [hy]))
                    have hB606 := hw602.blk hB265 hA6.symm.nmem1
                    have hB607 := hw602.blk hB266 hA17.symm.nmem1
                    have hB608 := hw602.blk hB267 hzr.nmem1
                    refine wl_nil (ae_next (.inl hE605) ?_)
                    refine ae_loud [19] (by kernel_rfl) rfl ⟨?_, trivial⟩
                    refine a_step rfl ?_
                    refine wl_val rfl (ex_load1 rfl Tryd.agg3 (cell_nth hB608 rfl)) ?_
                    refine wl_nil (ae_next (.inl hE605) ?_)
                    refine ae_take 20 rfl (by kernel_rfl) (by kernel_rfl) (by kernel_rfl) rfl (fun _ hS => ex_shlN (m := (get (unpk bs) qq (64 - ff.l - ff.r)).1) (n := ff.r) rfl rfl (by first | rfl | omega) (by first | rfl | omega) (by first | exact Nat.le_of_ble_eq_true rfl | (simp only [IntKind.bits]; omega)) rfl) hE605 ?_
                    rw [show (2 : Nat) ^ IntKind.u64.bits = 18446744073709551616 from rfl]
                    refine ae_take 21 rfl (by kernel_rfl) (by kernel_rfl) (by kernel_rfl) rfl (fun _ hS => ex_xorN (m := z.b) (n := ((get (unpk bs) qq (64 - ff.l - ff.r)).1 * 2 ^ ff.r % 18446744073709551616)) rfl rfl (by rfl) (by rfl) rfl (hz.b) (Nat.mod_lt _ (by decide))) hE605 ?_
                    refine ae_take 22 rfl (by kernel_rfl) (by kernel_rfl) (by kernel_rfl) rfl (fun _ hS => ex_nilCheck rfl) hE605 ?_
                    refine ae_take 23 rfl (by kernel_rfl) (by kernel_rfl) (by kernel_rfl) rfl (fun _ hS => ex_fieldAddr rfl Tryd.fld74_3) hE605 ?_
                    refine ae_loud [24] (by kernel_rfl) rfl ⟨?_, trivial⟩
                    refine a_step rfl ?_
                    refine wl_store1 rfl rfl (by first | rfl | assumption) Tryd.size72 hB608 rfl fun w609 hB610 hw611 => ?_
                    have hE612 := hE603.step hw611 (fun y hy => .inl (by simp at hy; simp [hy]))
                    have hE613 := hE604.step hw611 (fun y hy => .inl (by simp at hy; simp [hy]))
                    have hE614 := hE605.step hw611 (fun y hy => .inl (by simp at hy; simp [hy]))
                    have hB615 := hw611.blk hB606 hA7.symm.nmem1
                    have hB616 := hw611.blk hB607 hA18.symm.nmem1
                    have hB617 := hw611.blk hR9 hzr.symm.nmem1
                    try simp only [List.setIfInBounds_toArray, List.set_cons_zero, List.set_cons_succ, Nat.reduceAdd, Nat.zero_add, Nat.add_zero] at hB610
                    refine wl_nil (ae_next (.inl hE614) ?_)
                    refine ae_done (by kernel_rfl) (nrm_then ?_)
                    refine cw_exit (ex_here (nrm_same ?_))
                    refine ⟨(z.b ^^^ ((get (unpk bs) qq (64 - ff.l - ff.r)).1 * 2 ^ ff.r % 18446744073709551616), ff, (get (unpk bs) qq (64 - ff.l - ff.r)).2), trivial, ⟨rfl, rfl, rfl, rfl, trivial⟩, hE613, ?_⟩
                    exact ⟨hB610, hB617, hJ2 (by simpa using hc111) rfl rfl, xor_lt hz.b (Nat.mod_lt _ (by decide))⟩
                  · skip
                    refine a_step rfl ?_
                    refine wl_val rfl (ex_load1 rfl Tryd.agg3 (cell_nth hB267 rfl)) ?_
                    refine wl_nil (ae_next (.inl (Evo.refl [bz, br] w261)) ?_)
                    refine ae_loud [15] (by kernel_rfl) rfl ⟨?_, trivial⟩
                    refine a_step rfl ?_
                    refine wl_call1 (vs := [_, _]) Tryd.goes34 rfl (get_ok hB268 (RSl.evo RB.pers ((hE263).mono hmX) hs) hx hl hqa (64 - ff.l - ff.r) (by omega)) rfl ?_
                    rintro _ w618 ⟨rfl, hR9, hw619⟩
                    have hE620 := hE263.step hw619 (fun y hy => .inl (by simp at hy; simp [hy]))
                    have hE621 := hE264.step hw619 (fun y hy => .inl (by simp at hy; simp [hy]))
                    have hE622 := (Evo.refl [bz, br] w261).step hw619 (fun y hy => .inl (by simp at hy; simp [hy]))
                    have hB623 := hw619.blk hB265 hA6.symm.nmem1
                    have hB624 := hw619.blk hB266 hA17.symm.nmem1
                    have hB625 := hw619.blk hB267 hzr.nmem1
                    refine wl_nil (ae_next (.inl hE622) ?_)
                    refine ae_take 20 rfl (by kernel_rfl) (by kernel_rfl) (by kernel_rfl) rfl (fun _ hS => ex_shlN (m := (get (unpk bs) qq (64 - ff.l - ff.r)).1) (n := ff.r) rfl rfl (by first | rfl | omega) (by first | rfl | omega) (by first | exact Nat.le_of_ble_eq_true rfl | (simp only [IntKind.bits]; omega)) rfl) hE622 ?_
                    rw [show (2 : Nat) ^ IntKind.u64.bits = 18446744073709551616 from rfl]
                    refine ae_take 21 rfl (by kernel_rfl) (by kernel_rfl) (by kernel_rfl) rfl (fun _ hS => ex_xorN (m := z.b) (n := ((get (unpk bs) qq (64 - ff.l - ff.r)).1 * 2 ^ ff.r % 18446744073709551616)) rfl rfl (by rfl) (by rfl) rfl (hz.b) (Nat.mod_lt _ (by decide))) hE622 ?_
                    refine ae_take 22 rfl (by kernel_rfl) (by kernel_rfl) (by kernel_rfl) rfl (fun _ hS => ex_nilCheck rfl) hE622 ?_
                    refine ae_take 23 rfl (by kernel_rfl) (by kernel_rfl) (by kernel_rfl) rfl (fun _ hS => ex_fieldAddr rfl Tryd.fld74_3) hE622 ?_
                    refine ae_loud [24] (by kernel_rfl) rfl ⟨?_, trivial⟩
                    refine a_step rfl ?_
                    refine wl_store1 rfl rfl (by first | rfl | assumption) Tryd.size72 hB625 rfl fun w626 hB627 hw628 => ?_
                    have hE629 := hE620.step hw628 (fun y hy => .inl (by simp at hy; simp [hy]))
                    have hE630 := hE621.step hw628 (fun y hy => .inl (by simp at hy; simp [hy]))
                    have hE631 := hE622.step hw628 (fun y hy => .inl (by simp at hy; simp [hy]))
                    have hB632 := hw628.blk hB623 hA7.symm.nmem1
                    have hB633 := hw628.blk hB624 hA18.symm.nmem1
                    have hB634 := hw628.blk hR9 hzr.symm.nmem1
                    try simp only [List.setIfInBounds_toArray, List.set_cons_zero, List.set_cons_succ, Nat.reduceAdd, Nat.zero_add, Nat.add_zero] at hB627
                    refine wl_nil (ae_next (.inl hE631) ?_)
                    refine ae_done (by kernel_rfl) (nrm_then ?_)
                    refine cw_exit (ex_here (nrm_same ?_))
                    refine ⟨(z.b ^^^ ((get (unpk bs) qq (64 - ff.l - ff.r)).1 * 2 ^ ff.r % 18446744073709551616), ff, (get (unpk bs) qq (64 - ff.l - ff.r)).2), trivial, ⟨rfl, rfl, rfl, rfl, trivial⟩, hE630, ?_⟩
                    exact ⟨hB627, hB634, hJ2 (by simpa using hc111) rfl rfl, xor_lt hz.b (Nat.mod_lt _ (by decide))⟩
                · skip
                  refine a_step rfl ?_
                  refine wl_val rfl (ex_load1 rfl Tryd.agg3 (cell_nth hB267 rfl)) ?_
                  refine wl_nil (ae_next (.inl (Evo.refl [bz, br] w261)) ?_)
                  refine ae_loud [8] (by kernel_rfl) rfl ⟨?_, trivial⟩
                  refine a_step rfl ?_
                  refine wl_val rfl (ex_load1 rfl Tryd.agg3 (cell_nth hB267 rfl)) ?_
                  refine wl_nil (ae_next (.inl (Evo.refl [bz, br] w261)) ?_)
                  refine ae_take 9 rfl (by kernel_rfl) (by kernel_rfl) (by kernel_rfl) rfl (fun _ hS => ex_sub_i64 rfl rfl (by omega) (by omega)) (Evo.refl [bz, br] w261) ?_
                  refine ae_take 14 rfl (by kernel_rfl) (by kernel_rfl) (by kernel_rfl) rfl (fun _ hS => ex_sub_i64 rfl rfl (by omega) (by omega)) (Evo.refl [bz, br] w261) ?_
                  rw [show ((64 : Int) - (ff.l : Nat) - (ff.r : Nat)) = ((64 - ff.l - ff.r : Nat) : Int) by omega]
                  refine ae_loud [15] (by kernel_rfl) rfl ⟨?_, trivial⟩
                  refine a_step rfl ?_
                  refine wl_call1 (vs := [_, _]) Tryd.goes34 rfl (get_ok hB268 (RSl.evo RB.pers ((hE263).mono hmX) hs) hx hl hqa (64 - ff.l - ff.r) (by omega)) rfl ?_
                  rintro _ w635 ⟨rfl, hR9, hw636⟩
                  have hE637 := hE263.step hw636 (fun y hy => .inl (by simp at hy; simp [hy]))
                  have hE638 := hE264.step hw636 (fun y hy => .inl (by simp at hy; simp [hy]))
                  have hE639 := (Evo.refl [bz, br] w261).step hw636 (fun y hy => .inl (by simp at hy; simp [hy]))
                  have hB640 := hw636.blk hB265 hA6.symm.nmem1
                  have hB641 := hw636.blk hB266 hA17.symm.nmem1
                  have hB642 := hw636.blk hB267 hzr.nmem1
                  refine wl_nil (ae_next (.inl hE639) ?_)
                  refine ae_take 20 rfl (by kernel_rfl) (by kernel_rfl) (by kernel_rfl) rfl (fun _ hS => ex_shlN (m := (get (unpk bs) qq (64 - ff.l - ff.r)).1) (n := ff.r) rfl rfl (by first | rfl | omega) (by first | rfl | omega) (by first | exact Nat.le_of_ble_eq_true rfl | (simp only [IntKind.bits]; omega)) rfl) hE639 ?_
                  rw [show (2 : Nat) ^ IntKind.u64.bits = 18446744073709551616 from rfl]
                  refine ae_take 21 rfl (by kernel_rfl) (by kernel_rfl) (by kernel_rfl) rfl (fun _ hS => ex_xorN (m := z.b) (n := ((get (unpk bs) qq (64 - ff.l - ff.r)).1 * 2 ^ ff.r % 18446744073709551616)) rfl rfl (by rfl) (by rfl) rfl (hz.b) (Nat.mod_lt _ (by decide))) hE639 ?_
                  refine ae_take 22 rfl (by kernel_rfl) (by kernel_rfl) (by kernel_rfl) rfl (fun _ hS => ex_nilCheck rfl) hE639 ?_
                  refine ae_take 23 rfl (by kernel_rfl) (by kernel_rfl) (by kernel_rfl) rfl (fun _ hS => ex_fieldAddr rfl Tryd.fld74_3) hE639 ?_
                  refine ae_loud [24] (by kernel_rfl) rfl ⟨?_, trivial⟩
                  refine a_step rfl ?_
                  refine wl_store1 rfl rfl (by first | rfl | assumption) Tryd.size72 hB642 rfl fun w643 hB644 hw645 => ?_
                  have hE646 := hE637.step hw645 (fun y hy => .inl (by simp at hy; simp [hy]))
                  have hE647 := hE638.step hw645 (fun y hy => .inl (by simp at hy; simp [hy]))
                  have hE648 := hE639.step hw645 (fun y hy => .inl (by simp at hy; simp [hy]))
                  have hB649 := hw645.blk hB640 hA7.symm.nmem1
                  have hB650 := hw645.blk hB641 hA18.symm.nmem1
                  have hB651 := hw645.blk hR9 hzr.symm.nmem1
                  try simp only [List.setIfInBounds_toArray, List.set_cons_zero, List.set_cons_succ, Nat.reduceAdd, Nat.zero_add, Nat.add_zero] at hB644
                  refine wl_nil (ae_next (.inl hE648) ?_)
                  refine ae_done (by kernel_rfl) (nrm_then ?_)
                  refine cw_exit (ex_here (nrm_same ?_))
                  refine ⟨(z.b ^^^ ((get (unpk bs) qq (64 - ff.l - ff.r)).1 * 2 ^ ff.r % 18446744073709551616), ff, (get (unpk bs) qq (64 - ff.l - ff.r)).2), trivial, ⟨rfl, rfl, rfl, rfl, trivial⟩, hE647, ?_⟩
                  exact ⟨hB644, hB651, hJ2 (by simpa using hc111) rfl rfl, xor_lt hz.b (Nat.mod_lt _ (by decide))⟩
              · skip
                refine a_step rfl ?_
                refine wl_val rfl (ex_load1 rfl Tryd.agg3 (cell_nth hB267 rfl)) ?_
                refine wl_nil (ae_next (.inl (Evo.refl [bz, br] w261)) ?_)
                refine ae_take 9 rfl (by kernel_rfl) (by kernel_rfl) (by kernel_rfl) rfl (fun _ hS => ex_sub_i64 rfl rfl (by omega) (by omega)) (Evo.refl [bz, br] w261) ?_
                refine ae_take 14 rfl (by kernel_rfl) (by kernel_rfl) (by kernel_rfl) rfl (fun _ hS => ex_sub_i64 rfl rfl (by omega) (by omega)) (Evo.refl [bz, br] w261) ?_
                rw [show ((64 : Int) - (ff.l : Nat) - (ff.r : Nat)) = ((64 - ff.l - ff.r : Nat) : Int) by omega]
                refine ae_loud [3, 15, 19] (by kernel_rfl) rfl ⟨?_, ?_, ?_, trivial⟩
                · skip
                  refine a_step rfl ?_
                  refine wl_val rfl (ex_load1 rfl Tryd.agg72 (cell_nth hB267 rfl)) ?_
                  refine wl_nil (ae_next (.inl (Evo.refl [bz, br] w261)) ?_)
                  refine ae_loud [15, 19] (by kernel_rfl) rfl ⟨?_, ?_, trivial⟩
                  · skip
                    refine a_step rfl ?_
                    refine wl_call1 (vs := [_, _]) Tryd.goes34 rfl (get_ok hB268 (RSl.evo RB.pers ((hE263).mono hmX) hs) hx hl hqa (64 - ff.l - ff.r) (by omega)) rfl ?_
                    rintro _ w652 ⟨rfl, hR9, hw653⟩
                    have hE654 := hE263.step hw653 (fun y hy => .inl (by simp at hy; simp [hy]))
                    have hE655 := hE264.step hw653 (fun y hy => .inl (by simp at hy; simp [hy]))
                    have hE656 := (Evo.refl [bz, br] w261).step hw653 (fun y hy => .inl (by simp at hy; simp [hy]))
                    have hB657 := hw653.blk hB265 hA6.symm.nmem1
                    have hB658 := hw653.blk hB266 hA17.symm.nmem1
                    have hB659 := hw653.blk hB267 hzr.nmem1
                    refine wl_nil (ae_next (.inl hE656) ?_)
                    refine ae_loud [19] (by kernel_rfl) rfl ⟨?_, trivial⟩
                    refine a_step rfl ?_
                    refine wl_val rfl (ex_load1 rfl Tryd.agg3 (cell_nth hB659 rfl)) ?_
                    refine wl_nil (ae_next (.inl hE656) ?_)
                    refine ae_take 20 rfl (by kernel_rfl) (by kernel_rfl) (by kernel_rfl) rfl (fun _ hS => ex_shlN (m := (get (unpk bs) qq (64 - ff.l - ff.r)).1) (n := ff.r) rfl rfl (by first | rfl | omega) (by first | rfl | omega) (by first | exact Nat.le_of_ble_eq_true rfl | (simp only [IntKind.bits]; omega)) rfl) hE656 ?_
                    rw [show (2 : Nat) ^ IntKind.u64.bits = 18446744073709551616 from rfl]
                    refine ae_take 21 rfl (by kernel_rfl) (by kernel_rfl) (by kernel_rfl) rfl (fun _ hS => ex_xorN (m := z.b) (n := ((get (unpk bs) qq (64 - ff.l - ff.r)).1 * 2 ^ ff.r % 18446744073709551616)) rfl rfl (by rfl) (by rfl) rfl (hz.b) (Nat.mod_lt _ (by decide))) hE656 ?_
                    refine ae_take 22 rfl (by kernel_rfl) (by kernel_rfl) (by kernel_rfl) rfl (fun _ hS => ex_nilCheck rfl) hE656 ?_
                    refine ae_take 23 rfl (by kernel_rfl) (by kernel_rfl) (by kernel_rfl) rfl (fun _ hS => ex_fieldAddr rfl Tryd.fld74_3) hE656 ?_
                    refine ae_loud [24] (by kernel_rfl) rfl ⟨?_, trivial⟩
                    refine a_step rfl ?_
                    refine wl_store1 rfl rfl (by first | rfl | assumption) Tryd.size72 hB659 rfl fun w660 hB661 hw662 => ?_
                    have hE663 := hE654.step hw662 (fun y hy => .inl (by simp at hy; simp [hy]))
                    have hE664 := hE655.step hw662 (fun y hy => .inl (by simp at hy; simp [hy]))
                    have hE665 := hE656.step hw662 (fun y hy => .inl (by simp at hy; simp [hy]))
                    have hB666 := hw662.blk hB657 hA7.symm.nmem1
                    have hB667 := hw662.blk hB658 hA18.symm.nmem1
                    have hB668 := hw662.blk hR9 hzr.symm.nmem1
                    try simp only [List.setIfInBounds_toArray, List.set_cons_zero, List.set_cons_succ, Nat.reduceAdd, Nat.zero_add, Nat.add_zero] at hB661
                    refine wl_nil (ae_next (.inl hE665) ?_)
                    refine ae_done (by kernel_rfl) (nrm_then ?_)
                    refine cw_exit (ex_here (nrm_same ?_))
                    refine ⟨(z.b ^^^ ((get (unpk bs) qq (64 - ff.l - ff.r)).1 * 2 ^ ff.r % 18446744073709551616), ff, (get (unpk bs) qq (64 - ff.l - ff.r)).2), trivial, ⟨rfl, rfl, rfl, rfl, trivial⟩, hE664, ?_⟩
                    exact ⟨hB661, hB668, hJ2 (by simpa using hc111) rfl rfl, xor_lt hz.b (Nat.mod_lt _ (by decide))⟩
                  · skip
                    refine a_step rfl ?_
                    refine wl_val rfl (ex_load1 rfl Tryd.agg3 (cell_nth hB267 rfl)) ?_
                    refine wl_nil (ae_next (.inl (Evo.refl [bz, br] w261)) ?_)
                    refine ae_loud [15] (by kernel_rfl) rfl ⟨?_, trivial⟩
                    refine a_step rfl ?_
                    refine wl_call1 (vs := [_, _]) Tryd.goes34 rfl (get_ok hB268 (RSl.evo RB.pers ((hE263).mono hmX) hs) hx hl hqa (64 - ff.l - ff.r) (by omega)) rfl ?_
                    rintro _ w669 ⟨rfl, hR9, hw670⟩
                    have hE671 := hE263.step hw670 (fun y hy => .inl (by simp at hy; simp [hy]))
                    have hE672 := hE264.step hw670 (fun y hy => .inl (by simp at hy; simp [hy]))
                    have hE673 := (Evo.refl [bz, br] w261).step hw670 (fun y hy => .inl (by simp at hy; simp [hy]))
                    have hB674 := hw670.blk hB265 hA6.symm.nmem1
                    have hB675 := hw670.blk hB266 hA17.symm.nmem1
                    have hB676 := hw670.blk hB267 hzr.nmem1
                    refine wl_nil (ae_next (.inl hE673) ?_)
                    refine ae_take 20 rfl (by kernel_rfl) (by kernel_rfl) (by kernel_rfl) rfl (fun _ hS => ex_shlN (m := (get (unpk bs) qq (64 - ff.l - ff.r)).1) (n := ff.r) rfl rfl (by first | rfl | omega) (by first | rfl | omega) (by first | exact Nat.le_of_ble_eq_true rfl | (simp only [IntKind.bits]; omega)) rfl) hE673 ?_
                    rw [show (2 : Nat) ^ IntKind.u64.bits = 18446744073709551616 from rfl]
                    refine ae_take 21 rfl (by kernel_rfl) (by kernel_rfl) (by kernel_rfl) rfl (fun _ hS => ex_xorN (m := z.b) (n := ((get (unpk bs) qq (64 - ff.l - ff.r)).1 * 2 ^ ff.r % 18446744073709551616)) rfl rfl (by rfl) (by rfl) rfl (hz.b) (Nat.mod_lt _ (by decide))) hE673 ?_
                    refine ae_take 22 rfl (by kernel_rfl) (by kernel_rfl) (by kernel_rfl) rfl (fun _ hS => ex_nilCheck rfl) hE673 ?_
                    refine ae_take 23 rfl (by kernel_rfl) (by kernel_rfl) (by kernel_rfl) rfl (fun _ hS => ex_fieldAddr rfl Tryd.fld74_3) hE673 ?_
                    refine ae_loud [24] (by kernel_rfl) rfl ⟨?_, trivial⟩
                    refine a_step rfl ?_
                    refine wl_store1 rfl rfl (by first | rfl | assumption) Tryd.size72 hB676 rfl fun w677 hB678 hw679 => ?_
                    have hE680 := hE671.step hw679 (fun y hy => .inl (by simp at hy; simp [hy]))
                    have hE681 := hE672.step hw679 (fun y hy => .inl (by simp at hy; simp [hy]))
                    have hE682 := hE673.step hw679 (fun y hy => .inl (by simp at hy; simp [hy]))
                    have hB683 := hw679.blk hB674 hA7.symm.nmem1
                    have hB684 := hw679.blk hB675 hA18.symm.nmem1
                    have hB685 := hw679.blk hR9 hzr.symm.nmem1
                    try simp only [List.setIfInBounds_toArray, List.set_cons_zero, List.set_cons_succ, Nat.reduceAdd, Nat.zero_add, Nat.add_zero] at hB678
                    refine wl_nil (ae_next (.inl hE682) ?_)
                    refine ae_done (by kernel_rfl) (nrm_then ?_)
                    refine cw_exit (ex_here (nrm_same ?_))
                    refine ⟨(z.b ^^^ ((get (unpk bs) qq (64 - ff.l - ff.r)).1 * 2 ^ ff.r % 18446744073709551616), ff, (get (unpk bs) qq (64 - ff.l - ff.r)).2), trivial, ⟨rfl, rfl, rfl, rfl, trivial⟩, hE681, ?_⟩
                    exact ⟨hB678, hB685, hJ2 (by simpa using hc111) rfl rfl, xor_lt hz.b (Nat.mod_lt _ (by decide))⟩
                · skip
                  refine a_step rfl ?_
                  refine wl_call1 (vs := [_, _]) Tryd.goes34 rfl (get_ok hB268 (RSl.evo RB.pers ((hE263).mono hmX) hs) hx hl hqa (64 - ff.l - ff.r) (by omega)) rfl ?_
                  rintro _ w686 ⟨rfl, hR9, hw687⟩
                  have hE688 := hE263.step hw687 (fun y hy => .inl (by simp at hy; simp [hy]))
                  have hE689 := hE264.step hw687 (fun y hy => .inl (by simp at hy; simp [hy]))
                  have hE690 := (Evo.refl [bz, br] w261).step hw687 (fun y hy => .inl (by simp at hy; simp [hy]))
                  have hB691 := hw687.blk hB265 hA6.symm.nmem1
                  have hB692 := hw687.blk hB266 hA17.symm.nmem1
                  have hB693 := hw687.blk hB267 hzr.nmem1
                  refine wl_nil (ae_next (.inl hE690) ?_)
                  refine ae_loud [3, 19] (by kernel_rfl) rfl ⟨?_, ?_, trivial⟩
                  · skip
                    refine a_step rfl ?_
                    refine wl_val rfl (ex_load1 rfl Tryd.agg72 (cell_nth hB693 rfl)) ?_
                    refine wl_nil (ae_next (.inl hE690) ?_)
                    refine ae_loud [19] (by kernel_rfl) rfl ⟨?_, trivial⟩
                    refine a_step rfl ?_
                    refine wl_val rfl (ex_load1 rfl Tryd.agg3 (cell_nth hB693 rfl)) ?_
                    refine wl_nil (ae_next (.inl hE690) ?_)
                    refine ae_take 20 rfl (by kernel_rfl) (by kernel_rfl) (by kernel_rfl) rfl (fun _ hS => ex_shlN (m := (get (unpk bs) qq (64 - ff.l - ff.r)).1) (n := ff.r) rfl rfl (by first | rfl | omega) (by first | rfl | omega) (by first | exact Nat.le_of_ble_eq_true rfl | (simp only [IntKind.bits]; omega)) rfl) hE690 ?_
                    rw [show (2 : Nat) ^ IntKind.u64.bits = 18446744073709551616 from rfl]
                    refine ae_take 21 rfl (by kernel_rfl) (by kernel_rfl) (by kernel_rfl) rfl (fun _ hS => ex_xorN (m := z.b) (n := ((get (unpk bs) qq (64 - ff.l - ff.r)).1 * 2 ^ ff.r % 18446744073709551616)) rfl rfl (by rfl) (by rfl) rfl (hz.b) (Nat.mod_lt _ (by decide))) hE690 ?_
                    refine ae_take 22 rfl (by kernel_rfl) (by kernel_rfl) (by kernel_rfl) rfl (fun _ hS => ex_nilCheck rfl) hE690 ?_
                    refine ae_take 23 rfl (by kernel_rfl) (by kernel_rfl) (by kernel_rfl) rfl (fun _ hS => ex_fieldAddr rfl Tryd.fld74_3) hE690 ?_
                    refine ae_loud [24] (by kernel_rfl) rfl ⟨?_, trivial⟩
                    refine a_step rfl ?_
                    refine wl_store1 rfl rfl (by first | rfl | assumption) Tryd.size72 hB693 rfl fun w694 hB695 hw696 => ?_
                    have hE697 := hE688.step hw696 (fun y hy => .inl (by simp at hy; simp [hy]))
                    have hE698 := hE689.step hw696 (fun y hy => .inl (by simp at hy; simp [hy]))
                    have hE699 := hE690.step hw696 (fun y hy => .inl (by simp at hy; simp [hy]))
                    have hB700 := hw696.blk hB691 hA7.symm.nmem1
                    have hB701 := hw696.blk hB692 hA18.symm.nmem1
                    have hB702 := hw696.blk hR9 hzr.symm.nmem1
                    try simp only [List.setIfInBounds_toArray, List.set_cons_zero, List.set_cons_succ, Nat.reduceAdd, Nat.zero_add, Nat.add_zero] at hB695
                    refine wl_nil (ae_next (.inl hE699) ?_)
                    refine ae_done (by kernel_rfl) (nrm_then ?_)
                    refine cw_exit (ex_here (nrm_same ?_))
                    refine ⟨(z.b ^^^ ((get (unpk bs) qq (64 - ff.l - ff.r)).1 * 2 ^ ff.r % 18446744073709551616), ff, (get (unpk bs) qq (64 - ff.l - ff.r)).2), trivial, ⟨rfl, rfl, rfl, rfl, trivial⟩, hE698, ?_⟩
                    exact ⟨hB695, hB702, hJ2 (by simpa using hc111) rfl rfl, xor_lt hz.b (Nat.mod_lt _ (by decide))⟩
                  · skip
                    refine a_step rfl ?_
                    refine wl_val rfl (ex_load1 rfl Tryd.agg3 (cell_nth hB693 rfl)) ?_
                    refine wl_nil (ae_next (.inl hE690) ?_)
                    refine ae_take 20 rfl (by kernel_rfl) (by kernel_rfl) (by kernel_rfl) rfl (fun _ hS => ex_shlN (m := (get (unpk bs) qq (64 - ff.l - ff.r)).1) (n := ff.r) rfl rfl (by first | rfl | omega) (by first | rfl | omega) (by first | exact Nat.le_of_ble_eq_true rfl | (simp only [IntKind.bits]; omega)) rfl) hE690 ?_
                    rw [show (2 : Nat) ^ IntKind.u64.bits = 18446744073709551616 from rfl]
                    refine ae_loud [3] (by kernel_rfl) rfl ⟨?_, trivial⟩
                    refine a_step rfl ?_
                    refine wl_val rfl (ex_load1 rfl Tryd.agg72 (cell_nth hB693 rfl)) ?_
                    refine wl_nil (ae_next (.inl hE690) ?_)
                    refine ae_take 21 rfl (by kernel_rfl) (by kernel_rfl) (by kernel_rfl) rfl (fun _ hS => ex_xorN (m := z.b) (n := ((get (unpk bs) qq (64 - ff.l - ff.r)).1 * 2 ^ ff.r % 18446744073709551616)) rfl rfl (by rfl) (by rfl) rfl (hz.b) (Nat.mod_lt _ (by decide))) hE690 ?_
                    refine ae_take 22 rfl (by kernel_rfl) (by kernel_rfl) (by kernel_rfl) rfl (fun _ hS => ex_nilCheck rfl) hE690 ?_
                    refine ae_take 23 rfl (by kernel_rfl) (by kernel_rfl) (by kernel_rfl) rfl (fun _ hS => ex_fieldAddr rfl Tryd.fld74_3) hE690 ?_
                    refine ae_loud [24] (by kernel_rfl) rfl ⟨?_, trivial⟩
                    refine a_step rfl ?_
                    refine wl_store1 rfl rfl (by first | rfl | assumption) Tryd.size72 hB693 rfl fun w703 hB704 hw705 => ?_
                    have hE706 := hE688.step hw705 (fun y hy => .inl (by simp at hy; simp [hy]))
                    have hE707 := hE689.step hw705 (fun y hy => .inl (by simp at hy; simp [hy]))
                    have hE708 := hE690.step hw705 (fun y hy => .inl (by simp at hy; simp [hy]))
                    have hB709 := hw705.blk hB691 hA7.symm.nmem1
                    have hB710 := hw705.blk hB692 hA18.symm.nmem1
                    have hB711 := hw705.blk hR9 hzr.symm.nmem1
                    try simp only [List.setIfInBounds_toArray, List.set_cons_zero, List.set_cons_succ, Nat.reduceAdd, Nat.zero_add, Nat.add_zero] at hB704
                    refine wl_nil (ae_next (.inl hE708) ?_)
                    refine ae_done (by kernel_rfl) (nrm_then ?_)
                    refine cw_exit (ex_here (nrm_same ?_))
                    refine ⟨(z.b ^^^ ((get (unpk bs) qq (64 - ff.l - ff.r)).1 * 2 ^ ff.r % 18446744073709551616), ff, (get (unpk bs) qq (64 - ff.l - ff.r)).2), trivial, ⟨rfl, rfl, rfl, rfl, trivial⟩, hE707, ?_⟩
                    exact ⟨hB704, hB711, hJ2 (by simpa using hc111) rfl rfl, xor_lt hz.b (Nat.mod_lt _ (by decide))⟩
                · skip
                  refine a_step rfl ?_
                  refine wl_val rfl (ex_load1 rfl Tryd.agg3 (cell_nth hB267 rfl)) ?_
                  refine wl_nil (ae_next (.inl (Evo.refl [bz, br] w261)) ?_)
                  refine ae_loud [3, 15] (by kernel_rfl) rfl ⟨?_, ?_, trivial⟩
                  · skip
                    refine a_step rfl ?_
                    refine wl_val rfl (ex_load1 rfl Tryd.agg72 (cell_nth hB267 rfl)) ?_
                    refine wl_nil (ae_next (.inl (Evo.refl [bz, br] w261)) ?_)
                    refine ae_loud [15] (by kernel_rfl) rfl ⟨?_, trivial⟩
                    refine a_step rfl ?_
                    refine wl_call1 (vs := [_, _]) Tryd.goes34 rfl (get_ok hB268 (RSl.evo RB.pers ((hE263).mono hmX) hs) hx hl hqa (64 - ff.l - ff.r) (by omega)) rfl ?_
                    rintro _ w712 ⟨rfl, hR9, hw713⟩
                    have hE714 := hE263.step hw713 (fun y hy => .inl (by simp at hy; simp [hy]))
                    have hE715 := hE264.step hw713 (fun y hy => .inl (by simp at hy; simp [hy]))
                    have hE716 := (Evo.refl [bz, br] w261).step hw713 (fun y hy => .inl (by simp at hy; simp [hy]))
                    have hB717 := hw713.blk hB265 hA6.symm.nmem1
                    have hB718 := hw713.blk hB266 hA17.symm.nmem1
                    have hB719 := hw713.blk hB267 hzr.nmem1
                    refine wl_nil (ae_next (.inl hE716) ?_)
                    refine ae_take 20 rfl (by kernel_rfl) (by kernel_rfl) (by kernel_rfl) rfl (fun _ hS => ex_shlN (m := (get (unpk bs) qq (64 - ff.l - ff.r)).1) (n := ff.r) rfl rfl (by first | rfl | omega) (by first | rfl | omega) (by first | exact Nat.le_of_ble_eq_true rfl | (simp only [IntKind.bits]; omega)) rfl) hE716 ?_
                    rw [show (2 : Nat) ^ IntKind.u64.bits = 18446744073709551616 from rfl]
                    refine ae_take 21 rfl (by kernel_rfl) (by kernel_rfl) (by kernel_rfl) rfl (fun _ hS => ex_xorN (m := z.b) (n := ((get (unpk bs) qq (64 - ff.l - ff.r)).1 * 2 ^ ff.r % 18446744073709551616)) rfl rfl (by rfl) (by rfl) rfl (hz.b) (Nat.mod_lt _ (by decide))) hE716 ?_
                    refine ae_take 22 rfl (by kernel_rfl) (by kernel_rfl) (by kernel_rfl) rfl (fun _ hS => ex_nilCheck rfl) hE716 ?_
                    refine ae_take 23 rfl (by kernel_rfl) (by kernel_rfl) (by kernel_rfl) rfl (fun _ hS => ex_fieldAddr rfl Tryd.fld74_3) hE716 ?_
                    refine ae_loud [24] (by kernel_rfl) rfl ⟨?_, trivial⟩
                    refine a_step rfl ?_
                    refine wl_store1 rfl rfl (by first | rfl | assumption) Tryd.size72 hB719 rfl fun w720 hB721 hw722 => ?_
                    have hE723 := hE714.step hw722 (fun y hy => .inl (by simp at hy; simp [hy]))
                    have hE724 := hE715.step hw722 (fun y hy => .inl (by simp at hy; simp [hy]))
                    have hE725 := hE716.step hw722 (fun y hy => .inl (by simp at hy; simp [hy]))
                    have hB726 := hw722.blk hB717 hA7.symm.nmem1
                    have hB727 := hw722.blk hB718 hA18.symm.nmem1
                    have hB728 := hw722.blk hR9 hzr.symm.nmem1
                    try simp only [List.setIfInBounds_toArray, List.set_cons_zero, List.set_cons_succ, Nat.reduceAdd, Nat.zero_add, Nat.add_zero] at hB721
                    refine wl_nil (ae_next (.inl hE725) ?_)
                    refine ae_done (by kernel_rfl) (nrm_then ?_)
                    refine cw_exit (ex_here (nrm_same ?_))
                    refine ⟨(z.b ^^^ ((get (unpk bs) qq (64 - ff.l - ff.r)).1 * 2 ^ ff.r % 18446744073709551616), ff, (get (unpk bs) qq (64 - ff.l - ff.r)).2), trivial, ⟨rfl, rfl, rfl, rfl, trivial⟩, hE724, ?_⟩
                    exact ⟨hB721, hB728, hJ2 (by simpa using hc111) rfl rfl, xor_lt hz.b (Nat.mod_lt _ (by decide))⟩
                  · skip
                    refine a_step rfl ?_
                    refine wl_call1 (vs := [_, _]) Tryd.goes34 rfl (get_ok hB268 (RSl.evo RB.pers ((hE263).mono hmX) hs) hx hl hqa (64 - ff.l - ff.r) (by omega)) rfl ?_
                    rintro _ w729 ⟨rfl, hR9, hw730⟩
                    have hE731 := hE263.step hw730 (fun y hy => .inl (by simp at hy; simp [hy]))
                    have hE732 := hE264.step hw730 (fun y hy => .inl (by simp at hy; simp [hy]))
                    have hE733 := (Evo.refl [bz, br] w261).step hw730 (fun y hy => .inl (by simp at hy; simp [hy]))
                    have hB734 := hw730.blk hB265 hA6.symm.nmem1
                    have hB735 := hw730.blk hB266 hA17.symm.nmem1
                    have hB736 := hw730.blk hB267 hzr.nmem1
                    refine wl_nil (ae_next (.inl hE733) ?_)
                    refine ae_take 20 rfl (by kernel_rfl) (by kernel_rfl) (by kernel_rfl) rfl (fun _ hS => ex_shlN (m := (get (unpk bs) qq (64 - ff.l - ff.r)).1) (n := ff.r) rfl rfl (by first | rfl | omega) (by first | rfl | omega) (by first | exact Nat.le_of_ble_eq_true rfl | (simp only [IntKind.bits]; omega)) rfl) hE733 ?_
                    rw [show (2 : Nat) ^ IntKind.u64.bits = 18446744073709551616 from rfl]
                    refine ae_loud [3] (by kernel_rfl) rfl ⟨?_, trivial⟩
                    refine a_step rfl ?_
                    refine wl_val rfl (ex_load1 rfl Tryd.agg72 (cell_nth hB736 rfl)) ?_
                    refine wl_nil (ae_next (.inl hE733) ?_)
                    refine ae_take 21 rfl (by kernel_rfl) (by kernel_rfl) (by kernel_rfl) rfl (fun _ hS => ex_xorN (m := z.b) (n := ((get (unpk bs) qq (64 - ff.l - ff.r)).1 * 2 ^ ff.r % 18446744073709551616)) rfl rfl (by rfl) (by rfl) rfl (hz.b) (Nat.mod_lt _ (by decide))) hE733 ?_
                    refine ae_take 22 rfl (by kernel_rfl) (by kernel_rfl) (by kernel_rfl) rfl (fun _ hS => ex_nilCheck rfl) hE733 ?_
                    refine ae_take 23 rfl (by kernel_rfl) (by kernel_rfl) (by kernel_rfl) rfl (fun _ hS => ex_fieldAddr rfl Tryd.fld74_3) hE733 ?_
                    refine ae_loud [24] (by kernel_rfl) rfl ⟨?_, trivial⟩
                    refine a_step rfl ?_
                    refine wl_store1 rfl rfl (by first | rfl | assumption) Tryd.size72 hB736 rfl fun w737 hB738 hw739 => ?_
                    have hE740 := hE731.step hw739 (fun y hy => .inl (by simp at hy; simp [hy]))
                    have hE741 := hE732.step hw739 (fun y hy => .inl (by simp at hy; simp [hy]))
                    have hE742 := hE733.step hw739 (fun y hy => .inl (by simp at hy; simp [hy]))
                    have hB743 := hw739.blk hB734 hA7.symm.nmem1
                    have hB744 := hw739.blk hB735 hA18.symm.nmem1
                    have hB745 := hw739.blk hR9 hzr.symm.nmem1
                    try simp only [List.setIfInBounds_toArray, List.set_cons_zero, List.set_cons_succ, Nat.reduceAdd, Nat.zero_add, Nat.add_zero] at hB738
                    refine wl_nil (ae_next (.inl hE742) ?_)
                    refine ae_done (by kernel_rfl) (nrm_then ?_)
                    refine cw_exit (ex_here (nrm_same ?_))
                    refine ⟨(z.b ^^^ ((get (unpk bs) qq (64 - ff.l - ff.r)).1 * 2 ^ ff.r % 18446744073709551616), ff, (get (unpk bs) qq (64 - ff.l - ff.r)).2), trivial, ⟨rfl, rfl, rfl, rfl, trivial⟩, hE741, ?_⟩
                    exact ⟨hB738, hB745, hJ2 (by simpa using hc111) rfl rfl, xor_lt hz.b (Nat.mod_lt _ (by decide))⟩
              · skip
                refine a_step rfl ?_
                refine wl_val rfl (ex_load1 rfl Tryd.agg3 (cell_nth hB267 rfl)) ?_
                refine wl_nil (ae_next (.inl (Evo.refl [bz, br] w261)) ?_)
                refine ae_loud [3, 8] (by kernel_rfl) rfl ⟨?_, ?_, trivial⟩
                · skip
                  refine a_step rfl ?_
                  refine wl_val rfl (ex_load1 rfl Tryd.agg72 (cell_nth hB267 rfl)) ?_
                  refine wl_nil (ae_next (.inl (Evo.refl [bz, br] w261)) ?_)
                  refine ae_loud [8] (by kernel_rfl) rfl ⟨?_, trivial⟩
                  refine a_step rfl ?_
                  refine wl_val rfl (ex_load1 rfl Tryd.agg3 (cell_nth hB267 rfl)) ?_
                  refine wl_nil (ae_next (.inl (Evo.refl [bz, br] w261)) ?_)
                  refine ae_take 9 rfl (by kernel_rfl) (by kernel_rfl) (by kernel_rfl) rfl (fun _ hS => ex_sub_i64 rfl rfl (by omega) (by omega)) (Evo.refl [bz, br] w261) ?_
                  refine ae_take 14 rfl (by kernel_rfl) (by kernel_rfl) (by kernel_rfl) rfl (fun _ hS => ex_sub_i64 rfl rfl (by omega) (by omega)) (Evo.refl [bz, br] w261) ?_
                  rw [show ((64 : Int) - (ff.l : Nat) - (ff.r : Nat)) = ((64 - ff.l - ff.r : Nat) : Int) by omega]
                  refine ae_loud [15] (by kernel_rfl) rfl ⟨?_, trivial⟩
                  refine a_step rfl ?_
                  refine wl_call1 (vs := [_, _]) Tryd.goes34 rfl (get_ok hB268 (RSl.evo RB.pers ((hE263).mono hmX) hs) hx hl hqa (64 - ff.l - ff.r) (by omega)) rfl ?_
                  rintro _ w746 ⟨rfl, hR9, hw747⟩
                  have hE748 := hE263.step hw747 (fun y hy => .inl (by simp at hy; simp [hy]))
                  have hE749 := hE264.step hw747 (fun y hy => .inl (by simp at hy; simp [hy]))
                  have hE750 := (Evo.refl [bz, br] w261).step hw747 (fun y hy => .inl (by simp at hy; simp [hy]))
                  have hB751 := hw747.blk hB265 hA6.symm.nmem1
                  have hB752 := hw747.blk hB266 hA17.symm.nmem1
                  have hB753 := hw747.blk hB267 hzr.nmem1
                  refine wl_nil (ae_next (.inl hE750) ?_)
                  refine ae_take 20 rfl (by kernel_rfl) (by kernel_rfl) (by kernel_rfl) rfl (fun _ hS => ex_shlN (m := (get (unpk bs) qq (64 - ff.l - ff.r)).1) (n := ff.r) rfl rfl (by first | rfl | omega) (by first | rfl | omega) (by first | exact Nat.le_of_ble_eq_true rfl | (simp only [IntKind.bits]; omega)) rfl) hE750 ?_
                  rw [show (2 : Nat) ^ IntKind.u64.bits = 18446744073709551616 from rfl]
                  refine ae_take 21 rfl (by kernel_rfl) (by kernel_rfl) (by kernel_rfl) rfl (fun _ hS => ex_xorN (m := z.b) (n := ((get (unpk bs) qq (64 - ff.l - ff.r)).1 * 2 ^ ff.r % 18446744073709551616)) rfl rfl (by rfl) (by rfl) rfl (hz.b) (Nat.mod_lt _ (by decide))) hE750 ?_
                  refine ae_take 22 rfl (by kernel_rfl) (by kernel_rfl) (by kernel_rfl) rfl (fun _ hS => ex_nilCheck rfl) hE750 ?_
                  refine ae_take 23 rfl (by kernel_rfl) (by kernel_rfl) (by kernel_rfl) rfl (fun _ hS => ex_fieldAddr rfl Tryd.fld74_3) hE750 ?_
                  refine ae_loud [24] (by kernel_rfl) rfl ⟨?_, trivial⟩
                  refine a_step rfl ?_
                  refine wl_store1 rfl rfl (by first | rfl | assumption) Tryd.size72 hB753 rfl fun w754 hB755 hw756 => ?_
                  have hE757 := hE748.step hw756 (fun y hy => .inl (by simp at hy; simp [hy]))
                  have hE758 := hE749.step hw756 (fun y hy => .inl (by simp at hy; simp [hy]))
                  have hE759 := hE750.step hw756 (fun y hy => .inl (by simp at hy; simp [hy]))
                  have hB760 := hw756.blk hB751 hA7.symm.nmem1
                  have hB761 := hw756.blk hB752 hA18.symm.nmem1
                  have hB762 := hw756.blk hR9 hzr.symm.nmem1
                  try simp only [List.setIfInBounds_toArray, List.set_cons_zero, List.set_cons_succ, Nat.reduceAdd, Nat.zero_add, Nat.add_zero] at hB755
                  refine wl_nil (ae_next (.inl hE759) ?_)
                  refine ae_done (by kernel_rfl) (nrm_then ?_)
                  refine cw_exit (ex_here (nrm_same ?_))
                  refine ⟨(z.b ^^^ ((get (unpk bs) qq (64 - ff.l - ff.r)).1 * 2 ^ ff.r % 18446744073709551616), ff, (get (unpk bs) qq (64 - ff.l - ff.r)).2), trivial, ⟨rfl, rfl, rfl, rfl, trivial⟩, hE758, ?_⟩
                  exact ⟨hB755, hB762, hJ2 (by simpa using hc111) rfl rfl, xor_lt hz.b (Nat.mod_lt _ (by decide))⟩
                · skip
                  refine a_step rfl ?_
                  refine wl_val rfl (ex_load1 rfl Tryd.agg3 (cell_nth hB267 rfl)) ?_
                  refine wl_nil (ae_next (.inl (Evo.refl [bz, br] w261)) ?_)
                  refine ae_take 9 rfl (by kernel_rfl) (by kernel_rfl) (by kernel_rfl) rfl (fun _ hS => ex_sub_i64 rfl rfl (by omega) (by omega)) (Evo.refl [bz, br] w261) ?_
                  refine ae_take 14 rfl (by kernel_rfl) (by kernel_rfl) (by kernel_rfl) rfl (fun _ hS => ex_sub_i64 rfl rfl (by omega) (by omega)) (Evo.refl [bz, br] w261) ?_
                  rw [show ((64 : Int) - (ff.l : Nat) - (ff.r : Nat)) = ((64 - ff.l - ff.r : Nat) : Int) by omega]
                  refine ae_loud [3, 15] (by kernel_rfl) rfl ⟨?_, ?_, trivial⟩
                  · skip
                    refine a_step rfl ?_
                    refine wl_val rfl (ex_load1 rfl Tryd.agg72 (cell_nth hB267 rfl)) ?_
                    refine wl_nil (ae_next (.inl (Evo.refl [bz, br] w261)) ?_)
                    refine ae_loud [15] (by kernel_rfl) rfl ⟨?_, trivial⟩
                    refine a_step rfl ?_
                    refine wl_call1 (vs := [_, _]) Tryd.goes34 rfl (get_ok hB268 (RSl.evo RB.pers ((hE263).mono hmX) hs) hx hl hqa (64 - ff.l - ff.r) (by omega)) rfl ?_
                    rintro _ w763 ⟨rfl, hR9, hw764⟩
                    have hE765 := hE263.step hw764 (fun y hy => .inl (by simp at hy; simp [hy]))
                    have hE766 := hE264.step hw764 (fun y hy => .inl (by simp at hy; simp [hy]))
                    have hE767 := (Evo.refl [bz, br] w261).step hw764 (fun y hy => .inl (by simp at hy; simp [hy]))
                    have hB768 := hw764.blk hB265 hA6.symm.nmem1
                    have hB769 := hw764.blk hB266 hA17.symm.nmem1
                    have hB770 := hw764.blk hB267 hzr.nmem1
                    refine wl_nil (ae_next (.inl hE767) ?_)
                    refine ae_take 20 rfl (by kernel_rfl) (by kernel_rfl) (by kernel_rfl) rfl (fun _ hS => ex_shlN (m := (get (unpk bs) qq (64 - ff.l - ff.r)).1) (n := ff.r) rfl rfl (by first | rfl | omega) (by first | rfl | omega) (by first | exact Nat.le_of_ble_eq_true rfl | (simp only [IntKind.bits]; omega)) rfl) hE767 ?_
                    rw [show (2 : Nat) ^ IntKind.u64.bits = 18446744073709551616 from rfl]
                    refine ae_take 21 rfl (by kernel_rfl) (by kernel_rfl) (by kernel_rfl) rfl (fun _ hS => ex_xorN (m := z.b) (n := ((get (unpk bs) qq (64 - ff.l - ff.r)).1 * 2 ^ ff.r % 18446744073709551616)) rfl rfl (by rfl) (by rfl) rfl (hz.b) (Nat.mod_lt _ (by decide))) hE767 ?_
                    refine ae_take 22 rfl (by kernel_rfl) (by kernel_rfl) (by kernel_rfl) rfl (fun _ hS => ex_nilCheck rfl) hE767 ?_
                    refine ae_take 23 rfl (by kernel_rfl) (by kernel_rfl) (by kernel_rfl) rfl (fun _ hS => ex_fieldAddr rfl Tryd.fld74_3) hE767 ?_
                    refine ae_loud [24] (by kernel_rfl) rfl ⟨?_, trivial⟩
                    refine a_step rfl ?_
                    refine wl_store1 rfl rfl (by first | rfl | assumption) Tryd.size72 hB770 rfl fun w771 hB772 hw773 => ?_
                    have hE774 := hE765.step hw773 (fun y hy => .inl (by simp at hy; simp [hy]))
                    have hE775 := hE766.step hw773 (fun y hy => .inl (by simp at hy; simp [hy]))
                    have hE776 := hE767.step hw773 (fun y hy => .inl (by simp at hy; simp [hy]))
                    have hB777 := hw773.blk hB768 hA7.symm.nmem1
                    have hB778 := hw773.blk hB769 hA18.symm.nmem1
                    have hB779 := hw773.blk hR9 hzr.symm.nmem1
                    try simp only [List.setIfInBounds_toArray, List.set_cons_zero, List.set_cons_succ, Nat.reduceAdd, Nat.zero_add, Nat.add_zero] at hB772
                    refine wl_nil (ae_next (.inl hE776) ?_)
                    refine ae_done (by kernel_rfl) (nrm_then ?_)
                    refine cw_exit (ex_here (nrm_same ?_))
                    refine ⟨(z.b ^^^ ((get (unpk bs) qq (64 - ff.l - ff.r)).1 * 2 ^ ff.r % 18446744073709551616), ff, (get (unpk bs) qq (64 - ff.l - ff.r)).2), trivial, ⟨rfl, rfl, rfl, rfl, trivial⟩, hE775, ?_⟩
                    exact ⟨hB772, hB779, hJ2 (by simpa using hc111) rfl rfl, xor_lt hz.b (Nat.mod_lt _ (by decide))⟩
                  · skip
                    refine a_step rfl ?_
                    refine wl_call1 (vs := [_, _]) Tryd.goes34 rfl (get_ok hB268 (RSl.evo RB.pers ((hE263).mono hmX) hs) hx hl hqa (64 - ff.l - ff.r) (by omega)) rfl ?_
                    rintro _ w780 ⟨rfl, hR9, hw781⟩
                    have hE782 := hE263.step hw781 (fun y hy => .inl (by simp at hy; simp [hy]))
                    have hE783 := hE264.step hw781 (fun y hy => .inl (by simp at hy; simp [hy]))
                    have hE784 := (Evo.refl [bz, br] w261).step hw781 (fun y hy => .inl (by simp at hy; simp [hy]))
                    have hB785 := hw781.blk hB265 hA6.symm.nmem1
                    have hB786 := hw781.blk hB266 hA17.symm.nmem1
                    have hB787 := hw781.blk hB267 hzr.nmem1
                    refine wl_nil (ae_next (.inl hE784) ?_)
                    refine ae_take 20 rfl (by kernel_rfl) (by kernel_rfl) (by kernel_rfl) rfl (fun _ hS => ex_shlN (m := (get (unpk bs) qq (64 - ff.l - ff.r)).1) (n := ff.r) rfl rfl (by first | rfl | omega) (by first | rfl | omega) (by first | exact Nat.le_of_ble_eq_true rfl | (simp only [IntKind.bits]; omega)) rfl) hE784 ?_
                    rw [show (2 : Nat) ^ IntKind.u64.bits = 18446744073709551616 from rfl]
                    refine ae_loud [3] (by kernel_rfl) rfl ⟨?_, trivial⟩
                    refine a_step rfl ?_
                    refine wl_val rfl (ex_load1 rfl Tryd.agg72 (cell_nth hB787 rfl)) ?_
                    refine wl_nil (ae_next (.inl hE784) ?_)
                    refine ae_take 21 rfl (by kernel_rfl) (by kernel_rfl) (by kernel_rfl) rfl (fun _ hS => ex_xorN (m := z.b) (n := ((get (unpk bs) qq (64 - ff.l - ff.r)).1 * 2 ^ ff.r % 18446744073709551616)) rfl rfl (by rfl) (by rfl) rfl (hz.b) (Nat.mod_lt _ (by decide))) hE784 ?_
                    refine ae_take 22 rfl (by kernel_rfl) (by kernel_rfl) (by kernel_rfl) rfl (fun _ hS => ex_nilCheck rfl) hE784 ?_
                    refine ae_take 23 rfl (by kernel_rfl) (by kernel_rfl) (by kernel_rfl) rfl (fun _ hS => ex_fieldAddr rfl Tryd.fld74_3) hE784 ?_
                    refine ae_loud [24] (by kernel_rfl) rfl ⟨?_, trivial⟩
                    refine a_step rfl ?_
                    refine wl_store1 rfl rfl (by first | rfl | assumption) Tryd.size72 hB787 rfl fun w788 hB789 hw790 => ?_
                    have hE791 := hE782.step hw790 (fun y hy => .inl (by simp at hy; simp [hy]))
                    have hE792 := hE783.step hw790 (fun y hy => .inl (by simp at hy; simp [hy]))
                    have hE793 := hE784.step hw790 (fun y hy => .inl (by simp at hy; simp [hy]))
                    have hB794 := hw790.blk hB785 hA7.symm.nmem1
                    have hB795 := hw790.blk hB786 hA18.symm.nmem1
                    have hB796 := hw790.blk hR9 hzr.symm.nmem1
                    try simp only [List.setIfInBounds_toArray, List.set_cons_zero, List.set_cons_succ, Nat.reduceAdd, Nat.zero_add, Nat.add_zero] at hB789
                    refine wl_nil (ae_next (.inl hE793) ?_)
                    refine ae_done (by kernel_rfl) (nrm_then ?_)
                    refine cw_exit (ex_here (nrm_same ?_))
                    refine ⟨(z.b ^^^ ((get (unpk bs) qq (64 - ff.l - ff.r)).1 * 2 ^ ff.r % 18446744073709551616), ff, (get (unpk bs) qq (64 - ff.l - ff.r)).2), trivial, ⟨rfl, rfl, rfl, rfl, trivial⟩, hE792, ?_⟩
                    exact ⟨hB789, hB796, hJ2 (by simpa using hc111) rfl rfl, xor_lt hz.b (Nat.mod_lt _ (by decide))⟩
            · skip
              refine a_step rfl ?_
              refine wl_val rfl (ex_load1 rfl Tryd.agg3 (cell_nth hB267 rfl)) ?_
              refine wl_nil (ae_next (.inl (Evo.refl [bz, br] w261)) ?_)
              refine ae_loud [3, 8, 13] (by kernel_rfl) rfl ⟨?_, ?_, ?_, trivial⟩
              · skip
                refine a_step rfl ?_
                refine wl_val rfl (ex_load1 rfl Tryd.agg72 (cell_nth hB267 rfl)) ?_
                refine wl_nil (ae_next (.inl (Evo.refl [bz, br] w261)) ?_)
                refine ae_loud [8, 13] (by kernel_rfl) rfl ⟨?_, ?_, trivial⟩
                · skip
                  refine a_step rfl ?_
                  refine wl_val rfl (ex_load1 rfl Tryd.agg3 (cell_nth hB267 rfl)) ?_
                  refine wl_nil (ae_next (.inl (Evo.refl [bz, br] w261)) ?_)
                  refine ae_take 9 rfl (by kernel_rfl) (by kernel_rfl) (by kernel_rfl) rfl (fun _ hS => ex_sub_i64 rfl rfl (by omega) (by omega)) (Evo.refl [bz, br] w261) ?_
                  refine ae_loud [13] (by kernel_rfl) rfl ⟨?_, trivial⟩
                  refine a_step rfl ?_
                  refine wl_val rfl (ex_load1 rfl Tryd.agg3 (cell_nth hB267 rfl)) ?_
                  refine wl_nil (ae_next (.inl (Evo.refl [bz, br] w261)) ?_)
                  refine ae_take 14 rfl (by kernel_rfl) (by kernel_rfl) (by kernel_rfl) rfl (fun _ hS => ex_sub_i64 rfl rfl (by omega) (by omega)) (Evo.refl [bz, br] w261) ?_
                  rw [show ((64 : Int) - (ff.l : Nat) - (ff.r : Nat)) = ((64 - ff.l - ff.r : Nat) : Int) by omega]
                  refine ae_loud [15] (by kernel_rfl) rfl ⟨?_, trivial⟩
                  refine a_step rfl ?_
                  refine wl_call1 (vs := [_, _]) Tryd.goes34 rfl (get_ok hB268 (RSl.evo RB.pers ((hE263).mono hmX) hs) hx hl hqa (64 - ff.l - ff.r) (by omega)) rfl ?_
                  rintro _ w797 ⟨rfl, hR9, hw798⟩
                  have hE799 := hE263.step hw798 (fun y hy => .inl (by simp at hy; simp [hy]))
                  have hE800 := hE264.step hw798 (fun y hy => .inl (by simp at hy; simp [hy]))
                  have hE801 := (Evo.refl [bz, br] w261).step hw798 (fun y hy => .inl (by simp at hy; simp [hy]))
                  have hB802 := hw798.blk hB265 hA6.symm.nmem1
                  have hB803 := hw798.blk hB266 hA17.symm.nmem1
                  have hB804 := hw798.blk hB267 hzr.nmem1
                  refine wl_nil (ae_next (.inl hE801) ?_)
                  refine ae_take 20 rfl (by kernel_rfl) (by kernel_rfl) (by kernel_rfl) rfl (fun _ hS => ex_shlN (m := (get (unpk bs) qq (64 - ff.l - ff.r)).1) (n := ff.r) rfl rfl (by first | rfl | omega) (by first | rfl | omega) (by first | exact Nat.le_of_ble_eq_true rfl | (simp only [IntKind.bits]; omega)) rfl) hE801 ?_
                  rw [show (2 : Nat) ^ IntKind.u64.bits = 18446744073709551616 from rfl]
                  refine ae_take 21 rfl (by kernel_rfl) (by kernel_rfl) (by kernel_rfl) rfl (fun _ hS => ex_xorN (m := z.b) (n := ((get (unpk bs) qq (64 - ff.l - ff.r)).1 * 2 ^ ff.r % 18446744073709551616)) rfl rfl (by rfl) (by rfl) rfl (hz.b) (Nat.mod_lt _ (by decide))) hE801 ?_
                  refine ae_take 22 rfl (by kernel_rfl) (by kernel_rfl) (by kernel_rfl) rfl (fun _ hS => ex_nilCheck rfl) hE801 ?_
                  refine ae_take 23 rfl (by kernel_rfl) (by kernel_rfl) (by kernel_rfl) rfl (fun _ hS => ex_fieldAddr rfl Tryd.fld74_3) hE801 ?_
                  refine ae_loud [24] (by kernel_rfl) rfl ⟨?_, trivial⟩
                  refine a_step rfl ?_
                  refine wl_store1 rfl rfl (by first | rfl | assumption) Tryd.size72 hB804 rfl fun w805 hB806 hw807 => ?_
                  have hE808 := hE799.step hw807 (fun y hy => .inl (by simp at hy; simp [hy]))
                  have hE809 := hE800.step hw807 (fun y hy => .inl (by simp at hy; simp [hy]))
                  have hE810 := hE801.step hw807 (fun y hy => .inl (by simp at hy; simp [hy]))
                  have hB811 := hw807.blk hB802 hA7.symm.nmem1
                  have hB812 := hw807.blk hB803 hA18.symm.nmem1
                  have hB813 := hw807.blk hR9 hzr.symm.nmem1
                  try simp only [List.setIfInBounds_toArray, List.set_cons_zero, List.set_cons_succ, Nat.reduceAdd, Nat.zero_add, Nat.add_zero] at hB806
                  refine wl_nil (ae_next (.inl hE810) ?_)
                  refine ae_done (by kernel_rfl) (nrm_then ?_)
                  refine cw_exit (ex_here (nrm_same ?_))
                  refine ⟨(z.b ^^^ ((get (unpk bs) qq (64 - ff.l - ff.r)).1 * 2 ^ ff.r % 18446744073709551616), ff, (get (unpk bs) qq (64 - ff.l - ff.r)).2), trivial, ⟨rfl, rfl, rfl, rfl, trivial⟩, hE809, ?_⟩
                  exact ⟨hB806, hB813, hJ2 (by simpa using hc111) rfl rfl, xor_lt hz.b (Nat.mod_lt _ (by decide))⟩
                · skip
                  refine a_step rfl ?_
                  refine wl_val rfl (ex_load1 rfl Tryd.agg3 (cell_nth hB267 rfl)) ?_
                  refine wl_nil (ae_next (.inl (Evo.refl [bz, br] w261)) ?_)
                  refine ae_loud [8] (by kernel_rfl) rfl ⟨?_, trivial⟩
                  refine a_step rfl ?_
                  refine wl_val rfl (ex_load1 rfl Tryd.agg3 (cell_nth hB267 rfl)) ?_
                  refine wl_nil (ae_next (.inl (Evo.refl [bz, br] w261)) ?_)
                  refine ae_take 9 rfl (by kernel_rfl) (by kernel_rfl) (by kernel_rfl) rfl (fun _ hS => ex_sub_i64 rfl rfl (by omega) (by omega)) (Evo.refl [bz, br] w261) ?_
                  refine ae_take 14 rfl (by kernel_rfl) (by kernel_rfl) (by kernel_rfl) rfl (fun _ hS => ex_sub_i64 rfl rfl (by omega) (by omega)) (Evo.refl [bz, br] w261) ?_
                  rw [show ((64 : Int) - (ff.l : Nat) - (ff.r : Nat)) = ((64 - ff.l - ff.r : Nat) : Int) by omega]
                  refine ae_loud [15] (by kernel_rfl) rfl ⟨?_, trivial⟩
                  refine a_step rfl ?_
                  refine wl_call1 (vs := [_, _]) Tryd.goes34 rfl (get_ok hB268 (RSl.evo RB.pers ((hE263).mono hmX) hs) hx hl hqa (64 - ff.l - ff.r) (by omega)) rfl ?_
                  rintro _ w814 ⟨rfl, hR9, hw815⟩
                  have hE816 := hE263.step hw815 (fun y hy => .inl (by simp at hy; simp [hy]))
                  have hE817 := hE264.step hw815 (fun y hy => .inl (by simp at hy; simp [hy]))
                  have hE818 := (Evo.refl [bz, br] w261).step hw815 (fun y hy => .inl (by simp at hy; simp [hy]))
                  have hB819 := hw815.blk hB265 hA6.symm.nmem1
                  have hB820 := hw815.blk hB266 hA17.symm.nmem1
                  have hB821 := hw815.blk hB267 hzr.nmem1
                  refine wl_nil (ae_next (.inl hE818) ?_)
                  refine ae_take 20 rfl (by kernel_rfl) (by kernel_rfl) (by kernel_rfl) rfl (fun _ hS => ex_shlN (m := (get (unpk bs) qq (64 - ff.l - ff.r)).1) (n := ff.r) rfl rfl (by first | rfl | omega) (by first | rfl | omega) (by first | exact Nat.le_of_ble_eq_true rfl | (simp only [IntKind.bits]; omega)) rfl) hE818 ?_
                  rw [show (2 : Nat) ^ IntKind.u64.bits = 18446744073709551616 from rfl]
                  refine ae_take 21 rfl (by kernel_rfl) (by kernel_rfl) (by kernel_rfl) rfl (fun _ hS => ex_xorN (m := z.b) (n := ((get (unpk bs) qq (64 - ff.l - ff.r)).1 * 2 ^ ff.r % 18446744073709551616)) rfl rfl (by rfl) (by rfl) rfl (hz.b) (Nat.mod_lt _ (by decide))) hE818 ?_
                  refine ae_take 22 rfl (by kernel_rfl) (by kernel_rfl) (by kernel_rfl) rfl (fun _ hS => ex_nilCheck rfl) hE818 ?_
                  refine ae_take 23 rfl (by kernel_rfl) (by kernel_rfl) (by kernel_rfl) rfl (fun _ hS => ex_fieldAddr rfl Tryd.fld74_3) hE818 ?_
                  refine ae_loud [24] (by kernel_rfl) rfl ⟨?_, trivial⟩
                  refine a_step rfl ?_
                  refine wl_store1 rfl rfl (by first | rfl | assumption) Tryd.size72 hB821 rfl fun w822 hB823 hw824 => ?_
                  have hE825 := hE816.step hw824 (fun y hy => .inl (by simp at hy; simp [hy]))
                  have hE826 := hE817.step hw824 (fun y hy => .inl (by simp at hy; simp [hy]))
                  have hE827 := hE818.step hw824 (fun y hy => .inl (by simp at hy; simp [hy]))
                  have hB828 := hw824.blk hB819 hA7.symm.nmem1
                  have hB829 := hw824.blk hB820 hA18.symm.nmem1
                  have hB830 := hw824.blk hR9 hzr.symm.nmem1
                  try simp only [List.setIfInBounds_toArray, List.set_cons_zero, List.set_cons_succ, Nat.reduceAdd, Nat.zero_add, Nat.add_zero] at hB823
                  refine wl_nil (ae_next (.inl hE827) ?_)
                  refine ae_done (by kernel_rfl) (nrm_then ?_)
                  refine cw_exit (ex_here (nrm_same ?_))
                  refine ⟨(z.b ^^^ ((get (unpk bs) qq (64 - ff.l - ff.r)).1 * 2 ^ ff.r % 18446744073709551616), ff, (get (unpk bs) qq (64 - ff.l - ff.r)).2), trivial, ⟨rfl, rfl, rfl, rfl, trivial⟩, hE826, ?_⟩
                  exact ⟨hB823, hB830, hJ2 (by simpa using hc111) rfl rfl, xor_lt hz.b (Nat.mod_lt _ (by decide))⟩
              · skip
                refine a_step rfl ?_
                refine wl_val rfl (ex_load1 rfl Tryd.agg3 (cell_nth hB267 rfl)) ?_
                refine wl_nil (ae_next (.inl (Evo.refl [bz, br] w261)) ?_)
                refine ae_take 9 rfl (by kernel_rfl) (by kernel_rfl) (by kernel_rfl) rfl (fun _ hS => ex_sub_i64 rfl rfl (by omega) (by omega)) (Evo.refl [bz, br] w261) ?_
                refine ae_loud [3, 13] (by kernel_rfl) rfl ⟨?_, ?_, trivial⟩
                · skip
                  refine a_step rfl ?_
                  refine wl_val rfl (ex_load1 rfl Tryd.agg72 (cell_nth hB267 rfl)) ?_
                  refine wl_nil (ae_next (.inl (Evo.refl [bz, br] w261)) ?_)
                  refine ae_loud [13] (by kernel_rfl) rfl ⟨?_, trivial⟩
                  refine a_step rfl ?_
                  refine wl_val rfl (ex_load1 rfl Tryd.agg3 (cell_nth hB267 rfl)) ?_
                  refine wl_nil (ae_next (.inl (Evo.refl [bz, br] w261)) ?_)
                  refine ae_take 14 rfl (by kernel_rfl) (by kernel_rfl) (by kernel_rfl) rfl (fun _ hS => ex_sub_i64 rfl rfl (by omega) (by omega)) (Evo.refl [bz, br] w261) ?_
                  rw [show ((64 : Int) - (ff.l : Nat) - (ff.r : Nat)) = ((64 - ff.l - ff.r : Nat) : Int) by omega]
                  refine ae_loud [15] (by kernel_rfl) rfl ⟨?_, trivial⟩
                  refine a_step rfl ?_
                  refine wl_call1 (vs := [_, _]) Tryd.goes34 rfl (get_ok hB268 (RSl.evo RB.pers ((hE263).mono hmX) hs) hx hl hqa (64 - ff.l - ff.r) (by omega)) rfl ?_
                  rintro _ w831 ⟨rfl, hR9, hw832⟩
                  have hE833 := hE263.step hw832 (fun y hy => .inl (by simp at hy; simp [hy]))
                  have hE834 := hE264.step hw832 (fun y hy => .inl (by simp at hy; simp [hy]))
                  have hE835 := (Evo.refl [bz, br] w261).step hw832 (fun y hy => .inl (by simp at hy; simp [hy]))
                  have hB836 := hw832.blk hB265 hA6.symm.nmem1
                  have hB837 := hw832.blk hB266 hA17.symm.nmem1
                  have hB838 := hw832.blk hB267 hzr.nmem1
                  refine wl_nil (ae_next (.inl hE835) ?_)
                  refine ae_take 20 rfl (by kernel_rfl) (by kernel_rfl) (by kernel_rfl) rfl (fun _ hS => ex_shlN (m := (get (unpk bs) qq (64 - ff.l - ff.r)).1) (n := ff.r) rfl rfl (by first | rfl | omega) (by first | rfl | omega) (by first | exact Nat.le_of_ble_eq_true rfl | (simp only [IntKind.bits]; omega)) rfl) hE835 ?_
                  rw [show (2 : Nat) ^ IntKind.u64.bits = 18446744073709551616 from rfl]
                  refine ae_take 21 rfl (by kernel_rfl) (by kernel_rfl) (by kernel_rfl) rfl (fun _ hS => ex_xorN (m := z.b) (n := ((get (unpk bs) qq (64 - ff.l - ff.r)).1 * 2 ^ ff.r % 18446744073709551616)) rfl rfl (by rfl) (by rfl) rfl (hz.b) (Nat.mod_lt _ (by decide))) hE835 ?_
                  refine ae_take 22 rfl (by kernel_rfl) (by kernel_rfl) (by kernel_rfl) rfl (fun _ hS => ex_nilCheck rfl) hE835 ?_
                  refine ae_take 23 rfl (by kernel_rfl) (by kernel_rfl) (by kernel_rfl) rfl (fun _ hS => ex_fieldAddr rfl Tryd.fld74_3) hE835 ?_
                  refine ae_loud [24] (by kernel_rfl) rfl ⟨?_, trivial⟩
                  refine a_step rfl ?_
                  refine wl_store1 rfl rfl (by first | rfl | assumption) Tryd.size72 hB838 rfl fun w839 hB840 hw841 => ?_
                  have hE842 := hE833.step hw841 (fun y hy => .inl (by simp at hy; simp [hy]))
                  have hE843 := hE834.step hw841 (fun y hy => .inl (by simp at hy; simp [hy]))
                  have hE844 := hE835.step hw841 (fun y hy => .inl (by simp at hy; simp [hy]))
                  have hB845 := hw841.blk hB836 hA7.symm.nmem1
                  have hB846 := hw841.blk hB837 hA18.symm.nmem1
                  have hB847 := hw841.blk hR9 hzr.symm.nmem1
                  try simp only [List.setIfInBounds_toArray, List.set_cons_zero, List.set_cons_succ, Nat.reduceAdd, Nat.zero_add, Nat.add_zero] at hB840
                  refine wl_nil (ae_next (.inl hE844) ?_)
                  refine ae_done (by kernel_rfl) (nrm_then ?_)
                  refine cw_exit (ex_here (nrm_same ?_))
                  refine ⟨(z.b ^^^ ((get (unpk bs) qq (64 - ff.l - ff.r)).1 * 2 ^ ff.r % 18446744073709551616), ff, (get (unpk bs) qq (64 - ff.l - ff.r)).2), trivial, ⟨rfl, rfl, rfl, rfl, trivial⟩, hE843, ?_⟩
                  exact ⟨hB840, hB847, hJ2 (by simpa using hc111) rfl rfl, xor_lt hz.b (Nat.mod_lt _ (by decide))⟩
                · skip
                  refine a_step rfl ?_
                  refine wl_val rfl (ex_load1 rfl Tryd.agg3 (cell_nth hB267 rfl)) ?_
                  refine wl_nil (ae_next (.inl (Evo.refl [bz, br] w261)) ?_)
                  refine ae_take 14 rfl (by kernel_rfl) (by kernel_rfl) (by kernel_rfl) rfl (fun _ hS => ex_sub_i64 rfl rfl (by omega) (by omega)) (Evo.refl [bz, br] w261) ?_
                  rw [show ((64 : Int) - (ff.l : Nat) - (ff.r : Nat)) = ((64 - ff.l - ff.r : Nat) : Int) by omega]
                  refine ae_loud [3, 15] (by kernel_rfl) rfl ⟨?_, ?_, trivial⟩
                  · skip
                    refine a_step rfl ?_
                    refine wl_val rfl (ex_load1 rfl Tryd.agg72 (cell_nth hB267 rfl)) ?_
                    refine wl_nil (ae_next (.inl (Evo.refl [bz, br] w261)) ?_)
                    refine ae_loud [15] (by kernel_rfl) rfl ⟨?_, trivial⟩
                    refine a_step rfl ?_
                    refine wl_call1 (vs := [_, _]) Tryd.goes34 rfl (get_ok hB268 (RSl.evo RB.pers ((hE263).mono hmX) hs) hx hl hqa (64 - ff.l - ff.r) (by omega)) rfl ?_
                    rintro _ w848 ⟨rfl, hR9, hw849⟩
                    have hE850 := hE263.step hw849 (fun y hy => .inl (by simp at hy; simp [hy]))
                    have hE851 := hE264.step hw849 (fun y hy => .inl (by simp at hy; simp [hy]))
                    have hE852 := (Evo.refl [bz, br] w261).step hw849 (fun y hy => .inl (by simp at hy; simp [hy]))
                    have hB853 := hw849.blk hB265 hA6.symm.nmem1
                    have hB854 := hw849.blk hB266 hA17.symm.nmem1
                    have hB855 := hw849.blk hB267 hzr.nmem1
                    refine wl_nil (ae_next (.inl hE852) ?_)
                    refine ae_take 20 rfl (by kernel_rfl) (by kernel_rfl) (by kernel_rfl) rfl (fun _ hS => ex_shlN (m := (get (unpk bs) qq (64 - ff.l - ff.r)).1) (n := ff.r) rfl rfl (by first | rfl | omega) (by first | rfl | omega) (by first | exact Nat.le_of_ble_eq_true rfl | (simp only [IntKind.bits]; omega)) rfl) hE852 ?_
                    rw [show (2 : Nat) ^ IntKind.u64.bits = 18446744073709551616 from rfl]
                    refine ae_take 21 rfl (by kernel_rfl) (by kernel_rfl) (by kernel_rfl) rfl (fun _ hS => ex_xorN (m := z.b) (n := ((get (unpk bs) qq (64 - ff.l - ff.r)).1 * 2 ^ ff.r % 18446744073709551616)) rfl rfl (by rfl) (by rfl) rfl (hz.b) (Nat.mod_lt _ (by decide))) hE852 ?_
                    refine ae_take 22 rfl (by kernel_rfl) (by kernel_rfl) (by kernel_rfl) rfl (fun _ hS => ex_nilCheck rfl) hE852 ?_
                    refine ae_take 23 rfl (by kernel_rfl) (by kernel_rfl) (by kernel_rfl) rfl (fun _ hS => ex_fieldAddr rfl Tryd.fld74_3) hE852 ?_
                    refine ae_loud [24] (by kernel_rfl) rfl ⟨?_, trivial⟩
                    refine a_step rfl ?_
                    refine wl_store1 rfl rfl (by first | rfl | assumption) Tryd.size72 hB855 rfl fun w856 hB857 hw858 => ?_
                    have hE859 := hE850.step hw858 (fun y hy => .inl (by simp at hy; simp [hy]))
                    have hE860 := hE851.step hw858 (fun y hy => .inl (by simp at hy; simp [hy]))
                    have hE861 := hE852.step hw858 (fun y hy => .inl (by simp at hy; simp [hy]))
                    have hB862 := hw858.blk hB853 hA7.symm.nmem1
                    have hB863 := hw858.blk hB854 hA18.symm.nmem1
                    have hB864 := hw858.blk hR9 hzr.symm.nmem1
                    try simp only [List.setIfInBounds_toArray, List.set_cons_zero, List.set_cons_succ, Nat.reduceAdd, Nat.zero_add, Nat.add_zero] at hB857
                    refine wl_nil (ae_next (.inl hE861) ?_)
                    refine ae_done (by kernel_rfl) (nrm_then ?_)
                    refine cw_exit (ex_here (nrm_same ?_))
                    refine ⟨(z.b ^^^ ((get (unpk bs) qq (64 - ff.l - ff.r)).1 * 2 ^ ff.r % 18446744073709551616), ff, (get (unpk bs) qq (64 - ff.l - ff.r)).2), trivial, ⟨rfl, rfl, rfl, rfl, trivial⟩, hE860, ?_⟩
                    exact ⟨hB857, hB864, hJ2 (by simpa using hc111) rfl rfl, xor_lt hz.b (Nat.mod_lt _ (by decide))⟩
                  · skip
                    refine a_step rfl ?_
                    refine wl_call1 (vs := [_, _]) Tryd.goes34 rfl (get_ok hB268 (RSl.evo RB.pers ((hE263).mono hmX) hs) hx hl hqa (64 - ff.l - ff.r) (by omega)) rfl ?_
                    rintro _ w865 ⟨rfl, hR9, hw866⟩
                    have hE867 := hE263.step hw866 (fun y hy => .inl (by simp at hy; simp [hy]))
                    have hE868 := hE264.step hw866 (fun y hy => .inl (by simp at hy; simp [hy]))
                    have hE869 := (Evo.refl [bz, br] w261).step hw866 (fun y hy => .inl (by simp at hy; simp [hy]))
                    have hB870 := hw866.blk hB265 hA6.symm.nmem1
                    have hB871 := hw866.blk hB266 hA17.symm.nmem1
                    have hB872 := hw866.blk hB267 hzr.nmem1
                    refine wl_nil (ae_next (.inl hE869) ?_)
                    refine ae_take 20 rfl (by kernel_rfl) (by kernel_rfl) (by kernel_rfl) rfl (fun _ hS => ex_shlN (m := (get (unpk bs) qq (64 - ff.l - ff.r)).1) (n := ff.r) rfl rfl (by first | rfl | omega) (by first | rfl | omega) (by first | exact Nat.le_of_ble_eq_true rfl | (simp only [IntKind.bits]; omega)) rfl) hE869 ?_
                    rw [show (2 : Nat) ^ IntKind.u64.bits = 18446744073709551616 from rfl]
                    refine ae_loud [3] (by kernel_rfl) rfl ⟨?_, trivial⟩
                    refine a_step rfl ?_
                    refine wl_val rfl (ex_load1 rfl Tryd.agg72 (cell_nth hB872 rfl)) ?_
                    refine wl_nil (ae_next (.inl hE869) ?_)
                    refine ae_take 21 rfl (by kernel_rfl) (by kernel_rfl) (by kernel_rfl) rfl (fun _ hS => ex_xorN (m := z.b) (n := ((get (unpk bs) qq (64 - ff.l - ff.r)).1 * 2 ^ ff.r % 18446744073709551616)) rfl rfl (by rfl) (by rfl) rfl (hz.b) (Nat.mod_lt _ (by decide))) hE869 ?_
                    refine ae_take 22 rfl (by kernel_rfl) (by kernel_rfl) (by kernel_rfl) rfl (fun _ hS => ex_nilCheck rfl) hE869 ?_
                    refine ae_take 23 rfl (by kernel_rfl) (by kernel_rfl) (by kernel_rfl) rfl (fun _ hS => ex_fieldAddr rfl Tryd.fld74_3) hE869 ?_
                    refine ae_loud [24] (by kernel_rfl) rfl ⟨?_, trivial⟩
                    refine a_step rfl ?_
                    refine wl_store1 rfl rfl (by first | rfl | assumption) Tryd.size72 hB872 rfl fun w873 hB874 hw875 => ?_
                    have hE876 := hE867.step hw875 (fun y hy => .inl (by simp at hy; simp [hy]))
                    have hE877 := hE868.step hw875 (fun y hy => .inl (by simp at hy; simp [hy]))
                    have hE878 := hE869.step hw875 (fun y hy => .inl (by simp at hy; simp [hy]))
                    have hB879 := hw875.blk hB870 hA7.symm.nmem1
                    have hB880 := hw875.blk hB871 hA18.symm.nmem1
                    have hB881 := hw875.blk hR9 hzr.symm.nmem1
                    try simp only [List.setIfInBounds_toArray, List.set_cons_zero, List.set_cons_succ, Nat.reduceAdd, Nat.zero_add, Nat.add_zero] at hB874
                    refine wl_nil (ae_next (.inl hE878) ?_)
                    refine ae_done (by kernel_rfl) (nrm_then ?_)
                    refine cw_exit (ex_here (nrm_same ?_))
                    refine ⟨(z.b ^^^ ((get (unpk bs) qq (64 - ff.l - ff.r)).1 * 2 ^ ff.r % 18446744073709551616), ff, (get (unpk bs) qq (64 - ff.l - ff.r)).2), trivial, ⟨rfl, rfl, rfl, rfl, trivial⟩, hE877, ?_⟩
                    exact ⟨hB874, hB881, hJ2 (by simpa using hc111) rfl rfl, xor_lt hz.b (Nat.mod_lt _ (by decide))⟩
              · skip
                refine a_step rfl ?_
                refine wl_val rfl (ex_load1 rfl Tryd.agg3 (cell_nth hB267 rfl)) ?_
                refine wl_nil (ae_next (.inl (Evo.refl [bz, br] w261)) ?_)
                refine ae_loud [3, 8] (by kernel_rfl) rfl ⟨?_, ?_, trivial⟩
                · skip
                  refine a_step rfl ?_
                  refine wl_val rfl (ex_load1 rfl Tryd.agg72 (cell_nth hB267 rfl)) ?_
                  refine wl_nil (ae_next (.inl (Evo.refl [bz, br] w261)) ?_)
                  refine ae_loud [8] (by kernel_rfl) rfl ⟨?_, trivial⟩
                  refine a_step rfl ?_
                  refine wl_val rfl (ex_load1 rfl Tryd.agg3 (cell_nth hB267 rfl)) ?_
                  refine wl_nil (ae_next (.inl (Evo.refl [bz, br] w261)) ?_)
                  refine ae_take 9 rfl (by kernel_rfl) (by kernel_rfl) (by kernel_rfl) rfl (fun _ hS => ex_sub_i64 rfl rfl (by omega) (by omega)) (Evo.refl [bz, br] w261) ?_
                  refine ae_take 14 rfl (by kernel_rfl) (by kernel_rfl) (by kernel_rfl) rfl (fun _ hS => ex_sub_i64 rfl rfl (by omega) (by omega)) (Evo.refl [bz, br] w261) ?_
                  rw [show ((64 : Int) - (ff.l : Nat) - (ff.r : Nat)) = ((64 - ff.l - ff.r : Nat) : Int) by omega]
                  refine ae_loud [15] (by kernel_rfl) rfl ⟨?_, trivial⟩
                  refine a_step rfl ?_
                  refine wl_call1 (vs := [_, _]) Tryd.goes34 rfl (get_ok hB268 (RSl.evo RB.pers ((hE263).mono hmX) hs) hx hl hqa (64 - ff.l - ff.r) (by omega)) rfl ?_
                  rintro _ w882 ⟨rfl, hR9, hw883⟩
                  have hE884 := hE263.step hw883 (fun y hy => .inl (by simp at hy; simp [hy]))
                  have hE885 := hE264.step hw883 (fun y hy => .inl (by simp at hy; simp [hy]))
                  have hE886 := (Evo.refl [bz, br] w261).step hw883 (fun y hy => .inl (by simp at hy; simp [hy]))
                  have hB887 := hw883.blk hB265 hA6.symm.nmem1
                  have hB888 := hw883.blk hB266 hA17.symm.nmem1
                  have hB889 := hw883.blk hB267 hzr.nmem1
                  refine wl_nil (ae_next (.inl hE886) ?_)
                  refine ae_take 20 rfl (by kernel_rfl) (by kernel_rfl) (by kernel_rfl) rfl (fun _ hS => ex_shlN (m := (get (unpk bs) qq (64 - ff.l - ff.r)).1) (n := ff.r) rfl rfl (by first | rfl | omega) (by first | rfl | omega) (by first | exact Nat.le_of_ble_eq_true rfl | (simp only [IntKind.bits]; omega)) rfl) hE886 ?_
                  rw [show (2 : Nat) ^ IntKind.u64.bits = 18446744073709551616 from rfl]
                  refine ae_take 21 rfl (by kernel_rfl) (by kernel_rfl) (by kernel_rfl) rfl (fun _ hS => ex_xorN (m := z.b) (n := ((get (unpk bs) qq (64 - ff.l - ff.r)).1 * 2 ^ ff.r % 18446744073709551616)) rfl rfl (by rfl) (by rfl) rfl (hz.b) (Nat.mod_lt _ (by decide))) hE886 ?_
                  refine ae_take 22 rfl (by kernel_rfl) (by kernel_rfl) (by kernel_rfl) rfl (fun _ hS => ex_nilCheck rfl) hE886 ?_
                  refine ae_take 23 rfl (by kernel_rfl) (by kernel_rfl) (by kernel_rfl) rfl (fun _ hS => ex_fieldAddr rfl Tryd.fld74_3) hE886 ?_
                  refine ae_loud [24] (by kernel_rfl) rfl ⟨?_, trivial⟩
                  refine a_step rfl ?_
                  refine wl_store1 rfl rfl (by first | rfl | assumption) Tryd.size72 hB889 rfl fun w890 hB891 hw892 => ?_
                  have hE893 := hE884.step hw892 (fun y hy => .inl (by simp at hy; simp [hy]))
                  have hE894 := hE885.step hw892 (fun y hy => .inl (by simp at hy; simp [hy]))
                  have hE895 := hE886.step hw892 (fun y hy => .inl (by simp at hy; simp [hy]))
                  have hB896 := hw892.blk hB887 hA7.symm.nmem1
                  have hB897 := hw892.blk hB888 hA18.symm.nmem1
                  have hB898 := hw892.blk hR9 hzr.symm.nmem1
                  try simp only [List.setIfInBounds_toArray, List.set_cons_zero, List.set_cons_succ, Nat.reduceAdd, Nat.zero_add, Nat.add_zero] at hB891
                  refine wl_nil (ae_next (.inl hE895) ?_)
                  refine ae_done (by kernel_rfl) (nrm_then ?_)
                  refine cw_exit (ex_here (nrm_same ?_))
                  refine ⟨(z.b ^^^ ((get (unpk bs) qq (64 - ff.l - ff.r)).1 * 2 ^ ff.r % 18446744073709551616), ff, (get (unpk bs) qq (64 - ff.l - ff.r)).2), trivial, ⟨rfl, rfl, rfl, rfl, trivial⟩, hE894, ?_⟩
                  exact ⟨hB891, hB898, hJ2 (by simpa using hc111) rfl rfl, xor_lt hz.b (Nat.mod_lt _ (by decide))⟩
                · skip
                  refine a_step rfl ?_
                  refine wl_val rfl (ex_load1 rfl Tryd.agg3 (cell_nth hB267 rfl)) ?_
                  refine wl_nil (ae_next (.inl (Evo.refl [bz, br] w261)) ?_)
                  refine ae_take 9 rfl (by kernel_rfl) (by kernel_rfl) (by kernel_rfl) rfl (fun _ hS => ex_sub_i64 rfl rfl (by omega) (by omega)) (Evo.refl [bz, br] w261) ?_
                  refine ae_take 14 rfl (by kernel_rfl) (by kernel_rfl) (by kernel_rfl) rfl (fun _ hS => ex_sub_i64 rfl rfl (by omega) (by omega)) (Evo.refl [bz, br] w261) ?_
                  rw [show ((64 : Int) - (ff.l : Nat) - (ff.r : Nat)) = ((64 - ff.l - ff.r : Nat) : Int) by omega]
                  refine ae_loud [3, 15] (by kernel_rfl) rfl ⟨?_, ?_, trivial⟩
                  · skip
                    refine a_step rfl ?_
                    refine wl_val rfl (ex_load1 rfl Tryd.agg72 (cell_nth hB267 rfl)) ?_
                    refine wl_nil (ae_next (.inl (Evo.refl [bz, br] w261)) ?_)
                    refine ae_loud [15] (by kernel_rfl) rfl ⟨?_, trivial⟩
                    refine a_step rfl ?_
                    refine wl_call1 (vs := [_, _]) Tryd.goes34 rfl (get_ok hB268 (RSl.evo RB.pers ((hE263).mono hmX) hs) hx hl hqa (64 - ff.l - ff.r) (by omega)) rfl ?_
                    rintro _ w899 ⟨rfl, hR9, hw900⟩
                    have hE901 := hE263.step hw900 (fun y hy => .inl (by simp at hy; simp [hy]))
                    have hE902 := hE264.step hw900 (fun y hy => .inl (by simp at hy; simp [hy]))
                    have hE903 := (Evo.refl [bz, br] w261).step hw900 (fun y hy => .inl (by simp at hy; simp [hy]))
                    have hB904 := hw900.blk hB265 hA6.symm.nmem1
                    have hB905 := hw900.blk hB266 hA17.symm.nmem1
                    have hB906 := hw900.blk hB267 hzr.nmem1
                    refine wl_nil (ae_next (.inl hE903) ?_)
                    refine ae_take 20 rfl (by kernel_rfl) (by kernel_rfl) (by kernel_rfl) rfl (fun _ hS => ex_shlN (m := (get (unpk bs) qq (64 - ff.l - ff.r)).1) (n := ff.r) rfl rfl (by first | rfl | omega) (by first | rfl | omega) (by first | exact Nat.le_of_ble_eq_true rfl | (simp only [IntKind.bits]; omega)) rfl) hE903 ?_
                    rw [show (2 : Nat) ^ IntKind.u64.bits = 18446744073709551616 from rfl]
                    refine ae_take 21 rfl (by kernel_rfl) (by kernel_rfl) (by kernel_rfl) rfl (fun _ hS => ex_xorN (m := z.b) (n := ((get (unpk bs) qq (64 - ff.l - ff.r)).1 * 2 ^ ff.r % 18446744073709551616)) rfl rfl (by rfl) (by rfl) rfl (hz.b) (Nat.mod_lt _ (by decide))) hE903 ?_
                    refine ae_take 22 rfl (by kernel_rfl) (by kernel_rfl) (by kernel_rfl) rfl (fun _ hS => ex_nilCheck rfl) hE903 ?_
                    refine ae_take 23 rfl (by kernel_rfl) (by kernel_rfl) (by kernel_rfl) rfl (fun _ hS => ex_fieldAddr rfl Tryd.fld74_3) hE903 ?_
                    refine ae_loud [24] (by kernel_rfl) rfl ⟨?_, trivial⟩
                    refine a_step rfl ?_
                    refine wl_store1 rfl rfl (by first | rfl | assumption) Tryd.size72 hB906 rfl fun w907 hB908 hw909 => ?_
                    have hE910 := hE901.step hw909 (fun y hy => .inl (by simp at hy; simp [hy]))
                    have hE911 := hE902.step hw909 (fun y hy => .inl (by simp at hy; simp [hy]))
                    have hE912 := hE903.step hw909 (fun y hy => .inl (by simp at hy; simp [hy]))
                    have hB913 := hw909.blk hB904 hA7.symm.nmem1
                    have hB914 := hw909.blk hB905 hA18.symm.nmem1
                    have hB915 := hw909.blk hR9 hzr.symm.nmem1
                    try simp only [List.setIfInBounds_toArray, List.set_cons_zero, List.set_cons_succ, Nat.reduceAdd, Nat.zero_add, Nat.add_zero] at hB908
                    refine wl_nil (ae_next (.inl hE912) ?_)
                    refine ae_done (by kernel_rfl) (nrm_then ?_)
                    refine cw_exit (ex_here (nrm_same ?_))
                    refine ⟨(z.b ^^^ ((get (unpk bs) qq (64 - ff.l - ff.r)).1 * 2 ^ ff.r % 18446744073709551616), ff, (get (unpk bs) qq (64 - ff.l - ff.r)).2), trivial, ⟨rfl, rfl, rfl, rfl, trivial⟩, hE911, ?_⟩
                    exact ⟨hB908, hB915, hJ2 (by simpa using hc111) rfl rfl, xor_lt hz.b (Nat.mod_lt _ (by decide))⟩
                  · skip
                    refine a_step rfl ?_
                    refine wl_call1 (vs := [_, _]) Tryd.goes34 rfl (get_ok hB268 (RSl.evo RB.pers ((hE263).mono hmX) hs) hx hl hqa (64 - ff.l - ff.r) (by omega)) rfl ?_
                    rintro _ w916 ⟨rfl, hR9, hw917⟩
                    have hE918 := hE263.step hw917 (fun y hy => .inl (by simp at hy; simp [hy]))
                    have hE919 := hE264.step hw917 (fun y hy => .inl (by simp at hy; simp [hy]))
                    have hE920 := (Evo.refl [bz, br] w261).step hw917 (fun y hy => .inl (by simp at hy; simp [hy]))
                    have hB921 := hw917.blk hB265 hA6.symm.nmem1
                    have hB922 := hw917.blk hB266 hA17.symm.nmem1
                    have hB923 := hw917.blk hB267 hzr.nmem1
                    refine wl_nil (ae_next (.inl hE920) ?_)
                    refine ae_take 20 rfl (by kernel_rfl) (by kernel_rfl) (by kernel_rfl) rfl (fun _ hS => ex_shlN (m := (get (unpk bs) qq (64 - ff.l - ff.r)).1) (n := ff.r) rfl rfl (by first | rfl | omega) (by first | rfl | omega) (by first | exact Nat.le_of_ble_eq_true rfl | (simp only [IntKind.bits]; omega)) rfl) hE920 ?_
                    rw [show (2 : Nat) ^ IntKind.u64.bits = 18446744073709551616 from rfl]
                    refine ae_loud [3] (by kernel_rfl) rfl ⟨?_, trivial⟩
                    refine a_step rfl ?_
                    refine wl_val rfl (ex_load1 rfl Tryd.agg72 (cell_nth hB923 rfl)) ?_
                    refine wl_nil (ae_next (.inl hE920) ?_)
                    refine ae_take 21 rfl (by kernel_rfl) (by kernel_rfl) (by kernel_rfl) rfl (fun _ hS => ex_xorN (m := z.b) (n := ((get (unpk bs) qq (64 - ff.l - ff.r)).1 * 2 ^ ff.r % 18446744073709551616)) rfl rfl (by rfl) (by rfl) rfl (hz.b) (Nat.mod_lt _ (by decide))) hE920 ?_
                    refine ae_take 22 rfl (by kernel_rfl) (by kernel_rfl) (by kernel_rfl) rfl (fun _ hS => ex_nilCheck rfl) hE920 ?_
                    refine ae_take 23 rfl (by kernel_rfl) (by kernel_rfl) (by kernel_rfl) rfl (fun _ hS => ex_fieldAddr rfl Tryd.fld74_3) hE920 ?_
                    refine ae_loud [24] (by kernel_rfl) rfl ⟨?_, trivial⟩
                    refine a_step rfl ?_
                    refine wl_store1 rfl rfl (by first | rfl | assumption) Tryd.size72 hB923 rfl fun w924 hB925 hw926 => ?_
                    have hE927 := hE918.step hw926 (fun y hy => .inl (by simp at hy; simp [hy]))
                    have hE928 := hE919.step hw926 (fun y hy => .inl (by simp at hy; simp [hy]))
                    have hE929 := hE920.step hw926 (fun y hy => .inl (by simp at hy; simp [hy]))
                    have hB930 := hw926.blk hB921 hA7.symm.nmem1
                    have hB931 := hw926.blk hB922 hA18.symm.nmem1
                    have hB932 := hw926.blk hR9 hzr.symm.nmem1
                    try simp only [List.setIfInBounds_toArray, List.set_cons_zero, List.set_cons_succ, Nat.reduceAdd, Nat.zero_add, Nat.add_zero] at hB925
                    refine wl_nil (ae_next (.inl hE929) ?_)
                    refine ae_done (by kernel_rfl) (nrm_then ?_)
                    refine cw_exit (ex_here (nrm_same ?_))
                    refine ⟨(z.b ^^^ ((get (unpk bs) qq (64 - ff.l - ff.r)).1 * 2 ^ ff.r % 18446744073709551616), ff, (get (unpk bs) qq (64 - ff.l - ff.r)).2), trivial, ⟨rfl, rfl, rfl, rfl, trivial⟩, hE928, ?_⟩
                    exact ⟨hB925, hB932, hJ2 (by simpa using hc111) rfl rfl, xor_lt hz.b (Nat.mod_lt _ (by decide))⟩
      · skip
        rintro ⟨vb, ff, qq⟩ w933 ⟨hV934, ⟨hZ3, hR3, hrs, hvb⟩⟩
        refine nrm_then ?_
        show CW _ _ _ _ [(0, _), (4, _), (6, _), (7, _)] _
        try dsimp only at hZ3
        try dsimp only at hR3
        try dsimp only at hrs
        try dsimp only at hvb
        have hE935 := hE167.step hV934 (fun y hy => .inl hy)
        have hB936 := hV934.blk hB169 (nmc hA7.symm (nmc hA6.symm (by simp)))
        have hB937 := hV934.blk hB170 (nmc hA18.symm (nmc hA17.symm (by simp)))
        refine cw_seq ?_
        refine cw_region ?_
        refine wl_val rfl (ex_move rfl) ?_
        refine wl_val rfl (ex_nilCheck rfl) ?_
        refine wl_val rfl (ex_fieldAddr rfl Tryd.fld74_3) ?_
        refine wl_val rfl (ex_load1 rfl Tryd.agg72 (cell_nth hZ3 rfl)) ?_
        refine wl_call1 (vs := [_]) Tryd.goes52 rfl (numFromBits_ok vb) rfl ?_
        rintro _ w938 ⟨rfl, hw939⟩
        have hE940 := hE935.then hw939
        have hB941 := hw939.blk0 hB936
        have hB942 := hw939.blk0 hB937
        have hB943 := hw939.blk0 hZ3
        have hB944 := hw939.blk0 hR3
        refine wl_val rfl (ex_fieldAddr rfl Tryd.fld41_1) ?_
        refine wl_store1 rfl rfl (by first | rfl | assumption) Tryd.size39 hB942 rfl fun w945 hB946 hw947 => ?_
        have hE948 := hE940.step hw947 hG20.mem1
        have hB949 := hw947.blk hB941 hA19.nmem1
        have hB950 := hw947.blk hB943 hA18.nmem1
        have hB951 := hw947.blk hB944 hA17.nmem1
        try simp only [List.setIfInBounds_toArray, List.set_cons_zero, List.set_cons_succ, Nat.reduceAdd, Nat.zero_add, Nat.add_zero] at hB946
        refine wl_nil (nrm_then ?_)
        refine cw_seq ?_
        refine cw_any (fun w0 w' => Evo [b1] w0 w') (by kernel_rfl) (fun w952 hw953 => ?_)
        have hE954 := hE948.then hw953
        have hB955 := hw953.blk0 hB949
        have hB956 := hw953.blk0 hB946
        have hB957 := hw953.blk0 hB950
        have hB958 := hw953.blk0 hB951
        refine ae_take 0 rfl (by kernel_rfl) (by kernel_rfl) (by kernel_rfl) rfl (fun _ hS => ex_loadBlk rfl Tryd.agg41 Tryd.size41 (hS.blk hB956 (hA19.symm.nmem1)) rfl) (Evo.refl [b1] w952) ?_
        refine ae_take 1 rfl (by kernel_rfl) (by kernel_rfl) (by kernel_rfl) rfl (fun _ hS => ex_move rfl) (Evo.refl [b1] w952) ?_
        refine ae_take 2 rfl (by kernel_rfl) (by kernel_rfl) (by kernel_rfl) rfl (fun _ hS => ex_move rfl) (Evo.refl [b1] w952) ?_
        refine ae_splitb (t := 145) rfl (fun hs145 => ?_) (fun hs145 => ?_)
        · skip
          subst hs145
          refine ae_takeG 3 rfl rfl rfl rfl rfl (by kernel_rfl) (by kernel_rfl) (by kernel_rfl) rfl (fun _ hS => ex_fieldAddr rfl Tryd.fld41_1) (Evo.refl [b1] w952) ?_
          refine ae_takeG 4 rfl rfl rfl rfl rfl (by kernel_rfl) (by kernel_rfl) (by kernel_rfl) rfl (fun _ hS => ex_load1 rfl Tryd.agg39 (cell_nth (hS.blk hB956 (hA19.symm.nmem1)) rfl)) (Evo.refl [b1] w952) ?_
          refine ae_takeG 6 rfl rfl rfl rfl rfl (by kernel_rfl) (by kernel_rfl) (by kernel_rfl) rfl (fun _ hS => ex_move rfl) (Evo.refl [b1] w952) ?_
          refine ae_takeG 7 rfl rfl rfl rfl rfl (by kernel_rfl) (by kernel_rfl) (by kernel_rfl) rfl (fun _ hS => ex_nilCheck rfl) (Evo.refl [b1] w952) ?_
          refine ae_takeG 8 rfl rfl rfl rfl rfl (by kernel_rfl) (by kernel_rfl) (by kernel_rfl) rfl (fun _ hS => ex_fieldAddr rfl Tryd.fld74_3) (Evo.refl [b1] w952) ?_
          refine ae_takeG 9 rfl rfl rfl rfl rfl (by kernel_rfl) (by kernel_rfl) (by kernel_rfl) rfl (fun _ hS => ex_load1 rfl Tryd.agg72 (cell_nth (hS.blk hB957 (hA7.nmem1)) rfl)) (Evo.refl [b1] w952) ?_
          refine ae_loud [5] (by kernel_rfl) rfl ⟨?_, trivial⟩
          refine a_step rfl ?_
          refine wl_go rfl rfl rfl rfl ?_
          refine wl_call1 (vs := [_]) Tryd.goes47 rfl (numBits_ok vb hvb) rfl ?_
          rintro _ w959 ⟨rfl, hw960⟩
          have hE961 := hE954.then hw960
          have hE962 := (Evo.refl [b1] w952).then hw960
          have hB963 := hw960.blk0 hB955
          have hB964 := hw960.blk0 hB956
          have hB965 := hw960.blk0 hB957
          have hB966 := hw960.blk0 hB958
          refine wl_nil (ae_next (.inl hE962) ?_)
          refine ae_takeG 10 rfl rfl rfl rfl rfl (by kernel_rfl) (by kernel_rfl) (by kernel_rfl) rfl (fun _ hS => ex_eql rfl rfl) hE962 ?_
          refine ae_take 11 rfl (by kernel_rfl) (by kernel_rfl) (by kernel_rfl) rfl (fun _ hS => ex_pick_t rfl rfl) hE962 ?_
          refine ae_loud [12] (by kernel_rfl) rfl ⟨?_, trivial⟩
          refine a_step rfl ?_
          refine wl_storeBlk rfl rfl Tryd.size41 hB963 rfl rfl ⟨by first | rfl | assumption, by first | rfl | assumption, by first | rfl | assumption, trivial⟩ fun w967 hB968 hw969 => ?_
          have hE970 := hE961.step hw969 hG8.mem1
          have hE971 := hE962.step hw969 (fun y hy => .inl (by simp at hy; simp [hy]))
          have hB972 := hw969.blk hB964 hA19.symm.nmem1
          have hB973 := hw969.blk hB965 hA7.nmem1
          have hB974 := hw969.blk hB966 hA6.nmem1
          try simp only [List.setIfInBounds_toArray, List.set_cons_zero, List.set_cons_succ, Nat.reduceAdd, Nat.zero_add, Nat.add_zero] at hB968
          refine wl_nil (ae_next (.inl hE971) ?_)
          refine ae_take 13 rfl (by kernel_rfl) (by kernel_rfl) (by kernel_rfl) rfl (fun _ hS => ex_assign rfl) hE971 ?_
          refine ae_done (by kernel_rfl) (nrm_then ?_)
          refine cw_ret (body_retC2 rfl (ResOk.cellA rfl Tryd.agg41 Tryd.size41 hB968 rfl) (ResOk.tmp rfl) ?_)
          rw [hrs, ← hok, Bool.true_and, decide_eq_decide.2 (dec_cast (cb vb) vb).symm]
          exact ⟨rfl, hB974, hB973, hE970⟩
        · skip
          subst hs145
          refine ae_takeN 3 rfl rfl rfl rfl rfl rfl (by kernel_rfl) (by kernel_rfl) (by kernel_rfl) rfl (Evo.refl [b1] w952) ?_
          refine ae_takeN 4 rfl rfl rfl rfl rfl rfl (by kernel_rfl) (by kernel_rfl) (by kernel_rfl) rfl (Evo.refl [b1] w952) ?_
          refine ae_takeN 6 rfl rfl rfl rfl rfl rfl (by kernel_rfl) (by kernel_rfl) (by kernel_rfl) rfl (Evo.refl [b1] w952) ?_
          refine ae_takeN 7 rfl rfl rfl rfl rfl rfl (by kernel_rfl) (by kernel_rfl) (by kernel_rfl) rfl (Evo.refl [b1] w952) ?_
          refine ae_takeN 8 rfl rfl rfl rfl rfl rfl (by kernel_rfl) (by kernel_rfl) (by kernel_rfl) rfl (Evo.refl [b1] w952) ?_
          refine ae_takeN 9 rfl rfl rfl rfl rfl rfl (by kernel_rfl) (by kernel_rfl) (by kernel_rfl) rfl (Evo.refl [b1] w952) ?_
          refine ae_loud [5] (by kernel_rfl) rfl ⟨?_, trivial⟩
          refine a_step rfl ?_
          refine wl_no rfl rfl rfl rfl rfl rfl ?_
          refine wl_nil (ae_next (.inl (Evo.refl [b1] w952)) ?_)
          refine ae_takeN 10 rfl rfl rfl rfl rfl rfl (by kernel_rfl) (by kernel_rfl) (by kernel_rfl) rfl (Evo.refl [b1] w952) ?_
          refine ae_take 11 rfl (by kernel_rfl) (by kernel_rfl) (by kernel_rfl) rfl (fun _ hS => ex_pick_f rfl rfl) (Evo.refl [b1] w952) ?_
          refine ae_loud [12] (by kernel_rfl) rfl ⟨?_, trivial⟩
          refine a_step rfl ?_
          refine wl_storeBlk rfl rfl Tryd.size41 hB955 rfl rfl ⟨by first | rfl | assumption, by first | rfl | assumption, by first | rfl | assumption, trivial⟩ fun w975 hB976 hw977 => ?_
          have hE978 := hE954.step hw977 hG8.mem1
          have hE979 := (Evo.refl [b1] w952).step hw977 (fun y hy => .inl (by simp at hy; simp [hy]))
          have hB980 := hw977.blk hB956 hA19.symm.nmem1
          have hB981 := hw977.blk hB957 hA7.nmem1
          have hB982 := hw977.blk hB958 hA6.nmem1
          try simp only [List.setIfInBounds_toArray, List.set_cons_zero, List.set_cons_succ, Nat.reduceAdd, Nat.zero_add, Nat.add_zero] at hB976
          refine wl_nil (ae_next (.inl hE979) ?_)
          refine ae_take 13 rfl (by kernel_rfl) (by kernel_rfl) (by kernel_rfl) rfl (fun _ hS => ex_assign rfl) hE979 ?_
          refine ae_done (by kernel_rfl) (nrm_then ?_)
          refine cw_ret (body_retC2 rfl (ResOk.cellA rfl Tryd.agg41 Tryd.size41 hB976 rfl) (ResOk.tmp rfl) ?_)
          rw [hrs, ← hok]
          exact ⟨rfl, hB982, hB981, hE978⟩

end Go.Proofs.YtclmkppiolfgbaaDoor
