import Derived.Test.YtclmkppiolfgbaaDoorKd
import Derived.Test.YtclmkppiolfgbaaDoorKp
namespace Go.Proofs.YtclmkppiolfgbaaDoor
open Go.Proofs
open Go.W
attribute [local irreducible] Decidable.decide
set_option linter.unusedSimpArgs false
set_option linter.unusedVariables false
theorem Tryd.agg2 : aggB Tryd.prog 2 = some false := by kernel_rfl
theorem Tryd.agg39 : aggB Tryd.prog 39 = some false := by kernel_rfl
theorem Tryd.fld41_0 : fieldB Tryd.prog 41 0 = some 0 := by kernel_rfl
theorem Tryd.fld41_1 : fieldB Tryd.prog 41 1 = some 1 := by kernel_rfl
theorem Tryd.fld41_2 : fieldB Tryd.prog 41 2 = some 2 := by kernel_rfl
theorem Tryd.goes31 : Goes Tryd.prog 31 := ⟨_, Tryd.func31, by kernel_rfl, by kernel_rfl⟩
theorem Tryd.goes43 : Goes Tryd.prog 43 := ⟨_, Tryd.func43, by kernel_rfl, by kernel_rfl⟩
theorem Tryd.goes44 : Goes Tryd.prog 44 := ⟨_, Tryd.func44, by kernel_rfl, by kernel_rfl⟩
theorem Tryd.goes45 : Goes Tryd.prog 45 := ⟨_, Tryd.func45, by kernel_rfl, by kernel_rfl⟩
theorem Tryd.make24 : makeB Tryd.prog 24 = some (5, 1, 1, #[.int .u8 0]) := by kernel_rfl


/-- A sample. -/
def RSmp : Rel Smp := fun _ _ vs s => vs = [.int .i64 s.t, .float .f64 s.v, .bool s.st] ∧ s.Ok
theorem RSmp.pers : RSmp.Pers := fun _ _ _ _ _ _ h => h
theorem RSmp.fresh : RSmp.Fresh := fun _ _ _ _ _ _ h => h
theorem RSmp.one : ∀ X w vs d, RSmp X w vs d → ∀ u, u ∈ vs → u.oneCell' = true := fun _ _ _ _ h u hu => by
  obtain ⟨rfl, _⟩ := h; simp at hu; rcases hu with rfl | rfl | rfl <;> rfl
theorem rsl_ok {X : List Nat} {w : World} {v : Value} {ds : List Smp} (h : RSl 3 RSmp X w v ds) : ∀ s, s ∈ ds → s.Ok := fun s hs => by
  obtain ⟨_, _, _, _, h⟩ := h
  obtain ⟨k, hk, rfl⟩ := List.getElem_of_mem hs
  obtain ⟨_, _, _, _, _, _, _, h5⟩ := h k hk
  exact h5.2
theorem Tryd.elem22 : elemB Tryd.prog 22 = some 3 := by kernel_rfl
/-- The cells of the k-th sample. -/
theorem smp_at {X : List Nat} {w : World} {a : Option Addr} {n c : Nat} {ds : List Smp} (h : RSl 3 RSmp X w (.slice a n c) ds) {k : Nat} (hk : k < ds.length) : n = ds.length ∧ ∃ b o, a = some ⟨b, o, none⟩ ∧ b ∉ X ∧ CellsAt w b (o + k * 3) [.int .i64 ds[k].t, .float .f64 ds[k].v, .bool ds[k].st] := by
  obtain ⟨a', c', hv, _, h⟩ := h
  cases hv
  obtain ⟨b, o, vs, h1, h2, h3, h4, h5, _⟩ := h k hk
  subst h5
  exact ⟨rfl, b, o, h1, h2, h4⟩

theorem row_ok {X : List Nat} {w : World} {v0 : Value} {ds : List Smp} (hs : RSl 3 RSmp X w v0 ds) (hl : ds.length ≤ 100000) :
    Calls Tryd.prog 31 #[v0] w (Ret fun r w' => ∃ a m c ob, r = .slice a m c ∧ OwnS w' 5 1 a m c ((form ds).map bb) ob ∧ Evo [] w w' ∧ Ge w ob) := by
  have hok := rsl_ok hs
  have hs0 := hs
  obtain ⟨a0, c0, rfl, hlc, _⟩ := hs
  refine calls_of_cw (N := 86) Tryd.func31 rfl rfl rfl ?_
  refine cw_seq ?_
  refine cw_region ?_
  refine wl_val rfl (ex_assign rfl) ?_
  refine wl_nil (nrm_then ?_)
  refine cw_seq ?_
  refine cw_region ?_
  refine wl_val rfl (ex_move rfl) ?_
  refine wl_val rfl (ex_len_slice rfl Tryd.underlying22 rfl) ?_
  refine wl_val rfl (ex_mul_i64 rfl rfl (by omega) (by omega)) ?_
  refine wl_val rfl (ex_add_i64 rfl rfl (by omega) (by omega)) ?_
  refine wl_make (len := 0) (c := 100 + ds.length * 20) rfl rfl rfl Tryd.make24 (by omega) (by omega) (by omega) (by decide) (by omega) (by omega) fun bm w2 hm hs4 hw5 => ?_
  have hG6 := Ge.new (Evo.refl [] w) hs4
  have hE7 := (Evo.refl [] w).then hw5
  refine wl_val rfl (ex_move rfl) ?_
  refine wl_val rfl (ex_len_slice rfl Tryd.underlying22 rfl) ?_
  refine wl_val rfl (ex_convU rfl Tryd.underlying3 Tryd.underlying72) ?_
  rw [u64_of (show ds.length < 18446744073709551616 by omega)]
  refine wl_call1 (vs := [_, _, _]) Tryd.goes42 rfl (number_ok (l := []) hm ds.length 17 (by omega) (by omega) (by first | omega | (simp only [List.length_append, num_length, List.length_nil]; omega))) rfl ?_
  rintro _ w8 ⟨a1, m1, c1, ob1, rfl, hO1, hw9, hb1⟩
  have hG10 := ge_ob hG6 hE7 hb1
  have hE11 := hE7.step hw9 hG6.mem
  refine wl_val rfl (ex_assign rfl) ?_
  refine wl_nil (nrm_then ?_)
  refine cw_seq ?_
  refine cw_region ?_
  refine wl_val rfl (ex_build (vs := []) Tryd.build92 rfl (cells := [_, _, _]) rfl) ?_
  refine wl_alloc rfl Tryd.zero92 fun b12 w13 hB14 hs15 hw16 => ?_
  have hA17 := Apart.new (Lt.own hO1) hs15
  have hG18 := Ge.new hE11 hs15
  have hE19 := hE11.then hw16
  have hO20 := hO1.evo0 hw16
  refine wl_storeBlk rfl rfl Tryd.size92 hB14 rfl rfl ⟨by first | rfl | assumption, by first | rfl | assumption, by first | rfl | assumption, trivial⟩ fun w21 hB22 hw23 => ?_
  have hE24 := hE19.step hw23 hG18.mem1
  have hO25 := hO20.evo hw23 hA17.own1
  refine wl_val rfl (ex_assign rfl) ?_
  refine wl_val rfl (ex_assign rfl) ?_
  refine wl_nil (nrm_then ?_)
  refine cw_seq ?_
  refine cw_seq ?_
  refine cw_region ?_
  refine wl_val rfl (ex_assign rfl) ?_
  refine wl_nil (nrm_then ?_)
  refine cw_block ?_
  refine cw_loop (α := Nat × Option Addr × Nat × Nat × Option Nat × Nat × Int) ((0, a1, m1, c1, ob1, 0, 0)) (fun x => [(7, .int .i64 (x.1 : Nat)), (3, .slice x.2.1 x.2.2.1 x.2.2.2.1), (5, .int .u64 (x.2.2.2.2.2.1 : Nat)), (6, .int .i64 x.2.2.2.2.2.2)]) [(0, _), (2, _), (4, _)] (fun x wr => Evo (b12 :: ob1.toList) w21 wr ∧ (x.1 ≤ ds.length ∧ OwnS wr 5 1 x.2.1 x.2.2.1 x.2.2.2.1 ((bitsTo ds x.1).map bb) x.2.2.2.2.1 ∧ wr.heap[b12]? = some (.cells (fv (stAt ds x.1).f).cells 92 (0, 0)) ∧ x.2.2.2.2.2.1 = (stAt ds x.1).b ∧ x.2.2.2.2.2.2 = (stAt ds x.1).d ∧ (x.2.2.2.2.1 = ob1 ∨ Ge w21 x.2.2.2.2.1) ∧ Apart (some b12) x.2.2.2.2.1)) (fun x => ds.length - x.1) ⟨rfl, rfl, rfl, rfl, trivial⟩ ⟨rfl, rfl, rfl, trivial⟩ ⟨Evo.refl _ _, ⟨Nat.zero_le _, by rw [bitsTo_zero]; exact hO25, hB22, rfl, rfl, .inl rfl, hA17.symm⟩⟩ ?_
  rintro ⟨k, a2, m2, c2, ob2, la, d⟩ wr26 ⟨hV27, ⟨hk, hR, hF, hla, hd, hob2, hap2⟩⟩
  show CW _ _ _ _ [(7, .int .i64 (k : Nat)), (3, .slice a2 m2 c2), (5, .int .u64 (la : Nat)), (6, .int .i64 d), (0, _), (2, _), (4, _)] _
  try dsimp only at hk
  try dsimp only at hR
  try dsimp only at hF
  try dsimp only at hla
  try dsimp only at hd
  try dsimp only at hob2
  try dsimp only at hap2
  have hE28 := hE24.step hV27 (fun y hy => by rcases List.mem_cons.1 hy with h | h; { subst h; exact .inr (hG18 _ rfl) }; { exact Ge.mem hG10 y h })
  have hG2 := ge_ob hG10 hE24 hob2
  have hso := stAt_ok k hok
  have hbl := bitsTo_len ds k
  have hml := own_len' hR
  have hsn := stAt_n (l := ds) hk
  refine cw_seq ?_
  refine cw_seq ?_
  refine cw_region ?_
  refine wl_val rfl (ex_move rfl) ?_
  refine wl_val rfl (ex_move rfl) ?_
  refine wl_val rfl (ex_len_slice rfl Tryd.underlying22 rfl) ?_
  refine wl_val rfl (ex_lss rfl rfl) ?_
  refine wl_nil (nrm_then ?_)
  refine cw_if rfl (fun hc22 => ?_) (fun hc22 => ?_)
  · skip
    have hk' : k < ds.length := by omega
    have hsk := hok ds[k] (List.getElem_mem hk')
    refine cw_skip (nrm_then ?_)
    refine cw_seq ?_
    refine cw_block ?_
    refine cw_seq ?_
    refine cw_cut (α := Option Addr × Nat × Nat × Option Nat × Int) (fun y => [(3, .slice y.1 y.2.1 y.2.2.1), (6, .int .i64 y.2.2.2.2)]) [(0, _), (2, _), (4, _), (5, _), (7, _)] (fun y wr => Evo ob2.toList wr26 wr ∧ (OwnS wr 5 1 y.1 y.2.1 y.2.2.1 ((bitsTo ds k ++ tpart (stAt ds k) ds[k]).map bb) y.2.2.2.1 ∧ y.2.2.2.2 = (tnext (stAt ds k) ds[k]).d ∧ (y.2.2.2.1 = ob2 ∨ Ge wr26 y.2.2.2.1))) ⟨rfl, rfl, rfl, rfl, rfl, trivial⟩ ?_ ?_
    · skip
      refine cw_seq ?_
      refine cw_region ?_
      refine wl_val rfl (ex_move rfl) ?_
      refine wl_val rfl (ex_eql rfl rfl) ?_
      refine wl_nil (nrm_then ?_)
      refine cw_if rfl (fun hc26 => ?_) (fun hc26 => ?_)
      · skip
        refine cw_region ?_
        have hk0 : k = 0 := by omega
        obtain ⟨_, b1, o1, rfl, -, hc1⟩ := smp_at hs0 (k := 0) (by omega)
        refine wl_val rfl (ex_move rfl) ?_
        refine wl_val rfl (ex_move rfl) ?_
        refine wl_val rfl (ex_indexAddrZ (n := 0) rfl rfl rfl Tryd.elem22 (by omega)) ?_
        refine wl_val rfl (ex_fieldAddr rfl Tryd.fld41_0) ?_
        refine wl_val rfl (ex_load1 rfl Tryd.agg2 ((hc1.evo hE28 (by simp)) 0 _ rfl)) ?_
        refine wl_val rfl (ex_convU rfl Tryd.underlying2 Tryd.underlying72) ?_
        refine wl_call1 (vs := [_, _, _]) Tryd.goes42 rfl (number_ok  hR (u64 ds[0].t) 64 (by omega) (u64_lt _) (by first | omega | (simp only [List.length_append, num_length, List.length_nil]; omega))) rfl ?_
        rintro _ w29 ⟨a6, m6, c6, ob6, rfl, hO6, hw30, hb6⟩
        have hob6 := ob_trans hob2 hV27 hb6
        have hA31 := ap_ob hap2 (Lt.blk hF) hb6
        have hG32 := ge_ob hG2 hE28 hb6
        have hE33 := hE28.step hw30 hG2.mem
        have hE34 := hV27.step hw30 (fun y hy => wr_mem hob2 y (List.mem_cons_of_mem _ hy))
        have hE35 := (Evo.refl ob2.toList wr26).step hw30 (fun y hy => .inl hy)
        have hB36 := hw30.blk hF hap2.nmem
        refine wl_val rfl (ex_assign rfl) ?_
        refine wl_nil (nrm_same ?_)
        refine ⟨(a6, m6, c6, ob6, d), ⟨rfl, rfl, trivial⟩, ⟨rfl, rfl, rfl, rfl, rfl, trivial⟩, hE35, ?_⟩
        have hk0 : k = 0 := by omega
        subst hk0
        refine ⟨?_, ?_, hb6⟩
        · simp only [tpart, hsn]; exact hO6
        · simp only [tnext, hsn]; rw [hd, stAt_zero]; rfl
      · skip
        refine cw_seq ?_
        obtain ⟨_, b1, o1, rfl, -, hc1⟩ := smp_at hs0 hk'
        obtain ⟨_, b2, o2, ha2, -, hc2⟩ := smp_at hs0 (k := k - 1) (by omega)
        cases ha2
        refine cw_any (fun w0 w' => Evo ob2.toList w0 w') (by kernel_rfl) (fun w37 hw38 => ?_)
        have hE39 := hE28.then hw38
        have hE40 := hV27.then hw38
        have hE41 := (Evo.refl ob2.toList wr26).then hw38
        have hB42 := hw38.blk0 hF
        have hO43 := hR.evo0 hw38
        refine ae_take 0 rfl (by kernel_rfl) (by kernel_rfl) (by kernel_rfl) rfl (fun _ hS => ex_move rfl) (Evo.refl ob2.toList w37) ?_
        refine ae_take 1 rfl (by kernel_rfl) (by kernel_rfl) (by kernel_rfl) rfl (fun _ hS => ex_move rfl) (Evo.refl ob2.toList w37) ?_
        refine ae_take 2 rfl (by kernel_rfl) (by kernel_rfl) (by kernel_rfl) rfl (fun _ hS => ex_move rfl) (Evo.refl ob2.toList w37) ?_
        refine ae_take 3 rfl (by kernel_rfl) (by kernel_rfl) (by kernel_rfl) rfl (fun _ hS => ex_indexAddr (n := k) rfl rfl Tryd.elem22 (by omega)) (Evo.refl ob2.toList w37) ?_
        refine ae_take 4 rfl (by kernel_rfl) (by kernel_rfl) (by kernel_rfl) rfl (fun _ hS => ex_fieldAddr rfl Tryd.fld41_0) (Evo.refl ob2.toList w37) ?_
        refine ae_take 5 rfl (by kernel_rfl) (by kernel_rfl) (by kernel_rfl) rfl (fun _ hS => ex_load1 rfl Tryd.agg2 ((hc1.evo (hE39.step hS (Ge.mem hG2)) (by simp)) 0 _ rfl)) (Evo.refl ob2.toList w37) ?_
        refine ae_take 6 rfl (by kernel_rfl) (by kernel_rfl) (by kernel_rfl) rfl (fun _ hS => ex_move rfl) (Evo.refl ob2.toList w37) ?_
        refine ae_take 7 rfl (by kernel_rfl) (by kernel_rfl) (by kernel_rfl) rfl (fun _ hS => ex_move rfl) (Evo.refl ob2.toList w37) ?_
        refine ae_take 8 rfl (by kernel_rfl) (by kernel_rfl) (by kernel_rfl) rfl (fun _ hS => ex_sub_i64 rfl rfl (by omega) (by omega)) (Evo.refl ob2.toList w37) ?_
        refine ae_take 9 rfl (by kernel_rfl) (by kernel_rfl) (by kernel_rfl) rfl (fun _ hS => ex_indexAddrZ (n := k - 1) rfl rfl (by omega) Tryd.elem22 (by omega)) (Evo.refl ob2.toList w37) ?_
        refine ae_take 10 rfl (by kernel_rfl) (by kernel_rfl) (by kernel_rfl) rfl (fun _ hS => ex_fieldAddr rfl Tryd.fld41_0) (Evo.refl ob2.toList w37) ?_
        refine ae_take 11 rfl (by kernel_rfl) (by kernel_rfl) (by kernel_rfl) rfl (fun _ hS => ex_load1 rfl Tryd.agg2 ((hc2.evo (hE39.step hS (Ge.mem hG2)) (by simp)) 0 _ rfl)) (Evo.refl ob2.toList w37) ?_
        refine ae_take 12 rfl (by kernel_rfl) (by kernel_rfl) (by kernel_rfl) rfl (fun _ hS => ex_subI rfl rfl) (Evo.refl ob2.toList w37) ?_
        refine ae_take 13 rfl (by kernel_rfl) (by kernel_rfl) (by kernel_rfl) rfl (fun _ hS => ex_move rfl) (Evo.refl ob2.toList w37) ?_
        refine ae_take 14 rfl (by kernel_rfl) (by kernel_rfl) (by kernel_rfl) rfl (fun _ hS => ex_subI rfl rfl) (Evo.refl ob2.toList w37) ?_
        rw [i64_sub]
        refine ae_loud [15] (by kernel_rfl) rfl ⟨?_, trivial⟩
        refine a_step rfl ?_
        refine wl_call1 (vs := [_, _]) Tryd.goes43 rfl (time_ok hO43 (i64 (ds[k].t - ds[k - 1].t - d)) (i64_rng _) (by first | omega | (simp only [List.length_append, num_length, List.length_nil]; omega))) rfl ?_
        rintro _ w44 ⟨a7, m7, c7, ob7, rfl, hO7, hw45, hb7⟩
        have hob7 := ob_trans hob2 hE40 hb7
        have hd7 := ob_trans (.inl rfl) hE41 hb7
        have hA46 := ap_ob hap2 (Lt.blk hB42) hb7
        have hG47 := ge_ob hG2 hE39 hb7
        have hE48 := hE39.step hw45 hG2.mem
        have hE49 := hE40.step hw45 (fun y hy => wr_mem hob2 y (List.mem_cons_of_mem _ hy))
        have hE50 := hE41.step hw45 (fun y hy => .inl hy)
        have hE51 := (Evo.refl ob2.toList w37).step hw45 (fun y hy => .inl hy)
        have hB52 := hw45.blk hB42 hap2.nmem
        refine wl_nil (ae_next (.inl hE51) ?_)
        refine ae_take 16 rfl (by kernel_rfl) (by kernel_rfl) (by kernel_rfl) rfl (fun _ hS => ex_assign rfl) hE51 ?_
        refine ae_done (by kernel_rfl) (nrm_then ?_)
        refine cw_quiet (by kernel_rfl) (by kernel_rfl) ?_
        refine ql_val rfl (fun _ hq54 => ex_move rfl) ?_
        refine ql_val rfl (fun _ hq54 => ex_move rfl) ?_
        refine ql_val rfl (fun _ hq54 => ex_indexAddr (n := k) rfl rfl Tryd.elem22 (by omega)) ?_
        refine ql_val rfl (fun _ hq54 => ex_fieldAddr rfl Tryd.fld41_0) ?_
        refine ql_val rfl (fun _ hq54 => ex_load1 rfl Tryd.agg2 ((hc1.evo (hE48.then hq54) (by simp)) 0 _ rfl)) ?_
        refine ql_val rfl (fun _ hq54 => ex_move rfl) ?_
        refine ql_val rfl (fun _ hq54 => ex_move rfl) ?_
        refine ql_val rfl (fun _ hq54 => ex_sub_i64 rfl rfl (by omega) (by omega)) ?_
        refine ql_val rfl (fun _ hq54 => ex_indexAddrZ (n := k - 1) rfl rfl (by omega) Tryd.elem22 (by omega)) ?_
        refine ql_val rfl (fun _ hq54 => ex_fieldAddr rfl Tryd.fld41_0) ?_
        refine ql_val rfl (fun _ hq54 => ex_load1 rfl Tryd.agg2 ((hc2.evo (hE48.then hq54) (by simp)) 0 _ rfl)) ?_
        refine ql_val rfl (fun _ hq54 => ex_subI rfl rfl) ?_
        refine ql_val rfl (fun _ hq54 => ex_assign rfl) ?_
        refine ql_nil (fun wq53 hq54 => nrm_same ?_)
        have hE55 := hE48.then hq54
        have hE56 := hE49.then hq54
        have hE57 := hE50.then hq54
        have hB58 := hq54.blk0 hB52
        have hO59 := hO7.evo0 hq54
        refine ⟨(a7, m7, c7, ob7, i64 (ds[k].t - ds[k - 1].t)), ⟨rfl, rfl, trivial⟩, ⟨rfl, rfl, rfl, rfl, rfl, trivial⟩, hE57, ?_⟩
        have hk0 : ¬ k = 0 := by omega
        have hkt : (stAt ds k).t = ds[k - 1].t := by have := stAt_t (l := ds) (k := k - 1) (by omega); rw [Nat.sub_add_cancel (by omega)] at this; exact this
        refine ⟨?_, ?_, hd7⟩
        · simp only [tpart, hsn, if_neg hk0, hkt, ← hd]; exact hO59
        · simp only [tnext, hsn, if_neg hk0, hkt]
    · skip
      rintro ⟨a3, m3, c3, ob3, d3⟩ w60 ⟨hV61, ⟨hO3, hd3, hb3⟩⟩
      refine nrm_then ?_
      show CW _ _ _ _ [(3, .slice a3 m3 c3), (6, .int .i64 d3), (0, _), (2, _), (4, _), (5, _), (7, _)] _
      try dsimp only at hO3
      try dsimp only at hd3
      try dsimp only at hb3
      have hE62 := hE28.step hV61 (Ge.mem hG2)
      have hE63 := hV27.step hV61 (fun y hy => wr_mem hob2 y (List.mem_cons_of_mem _ hy))
      have hB64 := hV61.blk hF (hap2.nmem)
      have hap3 := ap_ob hap2 (Lt.blk hF) hb3
      have hG3 := ge_ob hG2 hE28 hb3
      have hob3 := ob_trans hob2 hV27 hb3
      have htl := tpart_len (stAt ds k) ds[k]
      refine cw_seq ?_
      refine cw_seq ?_
      refine cw_region ?_
      obtain ⟨_, b1, o1, rfl, -, hc1⟩ := smp_at hs0 hk'
      refine wl_val rfl (ex_move rfl) ?_
      refine wl_val rfl (ex_move rfl) ?_
      refine wl_val rfl (ex_indexAddr (n := k) rfl rfl Tryd.elem22 (by omega)) ?_
      refine wl_val rfl (ex_fieldAddr rfl Tryd.fld41_2) ?_
      refine wl_val rfl (ex_load1 rfl Tryd.agg4 ((hc1.evo hE62 (by simp)) 2 _ rfl)) ?_
      refine wl_nil (nrm_then ?_)
      refine cw_ifb rfl (fun hc66 => ?_) (fun hc66 => ?_)
      · skip
        refine cw_seq ?_
        refine cw_region ?_
        refine wl_val rfl (ex_move rfl) ?_
        refine wl_call1 (vs := [_, _, _]) Tryd.goes42 rfl (number_ok  hO3 7 3 (by omega) (by omega) (by first | omega | (simp only [List.length_append, num_length, List.length_nil]; omega))) rfl ?_
        rintro _ w65 ⟨a4, m4, c4, ob4, rfl, hO4, hw66, hb4⟩
        have hob4 := ob_trans hob3 hE63 hb4
        have hA67 := ap_ob hap3 (Lt.blk hB64) hb4
        have hG68 := ge_ob hG3 hE62 hb4
        have hE69 := hE62.step hw66 hG3.mem
        have hE70 := hE63.step hw66 (fun y hy => wr_mem hob3 y (List.mem_cons_of_mem _ hy))
        have hB71 := hw66.blk hB64 hap3.nmem
        refine wl_val rfl (ex_assign rfl) ?_
        refine wl_nil (nrm_then ?_)
        refine cw_exit (ex_then (ex_here (nrm_then ?_)))
        refine cw_region ?_
        refine wl_val rfl (ex_move rfl) ?_
        refine wl_val rfl (ex_add_i64 rfl rfl (by omega) (by omega)) ?_
        refine wl_val rfl (ex_assign rfl) ?_
        refine wl_nil (nrm_same ?_)
        refine ⟨(k + 1, a4, m4, c4, ob4, la, d3), ?_, ⟨rfl, rfl, rfl, rfl, trivial⟩, ⟨rfl, rfl, rfl, trivial⟩, hE70, ?_⟩
        · (try dsimp only); omega
        · skip
          try dsimp only
          have hst := step_st (z := stAt ds k) hc66
          refine ⟨by omega, ?_, ?_, ?_, ?_, hob4, hA67⟩
          · rw [bitsTo_succ hk', hst, ← List.append_assoc]; exact hO4
          · rw [stAt_succ hk', hst]; exact hB71
          · rw [stAt_succ hk', hst]; exact hla
          · rw [stAt_succ hk', hst]; exact hd3
      · skip
        refine cw_skip (nrm_then ?_)
        refine cw_seq ?_
        refine cw_region ?_
        refine wl_val rfl (ex_move rfl) ?_
        refine wl_val rfl (ex_move rfl) ?_
        refine wl_val rfl (ex_indexAddr (n := k) rfl rfl Tryd.elem22 (by omega)) ?_
        refine wl_val rfl (ex_fieldAddr rfl Tryd.fld41_1) ?_
        refine wl_val rfl (ex_load1 rfl Tryd.agg39 ((hc1.evo hE62 (by simp)) 1 _ rfl)) ?_
        refine wl_call1 (vs := [_]) Tryd.goes44 rfl (refBits_ok ds[k].v hsk.v) rfl ?_
        rintro _ w72 ⟨rfl, hw73⟩
        have hE74 := hE62.then hw73
        have hE75 := hE63.then hw73
        have hB76 := hw73.blk0 hB64
        have hO77 := hO3.evo0 hw73
        refine wl_val rfl (ex_assign rfl) ?_
        refine wl_nil (nrm_then ?_)
        refine cw_seq ?_
        refine cw_region ?_
        refine wl_val rfl (ex_move rfl) ?_
        refine wl_val rfl (ex_move rfl) ?_
        refine wl_val rfl (ex_move rfl) ?_
        refine wl_val rfl (ex_xorN (m := cb ds[k].v) (n := la) rfl rfl (by omega) (by omega) rfl (cb_lt hsk.v) (hla ▸ hso.b)) ?_
        refine wl_val rfl (ex_loadBlk rfl Tryd.agg92 Tryd.size92 hB76 rfl) ?_
        refine wl_call1 (vs := [_, _, _]) Tryd.goes45 rfl (value_ok hO77 (cb ds[k].v ^^^ la) (xor_lt (cb_lt hsk.v) (hla ▸ hso.b)) (stAt ds k).f hso.f (by first | omega | (simp only [List.length_append, num_length, List.length_nil]; omega))) rfl ?_
        rintro _ w78 ⟨a5, m5, c5, ob5, rfl, hO5, hw79, hb5⟩
        have hob5 := ob_trans hob3 hE75 hb5
        have hA80 := ap_ob hap3 (Lt.blk hB76) hb5
        have hG81 := ge_ob hG3 hE74 hb5
        have hE82 := hE74.step hw79 hG3.mem
        have hE83 := hE75.step hw79 (fun y hy => wr_mem hob3 y (List.mem_cons_of_mem _ hy))
        have hB84 := hw79.blk hB76 hap3.nmem
        refine wl_val rfl (ex_move rfl) ?_
        refine wl_val rfl (ex_extract rfl rfl) ?_
        refine wl_val rfl (ex_extract rfl rfl) ?_
        refine wl_val rfl (ex_assign rfl) ?_
        refine wl_storeBlk rfl rfl Tryd.size92 hB84 rfl rfl ⟨by first | rfl | assumption, by first | rfl | assumption, by first | rfl | assumption, trivial⟩ fun w85 hB86 hw87 => ?_
        have hE88 := hE82.step hw87 hG18.mem1
        have hE89 := hE83.step hw87 (fun y hy => .inl (by simp at hy; simp [hy]))
        have hO90 := hO5.evo hw87 hA80.symm.own1
        refine wl_nil (nrm_then ?_)
        refine cw_region ?_
        refine wl_val rfl (ex_move rfl) ?_
        refine wl_val rfl (ex_assign rfl) ?_
        refine wl_nil (nrm_block (nrm_then ?_))
        refine cw_region ?_
        refine wl_val rfl (ex_move rfl) ?_
        refine wl_val rfl (ex_add_i64 rfl rfl (by omega) (by omega)) ?_
        refine wl_val rfl (ex_assign rfl) ?_
        refine wl_nil (nrm_same ?_)
        refine ⟨(k + 1, a5, m5, c5, ob5, cb ds[k].v, d3), ?_, ⟨rfl, rfl, rfl, rfl, trivial⟩, ⟨rfl, rfl, rfl, trivial⟩, hE89, ?_⟩
        · (try dsimp only); omega
        · skip
          try dsimp only
          have hst := step_v (z := stAt ds k) hc66
          refine ⟨by omega, ?_, ?_, ?_, ?_, hob5, hA80⟩
          · rw [bitsTo_succ hk', hst, ← List.append_assoc, ← hla]; exact hO90
          · rw [stAt_succ hk', hst, ← hla]; exact hB86
          · rw [stAt_succ hk', hst]
          · rw [stAt_succ hk', hst]; exact hd3
  · skip
    refine cw_exit (ex_then (ex_then (ex_here (nrm_then ?_))))
    refine cw_seq ?_
    refine cw_region ?_
    refine wl_val rfl (ex_move rfl) ?_
    refine wl_val rfl (ex_assign rfl) ?_
    refine wl_nil (nrm_then ?_)
    refine cw_ret (body_ret1 rfl rfl ?_)
    rw [bitsTo_all ds (by omega)] at hR
    exact ⟨a2, m2, c2, ob2, rfl, hR, hE28, hG2⟩


/-- What Pack answers. -/
def PackIs (ds : List Smp) (bs : List Nat) (e : Int) : Prop :=
  (100000 < ds.length ∧ bs = [] ∧ e = 1) ∨ (ds.length ≤ 100000 ∧ ¬ Rises ds ∧ bs = [] ∧ e = 170) ∨ (ds.length ≤ 100000 ∧ Rises ds ∧ Packs bs (form ds) ∧ e = 0)
theorem own_rsl {X : List Nat} {w : World} {e : TypeId} {a : Option Addr} {m c : Nat} {bs : List Nat} {ob : Option Nat} (h : OwnS w e 1 a m c (bs.map bv) ob) (hb : ∀ b, b ∈ bs → b < 256) (hx : ∀ g, ob = some g → g ∉ X) : RSl 1 RB X w (.slice a m c) bs := by
  have hl : bs.length = m := by have := h.1; simpa using this
  have hf : (bs.map fun b => [bv b]).flatten = bs.map bv := by clear h hb hl; induction bs with | nil => rfl | cons b bs ih => simp [ih]
  exact RSl.ofOwn (rows := bs.map fun b => [bv b]) (by rw [hf]; exact h) ⟨by simp, fun k h1 h2 => by simp; exact ⟨rfl, hb _ (List.getElem_mem h1)⟩⟩ hl hx
theorem rnil {X : List Nat} {w : World} {α : Type} {sz : Nat} {R : Rel α} : RSl sz R X w (.slice none 0 0) [] := ⟨none, 0, rfl, by simp, fun k hk => by simp at hk⟩
theorem bb_len {ds : List Bool} : (ds.map bb).length = ds.length := by simp
theorem mod_or (x y : Nat) (b : Bool) (s : Nat) (hs : s ≤ 7) (hy : y = x ||| b.toNat * 2 ^ s % 2 ^ IntKind.u8.bits) : y = x ||| (b.toNat * 2 ^ s) := by rw [hy, show (2 : Nat) ^ IntKind.u8.bits = 256 from rfl, shl_byte _ _ hs]
theorem zeros_bv : ∀ n, zeros #[.int .u8 0] n = (List.replicate n 0).map bv
  | 0 => rfl
  | n + 1 => by
    have := zeros_bv n
    simp only [zeros, List.replicate_succ, List.flatten_cons, List.map_cons] at this ⊢
    rw [this]; rfl
theorem own_bit {w : World} {a : Option Addr} {m c : Nat} {l : List Bool} {ob : Option Nat} {g : Nat} (h : OwnS w 5 1 a m c (l.map bb) ob) (ha : a = some ⟨g, 0, none⟩) {k : Nat} (hk : k < l.length) : w.cell? ⟨g, 0 + k * 1, none⟩ = some (bv (l.getD k false).toNat) := by
  have hm := own_len' h
  obtain ⟨g', _, ha', hc⟩ := h.cells (by omega)
  rw [ha] at ha'; cases ha'
  have := hc k (bb (l.getD k false)) (by simp [List.getD_eq_getElem?_getD, hk])
  simpa using this

theorem refPack_new {X : List Nat} {w : World} {v0 : Value} {ds : List Smp} (hs : RSl 3 RSmp X w v0 ds) (hl : ds.length ≤ 140737488355328) :
    Calls Tryd.prog 12 #[v0] w (Ret fun r w' => ∃ a n c bs e ob, r = .tuple #[.slice a n c, .int .i64 e] ∧ OwnS w' 5 1 a n c (bs.map bv) ob ∧ (∀ b, b ∈ bs → b < 256) ∧ Ge w ob ∧ PackIs ds bs e ∧ Evo [] w w') := by
  have hok := rsl_ok hs
  have hs0 := hs
  obtain ⟨a0, c0, rfl, hlc, _⟩ := hs
  refine calls_of_cw (N := 58) Tryd.func12 rfl rfl rfl ?_
  refine cw_seq ?_
  refine cw_region ?_
  refine wl_val rfl (ex_assign rfl) ?_
  refine wl_val rfl (ex_assign rfl) ?_
  refine wl_nil (nrm_then ?_)
  refine cw_seq ?_
  refine cw_seq ?_
  refine cw_region ?_
  refine wl_val rfl (ex_move rfl) ?_
  refine wl_val rfl (ex_len_slice rfl Tryd.underlying22 rfl) ?_
  refine wl_val rfl (ex_gtr rfl rfl) ?_
  refine wl_nil (nrm_then ?_)
  refine cw_if rfl (fun hc10 => ?_) (fun hc10 => ?_)
  · skip
    refine cw_seq ?_
    refine cw_region ?_
    refine wl_val rfl (ex_assign rfl) ?_
    refine wl_val rfl (ex_assign rfl) ?_
    refine wl_nil (nrm_then ?_)
    refine cw_ret (ret_then (body_ret2 rfl rfl rfl ?_))
    exact ⟨none, 0, 0, [], 1, none, rfl, OwnS.nil _ _ _, fun _ h => (by cases h), Ge.nil _, .inl ⟨by omega, rfl, rfl⟩, (Evo.refl [] w)⟩
  · skip
    refine cw_skip (nrm_then ?_)
    refine cw_seq ?_
    refine cw_seq ?_
    refine cw_region ?_
    refine wl_val rfl (ex_assign rfl) ?_
    refine wl_nil (nrm_then ?_)
    refine cw_block ?_
    refine cw_loop (α := Nat) (1) (fun k => [(4, .int .i64 (k : Nat))]) [(0, _)] (fun k wr => Evo [] w wr ∧ (1 ≤ k ∧ (k ≤ ds.length ∨ k = 1) ∧ RisesTo ds k)) (fun k => ds.length - k) ⟨rfl, trivial⟩ ⟨rfl, trivial⟩ ⟨Evo.refl _ _, ⟨Nat.le_refl _, .inr rfl, fun i _ h => by omega⟩⟩ ?_
    rintro k wr1 ⟨hV2, ⟨hk1, hk, hrs⟩⟩
    show CW _ _ _ _ [(4, _), (0, _)] _
    have hE3 := (Evo.refl [] w).then hV2
    refine cw_seq ?_
    refine cw_seq ?_
    refine cw_region ?_
    refine wl_val rfl (ex_move rfl) ?_
    refine wl_val rfl (ex_move rfl) ?_
    refine wl_val rfl (ex_len_slice rfl Tryd.underlying22 rfl) ?_
    refine wl_val rfl (ex_lss rfl rfl) ?_
    refine wl_nil (nrm_then ?_)
    refine cw_if rfl (fun hc14 => ?_) (fun hc14 => ?_)
    · skip
      have hk' : k < ds.length := by omega
      refine cw_skip (nrm_then ?_)
      refine cw_seq ?_
      refine cw_block ?_
      refine cw_seq ?_
      obtain ⟨_, b1, o1, rfl, -, hc1⟩ := smp_at hs0 hk'
      obtain ⟨_, b2, o2, ha2, -, hc2⟩ := smp_at hs0 (k := k - 1) (by omega)
      cases ha2
      refine cw_quiet (by kernel_rfl) (by kernel_rfl) ?_
      refine ql_val rfl (fun _ hq5 => ex_move rfl) ?_
      refine ql_val rfl (fun _ hq5 => ex_move rfl) ?_
      refine ql_val rfl (fun _ hq5 => ex_indexAddr (n := k) rfl rfl Tryd.elem22 (by omega)) ?_
      refine ql_val rfl (fun _ hq5 => ex_fieldAddr rfl Tryd.fld41_0) ?_
      refine ql_val rfl (fun _ hq5 => ex_load1 rfl Tryd.agg2 ((hc1.evo (hE3.then hq5) (by simp)) 0 _ rfl)) ?_
      refine ql_val rfl (fun _ hq5 => ex_move rfl) ?_
      refine ql_val rfl (fun _ hq5 => ex_move rfl) ?_
      refine ql_val rfl (fun _ hq5 => ex_sub_i64 rfl rfl (by omega) (by omega)) ?_
      refine ql_val rfl (fun _ hq5 => ex_indexAddrZ (n := k - 1) rfl rfl (by omega) Tryd.elem22 (by omega)) ?_
      refine ql_val rfl (fun _ hq5 => ex_fieldAddr rfl Tryd.fld41_0) ?_
      refine ql_val rfl (fun _ hq5 => ex_load1 rfl Tryd.agg2 ((hc2.evo (hE3.then hq5) (by simp)) 0 _ rfl)) ?_
      refine ql_val rfl (fun _ hq5 => ex_leq rfl rfl) ?_
      refine ql_nil (fun wq4 hq5 => nrm_then ?_)
      have hE6 := hE3.then hq5
      have hE7 := hV2.then hq5
      refine cw_if rfl (fun hc28 => ?_) (fun hc28 => ?_)
      · skip
        refine cw_seq ?_
        refine cw_region ?_
        refine wl_val rfl (ex_assign rfl) ?_
        refine wl_val rfl (ex_assign rfl) ?_
        refine wl_nil (nrm_then ?_)
        refine cw_ret (ret_block (ret_then (ret_then (ret_block (ret_then (body_ret2 rfl rfl rfl ?_))))))
        exact ⟨none, 0, 0, [], 170, none, rfl, OwnS.nil _ _ _, fun _ h => (by cases h), Ge.nil _, .inr (.inl ⟨by omega, fun h => by have := h (k - 1) (by omega); simp only [Nat.sub_add_cancel hk1] at this; omega, rfl, rfl⟩), hE6⟩
      · skip
        refine cw_skip (nrm_block (nrm_then ?_))
        refine cw_region ?_
        refine wl_val rfl (ex_move rfl) ?_
        refine wl_val rfl (ex_add_i64 rfl rfl (by omega) (by omega)) ?_
        refine wl_val rfl (ex_assign rfl) ?_
        refine wl_nil (nrm_same ?_)
        refine ⟨k + 1, ?_, ⟨rfl, trivial⟩, ⟨rfl, trivial⟩, hE7, ?_⟩
        · omega
        · skip
          exact ⟨by omega, by omega, hrs.succ hk' (by omega) (by omega)⟩
    · skip
      refine cw_exit (ex_then (ex_then (ex_here (nrm_then ?_))))
      refine cw_seq ?_
      refine cw_region ?_
      refine wl_val rfl (ex_move rfl) ?_
      refine wl_call1 (vs := [_]) Tryd.goes31 rfl (row_ok (RSl.evo RSmp.pers ((hE3).any X) hs0) (by omega)) rfl ?_
      rintro _ w8 ⟨a1, m1, c1, ob1, rfl, hO1, hw9, hb1⟩
      have hG10 := Ge.fresh hE3 hb1
      have hG11 := Ge.fresh hV2 hb1
      have hE12 := hE3.then hw9
      have hE13 := hV2.then hw9
      have hm1 := own_len' hO1
      have hfl := form_len ds
      refine wl_val rfl (ex_assign rfl) ?_
      refine wl_nil (nrm_then ?_)
      refine cw_seq ?_
      refine cw_region ?_
      refine wl_val rfl (ex_move rfl) ?_
      refine wl_val rfl (ex_len_slice rfl Tryd.underlying24 rfl) ?_
      refine wl_val rfl (ex_add_i64 rfl rfl (by omega) (by omega)) ?_
      refine wl_val rfl (ex_quoN (m := (form ds).length + 7) (n := 8) rfl rfl (by omega) (by omega) (by omega) (by simp [IntKind.max, IntKind.signed, IntKind.bits]; omega)) ?_
      refine wl_make (len := ((form ds).length + 7) / 8) (c := ((form ds).length + 7) / 8) rfl rfl rfl Tryd.make24 (by omega) (by omega) (by omega) (by decide) (by omega) (by omega) fun bm w15 hm hs17 hw18 => ?_
      have hA19 := Apart.new (Lt.own hO1) hs17
      have hG20 := Ge.new hE12 hs17
      have hG21 := Ge.new hE13 hs17
      have hE22 := hE12.then hw18
      have hE23 := hE13.then hw18
      have hO24 := hO1.evo0 hw18
      refine wl_val rfl (ex_assign rfl) ?_
      refine wl_nil (nrm_then ?_)
      refine cw_seq ?_
      refine cw_seq ?_
      refine cw_region ?_
      refine wl_val rfl (ex_assign rfl) ?_
      refine wl_nil (nrm_then ?_)
      refine cw_block ?_
      refine cw_loop (α := Nat × List Nat) ((0, List.replicate (((form ds).length + 7) / 8) 0)) (fun x => [(7, .int .i64 (x.1 : Nat))]) [(5, _), (6, _)] (fun x wr => Evo (some bm).toList w15 wr ∧ (x.1 ≤ (form ds).length ∧ OwnS wr 5 1 (some ⟨bm, 0, none⟩) (((form ds).length + 7) / 8) (((form ds).length + 7) / 8) (x.2.map bv) (some bm) ∧ PacksN x.2 ((form ds).take x.1) (((form ds).length + 7) / 8))) (fun x => (form ds).length - x.1) ⟨rfl, trivial⟩ ⟨rfl, rfl, trivial⟩ ⟨Evo.refl _ _, ⟨Nat.zero_le _, by rw [← zeros_bv]; exact hm, PacksN.nil _⟩⟩ ?_
      rintro ⟨k, bs⟩ wr25 ⟨hV26, ⟨hk, hb, hpk⟩⟩
      show CW _ _ _ _ [(7, .int .i64 (k : Nat)), (5, _), (6, _)] _
      try dsimp only at hk
      try dsimp only at hb
      try dsimp only at hpk
      have hE27 := hE22.step hV26 (hG20.mem)
      have hE28 := hE23.step hV26 (hG21.mem)
      have hB29 := hO24.evo hV26 (hA19.own)
      refine cw_seq ?_
      refine cw_seq ?_
      refine cw_region ?_
      refine wl_val rfl (ex_move rfl) ?_
      refine wl_val rfl (ex_move rfl) ?_
      refine wl_val rfl (ex_len_slice rfl Tryd.underlying24 rfl) ?_
      refine wl_val rfl (ex_lss rfl rfl) ?_
      refine wl_nil (nrm_then ?_)
      refine cw_if rfl (fun hc39 => ?_) (fun hc39 => ?_)
      · skip
        have hk' : k < (form ds).length := by omega
        have hbl := hpk.len
        have hb1 := toNat_le ((form ds).getD k false)
        obtain ⟨g1, hg1, ha1, -⟩ := hB29.cells (by omega)
        refine cw_skip (nrm_then ?_)
        refine cw_seq ?_
        refine cw_block ?_
        refine cw_any (fun w0 w' => Evo [] w0 w') (by kernel_rfl) (fun w30 hw31 => ?_)
        have hE32 := hE27.then hw31
        have hE33 := hE28.then hw31
        have hE34 := hV26.then hw31
        have hO35 := hB29.evo0 hw31
        have hO36 := hb.evo0 hw31
        refine ae_take 0 rfl (by kernel_rfl) (by kernel_rfl) (by kernel_rfl) rfl (fun _ hS => ex_move rfl) (Evo.refl [] w30) ?_
        refine ae_take 1 rfl (by kernel_rfl) (by kernel_rfl) (by kernel_rfl) rfl (fun _ hS => ex_move rfl) (Evo.refl [] w30) ?_
        refine ae_take 2 rfl (by kernel_rfl) (by kernel_rfl) (by kernel_rfl) rfl (fun _ hS => ex_quoN (m := k) (n := 8) rfl rfl (by omega) (by omega) (by omega) (by simp [IntKind.max, IntKind.signed, IntKind.bits]; omega)) (Evo.refl [] w30) ?_
        refine ae_take 3 rfl (by kernel_rfl) (by kernel_rfl) (by kernel_rfl) rfl (fun _ hS => ex_indexAddr (n := k / 8) rfl rfl Tryd.elem24 (by omega)) (Evo.refl [] w30) ?_
        refine ae_take 4 rfl (by kernel_rfl) (by kernel_rfl) (by kernel_rfl) rfl (fun _ hS => ex_load1 rfl Tryd.agg5 (own_byte (hO36.evo0 hS) rfl (by omega))) (Evo.refl [] w30) ?_
        refine ae_take 5 rfl (by kernel_rfl) (by kernel_rfl) (by kernel_rfl) rfl (fun _ hS => ex_move rfl) (Evo.refl [] w30) ?_
        refine ae_take 6 rfl (by kernel_rfl) (by kernel_rfl) (by kernel_rfl) rfl (fun _ hS => ex_move rfl) (Evo.refl [] w30) ?_
        refine ae_take 7 rfl (by kernel_rfl) (by kernel_rfl) (by kernel_rfl) rfl (fun _ hS => ex_indexAddr (n := k) (by rw [ha1]; rfl) rfl Tryd.elem24 (by omega)) (Evo.refl [] w30) ?_
        refine ae_take 8 rfl (by kernel_rfl) (by kernel_rfl) (by kernel_rfl) rfl (fun _ hS => ex_load1 rfl Tryd.agg5 (own_bit (hO35.evo0 hS) ha1 (by omega))) (Evo.refl [] w30) ?_
        refine ae_take 9 rfl (by kernel_rfl) (by kernel_rfl) (by kernel_rfl) rfl (fun _ hS => ex_move rfl) (Evo.refl [] w30) ?_
        refine ae_take 10 rfl (by kernel_rfl) (by kernel_rfl) (by kernel_rfl) rfl (fun _ hS => ex_remN (m := k) (n := 8) rfl rfl (by omega) (by omega) (by omega)) (Evo.refl [] w30) ?_
        refine ae_take 11 rfl (by kernel_rfl) (by kernel_rfl) (by kernel_rfl) rfl (fun _ hS => ex_sub_i64 rfl rfl (by omega) (by omega)) (Evo.refl [] w30) ?_
        refine ae_take 12 rfl (by kernel_rfl) (by kernel_rfl) (by kernel_rfl) rfl (fun _ hS => ex_shlN (m := ((form ds).getD k false).toNat) (n := 7 - k % 8) rfl rfl (by first | rfl | omega) (by first | rfl | omega) (by first | exact Nat.le_of_ble_eq_true rfl | (simp only [IntKind.bits]; omega)) rfl) (Evo.refl [] w30) ?_
        refine ae_take 13 rfl (by kernel_rfl) (by kernel_rfl) (by kernel_rfl) rfl (fun _ hS => ex_orN (m := bs.getD (k / 8) 0) (n := ((form ds).getD k false).toNat * 2 ^ (7 - k % 8) % 2 ^ IntKind.u8.bits) rfl rfl (by rfl) (by rfl) rfl (getD_lt hpk.lt) (Nat.mod_lt _ (by decide))) (Evo.refl [] w30) ?_
        refine ae_take 14 rfl (by kernel_rfl) (by kernel_rfl) (by kernel_rfl) rfl (fun _ hS => ex_indexAddr (n := k / 8) rfl rfl Tryd.elem24 (by omega)) (Evo.refl [] w30) ?_
        refine ae_loud [15] (by kernel_rfl) rfl ⟨?_, trivial⟩
        refine a_step rfl ?_
        obtain ⟨g46, cur37, hg38, hx39, hcu40, hcs41, -⟩ := hO36.at (by omega)
        cases hx39
        refine wl_store1L rfl rfl (rfl) Tryd.size5 hcu40 (hO36.inb hcs41 (k := k / 8) (j := 0) (by omega) (by omega) (by omega)) fun w42 hB43 hw44 => ?_
        replace hw44 := evo_ob hg38 hw44
        have hO45 := hO36.set' hg38 hcu40 hB43
        have hE47 := hE32.step hw44 hG20.mem
        have hE48 := hE33.step hw44 hG21.mem
        have hE49 := hE34.step hw44 (by intro y hy; left; simpa using hy)
        have hO51 := hO35.evo hw44 hA19.own
        refine wl_nil (ae_next (.inr (by kernel_rfl)) ?_)
        refine ae_done (by kernel_rfl) (nrm_block (nrm_then ?_))
        refine cw_region ?_
        refine wl_val rfl (ex_move rfl) ?_
        refine wl_val rfl (ex_add_i64 rfl rfl (by omega) (by omega)) ?_
        refine wl_val rfl (ex_assign rfl) ?_
        refine wl_nil (nrm_same ?_)
        refine ⟨(k + 1, bs.set (k / 8) (bs.getD (k / 8) 0 ||| ((form ds).getD k false).toNat * 2 ^ (7 - k % 8) % 2 ^ IntKind.u8.bits)), ?_, ⟨rfl, trivial⟩, ⟨rfl, rfl, trivial⟩, hE49, ?_⟩
        · (try dsimp only); omega
        · skip
          try dsimp only
          have hO := hO45
          refine ⟨by omega, by rw [← set_byte]; simpa using hO, ?_⟩
          rw [take_snoc hk']
          have hlt : ((form ds).take k).length = k := by simp; omega
          have := hpk.snoc (by omega) ((form ds)[k]) (x := bs.getD (k / 8) 0) (by rw [hlt]; exact bs2_get (by omega)) rfl
          rw [hlt] at this
          rw [show IntKind.u8.bits = 8 from rfl, show (2 : Nat) ^ 8 = 256 from rfl, shl_byte _ _ (by omega), show (form ds).getD k false = (form ds)[k] by simp [List.getD_eq_getElem?_getD, hk']]
          exact this
      · skip
        refine cw_exit (ex_then (ex_then (ex_here (nrm_then ?_))))
        refine cw_seq ?_
        refine cw_region ?_
        refine wl_val rfl (ex_move rfl) ?_
        refine wl_val rfl (ex_assign rfl) ?_
        refine wl_val rfl (ex_assign rfl) ?_
        refine wl_nil (nrm_then ?_)
        refine cw_ret (body_ret2 rfl rfl rfl ?_)
        have hkl : k = (form ds).length := by omega
        subst hkl
        rw [List.take_length] at hpk
        exact ⟨_, _, _, bs, 0, _, rfl, hb, hpk.lt, hG20, .inr (.inr ⟨by omega, hrs.all (by omega), hpk, rfl⟩), hE27⟩


theorem refPack_ok {X : List Nat} {w : World} {v0 : Value} {ds : List Smp} (hs : RSl 3 RSmp X w v0 ds) (hl : ds.length ≤ 140737488355328) :
    Calls Tryd.prog 12 #[v0] w (Ret fun r w' => ∃ v bs e, r = .tuple #[v, .int .i64 e] ∧ RSl 1 RB [] w' v bs ∧ PackIs ds bs e ∧ Evo [] w w') :=
  (refPack_new hs hl).mono fun _ _ ⟨v, he, _, _, _, bs, e1, _, hv, hO, hb, _, hP, hE⟩ => ⟨v, he, _, bs, e1, hv, own_rsl hO hb (fun _ _ => by simp), hP, hE⟩

end Go.Proofs.YtclmkppiolfgbaaDoor
