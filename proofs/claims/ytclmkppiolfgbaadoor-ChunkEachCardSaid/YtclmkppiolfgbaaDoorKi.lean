import Derived.Test.YtclmkppiolfgbaaDoorKh
import Derived.Test.YtclmkppiolfgbaaDoorKt
namespace Go.Proofs.YtclmkppiolfgbaaDoor
open Go.Proofs
open Go.W
attribute [local irreducible] Decidable.decide
set_option linter.unusedSimpArgs false
set_option linter.unusedVariables false
theorem Tryd.fld79_0 : fieldB Tryd.prog 79 0 = some 0 := by kernel_rfl
theorem Tryd.fld79_1 : fieldB Tryd.prog 79 1 = some 1 := by kernel_rfl
theorem Tryd.fld79_2 : fieldB Tryd.prog 79 2 = some 2 := by kernel_rfl
theorem Tryd.goes34 : Goes Tryd.prog 34 := ⟨_, Tryd.func34, by kernel_rfl, by kernel_rfl⟩
theorem Tryd.goes51 : Goes Tryd.prog 51 := ⟨_, Tryd.func51, by kernel_rfl, by kernel_rfl⟩


/-- A reader's cells. -/
abbrev rv (sv : Value) (r : Rd) : List Value := [sv, .int .i64 (r.at' : Nat), .bool r.sh]
theorem byte_at {X : List Nat} {w : World} {a : Option Addr} {n c : Nat} {ds : List Nat} (h : RSl 1 RB X w (.slice a n c) ds) {k : Nat} (hk : k < ds.length) : ∃ b o, a = some ⟨b, o, none⟩ ∧ b ∉ X ∧ CellsAt w b (o + k * 1) [bv (ds.getD k 0)] := by
  obtain ⟨a', c', hv, _, h⟩ := h
  cases hv
  obtain ⟨b, o, vs, h1, h2, h3, h4, h5, _⟩ := h k hk
  subst h5
  rw [List.getD_eq_getElem?_getD, List.getElem?_eq_getElem hk, Option.getD_some]
  exact ⟨b, o, h1, h2, h4⟩
theorem rsl_lt {X : List Nat} {w : World} {v : Value} {ds : List Nat} (h : RSl 1 RB X w v ds) : ∀ b, b ∈ ds → b < 256 := fun s hs => by
  obtain ⟨_, _, _, _, h⟩ := h
  obtain ⟨k, hk, rfl⟩ := List.getElem_of_mem hs
  obtain ⟨_, _, _, _, _, _, _, h5⟩ := h k hk
  exact h5.2
theorem unpk_getD {bs : List Nat} {i : Nat} (h : i < 8 * bs.length) : (unpk bs)[i]'(by simpa using h) = bitAt bs i := by
  have := unpk_get bs i h
  rw [List.getElem?_eq_getElem (by simpa using h)] at this
  exact Option.some.inj this
theorem get_step {bs : List Nat} {a k : Nat} (hk : k < 64) (h : a + k < 8 * bs.length) : unnum (((unpk bs).drop a).take k) * 2 ^ 1 % 2 ^ IntKind.u64.bits ||| (bitAt bs (a + k)).toNat = unnum (((unpk bs).drop a).take (k + 1)) := by
  have hl : k < ((unpk bs).drop a).length := by simp; omega
  have hlt := unnum_lt (((unpk bs).drop a).take k)
  have h2 : (2 : Nat) ^ (((unpk bs).drop a).take k).length ≤ 2 ^ 63 := Nat.pow_le_pow_right (by omega) (by simp only [List.length_take]; omega)
  rw [take_snoc hl, unnum_snoc, List.getElem_drop, unpk_getD h]
  have h3 := toNat_le (bitAt bs (a + k))
  rw [show IntKind.u64.bits = 64 from rfl, Nat.mod_eq_of_lt (by omega)]
  have := Nat.two_pow_add_eq_or_of_lt (i := 1) (b := (bitAt bs (a + k)).toNat) (by omega) (unnum (((unpk bs).drop a).take k))
  rw [Nat.mul_comm] at this
  rw [← this]; omega


theorem ones_go {B : List Bool} {r : Rd} {k : Nat} (h : (get B r 1).1 = 1) : ones B r (k + 1) = ((ones B (get B r 1).2 k).1 + 1, (ones B (get B r 1).2 k).2) := by
  conv => lhs; unfold ones
  rw [if_pos h]
theorem ones_end1 {B : List Bool} {r : Rd} {k : Nat} (h : ¬ (get B r 1).1 = 1) : ones B r (k + 1) = (0, (get B r 1).2) := by
  conv => lhs; unfold ones
  rw [if_neg h]
theorem rtime_of {B : List Bool} {r : Rd} {o n : Nat} {c : Int} (h : (ones B r 4).1 = o) (hw : width o = n) (hl : less o = c) : rtime B r = (i64 (i64 (get B (ones B r 4).2 n).1 - c), (get B (ones B r 4).2 n).2) := by
  unfold rtime; rw [h, hw, hl]
theorem get_at8 {bs : List Nat} {r : Rd} (h : r.at' ≤ 8 * bs.length) (n : Nat) : (get (unpk bs) r n).2.at' ≤ 8 * bs.length := by have := get_at (B := unpk bs) (r := r) (by simpa using h) n; simpa using this
theorem ones_at8 {bs : List Nat} {r : Rd} (h : r.at' ≤ 8 * bs.length) (n : Nat) : (ones (unpk bs) r n).2.at' ≤ 8 * bs.length := by have := ones_at (B := unpk bs) (r := r) (k := n) (by simpa using h); simpa using this
theorem rtime_at8 {bs : List Nat} {r : Rd} (h : r.at' ≤ 8 * bs.length) : (rtime (unpk bs) r).2.at' ≤ 8 * bs.length := get_at8 (ones_at8 h _) _

theorem get_ok {X : List Nat} {w : World} {br : Nat} {U : TypeId} {sv : Value} {bs : List Nat} {r : Rd} (hB0 : w.heap[br]? = some (.cells (rv sv r).toArray U (0, 0))) (hs : RSl 1 RB X w sv bs) (hx : br ∈ X) (hl : bs.length ≤ 140737488355328) (ha : r.at' ≤ 8 * bs.length) (n : Nat) (hn : n ≤ 64) :
    Calls Tryd.prog 34 #[.pointer (some ⟨br, 0, none⟩), .int .i64 n] w (Ret fun v w' => v = .int .u64 (get (unpk bs) r n).1 ∧ w'.heap[br]? = some (.cells (rv sv (get (unpk bs) r n).2).toArray U (0, 0)) ∧ Evo [br] w w') := by
  have hlt := rsl_lt hs
  have hs0 := hs
  obtain ⟨a0, c0, rfl, hlc, _⟩ := hs
  refine calls_of_cw (N := 66) Tryd.func34 rfl rfl rfl ?_
  refine cw_seq ?_
  refine cw_region ?_
  refine wl_val rfl (ex_assign rfl) ?_
  refine wl_nil (nrm_then ?_)
  refine cw_seq ?_
  refine cw_seq ?_
  refine cw_quiet (by kernel_rfl) (by kernel_rfl) ?_
  refine ql_val rfl (fun _ hq2 => ex_move rfl) ?_
  refine ql_val rfl (fun _ hq2 => ex_nilCheck rfl) ?_
  refine ql_val rfl (fun _ hq2 => ex_fieldAddr rfl Tryd.fld79_1) ?_
  refine ql_val rfl (fun _ hq2 => ex_load1 rfl Tryd.agg3 (cell_nth (hq2.blk0 hB0) rfl)) ?_
  refine ql_val rfl (fun _ hq2 => ex_move rfl) ?_
  refine ql_val rfl (fun _ hq2 => ex_add_i64 rfl rfl (by omega) (by omega)) ?_
  refine ql_val rfl (fun _ hq2 => ex_move rfl) ?_
  refine ql_val rfl (fun _ hq2 => ex_nilCheck rfl) ?_
  refine ql_val rfl (fun _ hq2 => ex_fieldAddr rfl Tryd.fld79_0) ?_
  refine ql_val rfl (fun _ hq2 => ex_load1 rfl Tryd.agg24 (cell_nth (hq2.blk0 hB0) rfl)) ?_
  refine ql_val rfl (fun _ hq2 => ex_len_slice rfl Tryd.underlying24 rfl) ?_
  refine ql_val rfl (fun _ hq2 => ex_mul_i64 rfl rfl (by omega) (by omega)) ?_
  refine ql_val rfl (fun _ hq2 => ex_gtr rfl rfl) ?_
  refine ql_nil (fun wq1 hq2 => nrm_then ?_)
  have hE3 := (Evo.refl [br] w).then hq2
  have hB4 := hq2.blk0 hB0
  refine cw_if rfl (fun hc18 => ?_) (fun hc18 => ?_)
  · skip
    refine cw_seq ?_
    refine cw_region ?_
    refine wl_val rfl (ex_move rfl) ?_
    refine wl_val rfl (ex_nilCheck rfl) ?_
    refine wl_val rfl (ex_fieldAddr rfl Tryd.fld79_2) ?_
    refine wl_store1 rfl rfl (by first | rfl | assumption) Tryd.size4 hB4 rfl fun w5 hB6 hw7 => ?_
    have hE8 := hE3.step hw7 (fun y hy => .inl hy)
    try simp only [List.setIfInBounds_toArray, List.set_cons_zero, List.set_cons_succ, Nat.reduceAdd, Nat.zero_add, Nat.add_zero] at hB6
    refine wl_nil (nrm_then ?_)
    refine cw_seq ?_
    refine cw_region ?_
    refine wl_val rfl (ex_move rfl) ?_
    refine wl_val rfl (ex_move rfl) ?_
    refine wl_val rfl (ex_nilCheck rfl) ?_
    refine wl_val rfl (ex_fieldAddr rfl Tryd.fld79_0) ?_
    refine wl_val rfl (ex_load1 rfl Tryd.agg24 (cell_nth hB6 rfl)) ?_
    refine wl_val rfl (ex_len_slice rfl Tryd.underlying24 rfl) ?_
    refine wl_val rfl (ex_mul_i64 rfl rfl (by omega) (by omega)) ?_
    refine wl_val rfl (ex_nilCheck rfl) ?_
    refine wl_val rfl (ex_fieldAddr rfl Tryd.fld79_1) ?_
    refine wl_store1 rfl rfl (by first | rfl | assumption) Tryd.size3 hB6 rfl fun w9 hB10 hw11 => ?_
    have hE12 := hE8.step hw11 (fun y hy => .inl hy)
    try simp only [List.setIfInBounds_toArray, List.set_cons_zero, List.set_cons_succ, Nat.reduceAdd, Nat.zero_add, Nat.add_zero] at hB10
    refine wl_nil (nrm_then ?_)
    refine cw_seq ?_
    refine cw_region ?_
    refine wl_val rfl (ex_assign rfl) ?_
    refine wl_nil (nrm_then ?_)
    refine cw_ret (ret_then (body_ret1 rfl rfl ?_))
    have hg : get (unpk bs) r n = (0, ⟨8 * bs.length, true⟩) := by unfold get; rw [if_neg (by simp; omega)]; simp
    rw [hg]
    exact ⟨rfl, hB10, hE12⟩
  · skip
    refine cw_skip (nrm_then ?_)
    refine cw_seq ?_
    refine cw_region ?_
    refine wl_val rfl (ex_assign rfl) ?_
    refine wl_nil (nrm_then ?_)
    refine cw_seq ?_
    refine cw_seq ?_
    refine cw_region ?_
    refine wl_val rfl (ex_move rfl) ?_
    refine wl_val rfl (ex_move rfl) ?_
    refine wl_nil (nrm_then ?_)
    refine cw_block ?_
    refine cw_loop (α := Nat) (0) (fun k => [(32, .int .i64 (k : Nat)), (5, .int .u64 (unnum (((unpk bs).drop r.at').take k) : Nat))]) [(0, _), (4, _), (31, _)] (fun k wr => Evo [br] wq1 wr ∧ (k ≤ n ∧ wr.heap[br]? = some (.cells ([.slice a0 bs.length c0, .int .i64 ((r.at' + k : Nat) : Int), .bool r.sh] : List Value).toArray U (0, 0)))) (fun k => n - k) ⟨rfl, rfl, trivial⟩ ⟨rfl, rfl, rfl, trivial⟩ ⟨Evo.refl _ _, ⟨Nat.zero_le _, hB4⟩⟩ ?_
    rintro k wr13 ⟨hV14, ⟨hk, hR⟩⟩
    show CW _ _ _ _ [(32, _), (5, _), (0, _), (4, _), (31, _)] _
    have hE15 := hE3.step hV14 (fun y hy => .inl hy)
    refine cw_seq ?_
    refine cw_region ?_
    refine wl_val rfl (ex_lss rfl rfl) ?_
    refine wl_nil (nrm_then ?_)
    refine cw_seq ?_
    refine cw_if rfl (fun hc33 => ?_) (fun hc33 => ?_)
    · skip
      have hkn : k < n := by omega
      obtain ⟨b1, o1, rfl, hbx, hc1⟩ := byte_at hs0 (k := (r.at' + k) / 8) (by omega)
      have hbr : b1 ∉ [br] := fun h => hbx (by rw [List.mem_singleton.1 h]; exact hx)
      refine cw_skip (nrm_then ?_)
      refine cw_seq ?_
      refine cw_block ?_
      refine cw_seq ?_
      refine cw_quiet (by kernel_rfl) (by kernel_rfl) ?_
      refine ql_val rfl (fun _ hq17 => ex_move rfl) ?_
      refine ql_val rfl (fun _ hq17 => ex_shlN (m := unnum (((unpk bs).drop r.at').take k)) (n := 1) rfl rfl (by first | rfl | omega) (by first | rfl | omega) (by first | exact Nat.le_of_ble_eq_true rfl | (simp only [IntKind.bits]; omega)) rfl) ?_
      refine ql_val rfl (fun _ hq17 => ex_move rfl) ?_
      refine ql_val rfl (fun _ hq17 => ex_nilCheck rfl) ?_
      refine ql_val rfl (fun _ hq17 => ex_fieldAddr rfl Tryd.fld79_0) ?_
      refine ql_val rfl (fun _ hq17 => ex_load1 rfl Tryd.agg24 (cell_nth (hq17.blk0 hR) rfl)) ?_
      refine ql_val rfl (fun _ hq17 => ex_move rfl) ?_
      refine ql_val rfl (fun _ hq17 => ex_nilCheck rfl) ?_
      refine ql_val rfl (fun _ hq17 => ex_fieldAddr rfl Tryd.fld79_1) ?_
      refine ql_val rfl (fun _ hq17 => ex_load1 rfl Tryd.agg3 (cell_nth (hq17.blk0 hR) rfl)) ?_
      refine ql_val rfl (fun _ hq17 => ex_quoN (m := r.at' + k) (n := 8) rfl rfl (by omega) (by omega) (by omega) (by simp [IntKind.max, IntKind.signed, IntKind.bits]; omega)) ?_
      refine ql_val rfl (fun _ hq17 => ex_indexAddrZ (n := (r.at' + k) / 8) rfl rfl (by omega) Tryd.elem24 (by omega)) ?_
      refine ql_val rfl (fun _ hq17 => ex_load1 rfl Tryd.agg5 ((hc1.evo (hE15.then hq17) hbr) 0 _ rfl)) ?_
      refine ql_val rfl (fun _ hq17 => ex_move rfl) ?_
      refine ql_val rfl (fun _ hq17 => ex_nilCheck rfl) ?_
      refine ql_val rfl (fun _ hq17 => ex_fieldAddr rfl Tryd.fld79_1) ?_
      refine ql_val rfl (fun _ hq17 => ex_load1 rfl Tryd.agg3 (cell_nth (hq17.blk0 hR) rfl)) ?_
      refine ql_val rfl (fun _ hq17 => ex_remN (m := r.at' + k) (n := 8) rfl rfl (by omega) (by omega) (by omega)) ?_
      refine ql_val rfl (fun _ hq17 => ex_sub_i64 rfl rfl (by omega) (by omega)) ?_
      refine ql_val rfl (fun _ hq17 => ex_shrN (m := (bs.getD ((r.at' + k) / 8) 0)) (n := 7 - (r.at' + k) % 8) rfl rfl (by first | rfl | omega) (by first | rfl | omega) (by first | exact Nat.le_of_ble_eq_true rfl | (simp only [IntKind.bits]; omega))) ?_
      refine ql_val rfl (fun _ hq17 => ex_andN (m := bs.getD ((r.at' + k) / 8) 0 / 2 ^ (7 - (r.at' + k) % 8)) (n := 1) rfl rfl (by rfl) (by rfl) rfl (Nat.lt_of_le_of_lt (Nat.div_le_self _ _) (getD_lt hlt)) (by decide)) ?_
      rw [bit_and]
      have htn := toNat_le (bitAt bs (r.at' + k))
      rw [show (bs.getD ((r.at' + k) / 8) 0).testBit (7 - (r.at' + k) % 8) = bitAt bs (r.at' + k) from rfl]
      refine ql_val rfl (fun _ hq17 => ex_convF rfl Tryd.underlying5 Tryd.underlying72 (by simp [IntKind.min, IntKind.max, IntKind.signed, IntKind.bits] <;> omega) (by simp [IntKind.min, IntKind.max, IntKind.signed, IntKind.bits] <;> omega)) ?_
      refine ql_val rfl (fun _ hq17 => ex_orN (m := unnum (((unpk bs).drop r.at').take k) * 2 ^ 1 % 2 ^ IntKind.u64.bits) (n := (bitAt bs (r.at' + k)).toNat) rfl rfl (by rfl) (by rfl) rfl (Nat.mod_lt _ (by decide)) (Nat.lt_of_le_of_lt (toNat_le _) (by decide))) ?_
      rw [get_step (by omega) (by omega)]
      refine ql_val rfl (fun _ hq17 => ex_assign rfl) ?_
      refine ql_nil (fun wq16 hq17 => nrm_then ?_)
      have hE18 := hE15.then hq17
      have hE19 := hV14.then hq17
      have hB20 := hq17.blk0 hR
      refine cw_region ?_
      refine wl_val rfl (ex_move rfl) ?_
      refine wl_val rfl (ex_nilCheck rfl) ?_
      refine wl_val rfl (ex_fieldAddr rfl Tryd.fld79_1) ?_
      refine wl_val rfl (ex_load1 rfl Tryd.agg3 (cell_nth hB20 rfl)) ?_
      refine wl_val rfl (ex_add_i64 rfl rfl (by omega) (by omega)) ?_
      refine wl_val rfl (ex_nilCheck rfl) ?_
      refine wl_val rfl (ex_fieldAddr rfl Tryd.fld79_1) ?_
      refine wl_store1 rfl rfl (by first | rfl | assumption) Tryd.size3 hB20 rfl fun w21 hB22 hw23 => ?_
      have hE24 := hE18.step hw23 (fun y hy => .inl hy)
      have hE25 := hE19.step hw23 (fun y hy => .inl hy)
      try simp only [List.setIfInBounds_toArray, List.set_cons_zero, List.set_cons_succ, Nat.reduceAdd, Nat.zero_add, Nat.add_zero] at hB22
      refine wl_nil (nrm_block (nrm_then ?_))
      refine cw_region ?_
      refine wl_val rfl (ex_add_i64 rfl rfl (by omega) (by omega)) ?_
      refine wl_val rfl (ex_move rfl) ?_
      refine wl_nil (nrm_same ?_)
      refine ⟨k + 1, ?_, ⟨rfl, rfl, trivial⟩, ⟨rfl, rfl, rfl, trivial⟩, hE25, ?_⟩
      · omega
      · skip
        exact ⟨by omega, hB22⟩
    · skip
      refine cw_exit (ex_then (ex_then (ex_here (nrm_then ?_))))
      refine cw_seq ?_
      refine cw_region ?_
      refine wl_val rfl (ex_move rfl) ?_
      refine wl_val rfl (ex_assign rfl) ?_
      refine wl_nil (nrm_then ?_)
      refine cw_ret (body_ret1 rfl rfl ?_)
      have hkn : k = n := by omega
      subst hkn
      have hg : get (unpk bs) r k = (unnum (((unpk bs).drop r.at').take k), ⟨r.at' + k, r.sh⟩) := by unfold get; rw [if_pos (by simp; omega)]
      rw [hg]
      exact ⟨rfl, hR, hE15⟩

theorem ones_ok {X : List Nat} {w : World} {br : Nat} {U : TypeId} {sv : Value} {bs : List Nat} {r : Rd} (hB0 : w.heap[br]? = some (.cells (rv sv r).toArray U (0, 0))) (hs : RSl 1 RB X w sv bs) (hx : br ∈ X) (hl : bs.length ≤ 140737488355328) (ha : r.at' ≤ 8 * bs.length) (m : Nat) (hm : m ≤ 64) :
    Calls Tryd.prog 51 #[.pointer (some ⟨br, 0, none⟩), .int .i64 m] w (Ret fun v w' => v = .int .i64 (ones (unpk bs) r m).1 ∧ w'.heap[br]? = some (.cells (rv sv (ones (unpk bs) r m).2).toArray U (0, 0)) ∧ Evo [br] w w') := by
  have hmX : ∀ y, y ∈ [br] → y ∈ X := fun y hy => by rw [List.mem_singleton.1 hy]; exact hx
  refine calls_of_cw (N := 17) Tryd.func51 rfl rfl rfl ?_
  refine cw_seq ?_
  refine cw_region ?_
  refine wl_val rfl (ex_assign rfl) ?_
  refine wl_nil (nrm_then ?_)
  refine cw_seq ?_
  refine cw_region ?_
  refine wl_val rfl (ex_assign rfl) ?_
  refine wl_nil (nrm_then ?_)
  refine cw_seq ?_
  refine cw_block ?_
  refine cw_loop (α := Nat × Rd) ((0, r)) (fun x => [(5, .int .i64 (x.1 : Nat))]) [(0, _), (1, _), (4, _)] (fun x wr => Evo [br] w wr ∧ (x.1 ≤ m ∧ wr.heap[br]? = some (.cells (rv sv x.2).toArray U (0, 0)) ∧ x.2.at' ≤ 8 * bs.length ∧ ones (unpk bs) r m = (x.1 + (ones (unpk bs) x.2 (m - x.1)).1, (ones (unpk bs) x.2 (m - x.1)).2))) (fun x => m - x.1) ⟨rfl, trivial⟩ ⟨rfl, rfl, rfl, trivial⟩ ⟨Evo.refl _ _, ⟨Nat.zero_le _, hB0, ha, by simp⟩⟩ ?_
  rintro ⟨k, q⟩ wr1 ⟨hV2, ⟨hk, hR, haq, hon⟩⟩
  show CW _ _ _ _ [(5, .int .i64 (k : Nat)), (0, _), (1, _), (4, _)] _
  try dsimp only at hk
  try dsimp only at hR
  try dsimp only at haq
  try dsimp only at hon
  have hE3 := (Evo.refl [br] w).step hV2 (fun y hy => .inl hy)
  refine cw_seq ?_
  refine cw_seq ?_
  refine cw_region ?_
  refine wl_val rfl (ex_move rfl) ?_
  refine wl_val rfl (ex_move rfl) ?_
  refine wl_val rfl (ex_lss rfl rfl) ?_
  refine wl_val rfl (ex_move rfl) ?_
  refine wl_split (t := 9) rfl (fun hs9 => ?_) (fun hs9 => ?_)
  · skip
    refine wl_go rfl rfl rfl rfl ?_
    refine wl_val rfl (ex_move rfl) ?_
    refine wl_go rfl rfl rfl rfl ?_
    refine wl_call1 (vs := [_, _]) Tryd.goes34 rfl (get_ok hR (RSl.evo RB.pers ((hE3).mono hmX) hs) hx hl haq 1 (by omega)) rfl ?_
    rintro _ w4 ⟨rfl, hR1, hw5⟩
    have hE6 := hE3.step hw5 (fun y hy => .inl hy)
    have hE7 := hV2.step hw5 (fun y hy => .inl hy)
    refine wl_go rfl rfl rfl rfl ?_
    refine wl_val rfl (ex_eql rfl rfl) ?_
    refine wl_val rfl (ex_pick_t rfl rfl) ?_
    refine wl_nil (nrm_then ?_)
    refine cw_if rfl (fun hc13 => ?_) (fun hc13 => ?_)
    · skip
      refine cw_skip (nrm_then ?_)
      refine cw_block ?_
      refine cw_region ?_
      refine wl_val rfl (ex_move rfl) ?_
      refine wl_val rfl (ex_add_i64 rfl rfl (by omega) (by omega)) ?_
      refine wl_val rfl (ex_assign rfl) ?_
      refine wl_nil (nrm_block (nrm_same ?_))
      refine ⟨(k + 1, (get (unpk bs) q 1).2), ?_, ⟨rfl, trivial⟩, ⟨rfl, rfl, rfl, trivial⟩, hE7, ?_⟩
      · (try dsimp only); omega
      · skip
        try dsimp only
        refine ⟨by omega, hR1, get_at8 haq 1, ?_⟩
        obtain ⟨j, hj⟩ : ∃ j, m - k = j + 1 := ⟨m - k - 1, by omega⟩
        rw [hon, hj, ones_go (by omega), show m - (k + 1) = j by omega]
        simp only [Prod.mk.injEq, and_true]; omega
    · skip
      refine cw_exit (ex_then (ex_then (ex_here (nrm_then ?_))))
      refine cw_seq ?_
      refine cw_region ?_
      refine wl_val rfl (ex_move rfl) ?_
      refine wl_val rfl (ex_assign rfl) ?_
      refine wl_nil (nrm_then ?_)
      refine cw_ret (body_ret1 rfl rfl ?_)
      obtain ⟨j, hj⟩ : ∃ j, m - k = j + 1 := ⟨m - k - 1, by omega⟩
      rw [hon, hj, ones_end1 (by omega)]
      exact ⟨rfl, hR1, hE6⟩
  · skip
    refine wl_no rfl rfl rfl rfl rfl rfl ?_
    refine wl_no rfl rfl rfl rfl rfl rfl ?_
    refine wl_no rfl rfl rfl rfl rfl rfl ?_
    refine wl_val rfl (ex_pick_f rfl rfl) ?_
    refine wl_nil (nrm_then ?_)
    refine cw_false rfl ?_
    refine cw_exit (ex_then (ex_then (ex_here (nrm_then ?_))))
    refine cw_seq ?_
    refine cw_region ?_
    refine wl_val rfl (ex_move rfl) ?_
    refine wl_val rfl (ex_assign rfl) ?_
    refine wl_nil (nrm_then ?_)
    refine cw_ret (body_ret1 rfl rfl ?_)
    have hkm : k = m := by omega
    subst hkm
    rw [hon, Nat.sub_self]
    exact ⟨rfl, hR, hE3⟩

theorem rtime_ok {X : List Nat} {w : World} {br : Nat} {U : TypeId} {sv : Value} {bs : List Nat} {r : Rd} (hB0 : w.heap[br]? = some (.cells (rv sv r).toArray U (0, 0))) (hs : RSl 1 RB X w sv bs) (hx : br ∈ X) (hl : bs.length ≤ 140737488355328) (ha : r.at' ≤ 8 * bs.length) :
    Calls Tryd.prog 50 #[.pointer (some ⟨br, 0, none⟩)] w (Ret fun v w' => v = .int .i64 (rtime (unpk bs) r).1 ∧ w'.heap[br]? = some (.cells (rv sv (rtime (unpk bs) r).2).toArray U (0, 0)) ∧ Evo [br] w w') := by
  have hol := ones_le (unpk bs) 4 r
  have hmX : ∀ y, y ∈ [br] → y ∈ X := fun y hy => by rw [List.mem_singleton.1 hy]; exact hx
  refine calls_of_cw (N := 23) Tryd.func50 rfl rfl rfl ?_
  refine cw_seq ?_
  refine cw_region ?_
  refine wl_val rfl (ex_assign rfl) ?_
  refine wl_nil (nrm_then ?_)
  refine cw_seq ?_
  refine cw_region ?_
  refine wl_val rfl (ex_move rfl) ?_
  refine wl_call1 (vs := [_, _]) Tryd.goes51 rfl (ones_ok hB0 (RSl.evo RB.pers (((Evo.refl [br] w)).mono hmX) hs) hx hl ha 4 (by omega)) rfl ?_
  rintro _ w1 ⟨rfl, hR1, hw2⟩
  have hE3 := (Evo.refl [br] w).step hw2 (fun y hy => .inl hy)
  refine wl_val rfl (ex_assign rfl) ?_
  refine wl_nil (nrm_then ?_)
  refine cw_seq ?_
  refine cw_region ?_
  refine wl_val rfl (ex_assign rfl) ?_
  refine wl_val rfl (ex_assign rfl) ?_
  refine wl_nil (nrm_then ?_)
  refine cw_seq ?_
  refine cw_seq ?_
  refine cw_region ?_
  refine wl_val rfl (ex_move rfl) ?_
  refine wl_nil (nrm_then ?_)
  refine cw_block ?_
  refine cw_seq ?_
  refine cw_region ?_
  refine wl_val rfl (ex_eql rfl rfl) ?_
  refine wl_val rfl (ex_assign rfl) ?_
  refine wl_nil (nrm_then ?_)
  refine cw_if rfl (fun hc9 => ?_) (fun hc9 => ?_)
  · skip
    refine cw_region ?_
    refine wl_val rfl (ex_assign rfl) ?_
    refine wl_val rfl (ex_assign rfl) ?_
    refine wl_nil (nrm_block (nrm_then ?_))
    refine cw_seq ?_
    refine cw_region ?_
    refine wl_val rfl (ex_move rfl) ?_
    refine wl_val rfl (ex_move rfl) ?_
    refine wl_call1 (vs := [_, _]) Tryd.goes34 rfl (get_ok hR1 (RSl.evo RB.pers ((hE3).mono hmX) hs) hx hl (ones_at8 ha 4) 7 (by omega)) rfl ?_
    rintro _ w4 ⟨rfl, hR2, hw5⟩
    have hE6 := hE3.step hw5 (fun y hy => .inl hy)
    refine wl_val rfl (ex_convI rfl Tryd.underlying72 Tryd.underlying2) ?_
    refine wl_val rfl (ex_move rfl) ?_
    refine wl_val rfl (ex_subI rfl rfl) ?_
    refine wl_val rfl (ex_assign rfl) ?_
    refine wl_nil (nrm_then ?_)
    refine cw_ret (body_ret1 rfl rfl ?_)
    have ho : (ones (unpk bs) r 4).1 = 1 := by omega
    rw [rtime_of ho (n := 7) (c := 63) rfl rfl]
    dsimp only
    exact ⟨rfl, hR2, hE6⟩
  · skip
    refine cw_seq ?_
    refine cw_region ?_
    refine wl_val rfl (ex_eql rfl rfl) ?_
    refine wl_val rfl (ex_assign rfl) ?_
    refine wl_nil (nrm_then ?_)
    refine cw_if rfl (fun hc11 => ?_) (fun hc11 => ?_)
    · skip
      refine cw_region ?_
      refine wl_val rfl (ex_assign rfl) ?_
      refine wl_val rfl (ex_assign rfl) ?_
      refine wl_nil (nrm_block (nrm_then ?_))
      refine cw_seq ?_
      refine cw_region ?_
      refine wl_val rfl (ex_move rfl) ?_
      refine wl_val rfl (ex_move rfl) ?_
      refine wl_call1 (vs := [_, _]) Tryd.goes34 rfl (get_ok hR1 (RSl.evo RB.pers ((hE3).mono hmX) hs) hx hl (ones_at8 ha 4) 9 (by omega)) rfl ?_
      rintro _ w7 ⟨rfl, hR2, hw8⟩
      have hE9 := hE3.step hw8 (fun y hy => .inl hy)
      refine wl_val rfl (ex_convI rfl Tryd.underlying72 Tryd.underlying2) ?_
      refine wl_val rfl (ex_move rfl) ?_
      refine wl_val rfl (ex_subI rfl rfl) ?_
      refine wl_val rfl (ex_assign rfl) ?_
      refine wl_nil (nrm_then ?_)
      refine cw_ret (body_ret1 rfl rfl ?_)
      have ho : (ones (unpk bs) r 4).1 = 2 := by omega
      rw [rtime_of ho (n := 9) (c := 255) rfl rfl]
      dsimp only
      exact ⟨rfl, hR2, hE9⟩
    · skip
      refine cw_seq ?_
      refine cw_region ?_
      refine wl_val rfl (ex_eql rfl rfl) ?_
      refine wl_val rfl (ex_assign rfl) ?_
      refine wl_nil (nrm_then ?_)
      refine cw_if rfl (fun hc13 => ?_) (fun hc13 => ?_)
      · skip
        refine cw_region ?_
        refine wl_val rfl (ex_assign rfl) ?_
        refine wl_val rfl (ex_assign rfl) ?_
        refine wl_nil (nrm_block (nrm_then ?_))
        refine cw_seq ?_
        refine cw_region ?_
        refine wl_val rfl (ex_move rfl) ?_
        refine wl_val rfl (ex_move rfl) ?_
        refine wl_call1 (vs := [_, _]) Tryd.goes34 rfl (get_ok hR1 (RSl.evo RB.pers ((hE3).mono hmX) hs) hx hl (ones_at8 ha 4) 12 (by omega)) rfl ?_
        rintro _ w10 ⟨rfl, hR2, hw11⟩
        have hE12 := hE3.step hw11 (fun y hy => .inl hy)
        refine wl_val rfl (ex_convI rfl Tryd.underlying72 Tryd.underlying2) ?_
        refine wl_val rfl (ex_move rfl) ?_
        refine wl_val rfl (ex_subI rfl rfl) ?_
        refine wl_val rfl (ex_assign rfl) ?_
        refine wl_nil (nrm_then ?_)
        refine cw_ret (body_ret1 rfl rfl ?_)
        have ho : (ones (unpk bs) r 4).1 = 3 := by omega
        rw [rtime_of ho (n := 12) (c := 2047) rfl rfl]
        dsimp only
        exact ⟨rfl, hR2, hE12⟩
      · skip
        refine cw_seq ?_
        refine cw_region ?_
        refine wl_val rfl (ex_eql rfl rfl) ?_
        refine wl_val rfl (ex_assign rfl) ?_
        refine wl_nil (nrm_then ?_)
        refine cw_if rfl (fun hc15 => ?_) (fun hc15 => ?_)
        · skip
          refine cw_region ?_
          refine wl_val rfl (ex_assign rfl) ?_
          refine wl_nil (nrm_block (nrm_then ?_))
          refine cw_seq ?_
          refine cw_region ?_
          refine wl_val rfl (ex_move rfl) ?_
          refine wl_val rfl (ex_move rfl) ?_
          refine wl_call1 (vs := [_, _]) Tryd.goes34 rfl (get_ok hR1 (RSl.evo RB.pers ((hE3).mono hmX) hs) hx hl (ones_at8 ha 4) 64 (by omega)) rfl ?_
          rintro _ w13 ⟨rfl, hR2, hw14⟩
          have hE15 := hE3.step hw14 (fun y hy => .inl hy)
          refine wl_val rfl (ex_convI rfl Tryd.underlying72 Tryd.underlying2) ?_
          refine wl_val rfl (ex_move rfl) ?_
          refine wl_val rfl (ex_subI rfl rfl) ?_
          refine wl_val rfl (ex_assign rfl) ?_
          refine wl_nil (nrm_then ?_)
          refine cw_ret (body_ret1 rfl rfl ?_)
          have ho : (ones (unpk bs) r 4).1 = 4 := by omega
          rw [rtime_of ho (n := 64) (c := 0) rfl rfl]
          dsimp only
          exact ⟨rfl, hR2, hE15⟩
        · skip
          refine cw_skip (nrm_block (nrm_then ?_))
          refine cw_seq ?_
          refine cw_region ?_
          refine wl_val rfl (ex_move rfl) ?_
          refine wl_val rfl (ex_move rfl) ?_
          refine wl_call1 (vs := [_, _]) Tryd.goes34 rfl (get_ok hR1 (RSl.evo RB.pers ((hE3).mono hmX) hs) hx hl (ones_at8 ha 4) 0 (by omega)) rfl ?_
          rintro _ w16 ⟨rfl, hR2, hw17⟩
          have hE18 := hE3.step hw17 (fun y hy => .inl hy)
          refine wl_val rfl (ex_convI rfl Tryd.underlying72 Tryd.underlying2) ?_
          refine wl_val rfl (ex_move rfl) ?_
          refine wl_val rfl (ex_subI rfl rfl) ?_
          refine wl_val rfl (ex_assign rfl) ?_
          refine wl_nil (nrm_then ?_)
          refine cw_ret (body_ret1 rfl rfl ?_)
          have ho : (ones (unpk bs) r 4).1 = 0 := by omega
          rw [rtime_of ho (n := 0) (c := 0) rfl rfl]
          dsimp only
          exact ⟨rfl, hR2, hE18⟩

end Go.Proofs.YtclmkppiolfgbaaDoor
