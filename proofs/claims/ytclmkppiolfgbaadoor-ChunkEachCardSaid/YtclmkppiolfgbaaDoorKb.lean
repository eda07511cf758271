import Derived.Test.YtclmkppiolfgbaaDoorProg
import Derived.Test.YtclmkppiolfgbaaDoorKa
namespace Go.Proofs.YtclmkppiolfgbaaDoor
open Go.Proofs
open Go.W
attribute [local irreducible] Decidable.decide
set_option linter.unusedSimpArgs false
set_option linter.unusedVariables false
theorem Tryd.agg24 : aggB Tryd.prog 24 = some false := by kernel_rfl
theorem Tryd.agg3 : aggB Tryd.prog 3 = some false := by kernel_rfl
theorem Tryd.agg5 : aggB Tryd.prog 5 = some false := by kernel_rfl
theorem Tryd.app24_24 : appB Tryd.prog 24 24 = some (5, 1, 1) := by kernel_rfl
theorem Tryd.fld70_0 : fieldB Tryd.prog 70 0 = some 0 := by kernel_rfl
theorem Tryd.fld70_1 : fieldB Tryd.prog 70 1 = some 1 := by kernel_rfl
theorem Tryd.goes32 : Goes Tryd.prog 32 := ⟨_, Tryd.func32, by kernel_rfl, by kernel_rfl⟩
theorem Tryd.size24 : sizeB Tryd.prog 24 = some 1 := by kernel_rfl
theorem Tryd.size3 : sizeB Tryd.prog 3 = some 1 := by kernel_rfl
theorem Tryd.size5 : sizeB Tryd.prog 5 = some 1 := by kernel_rfl
theorem Tryd.slice24 : sliceB Tryd.prog 24 = some (5, 1) := by kernel_rfl


theorem Tryd.elem24 : elemB Tryd.prog 24 = some 1 := by kernel_rfl
/-- A byte's cell. -/
abbrev bv (n : Nat) : Value := .int .u8 n
theorem bv_one (l : List Nat) : ∀ u, u ∈ l.map bv → u.oneCell' = true := fun u hu => by
  obtain ⟨n, _, rfl⟩ := List.mem_map.1 hu; rfl
/-- A writer: its block, its bytes, the row that it has written. -/
structure Wr (w : World) (bw : Nat) (U : TypeId) (rest : List Value) (l : List Bool) (a : Option Addr) (m c : Nat) (bs : List Nat) (ob : Option Nat) : Prop where
  blk : w.heap[bw]? = some (.cells (.slice a m c :: .int .i64 ((l.length % 8 : Nat) : Int) :: rest).toArray U (0, 0))
  own : OwnS w 5 1 a m c (bs.map bv) ob
  pk : Packs bs l
  ap : Apart (some bw) ob
theorem own_len {w : World} {a : Option Addr} {m c : Nat} {bs : List Nat} {ob : Option Nat} (h : OwnS w 5 1 a m c (bs.map bv) ob) : bs.length = m := by have := h.1; simpa using this
theorem own_byte {w : World} {a : Option Addr} {m c : Nat} {bs : List Nat} {ob : Option Nat} {g : Nat} (h : OwnS w 5 1 a m c (bs.map bv) ob) (ha : a = some ⟨g, 0, none⟩) {k : Nat} (hk : k < bs.length) : w.cell? ⟨g, 0 + k * 1, none⟩ = some (bv (bs.getD k 0)) := by
  have hm := own_len h
  obtain ⟨g', _, ha', hc⟩ := h.cells (by omega)
  rw [ha] at ha'; cases ha'
  have := hc k (bv (bs.getD k 0)) (by simp [List.getD_eq_getElem?_getD, hk])
  simpa using this
theorem getD_lt {bs : List Nat} (h : ∀ b, b ∈ bs → b < 256) {k : Nat} : bs.getD k 0 < 256 := by
  rw [List.getD_eq_getElem?_getD]
  cases hk : bs[k]? with
  | none => simp
  | some x => exact h x (List.mem_of_getElem? hk)
theorem bs2_get {bs : List Nat} {k : Nat} (h : k < bs.length) : bs[k]? = some (bs.getD k 0) := by simp [List.getD_eq_getElem?_getD, h]
theorem set_byte (bs : List Nat) (k y : Nat) : (bs.map bv).set k (bv y) = (bs.set k y).map bv := by simp [List.map_set]
theorem bit_and (v k : Nat) : v / 2 ^ k &&& 1 = (v.testBit k).toNat := by
  rw [Nat.and_one_is_mod, Nat.testBit_eq_decide_div_mod_eq]
  rcases Nat.mod_two_eq_zero_or_one (v / 2 ^ k) with h | h <;> simp [h]
theorem toNat_le (b : Bool) : b.toNat ≤ 1 := by cases b <;> simp
theorem shl_byte (b : Bool) (s : Nat) (h : s ≤ 7) : b.toNat * 2 ^ s % 256 = b.toNat * 2 ^ s := by
  have : (2 : Nat) ^ s ≤ 2 ^ 7 := Nat.pow_le_pow_right (by omega) h
  apply Nat.mod_eq_of_lt
  cases b <;> simp <;> omega

theorem put_ok {w : World} {bw : Nat} {U : TypeId} {rest : List Value} {l : List Bool} {a : Option Addr} {m c : Nat} {bs : List Nat} {ob : Option Nat} (h : Wr w bw U rest l a m c bs ob) (v n : Nat) (hn : n ≤ 64) (hv : v < 18446744073709551616) (hl : l.length ≤ 1099511627776) :
    Calls Tryd.prog 32 #[.pointer (some ⟨bw, 0, none⟩), .int .u64 v, .int .i64 n] w (Ret fun r w' => r = .tuple #[] ∧ ∃ a' m' c' bs' ob', Wr w' bw U rest (l ++ num v n) a' m' c' bs' ob' ∧ Evo (bw :: ob.toList) w w' ∧ (ob' = ob ∨ Ge w ob')) := by
  obtain ⟨hB0, hO0, hP0, hA0⟩ := h
  refine calls_of_cw (N := 65) Tryd.func32 rfl rfl rfl ?_
  refine cw_seq ?_
  refine cw_region ?_
  refine wl_val rfl (ex_move rfl) ?_
  refine wl_val rfl (ex_move rfl) ?_
  refine wl_nil (nrm_then ?_)
  refine cw_block ?_
  refine cw_loop (α := Nat × Option Addr × Nat × Nat × List Nat × Option Nat) ((0, a, m, c, bs, ob)) (fun x => [(9, .int .i64 (x.1 : Nat))]) [(0, _), (1, _), (2, _), (8, _)] (fun x wr => Evo (bw :: ob.toList) w wr ∧ (x.1 ≤ n ∧ Wr wr bw U rest (l ++ (num v n).take x.1) x.2.1 x.2.2.1 x.2.2.2.1 x.2.2.2.2.1 x.2.2.2.2.2 ∧ (x.2.2.2.2.2 = ob ∨ Ge w x.2.2.2.2.2))) (fun x => n - x.1) ⟨rfl, trivial⟩ ⟨rfl, rfl, rfl, rfl, trivial⟩ ⟨Evo.refl _ _, ⟨Nat.zero_le _, by simpa using (⟨hB0, hO0, hP0, hA0⟩ : Wr w bw U rest l a m c bs ob), .inl rfl⟩⟩ ?_
  rintro ⟨k, a1, m1, c1, bs1, ob1⟩ wr1 ⟨hV2, ⟨hk, hR, hob⟩⟩
  show CW _ _ _ _ [(9, .int .i64 (k : Nat)), (0, _), (1, _), (2, _), (8, _)] _
  try dsimp only at hk
  try dsimp only at hR
  try dsimp only at hob
  have hE3 := (Evo.refl (bw :: ob.toList) w).step hV2 (by intro y hy; left; simpa using hy)
  have hlk : (l ++ (num v n).take k).length = l.length + k := by simp; omega
  have hR1 := hR.blk
  have hR2 := hR.own
  have hpk : PacksN bs1 (l ++ (num v n).take k) ((l.length + k + 7) / 8) := by have := hR.pk; unfold Packs at this; rwa [hlk] at this
  simp only [hlk] at hR1
  have hml : bs1.length = m1 := own_len hR2
  have hmem1 : ∀ y, y ∈ ob1.toList → y ∈ bw :: ob.toList ∨ w.heap.size ≤ y := by
    rcases hob with h | h
    · subst h; intro y hy; left; simp [hy]
    · exact h.mem
  have hmm : m1 ≤ 1099511627777 := by have := hpk.len; omega
  refine cw_seq ?_
  refine cw_region ?_
  refine wl_val rfl (ex_lss rfl rfl) ?_
  refine wl_nil (nrm_then ?_)
  refine cw_seq ?_
  refine cw_if rfl (fun hc10 => ?_) (fun hc10 => ?_)
  · skip
    refine cw_skip (nrm_then ?_)
    refine cw_seq ?_
    refine cw_block ?_
    refine cw_seq ?_
    refine cw_region ?_
    refine wl_val rfl (ex_move rfl) ?_
    refine wl_val rfl (ex_assign rfl) ?_
    refine wl_nil (nrm_then ?_)
    refine cw_seq ?_
    refine cw_cut (α := Option Addr × Nat × Nat × List Nat × Option Nat) (fun y => []) [(0, _), (1, _), (2, _), (6, _), (8, _), (9, _)] (fun y wr => Evo (bw :: ob1.toList) wr1 wr ∧ (wr.heap[bw]? = some (.cells (.slice y.1 y.2.1 y.2.2.1 :: .int .i64 (((l.length + k) % 8 : Nat) : Int) :: rest).toArray U (0, 0)) ∧ OwnS wr 5 1 y.1 y.2.1 y.2.2.1 (y.2.2.2.1.map bv) y.2.2.2.2 ∧ PacksN y.2.2.2.1 (l ++ (num v n).take k) ((l.length + k) / 8 + 1) ∧ Apart (some bw) y.2.2.2.2 ∧ (y.2.2.2.2 = ob ∨ Ge w y.2.2.2.2))) ⟨rfl, rfl, rfl, rfl, rfl, rfl, trivial⟩ ?_ ?_
    · skip
      refine cw_seq ?_
      refine cw_region ?_
      refine wl_val rfl (ex_move rfl) ?_
      refine wl_val rfl (ex_nilCheck rfl) ?_
      refine wl_val rfl (ex_fieldAddr rfl Tryd.fld70_1) ?_
      refine wl_val rfl (ex_load1 rfl Tryd.agg3 (cell_nth hR1 rfl)) ?_
      refine wl_val rfl (ex_eql rfl rfl) ?_
      refine wl_nil (nrm_then ?_)
      refine cw_if rfl (fun hc16 => ?_) (fun hc16 => ?_)
      · skip
        refine cw_region ?_
        refine wl_val rfl (ex_move rfl) ?_
        refine wl_val rfl (ex_move rfl) ?_
        refine wl_val rfl (ex_nilCheck rfl) ?_
        refine wl_val rfl (ex_fieldAddr rfl Tryd.fld70_0) ?_
        refine wl_val rfl (ex_load1 rfl Tryd.agg24 (cell_nth hR1 rfl)) ?_
        refine wl_bslice (vs := [_]) rfl Tryd.slice24 rfl rfl rfl rfl fun b4 w5 hO6 hs7 hw8 => ?_
        have hA9 := Apart.new (Lt.blk hR1) hs7
        have hA10 := Apart.new (Lt.own hR2) hs7
        have hG11 := Ge.new hE3 hs7
        have hG12 := Ge.new hV2 hs7
        have hG13 := Ge.new (Evo.refl (bw :: ob1.toList) wr1) hs7
        have hE14 := hE3.then hw8
        have hE15 := hV2.then hw8
        have hE16 := (Evo.refl (bw :: ob1.toList) wr1).then hw8
        have hB17 := hw8.blk0 hR1
        have hO18 := hR2.evo0 hw8
        refine wl_append rfl rfl rfl rfl Tryd.app24_24 hO18 (Src.ofOwn hO6 ⟨by first | rfl | assumption, trivial⟩) (by omega) fun a2 c2 w21 ob2 hO23 hw24 hob25 => ?_
        have hA26 := hR.ap.app (Lt.blk hB17) hob25
        have hA27 := hA10.symm.app (Lt.own hO6) hob25
        have hE28 := hE14.step hw24 (hmem1)
        have hE29 := hE15.step hw24 (hmem1)
        have hE30 := hE16.step hw24 (by intro y hy; left; simp [hy])
        have hB31 := hw24.blk hB17 hR.ap.nmem
        have hO32 := hO6.evo hw24 hA10.symm.own
        have hob2 : ob2 = ob ∨ Ge w ob2 := by
          rcases hob25 with h | ⟨g, h, hg⟩
          · subst h; exact hob
          · subst h; exact .inr (Ge.fresh hE14 (fun y hy => by cases hy; exact hg))
        have hmem2 : ∀ y, y ∈ ob2.toList → y ∈ bw :: ob.toList ∨ w.heap.size ≤ y := by
          rcases hob2 with h | h
          · subst h; intro y hy; left; simp [hy]
          · exact h.mem
        refine wl_val rfl (ex_nilCheck rfl) ?_
        refine wl_val rfl (ex_fieldAddr rfl Tryd.fld70_0) ?_
        refine wl_store1 rfl rfl (by first | rfl | assumption) Tryd.size24 hB31 rfl fun w33 hB34 hw35 => ?_
        have hE36 := hE28.step hw35 (by intro y hy; left; simp at hy; simp [hy])
        have hE37 := hE29.step hw35 (by intro y hy; left; simp at hy; simp [hy])
        have hE38 := hE30.step hw35 (by intro y hy; left; simp at hy; simp [hy])
        have hO39 := hO32.evo hw35 hA9.symm.own1
        have hO40 := hO23.evo hw35 hA26.symm.own1
        refine wl_nil (nrm_same ?_)
        refine ⟨(a2, m1 + 1, c2, bs1 ++ [0], ob2), trivial, ⟨rfl, rfl, rfl, rfl, rfl, rfl, trivial⟩, hE38, ?_⟩
        have hO2' := hO40
        exact ⟨hB34, by rw [List.map_append]; exact hO2', by have := hpk.grow (by omega); rwa [show (l.length + k + 7) / 8 + 1 = (l.length + k) / 8 + 1 by omega] at this, hA26, hob2⟩
      · skip
        refine cw_skip (nrm_same ?_)
        refine ⟨(a1, m1, c1, bs1, ob1), trivial, ⟨rfl, rfl, rfl, rfl, rfl, rfl, trivial⟩, (Evo.refl (bw :: ob1.toList) wr1), ?_⟩
        exact ⟨hR1, hR2, by rwa [show (l.length + k + 7) / 8 = (l.length + k) / 8 + 1 by omega] at hpk, hR.ap, hob⟩
    · skip
      rintro ⟨a2, m2, c2, bs2, ob2⟩ w41 ⟨hV42, ⟨hB2, hO2, hP2, hA2, hob2⟩⟩
      refine nrm_then ?_
      show CW _ _ _ _ [(0, _), (1, _), (2, _), (6, _), (8, _), (9, _)] _
      try dsimp only at hB2
      try dsimp only at hO2
      try dsimp only at hP2
      try dsimp only at hA2
      try dsimp only at hob2
      have hE43 := hE3.step hV42 (by intro y hy; rcases List.mem_cons.1 hy with h | h; { left; simp [h] }; { exact hmem1 y h })
      have hE44 := hV2.step hV42 (by intro y hy; rcases List.mem_cons.1 hy with h | h; { left; simp [h] }; { exact hmem1 y h })
      have hml2 : bs2.length = m2 := own_len hO2
      have hl2 := hP2.len
      have hmem3 : ∀ y, y ∈ ob2.toList → y ∈ bw :: ob.toList ∨ w.heap.size ≤ y := by
        rcases hob2 with h | h
        · subst h; intro y hy; left; simp [hy]
        · exact h.mem
      obtain ⟨g2, hg2, ha2, hc2⟩ := hO2.cells (by omega)
      refine cw_seq ?_
      refine cw_region ?_
      refine wl_val rfl (ex_move rfl) ?_
      refine wl_val rfl (ex_move rfl) ?_
      refine wl_val rfl (ex_sub_i64 rfl rfl (by omega) (by omega)) ?_
      refine wl_val rfl (ex_move rfl) ?_
      refine wl_val rfl (ex_sub_i64 rfl rfl (by omega) (by omega)) ?_
      refine wl_val rfl (ex_shrN (m := v) (n := n - 1 - k) rfl rfl (by omega) (by omega) (by first | exact Nat.le_of_ble_eq_true rfl | (simp only [IntKind.bits]; omega))) ?_
      refine wl_val rfl (ex_andN (m := v / 2 ^ (n - 1 - k)) (n := 1) rfl rfl (by omega) (by omega) rfl (Nat.lt_of_le_of_lt (Nat.div_le_self _ _) hv) (by decide)) ?_
      rw [bit_and]
      have htn := toNat_le (v.testBit (n - 1 - k))
      refine wl_val rfl (ex_convF rfl Tryd.underlying72 Tryd.underlying5 (by simp [IntKind.min, IntKind.max, IntKind.signed, IntKind.bits] <;> omega) (by simp [IntKind.min, IntKind.max, IntKind.signed, IntKind.bits] <;> omega)) ?_
      refine wl_val rfl (ex_assign rfl) ?_
      refine wl_nil (nrm_then ?_)
      refine cw_seq ?_
      refine cw_any (fun w0 w' => Evo [] w0 w') (by kernel_rfl) (fun w45 hw46 => ?_)
      have hE47 := hE43.then hw46
      have hE48 := hE44.then hw46
      have hB49 := hw46.blk0 hB2
      have hO50 := hO2.evo0 hw46
      refine ae_take 0 rfl (by kernel_rfl) (by kernel_rfl) (by kernel_rfl) rfl (fun _ hS => ex_move rfl) (Evo.refl [] w45) ?_
      refine ae_take 1 rfl (by kernel_rfl) (by kernel_rfl) (by kernel_rfl) rfl (fun _ hS => ex_nilCheck rfl) (Evo.refl [] w45) ?_
      refine ae_take 2 rfl (by kernel_rfl) (by kernel_rfl) (by kernel_rfl) rfl (fun _ hS => ex_fieldAddr rfl Tryd.fld70_0) (Evo.refl [] w45) ?_
      refine ae_take 3 rfl (by kernel_rfl) (by kernel_rfl) (by kernel_rfl) rfl (fun _ hS => ex_load1 rfl Tryd.agg24 (cell_nth (hS.blk0 hB49) rfl)) (Evo.refl [] w45) ?_
      refine ae_take 4 rfl (by kernel_rfl) (by kernel_rfl) (by kernel_rfl) rfl (fun _ hS => ex_move rfl) (Evo.refl [] w45) ?_
      refine ae_take 5 rfl (by kernel_rfl) (by kernel_rfl) (by kernel_rfl) rfl (fun _ hS => ex_nilCheck rfl) (Evo.refl [] w45) ?_
      refine ae_take 6 rfl (by kernel_rfl) (by kernel_rfl) (by kernel_rfl) rfl (fun _ hS => ex_fieldAddr rfl Tryd.fld70_0) (Evo.refl [] w45) ?_
      refine ae_take 7 rfl (by kernel_rfl) (by kernel_rfl) (by kernel_rfl) rfl (fun _ hS => ex_load1 rfl Tryd.agg24 (cell_nth (hS.blk0 hB49) rfl)) (Evo.refl [] w45) ?_
      refine ae_take 8 rfl (by kernel_rfl) (by kernel_rfl) (by kernel_rfl) rfl (fun _ hS => ex_len_slice rfl Tryd.underlying24 rfl) (Evo.refl [] w45) ?_
      refine ae_take 9 rfl (by kernel_rfl) (by kernel_rfl) (by kernel_rfl) rfl (fun _ hS => ex_sub_i64 rfl rfl (by omega) (by omega)) (Evo.refl [] w45) ?_
      refine ae_take 10 rfl (by kernel_rfl) (by kernel_rfl) (by kernel_rfl) rfl (fun _ hS => ex_indexAddrZ (n := (l.length + k) / 8) (by first | (rw [ha2]; done) | (rw [ha2]; rfl)) rfl (by omega) Tryd.elem24 (by omega)) (Evo.refl [] w45) ?_
      refine ae_take 11 rfl (by kernel_rfl) (by kernel_rfl) (by kernel_rfl) rfl (fun _ hS => ex_load1 rfl Tryd.agg5 (own_byte (hO50.evo0 hS) ha2 (by omega))) (Evo.refl [] w45) ?_
      refine ae_take 12 rfl (by kernel_rfl) (by kernel_rfl) (by kernel_rfl) rfl (fun _ hS => ex_move rfl) (Evo.refl [] w45) ?_
      refine ae_take 13 rfl (by kernel_rfl) (by kernel_rfl) (by kernel_rfl) rfl (fun _ hS => ex_move rfl) (Evo.refl [] w45) ?_
      refine ae_take 14 rfl (by kernel_rfl) (by kernel_rfl) (by kernel_rfl) rfl (fun _ hS => ex_nilCheck rfl) (Evo.refl [] w45) ?_
      refine ae_take 15 rfl (by kernel_rfl) (by kernel_rfl) (by kernel_rfl) rfl (fun _ hS => ex_fieldAddr rfl Tryd.fld70_1) (Evo.refl [] w45) ?_
      refine ae_take 16 rfl (by kernel_rfl) (by kernel_rfl) (by kernel_rfl) rfl (fun _ hS => ex_load1 rfl Tryd.agg3 (cell_nth (hS.blk0 hB49) rfl)) (Evo.refl [] w45) ?_
      refine ae_take 17 rfl (by kernel_rfl) (by kernel_rfl) (by kernel_rfl) rfl (fun _ hS => ex_sub_i64 rfl rfl (by omega) (by omega)) (Evo.refl [] w45) ?_
      refine ae_take 18 rfl (by kernel_rfl) (by kernel_rfl) (by kernel_rfl) rfl (fun _ hS => ex_shlN (m := (v.testBit (n - 1 - k)).toNat) (n := 7 - (l.length + k) % 8) rfl rfl (by omega) (by omega) (by first | exact Nat.le_of_ble_eq_true rfl | (simp only [IntKind.bits]; omega)) rfl) (Evo.refl [] w45) ?_
      refine ae_take 19 rfl (by kernel_rfl) (by kernel_rfl) (by kernel_rfl) rfl (fun _ hS => ex_orN (m := bs2.getD ((l.length + k) / 8) 0) (n := (v.testBit (n - 1 - k)).toNat * 2 ^ (7 - (l.length + k) % 8) % 2 ^ IntKind.u8.bits) rfl rfl (by rfl) (by rfl) rfl (getD_lt hP2.lt) (Nat.mod_lt _ (by decide))) (Evo.refl [] w45) ?_
      refine ae_take 20 rfl (by kernel_rfl) (by kernel_rfl) (by kernel_rfl) rfl (fun _ hS => ex_indexAddrZ (n := (l.length + k) / 8) (by first | (rw [ha2]; done) | (rw [ha2]; rfl)) rfl (by omega) Tryd.elem24 (by omega)) (Evo.refl [] w45) ?_
      refine ae_loud [21] (by kernel_rfl) rfl ⟨?_, trivial⟩
      refine a_step rfl ?_
      obtain ⟨g60, cur51, hg52, hx53, hcu54, hcs55, -⟩ := hO50.at (by omega)
      rw [ha2] at hx53; cases hx53
      refine wl_store1L rfl rfl (rfl) Tryd.size5 hcu54 (hO50.inb hcs55 (k := (l.length + k) / 8) (j := 0) (by omega) (by omega) (by omega)) fun w56 hB57 hw58 => ?_
      replace hw58 := evo_ob hg52 hw58
      have hO59 := hO50.set' hg52 hcu54 hB57
      have hE61 := hE47.step hw58 (hmem3)
      have hE62 := hE48.step hw58 (hmem3)
      have hB64 := hw58.blk hB49 hA2.nmem
      refine wl_nil (ae_next (.inr (by kernel_rfl)) ?_)
      refine ae_done (by kernel_rfl) (nrm_then ?_)
      refine cw_region ?_
      refine wl_val rfl (ex_move rfl) ?_
      refine wl_val rfl (ex_move rfl) ?_
      refine wl_val rfl (ex_nilCheck rfl) ?_
      refine wl_val rfl (ex_fieldAddr rfl Tryd.fld70_1) ?_
      refine wl_val rfl (ex_load1 rfl Tryd.agg3 (cell_nth hB64 rfl)) ?_
      refine wl_val rfl (ex_add_i64 rfl rfl (by omega) (by omega)) ?_
      refine wl_val rfl (ex_remN (m := (l.length + k) % 8 + 1) (n := 8) rfl rfl (by omega) (by omega) (by omega)) ?_
      refine wl_val rfl (ex_nilCheck rfl) ?_
      refine wl_val rfl (ex_fieldAddr rfl Tryd.fld70_1) ?_
      refine wl_store1 rfl rfl (by first | rfl | assumption) Tryd.size3 hB64 rfl fun w65 hB66 hw67 => ?_
      have hE68 := hE61.step hw67 (by intro y hy; left; simp at hy; simp [hy])
      have hE69 := hE62.step hw67 (by intro y hy; left; simp at hy; simp [hy])
      have hO70 := hO59.evo hw67 hA2.symm.own1
      refine wl_nil (nrm_block (nrm_then ?_))
      refine cw_region ?_
      refine wl_val rfl (ex_add_i64 rfl rfl (by omega) (by omega)) ?_
      refine wl_val rfl (ex_move rfl) ?_
      refine wl_nil (nrm_same ?_)
      refine ⟨(k + 1, a2, m2, c2, bs2.set ((l.length + k) / 8) (bs2.getD ((l.length + k) / 8) 0 ||| (v.testBit (n - 1 - k)).toNat * 2 ^ (7 - (l.length + k) % 8) % 2 ^ IntKind.u8.bits), ob2), ?_, ⟨rfl, trivial⟩, ⟨rfl, rfl, rfl, rfl, trivial⟩, hE69, ?_⟩
      · (try dsimp only); omega
      · skip
        try dsimp only
        have hW := hB66
        have hO := hO70
        refine ⟨by omega, ⟨?_, ?_, ?_, hA2⟩, hob2⟩
        · simp only [List.length_append, List.length_take, num_length]; rw [show (l.length + min (k + 1) n) % 8 = ((l.length + k) % 8 + 1) % 8 by omega]; exact hW
        · rw [← set_byte]; simpa using hO
        · rw [num_take_succ _ _ _ (by omega), ← List.append_assoc, Packs, List.length_append, List.length_singleton, hlk, show (l.length + k + 1 + 7) / 8 = (l.length + k) / 8 + 1 by omega]
          have hx := bs2_get (bs := bs2) (k := (l.length + k) / 8) (by omega)
          have := hP2.snoc (by rw [hlk]; omega) (v.testBit (n - 1 - k)) (x := bs2.getD ((l.length + k) / 8) 0) (by rw [hlk]; exact hx) rfl
          rw [hlk] at this
          rw [show IntKind.u8.bits = 8 from rfl, show (2 : Nat) ^ 8 = 256 from rfl, shl_byte _ _ (by omega)]
          exact this
  · skip
    refine cw_exit (ex_then (ex_then (ex_here (body_end0 rfl ?_))))
    refine ⟨rfl, a1, m1, c1, bs1, ob1, ?_, hE3, hob⟩
    have hkn : k = n := by omega
    subst hkn
    refine ⟨?_, hR2, ?_, hR.ap⟩
    · have := hR1; rw [List.length_append, num_length]; exact this
    · have := hR.pk; rwa [List.take_of_length_le (by simp)] at this


theorem ob_trans {w w1 : World} {X : List Nat} {ob ob1 ob2 : Option Nat} (h1 : ob1 = ob ∨ Ge w ob1) (he : Evo X w w1) (h2 : ob2 = ob1 ∨ Ge w1 ob2) : ob2 = ob ∨ Ge w ob2 := by
  rcases h2 with h | h
  · subst h; exact h1
  · exact .inr (Ge.fresh he h)
theorem wr_mem {w : World} {bw : Nat} {ob ob1 : Option Nat} (h : ob1 = ob ∨ Ge w ob1) : ∀ y, y ∈ bw :: ob1.toList → y ∈ bw :: ob.toList ∨ w.heap.size ≤ y := fun y hy => by
  rcases List.mem_cons.1 hy with h1 | h1
  · left; simp [h1]
  · rcases h with h | h
    · subst h; left; simp [h1]
    · exact h.mem y h1
theorem num_lt {e : Int} {k n : Nat} (h : (e + k) < 2 ^ n) (h0 : 0 ≤ e + k) : u64 (e + k) = (e + k).toNat ∨ True := .inr trivial

theorem putTime_ok {w : World} {bw : Nat} {U : TypeId} {rest : List Value} {l : List Bool} {a : Option Addr} {m c : Nat} {bs : List Nat} {ob : Option Nat} (hW : Wr w bw U rest l a m c bs ob) (e : Int) (_he : -9223372036854775808 ≤ e ∧ e ≤ 9223372036854775807) (hl : l.length ≤ 1000000000000) :
    Calls Tryd.prog 46 #[.pointer (some ⟨bw, 0, none⟩), .int .i64 e] w (Ret fun r w' => r = .tuple #[] ∧ ∃ a' m' c' bs' ob', Wr w' bw U rest (l ++ tbits e) a' m' c' bs' ob' ∧ Evo (bw :: ob.toList) w w' ∧ (ob' = ob ∨ Ge w ob')) := by
  refine calls_of_cw (N := 57) Tryd.func46 rfl rfl rfl ?_
  refine cw_block ?_
  refine cw_seq ?_
  refine cw_region ?_
  refine wl_val rfl (ex_move rfl) ?_
  refine wl_val rfl (ex_eql rfl rfl) ?_
  refine wl_val rfl (ex_assign rfl) ?_
  refine wl_nil (nrm_then ?_)
  refine cw_if rfl (fun hc10 => ?_) (fun hc10 => ?_)
  · skip
    refine cw_region ?_
    refine wl_val rfl (ex_move rfl) ?_
    refine wl_call1 (vs := [_, _, _]) Tryd.goes32 rfl (put_ok hW 0 1 (by omega) (by omega) (by omega)) rfl ?_
    rintro _ w1 ⟨rfl, a1, m1, c1, bs1, ob1, hW1, hw2, hob1⟩
    have hE3 := (Evo.refl (bw :: ob.toList) w).step hw2 (wr_mem (.inl rfl))
    have hl1 : (l ++ num 0 1).length = l.length + 1 := by simp
    refine wl_nil (nrm_block (body_end0 rfl ?_))
    refine ⟨rfl, a1, m1, c1, bs1, ob1, ?_, hE3, hob1⟩
    rw [tbits, if_pos hc10]
    exact hW1
  · skip
    refine cw_seq ?_
    refine cw_region ?_
    refine wl_val rfl (ex_move rfl) ?_
    refine wl_val rfl (ex_geq rfl rfl) ?_
    refine wl_val rfl (ex_move rfl) ?_
    refine wl_split (t := 18) rfl (fun hs18 => ?_) (fun hs18 => ?_)
    · skip
      refine wl_go rfl rfl rfl rfl ?_
      refine wl_val rfl (ex_move rfl) ?_
      refine wl_go rfl rfl rfl rfl ?_
      refine wl_val rfl (ex_leq rfl rfl) ?_
      refine wl_val rfl (ex_pick_t rfl rfl) ?_
      refine wl_val rfl (ex_assign rfl) ?_
      refine wl_nil (nrm_then ?_)
      refine cw_if rfl (fun hc15 => ?_) (fun hc15 => ?_)
      · skip
        refine cw_seq ?_
        refine cw_region ?_
        refine wl_val rfl (ex_move rfl) ?_
        refine wl_call1 (vs := [_, _, _]) Tryd.goes32 rfl (put_ok hW 2 2 (by omega) (by omega) (by omega)) rfl ?_
        rintro _ w4 ⟨rfl, a1, m1, c1, bs1, ob1, hW1, hw5, hob1⟩
        have hE6 := (Evo.refl (bw :: ob.toList) w).step hw5 (wr_mem (.inl rfl))
        have hl1 : (l ++ num 2 2).length = l.length + 2 := by simp
        refine wl_nil (nrm_then ?_)
        refine cw_region ?_
        refine wl_val rfl (ex_move rfl) ?_
        refine wl_val rfl (ex_move rfl) ?_
        refine wl_val rfl (ex_add_i64 rfl rfl (by omega) (by omega)) ?_
        refine wl_val rfl (ex_convU rfl Tryd.underlying2 Tryd.underlying72) ?_
        refine wl_call1 (vs := [_, _, _]) Tryd.goes32 rfl (put_ok hW1 (u64 (e + 63)) 7 (by omega) (u64_lt _) (by omega)) rfl ?_
        rintro _ w7 ⟨rfl, a2, m2, c2, bs2, ob2, hW2, hw8, hob2⟩
        have hob3 := ob_trans hob1 hE6 hob2
        have hE9 := hE6.step hw8 (wr_mem hob1)
        refine wl_nil (nrm_block (body_end0 rfl ?_))
        refine ⟨rfl, a2, m2, c2, bs2, ob2, ?_, hE9, hob3⟩
        rw [List.append_assoc] at hW2
        have hh : tbits e = num 2 2 ++ num (u64 (e + 63)) 7 := by
          have h2 : u64 (e + 63) = (e + 63).toNat := by unfold u64; omega
          rw [h2]
          unfold tbits
          repeat' split
          all_goals first | rfl | omega
        rw [hh]
        exact hW2
      · skip
        refine cw_seq ?_
        refine cw_region ?_
        refine wl_val rfl (ex_move rfl) ?_
        refine wl_val rfl (ex_geq rfl rfl) ?_
        refine wl_val rfl (ex_move rfl) ?_
        refine wl_split (t := 32) rfl (fun hs32 => ?_) (fun hs32 => ?_)
        · skip
          refine wl_go rfl rfl rfl rfl ?_
          refine wl_val rfl (ex_move rfl) ?_
          refine wl_go rfl rfl rfl rfl ?_
          refine wl_val rfl (ex_leq rfl rfl) ?_
          refine wl_val rfl (ex_pick_t rfl rfl) ?_
          refine wl_val rfl (ex_assign rfl) ?_
          refine wl_nil (nrm_then ?_)
          refine cw_if rfl (fun hc29 => ?_) (fun hc29 => ?_)
          · skip
            refine cw_seq ?_
            refine cw_region ?_
            refine wl_val rfl (ex_move rfl) ?_
            refine wl_call1 (vs := [_, _, _]) Tryd.goes32 rfl (put_ok hW 6 3 (by omega) (by omega) (by omega)) rfl ?_
            rintro _ w10 ⟨rfl, a1, m1, c1, bs1, ob1, hW1, hw11, hob1⟩
            have hE12 := (Evo.refl (bw :: ob.toList) w).step hw11 (wr_mem (.inl rfl))
            have hl1 : (l ++ num 6 3).length = l.length + 3 := by simp
            refine wl_nil (nrm_then ?_)
            refine cw_region ?_
            refine wl_val rfl (ex_move rfl) ?_
            refine wl_val rfl (ex_move rfl) ?_
            refine wl_val rfl (ex_add_i64 rfl rfl (by omega) (by omega)) ?_
            refine wl_val rfl (ex_convU rfl Tryd.underlying2 Tryd.underlying72) ?_
            refine wl_call1 (vs := [_, _, _]) Tryd.goes32 rfl (put_ok hW1 (u64 (e + 255)) 9 (by omega) (u64_lt _) (by omega)) rfl ?_
            rintro _ w13 ⟨rfl, a2, m2, c2, bs2, ob2, hW2, hw14, hob2⟩
            have hob3 := ob_trans hob1 hE12 hob2
            have hE15 := hE12.step hw14 (wr_mem hob1)
            refine wl_nil (nrm_block (body_end0 rfl ?_))
            refine ⟨rfl, a2, m2, c2, bs2, ob2, ?_, hE15, hob3⟩
            rw [List.append_assoc] at hW2
            have hh : tbits e = num 6 3 ++ num (u64 (e + 255)) 9 := by
              have h2 : u64 (e + 255) = (e + 255).toNat := by unfold u64; omega
              rw [h2]
              unfold tbits
              repeat' split
              all_goals first | rfl | omega
            rw [hh]
            exact hW2
          · skip
            refine cw_seq ?_
            refine cw_region ?_
            refine wl_val rfl (ex_move rfl) ?_
            refine wl_val rfl (ex_geq rfl rfl) ?_
            refine wl_val rfl (ex_move rfl) ?_
            refine wl_split (t := 46) rfl (fun hs46 => ?_) (fun hs46 => ?_)
            · skip
              refine wl_go rfl rfl rfl rfl ?_
              refine wl_val rfl (ex_move rfl) ?_
              refine wl_go rfl rfl rfl rfl ?_
              refine wl_val rfl (ex_leq rfl rfl) ?_
              refine wl_val rfl (ex_pick_t rfl rfl) ?_
              refine wl_val rfl (ex_assign rfl) ?_
              refine wl_nil (nrm_then ?_)
              refine cw_if rfl (fun hc43 => ?_) (fun hc43 => ?_)
              · skip
                refine cw_seq ?_
                refine cw_region ?_
                refine wl_val rfl (ex_move rfl) ?_
                refine wl_call1 (vs := [_, _, _]) Tryd.goes32 rfl (put_ok hW 14 4 (by omega) (by omega) (by omega)) rfl ?_
                rintro _ w16 ⟨rfl, a1, m1, c1, bs1, ob1, hW1, hw17, hob1⟩
                have hE18 := (Evo.refl (bw :: ob.toList) w).step hw17 (wr_mem (.inl rfl))
                have hl1 : (l ++ num 14 4).length = l.length + 4 := by simp
                refine wl_nil (nrm_then ?_)
                refine cw_region ?_
                refine wl_val rfl (ex_move rfl) ?_
                refine wl_val rfl (ex_move rfl) ?_
                refine wl_val rfl (ex_add_i64 rfl rfl (by omega) (by omega)) ?_
                refine wl_val rfl (ex_convU rfl Tryd.underlying2 Tryd.underlying72) ?_
                refine wl_call1 (vs := [_, _, _]) Tryd.goes32 rfl (put_ok hW1 (u64 (e + 2047)) 12 (by omega) (u64_lt _) (by omega)) rfl ?_
                rintro _ w19 ⟨rfl, a2, m2, c2, bs2, ob2, hW2, hw20, hob2⟩
                have hob3 := ob_trans hob1 hE18 hob2
                have hE21 := hE18.step hw20 (wr_mem hob1)
                refine wl_nil (nrm_block (body_end0 rfl ?_))
                refine ⟨rfl, a2, m2, c2, bs2, ob2, ?_, hE21, hob3⟩
                rw [List.append_assoc] at hW2
                have hh : tbits e = num 14 4 ++ num (u64 (e + 2047)) 12 := by
                  have h2 : u64 (e + 2047) = (e + 2047).toNat := by unfold u64; omega
                  rw [h2]
                  unfold tbits
                  repeat' split
                  all_goals first | rfl | omega
                rw [hh]
                exact hW2
              · skip
                refine cw_seq ?_
                refine cw_region ?_
                refine wl_val rfl (ex_move rfl) ?_
                refine wl_call1 (vs := [_, _, _]) Tryd.goes32 rfl (put_ok hW 15 4 (by omega) (by omega) (by omega)) rfl ?_
                rintro _ w22 ⟨rfl, a1, m1, c1, bs1, ob1, hW1, hw23, hob1⟩
                have hE24 := (Evo.refl (bw :: ob.toList) w).step hw23 (wr_mem (.inl rfl))
                have hl1 : (l ++ num 15 4).length = l.length + 4 := by simp
                refine wl_nil (nrm_then ?_)
                refine cw_region ?_
                refine wl_val rfl (ex_move rfl) ?_
                refine wl_val rfl (ex_move rfl) ?_
                refine wl_val rfl (ex_convU rfl Tryd.underlying2 Tryd.underlying72) ?_
                refine wl_call1 (vs := [_, _, _]) Tryd.goes32 rfl (put_ok hW1 (u64 e) 64 (by omega) (u64_lt _) (by omega)) rfl ?_
                rintro _ w25 ⟨rfl, a2, m2, c2, bs2, ob2, hW2, hw26, hob2⟩
                have hob3 := ob_trans hob1 hE24 hob2
                have hE27 := hE24.step hw26 (wr_mem hob1)
                refine wl_nil (nrm_block (body_end0 rfl ?_))
                refine ⟨rfl, a2, m2, c2, bs2, ob2, ?_, hE27, hob3⟩
                rw [List.append_assoc] at hW2
                have hh : tbits e = num 15 4 ++ num (u64 e) 64 := by
                  unfold tbits
                  repeat' split
                  all_goals first | rfl | omega
                rw [hh]
                exact hW2
            · skip
              refine wl_no rfl rfl rfl rfl rfl rfl ?_
              refine wl_no rfl rfl rfl rfl rfl rfl ?_
              refine wl_val rfl (ex_pick_f rfl rfl) ?_
              refine wl_val rfl (ex_assign rfl) ?_
              refine wl_nil (nrm_then ?_)
              refine cw_false rfl ?_
              refine cw_seq ?_
              refine cw_region ?_
              refine wl_val rfl (ex_move rfl) ?_
              refine wl_call1 (vs := [_, _, _]) Tryd.goes32 rfl (put_ok hW 15 4 (by omega) (by omega) (by omega)) rfl ?_
              rintro _ w28 ⟨rfl, a1, m1, c1, bs1, ob1, hW1, hw29, hob1⟩
              have hE30 := (Evo.refl (bw :: ob.toList) w).step hw29 (wr_mem (.inl rfl))
              have hl1 : (l ++ num 15 4).length = l.length + 4 := by simp
              refine wl_nil (nrm_then ?_)
              refine cw_region ?_
              refine wl_val rfl (ex_move rfl) ?_
              refine wl_val rfl (ex_move rfl) ?_
              refine wl_val rfl (ex_convU rfl Tryd.underlying2 Tryd.underlying72) ?_
              refine wl_call1 (vs := [_, _, _]) Tryd.goes32 rfl (put_ok hW1 (u64 e) 64 (by omega) (u64_lt _) (by omega)) rfl ?_
              rintro _ w31 ⟨rfl, a2, m2, c2, bs2, ob2, hW2, hw32, hob2⟩
              have hob3 := ob_trans hob1 hE30 hob2
              have hE33 := hE30.step hw32 (wr_mem hob1)
              refine wl_nil (nrm_block (body_end0 rfl ?_))
              refine ⟨rfl, a2, m2, c2, bs2, ob2, ?_, hE33, hob3⟩
              rw [List.append_assoc] at hW2
              have hh : tbits e = num 15 4 ++ num (u64 e) 64 := by
                unfold tbits
                repeat' split
                all_goals first | rfl | omega
              rw [hh]
              exact hW2
        · skip
          refine wl_no rfl rfl rfl rfl rfl rfl ?_
          refine wl_no rfl rfl rfl rfl rfl rfl ?_
          refine wl_val rfl (ex_pick_f rfl rfl) ?_
          refine wl_val rfl (ex_assign rfl) ?_
          refine wl_nil (nrm_then ?_)
          refine cw_false rfl ?_
          refine cw_seq ?_
          refine cw_region ?_
          refine wl_val rfl (ex_move rfl) ?_
          refine wl_val rfl (ex_geq rfl rfl) ?_
          refine wl_val rfl (ex_move rfl) ?_
          refine wl_split (t := 46) rfl (fun hs46 => ?_) (fun hs46 => ?_)
          · skip
            refine wl_go rfl rfl rfl rfl ?_
            refine wl_val rfl (ex_move rfl) ?_
            refine wl_go rfl rfl rfl rfl ?_
            refine wl_val rfl (ex_leq rfl rfl) ?_
            refine wl_val rfl (ex_pick_t rfl rfl) ?_
            refine wl_val rfl (ex_assign rfl) ?_
            refine wl_nil (nrm_then ?_)
            refine cw_if rfl (fun hc43 => ?_) (fun hc43 => ?_)
            · skip
              refine cw_seq ?_
              refine cw_region ?_
              refine wl_val rfl (ex_move rfl) ?_
              refine wl_call1 (vs := [_, _, _]) Tryd.goes32 rfl (put_ok hW 14 4 (by omega) (by omega) (by omega)) rfl ?_
              rintro _ w34 ⟨rfl, a1, m1, c1, bs1, ob1, hW1, hw35, hob1⟩
              have hE36 := (Evo.refl (bw :: ob.toList) w).step hw35 (wr_mem (.inl rfl))
              have hl1 : (l ++ num 14 4).length = l.length + 4 := by simp
              refine wl_nil (nrm_then ?_)
              refine cw_region ?_
              refine wl_val rfl (ex_move rfl) ?_
              refine wl_val rfl (ex_move rfl) ?_
              refine wl_val rfl (ex_add_i64 rfl rfl (by omega) (by omega)) ?_
              refine wl_val rfl (ex_convU rfl Tryd.underlying2 Tryd.underlying72) ?_
              refine wl_call1 (vs := [_, _, _]) Tryd.goes32 rfl (put_ok hW1 (u64 (e + 2047)) 12 (by omega) (u64_lt _) (by omega)) rfl ?_
              rintro _ w37 ⟨rfl, a2, m2, c2, bs2, ob2, hW2, hw38, hob2⟩
              have hob3 := ob_trans hob1 hE36 hob2
              have hE39 := hE36.step hw38 (wr_mem hob1)
              refine wl_nil (nrm_block (body_end0 rfl ?_))
              refine ⟨rfl, a2, m2, c2, bs2, ob2, ?_, hE39, hob3⟩
              rw [List.append_assoc] at hW2
              have hh : tbits e = num 14 4 ++ num (u64 (e + 2047)) 12 := by
                have h2 : u64 (e + 2047) = (e + 2047).toNat := by unfold u64; omega
                rw [h2]
                unfold tbits
                repeat' split
                all_goals first | rfl | omega
              rw [hh]
              exact hW2
            · skip
              refine cw_seq ?_
              refine cw_region ?_
              refine wl_val rfl (ex_move rfl) ?_
              refine wl_call1 (vs := [_, _, _]) Tryd.goes32 rfl (put_ok hW 15 4 (by omega) (by omega) (by omega)) rfl ?_
              rintro _ w40 ⟨rfl, a1, m1, c1, bs1, ob1, hW1, hw41, hob1⟩
              have hE42 := (Evo.refl (bw :: ob.toList) w).step hw41 (wr_mem (.inl rfl))
              have hl1 : (l ++ num 15 4).length = l.length + 4 := by simp
              refine wl_nil (nrm_then ?_)
              refine cw_region ?_
              refine wl_val rfl (ex_move rfl) ?_
              refine wl_val rfl (ex_move rfl) ?_
              refine wl_val rfl (ex_convU rfl Tryd.underlying2 Tryd.underlying72) ?_
              refine wl_call1 (vs := [_, _, _]) Tryd.goes32 rfl (put_ok hW1 (u64 e) 64 (by omega) (u64_lt _) (by omega)) rfl ?_
              rintro _ w43 ⟨rfl, a2, m2, c2, bs2, ob2, hW2, hw44, hob2⟩
              have hob3 := ob_trans hob1 hE42 hob2
              have hE45 := hE42.step hw44 (wr_mem hob1)
              refine wl_nil (nrm_block (body_end0 rfl ?_))
              refine ⟨rfl, a2, m2, c2, bs2, ob2, ?_, hE45, hob3⟩
              rw [List.append_assoc] at hW2
              have hh : tbits e = num 15 4 ++ num (u64 e) 64 := by
                unfold tbits
                repeat' split
                all_goals first | rfl | omega
              rw [hh]
              exact hW2
          · skip
            refine wl_no rfl rfl rfl rfl rfl rfl ?_
            refine wl_no rfl rfl rfl rfl rfl rfl ?_
            refine wl_val rfl (ex_pick_f rfl rfl) ?_
            refine wl_val rfl (ex_assign rfl) ?_
            refine wl_nil (nrm_then ?_)
            refine cw_false rfl ?_
            refine cw_seq ?_
            refine cw_region ?_
            refine wl_val rfl (ex_move rfl) ?_
            refine wl_call1 (vs := [_, _, _]) Tryd.goes32 rfl (put_ok hW 15 4 (by omega) (by omega) (by omega)) rfl ?_
            rintro _ w46 ⟨rfl, a1, m1, c1, bs1, ob1, hW1, hw47, hob1⟩
            have hE48 := (Evo.refl (bw :: ob.toList) w).step hw47 (wr_mem (.inl rfl))
            have hl1 : (l ++ num 15 4).length = l.length + 4 := by simp
            refine wl_nil (nrm_then ?_)
            refine cw_region ?_
            refine wl_val rfl (ex_move rfl) ?_
            refine wl_val rfl (ex_move rfl) ?_
            refine wl_val rfl (ex_convU rfl Tryd.underlying2 Tryd.underlying72) ?_
            refine wl_call1 (vs := [_, _, _]) Tryd.goes32 rfl (put_ok hW1 (u64 e) 64 (by omega) (u64_lt _) (by omega)) rfl ?_
            rintro _ w49 ⟨rfl, a2, m2, c2, bs2, ob2, hW2, hw50, hob2⟩
            have hob3 := ob_trans hob1 hE48 hob2
            have hE51 := hE48.step hw50 (wr_mem hob1)
            refine wl_nil (nrm_block (body_end0 rfl ?_))
            refine ⟨rfl, a2, m2, c2, bs2, ob2, ?_, hE51, hob3⟩
            rw [List.append_assoc] at hW2
            have hh : tbits e = num 15 4 ++ num (u64 e) 64 := by
              unfold tbits
              repeat' split
              all_goals first | rfl | omega
            rw [hh]
            exact hW2
    · skip
      refine wl_no rfl rfl rfl rfl rfl rfl ?_
      refine wl_no rfl rfl rfl rfl rfl rfl ?_
      refine wl_val rfl (ex_pick_f rfl rfl) ?_
      refine wl_val rfl (ex_assign rfl) ?_
      refine wl_nil (nrm_then ?_)
      refine cw_false rfl ?_
      refine cw_seq ?_
      refine cw_region ?_
      refine wl_val rfl (ex_move rfl) ?_
      refine wl_val rfl (ex_geq rfl rfl) ?_
      refine wl_val rfl (ex_move rfl) ?_
      refine wl_split (t := 32) rfl (fun hs32 => ?_) (fun hs32 => ?_)
      · skip
        refine wl_go rfl rfl rfl rfl ?_
        refine wl_val rfl (ex_move rfl) ?_
        refine wl_go rfl rfl rfl rfl ?_
        refine wl_val rfl (ex_leq rfl rfl) ?_
        refine wl_val rfl (ex_pick_t rfl rfl) ?_
        refine wl_val rfl (ex_assign rfl) ?_
        refine wl_nil (nrm_then ?_)
        refine cw_if rfl (fun hc29 => ?_) (fun hc29 => ?_)
        · skip
          refine cw_seq ?_
          refine cw_region ?_
          refine wl_val rfl (ex_move rfl) ?_
          refine wl_call1 (vs := [_, _, _]) Tryd.goes32 rfl (put_ok hW 6 3 (by omega) (by omega) (by omega)) rfl ?_
          rintro _ w52 ⟨rfl, a1, m1, c1, bs1, ob1, hW1, hw53, hob1⟩
          have hE54 := (Evo.refl (bw :: ob.toList) w).step hw53 (wr_mem (.inl rfl))
          have hl1 : (l ++ num 6 3).length = l.length + 3 := by simp
          refine wl_nil (nrm_then ?_)
          refine cw_region ?_
          refine wl_val rfl (ex_move rfl) ?_
          refine wl_val rfl (ex_move rfl) ?_
          refine wl_val rfl (ex_add_i64 rfl rfl (by omega) (by omega)) ?_
          refine wl_val rfl (ex_convU rfl Tryd.underlying2 Tryd.underlying72) ?_
          refine wl_call1 (vs := [_, _, _]) Tryd.goes32 rfl (put_ok hW1 (u64 (e + 255)) 9 (by omega) (u64_lt _) (by omega)) rfl ?_
          rintro _ w55 ⟨rfl, a2, m2, c2, bs2, ob2, hW2, hw56, hob2⟩
          have hob3 := ob_trans hob1 hE54 hob2
          have hE57 := hE54.step hw56 (wr_mem hob1)
          refine wl_nil (nrm_block (body_end0 rfl ?_))
          refine ⟨rfl, a2, m2, c2, bs2, ob2, ?_, hE57, hob3⟩
          rw [List.append_assoc] at hW2
          have hh : tbits e = num 6 3 ++ num (u64 (e + 255)) 9 := by
            have h2 : u64 (e + 255) = (e + 255).toNat := by unfold u64; omega
            rw [h2]
            unfold tbits
            repeat' split
            all_goals first | rfl | omega
          rw [hh]
          exact hW2
        · skip
          refine cw_seq ?_
          refine cw_region ?_
          refine wl_val rfl (ex_move rfl) ?_
          refine wl_val rfl (ex_geq rfl rfl) ?_
          refine wl_val rfl (ex_move rfl) ?_
          refine wl_split (t := 46) rfl (fun hs46 => ?_) (fun hs46 => ?_)
          · skip
            refine wl_go rfl rfl rfl rfl ?_
            refine wl_val rfl (ex_move rfl) ?_
            refine wl_go rfl rfl rfl rfl ?_
            refine wl_val rfl (ex_leq rfl rfl) ?_
            refine wl_val rfl (ex_pick_t rfl rfl) ?_
            refine wl_val rfl (ex_assign rfl) ?_
            refine wl_nil (nrm_then ?_)
            refine cw_if rfl (fun hc43 => ?_) (fun hc43 => ?_)
            · skip
              refine cw_seq ?_
              refine cw_region ?_
              refine wl_val rfl (ex_move rfl) ?_
              refine wl_call1 (vs := [_, _, _]) Tryd.goes32 rfl (put_ok hW 14 4 (by omega) (by omega) (by omega)) rfl ?_
              rintro _ w58 ⟨rfl, a1, m1, c1, bs1, ob1, hW1, hw59, hob1⟩
              have hE60 := (Evo.refl (bw :: ob.toList) w).step hw59 (wr_mem (.inl rfl))
              have hl1 : (l ++ num 14 4).length = l.length + 4 := by simp
              refine wl_nil (nrm_then ?_)
              refine cw_region ?_
              refine wl_val rfl (ex_move rfl) ?_
              refine wl_val rfl (ex_move rfl) ?_
              refine wl_val rfl (ex_add_i64 rfl rfl (by omega) (by omega)) ?_
              refine wl_val rfl (ex_convU rfl Tryd.underlying2 Tryd.underlying72) ?_
              refine wl_call1 (vs := [_, _, _]) Tryd.goes32 rfl (put_ok hW1 (u64 (e + 2047)) 12 (by omega) (u64_lt _) (by omega)) rfl ?_
              rintro _ w61 ⟨rfl, a2, m2, c2, bs2, ob2, hW2, hw62, hob2⟩
              have hob3 := ob_trans hob1 hE60 hob2
              have hE63 := hE60.step hw62 (wr_mem hob1)
              refine wl_nil (nrm_block (body_end0 rfl ?_))
              refine ⟨rfl, a2, m2, c2, bs2, ob2, ?_, hE63, hob3⟩
              rw [List.append_assoc] at hW2
              have hh : tbits e = num 14 4 ++ num (u64 (e + 2047)) 12 := by
                have h2 : u64 (e + 2047) = (e + 2047).toNat := by unfold u64; omega
                rw [h2]
                unfold tbits
                repeat' split
                all_goals first | rfl | omega
              rw [hh]
              exact hW2
            · skip
              refine cw_seq ?_
              refine cw_region ?_
              refine wl_val rfl (ex_move rfl) ?_
              refine wl_call1 (vs := [_, _, _]) Tryd.goes32 rfl (put_ok hW 15 4 (by omega) (by omega) (by omega)) rfl ?_
              rintro _ w64 ⟨rfl, a1, m1, c1, bs1, ob1, hW1, hw65, hob1⟩
              have hE66 := (Evo.refl (bw :: ob.toList) w).step hw65 (wr_mem (.inl rfl))
              have hl1 : (l ++ num 15 4).length = l.length + 4 := by simp
              refine wl_nil (nrm_then ?_)
              refine cw_region ?_
              refine wl_val rfl (ex_move rfl) ?_
              refine wl_val rfl (ex_move rfl) ?_
              refine wl_val rfl (ex_convU rfl Tryd.underlying2 Tryd.underlying72) ?_
              refine wl_call1 (vs := [_, _, _]) Tryd.goes32 rfl (put_ok hW1 (u64 e) 64 (by omega) (u64_lt _) (by omega)) rfl ?_
              rintro _ w67 ⟨rfl, a2, m2, c2, bs2, ob2, hW2, hw68, hob2⟩
              have hob3 := ob_trans hob1 hE66 hob2
              have hE69 := hE66.step hw68 (wr_mem hob1)
              refine wl_nil (nrm_block (body_end0 rfl ?_))
              refine ⟨rfl, a2, m2, c2, bs2, ob2, ?_, hE69, hob3⟩
              rw [List.append_assoc] at hW2
              have hh : tbits e = num 15 4 ++ num (u64 e) 64 := by
                unfold tbits
                repeat' split
                all_goals first | rfl | omega
              rw [hh]
              exact hW2
          · skip
            refine wl_no rfl rfl rfl rfl rfl rfl ?_
            refine wl_no rfl rfl rfl rfl rfl rfl ?_
            refine wl_val rfl (ex_pick_f rfl rfl) ?_
            refine wl_val rfl (ex_assign rfl) ?_
            refine wl_nil (nrm_then ?_)
            refine cw_false rfl ?_
            refine cw_seq ?_
            refine cw_region ?_
            refine wl_val rfl (ex_move rfl) ?_
            refine wl_call1 (vs := [_, _, _]) Tryd.goes32 rfl (put_ok hW 15 4 (by omega) (by omega) (by omega)) rfl ?_
            rintro _ w70 ⟨rfl, a1, m1, c1, bs1, ob1, hW1, hw71, hob1⟩
            have hE72 := (Evo.refl (bw :: ob.toList) w).step hw71 (wr_mem (.inl rfl))
            have hl1 : (l ++ num 15 4).length = l.length + 4 := by simp
            refine wl_nil (nrm_then ?_)
            refine cw_region ?_
            refine wl_val rfl (ex_move rfl) ?_
            refine wl_val rfl (ex_move rfl) ?_
            refine wl_val rfl (ex_convU rfl Tryd.underlying2 Tryd.underlying72) ?_
            refine wl_call1 (vs := [_, _, _]) Tryd.goes32 rfl (put_ok hW1 (u64 e) 64 (by omega) (u64_lt _) (by omega)) rfl ?_
            rintro _ w73 ⟨rfl, a2, m2, c2, bs2, ob2, hW2, hw74, hob2⟩
            have hob3 := ob_trans hob1 hE72 hob2
            have hE75 := hE72.step hw74 (wr_mem hob1)
            refine wl_nil (nrm_block (body_end0 rfl ?_))
            refine ⟨rfl, a2, m2, c2, bs2, ob2, ?_, hE75, hob3⟩
            rw [List.append_assoc] at hW2
            have hh : tbits e = num 15 4 ++ num (u64 e) 64 := by
              unfold tbits
              repeat' split
              all_goals first | rfl | omega
            rw [hh]
            exact hW2
      · skip
        refine wl_no rfl rfl rfl rfl rfl rfl ?_
        refine wl_no rfl rfl rfl rfl rfl rfl ?_
        refine wl_val rfl (ex_pick_f rfl rfl) ?_
        refine wl_val rfl (ex_assign rfl) ?_
        refine wl_nil (nrm_then ?_)
        refine cw_false rfl ?_
        refine cw_seq ?_
        refine cw_region ?_
        refine wl_val rfl (ex_move rfl) ?_
        refine wl_val rfl (ex_geq rfl rfl) ?_
        refine wl_val rfl (ex_move rfl) ?_
        refine wl_split (t := 46) rfl (fun hs46 => ?_) (fun hs46 => ?_)
        · skip
          refine wl_go rfl rfl rfl rfl ?_
          refine wl_val rfl (ex_move rfl) ?_
          refine wl_go rfl rfl rfl rfl ?_
          refine wl_val rfl (ex_leq rfl rfl) ?_
          refine wl_val rfl (ex_pick_t rfl rfl) ?_
          refine wl_val rfl (ex_assign rfl) ?_
          refine wl_nil (nrm_then ?_)
          refine cw_if rfl (fun hc43 => ?_) (fun hc43 => ?_)
          · skip
            refine cw_seq ?_
            refine cw_region ?_
            refine wl_val rfl (ex_move rfl) ?_
            refine wl_call1 (vs := [_, _, _]) Tryd.goes32 rfl (put_ok hW 14 4 (by omega) (by omega) (by omega)) rfl ?_
            rintro _ w76 ⟨rfl, a1, m1, c1, bs1, ob1, hW1, hw77, hob1⟩
            have hE78 := (Evo.refl (bw :: ob.toList) w).step hw77 (wr_mem (.inl rfl))
            have hl1 : (l ++ num 14 4).length = l.length + 4 := by simp
            refine wl_nil (nrm_then ?_)
            refine cw_region ?_
            refine wl_val rfl (ex_move rfl) ?_
            refine wl_val rfl (ex_move rfl) ?_
            refine wl_val rfl (ex_add_i64 rfl rfl (by omega) (by omega)) ?_
            refine wl_val rfl (ex_convU rfl Tryd.underlying2 Tryd.underlying72) ?_
            refine wl_call1 (vs := [_, _, _]) Tryd.goes32 rfl (put_ok hW1 (u64 (e + 2047)) 12 (by omega) (u64_lt _) (by omega)) rfl ?_
            rintro _ w79 ⟨rfl, a2, m2, c2, bs2, ob2, hW2, hw80, hob2⟩
            have hob3 := ob_trans hob1 hE78 hob2
            have hE81 := hE78.step hw80 (wr_mem hob1)
            refine wl_nil (nrm_block (body_end0 rfl ?_))
            refine ⟨rfl, a2, m2, c2, bs2, ob2, ?_, hE81, hob3⟩
            rw [List.append_assoc] at hW2
            have hh : tbits e = num 14 4 ++ num (u64 (e + 2047)) 12 := by
              have h2 : u64 (e + 2047) = (e + 2047).toNat := by unfold u64; omega
              rw [h2]
              unfold tbits
              repeat' split
              all_goals first | rfl | omega
            rw [hh]
            exact hW2
          · skip
            refine cw_seq ?_
            refine cw_region ?_
            refine wl_val rfl (ex_move rfl) ?_
            refine wl_call1 (vs := [_, _, _]) Tryd.goes32 rfl (put_ok hW 15 4 (by omega) (by omega) (by omega)) rfl ?_
            rintro _ w82 ⟨rfl, a1, m1, c1, bs1, ob1, hW1, hw83, hob1⟩
            have hE84 := (Evo.refl (bw :: ob.toList) w).step hw83 (wr_mem (.inl rfl))
            have hl1 : (l ++ num 15 4).length = l.length + 4 := by simp
            refine wl_nil (nrm_then ?_)
            refine cw_region ?_
            refine wl_val rfl (ex_move rfl) ?_
            refine wl_val rfl (ex_move rfl) ?_
            refine wl_val rfl (ex_convU rfl Tryd.underlying2 Tryd.underlying72) ?_
            refine wl_call1 (vs := [_, _, _]) Tryd.goes32 rfl (put_ok hW1 (u64 e) 64 (by omega) (u64_lt _) (by omega)) rfl ?_
            rintro _ w85 ⟨rfl, a2, m2, c2, bs2, ob2, hW2, hw86, hob2⟩
            have hob3 := ob_trans hob1 hE84 hob2
            have hE87 := hE84.step hw86 (wr_mem hob1)
            refine wl_nil (nrm_block (body_end0 rfl ?_))
            refine ⟨rfl, a2, m2, c2, bs2, ob2, ?_, hE87, hob3⟩
            rw [List.append_assoc] at hW2
            have hh : tbits e = num 15 4 ++ num (u64 e) 64 := by
              unfold tbits
              repeat' split
              all_goals first | rfl | omega
            rw [hh]
            exact hW2
        · skip
          refine wl_no rfl rfl rfl rfl rfl rfl ?_
          refine wl_no rfl rfl rfl rfl rfl rfl ?_
          refine wl_val rfl (ex_pick_f rfl rfl) ?_
          refine wl_val rfl (ex_assign rfl) ?_
          refine wl_nil (nrm_then ?_)
          refine cw_false rfl ?_
          refine cw_seq ?_
          refine cw_region ?_
          refine wl_val rfl (ex_move rfl) ?_
          refine wl_call1 (vs := [_, _, _]) Tryd.goes32 rfl (put_ok hW 15 4 (by omega) (by omega) (by omega)) rfl ?_
          rintro _ w88 ⟨rfl, a1, m1, c1, bs1, ob1, hW1, hw89, hob1⟩
          have hE90 := (Evo.refl (bw :: ob.toList) w).step hw89 (wr_mem (.inl rfl))
          have hl1 : (l ++ num 15 4).length = l.length + 4 := by simp
          refine wl_nil (nrm_then ?_)
          refine cw_region ?_
          refine wl_val rfl (ex_move rfl) ?_
          refine wl_val rfl (ex_move rfl) ?_
          refine wl_val rfl (ex_convU rfl Tryd.underlying2 Tryd.underlying72) ?_
          refine wl_call1 (vs := [_, _, _]) Tryd.goes32 rfl (put_ok hW1 (u64 e) 64 (by omega) (u64_lt _) (by omega)) rfl ?_
          rintro _ w91 ⟨rfl, a2, m2, c2, bs2, ob2, hW2, hw92, hob2⟩
          have hob3 := ob_trans hob1 hE90 hob2
          have hE93 := hE90.step hw92 (wr_mem hob1)
          refine wl_nil (nrm_block (body_end0 rfl ?_))
          refine ⟨rfl, a2, m2, c2, bs2, ob2, ?_, hE93, hob3⟩
          rw [List.append_assoc] at hW2
          have hh : tbits e = num 15 4 ++ num (u64 e) 64 := by
            unfold tbits
            repeat' split
            all_goals first | rfl | omega
          rw [hh]
          exact hW2

end Go.Proofs.YtclmkppiolfgbaaDoor
