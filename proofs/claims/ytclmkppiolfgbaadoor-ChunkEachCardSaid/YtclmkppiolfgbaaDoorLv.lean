import Derived.Test.YtclmkppiolfgbaaDoorLu
namespace Go.Proofs.YtclmkppiolfgbaaDoor
open Go.Proofs
open Go.W
attribute [local irreducible] Decidable.decide
set_option linter.unusedSimpArgs false
set_option linter.unusedVariables false



theorem num_getD {v n i : Nat} (h : i < n) (B : List Bool) : (num v n ++ B).getD i false = v.testBit (n - 1 - i) := by
  rw [List.getD_eq_getElem?_getD, List.getElem?_append_left (by simpa using h), num_get _ _ _ h]; rfl
theorem num_getD2 {v n i : Nat} (h : n ≤ i) (B : List Bool) : (num v n ++ B).getD i false = B.getD (i - n) false := by
  rw [List.getD_eq_getElem?_getD, List.getElem?_append_right (by simpa using h), num_length, List.getD_eq_getElem?_getD]
theorem and_bit (m j : Nat) : (m &&& 128).testBit j = (decide (j = 7) && m.testBit 7) := by
  rw [Nat.testBit_and, show (128 : Nat) = 2 ^ 7 from rfl, Nat.testBit_two_pow]
  by_cases h : j = 7
  · subst h; simp
  · rw [decide_eq_false (by omega : ¬ 7 = j), decide_eq_false h]; simp
/-- The number is written over. -/
theorem head_packs {bs : List Nat} {B : List Bool} {M n : Nat} (h : PacksN bs (num 0 17 ++ B) M) (hM : 3 ≤ M) (hn : n < 131072) :
    PacksN (((bs.set 0 (n / 512)).set 1 (n / 2 % 256)).set 2 (bs.getD 2 0 ||| (n * 128 % 256 &&& 128))) (num n 17 ++ B) M := by
  have hl := h.len
  have h2 : bs.getD 2 0 < 256 := getD_lt h.lt
  refine ⟨by simp [hl], fun b hb => ?_, fun i hi => ?_⟩
  · rcases List.mem_or_eq_of_mem_set hb with hb | rfl
    · rcases List.mem_or_eq_of_mem_set hb with hb | rfl
      · rcases List.mem_or_eq_of_mem_set hb with hb | rfl
        · exact h.lt b hb
        · omega
      · omega
    · exact Nat.or_lt_two_pow (n := 8) h2 (Nat.lt_of_le_of_lt Nat.and_le_right (by decide))
  · have h0 : (bs[i / 8]?.getD 0).testBit (7 - i % 8) = (num 0 17 ++ B).getD i false := by rw [← h.bit i hi]; simp only [bitAt, List.getD_eq_getElem?_getD]
    simp only [bitAt, List.getD_eq_getElem?_getD]
    rcases show i / 8 = 0 ∨ i / 8 = 1 ∨ i / 8 = 2 ∨ 3 ≤ i / 8 by omega with hk | hk | hk | hk
    · rw [hk, List.getElem?_set_ne (by omega), List.getElem?_set_ne (by omega), List.getElem?_set_self (by omega), ← List.getD_eq_getElem?_getD, num_getD (by omega), Option.getD_some, show n / 512 = n / 2 ^ 9 from rfl, Nat.testBit_div_two_pow]
      congr 1; omega
    · rw [hk, List.getElem?_set_ne (by omega), List.getElem?_set_self (by simp; omega), ← List.getD_eq_getElem?_getD, num_getD (by omega), Option.getD_some, show (256 : Nat) = 2 ^ 8 from rfl, Nat.testBit_mod_two_pow, show n / 2 = n / 2 ^ 1 from rfl, Nat.testBit_div_two_pow, decide_eq_true (by omega), Bool.true_and]
      congr 1; omega
    · rw [hk, List.getElem?_set_self (by simp; omega), Option.getD_some, Nat.testBit_or, and_bit]
      rw [hk] at h0
      rw [h0, ← List.getD_eq_getElem?_getD]
      by_cases hi2 : i = 16
      · subst hi2
        rw [num_getD (by omega), num_getD (by omega), show (256 : Nat) = 2 ^ 8 from rfl, Nat.testBit_mod_two_pow, show n * 128 = n * 2 ^ 7 from rfl, Nat.testBit_mul_two_pow]
        simp
      · rw [num_getD2 (by omega), num_getD2 (by omega), decide_eq_false (by omega)]; simp
    · rw [List.getElem?_set_ne (by omega), List.getElem?_set_ne (by omega), List.getElem?_set_ne (by omega), h0, ← List.getD_eq_getElem?_getD, num_getD2 (by omega), num_getD2 (by omega)]
theorem set2_getD {bs : List Nat} {x y : Nat} : ((bs.set 0 x).set 1 y).getD 2 0 = bs.getD 2 0 := by simp [List.getD_eq_getElem?_getD, List.getElem?_set]
theorem u8_wrap (m : Nat) : IntKind.u8.wrap ((m : Nat) : Int) = ((m % 256 : Nat) : Int) := wrapU rfl m
theorem shl7 {m : Nat} (h : m ≤ 1000000) : IntKind.i64.wrap (((m : Nat) : Int) * 2 ^ min 7 IntKind.i64.bits) = ((m * 128 : Nat) : Int) := by
  rw [i64_eq, show (2 : Int) ^ min 7 IntKind.i64.bits = 128 from rfl, i64_of (by omega) (by omega)]; omega

theorem bytes_ok {w : World} {bp : Nat} {ds : List Smp} {ob : Option Nat} (h : Pkr w bp ds ob) :
    Calls Tryd.prog 24 #[.pointer (some ⟨bp, 0, none⟩)] w (Ret fun r w' => ∃ a n c bs ob1, r = .slice a n c ∧ OwnS w' 5 1 a n c (bs.map bv) ob1 ∧ Packs bs (form ds) ∧ Ge w ob1 ∧ Evo [] w w') := by
  obtain ⟨hk, a, m, c, bs, hW⟩ := h
  have hkl := hk.len
  have hzn := zaf_n ds
  have hsl := strm_len ds
  have hs17 : 17 ≤ (strm ds).length := by simp [strm]
  have hB0 := hW.blk
  have hbl := own_len hW.own
  have hpl := hW.pk.len
  have hM : 3 ≤ ((strm ds).length + 7) / 8 := by omega
  have hpk := hW.pk
  obtain ⟨g1, hg1, rfl, hcs⟩ := hW.own.cells (by omega)
  refine calls_of_cw (N := 40) Tryd.func24 rfl rfl rfl ?_
  refine cw_seq ?_
  refine cw_region ?_
  refine wl_val rfl (ex_assign rfl) ?_
  refine wl_nil (nrm_then ?_)
  refine cw_seq ?_
  refine cw_seq ?_
  refine cw_region ?_
  refine wl_val rfl (ex_move rfl) ?_
  refine wl_val rfl (ex_eqPs rfl rfl Tryd.ptr44) ?_
  refine wl_nil (nrm_then ?_)
  refine cw_false rfl ?_
  refine cw_skip (nrm_then ?_)
  refine cw_seq ?_
  refine cw_region ?_
  refine wl_bslice (vs := []) rfl Tryd.slice24 rfl rfl rfl rfl fun b1 w2 hO3 hs4 hw5 => ?_
  have hA6 := Apart.new (Lt.blk hB0) hs4
  have hG7 := Ge.new (Evo.refl [] w) hs4
  have hE8 := (Evo.refl [] w).then hw5
  have hB9 := hw5.blk0 hB0
  refine wl_val rfl (ex_move rfl) ?_
  refine wl_val rfl (ex_nilCheck rfl) ?_
  refine wl_val rfl (ex_fieldAddr rfl Tryd.fld85_0) ?_
  refine wl_val rfl (ex_fieldAddr rfl Tryd.fld70_0) ?_
  refine wl_val rfl (ex_load1 rfl Tryd.agg24 (cell_nth hB9 rfl)) ?_
  refine wl_append rfl rfl rfl rfl Tryd.app24_24 hO3 (Src.slice (by simpa using hbl) (hcs.evo hE8 (by simp)) (bv_one bs)) (by omega) fun a1 c1 w12 ob1 hO1x hw15 hob16 => ?_
  have hA17 := hA6.app (Lt.blk hB9) hob16
  have hG18 := hG7.app hE8 hob16
  have hE19 := hE8.step hw15 hG7.mem
  have hB20 := hw15.blk hB9 hA6.nmem
  have hO1 := hO1x
  refine wl_val rfl (ex_assign rfl) ?_
  refine wl_nil (nrm_then ?_)
  refine cw_seq ?_
  refine cw_region ?_
  refine wl_val rfl (ex_move rfl) ?_
  refine wl_val rfl (ex_nilCheck rfl) ?_
  refine wl_val rfl (ex_fieldAddr rfl Tryd.fld85_1) ?_
  refine wl_val rfl (ex_fieldAddr rfl Tryd.fld74_0) ?_
  refine wl_val rfl (ex_load1 rfl Tryd.agg3 (cell_nth hB20 rfl)) ?_
  refine wl_val rfl (ex_assign rfl) ?_
  refine wl_nil (nrm_then ?_)
  refine cw_seq ?_
  obtain ⟨g2, hg2, ha2, hc2⟩ := hO1x.cells (by omega)
  refine cw_region ?_
  refine wl_val rfl (ex_move rfl) ?_
  refine wl_val rfl (ex_move rfl) ?_
  refine wl_val rfl (ex_move rfl) ?_
  refine wl_val rfl (ex_shrN (m := ds.length) (n := 9) rfl rfl (by omega) (by omega) (by first | exact Nat.le_of_ble_eq_true rfl | (simp only [IntKind.bits]; omega))) ?_
  refine wl_val rfl (ex_convF rfl Tryd.underlying3 Tryd.underlying5 (by simp [IntKind.min, IntKind.max, IntKind.signed, IntKind.bits] <;> omega) (by simp [IntKind.min, IntKind.max, IntKind.signed, IntKind.bits] <;> omega)) ?_
  refine wl_val rfl (ex_move rfl) ?_
  refine wl_val rfl (ex_shrN (m := ds.length) (n := 1) rfl rfl (by omega) (by omega) (by first | exact Nat.le_of_ble_eq_true rfl | (simp only [IntKind.bits]; omega))) ?_
  refine wl_val rfl (ex_conv rfl Tryd.underlying3 Tryd.underlying5) ?_
  rw [u8_wrap]
  refine wl_val rfl (ex_indexAddrZ (n := 0) (by first | (rw [ha2]; done) | (rw [ha2]; rfl)) rfl rfl Tryd.elem24 (by omega)) ?_
  obtain ⟨g30, cur21, hg22, hx23, hcu24, hcs25, -⟩ := hO1x.at (by omega)
  rw [ha2] at hx23; cases hx23
  refine wl_store1L rfl rfl (rfl) Tryd.size5 hcu24 (hO1x.inb hcs25 (k := 0) (j := 0) (by omega) (by omega) (by omega)) fun w26 hB27 hw28 => ?_
  replace hw28 := evo_ob hg22 hw28
  have hO29 := hO1x.set' hg22 hcu24 hB27
  have hE31 := hE19.step hw28 hG18.mem
  have hB32 := hw28.blk hB20 hA17.nmem
  refine wl_val rfl (ex_indexAddrZ (n := 1) (by first | (rw [ha2]; done) | (rw [ha2]; rfl)) rfl rfl Tryd.elem24 (by omega)) ?_
  obtain ⟨g42, cur33, hg34, hx35, hcu36, hcs37, -⟩ := hO29.at (by omega)
  rw [ha2] at hx35; cases hx35
  refine wl_store1L rfl rfl (rfl) Tryd.size5 hcu36 (hO29.inb hcs37 (k := 1) (j := 0) (by omega) (by omega) (by omega)) fun w38 hB39 hw40 => ?_
  replace hw40 := evo_ob hg34 hw40
  have hO41 := hO29.set' hg34 hcu36 hB39
  have hE43 := hE31.step hw40 hG18.mem
  have hB44 := hw40.blk hB32 hA17.nmem
  have hO9 : OwnS w38 5 1 a1 (0 + m) c1 (((bs.set 0 (ds.length / 512)).set 1 (ds.length / 2 % 256)).map bv) ob1 := by rw [← set_byte, ← set_byte]; exact hO41
  refine wl_nil (nrm_then ?_)
  refine cw_seq ?_
  refine cw_region ?_
  refine wl_val rfl (ex_move rfl) ?_
  refine wl_val rfl (ex_indexAddrZ (n := 2) (by first | (rw [ha2]; done) | (rw [ha2]; rfl)) rfl rfl Tryd.elem24 (by omega)) ?_
  refine wl_val rfl (ex_load1 rfl Tryd.agg5 (own_byte hO9 ha2 (by simp; omega))) ?_
  rw [set2_getD]
  refine wl_val rfl (ex_move rfl) ?_
  refine wl_val rfl (ex_shl0 rfl rfl (n := 7) rfl) ?_
  rw [shl7 (by omega)]
  refine wl_val rfl (ex_conv rfl Tryd.underlying3 Tryd.underlying5) ?_
  rw [u8_wrap]
  refine wl_val rfl (ex_andN (m := ds.length * 128 % 256) (n := 128) rfl rfl (by omega) (by omega) rfl (by simp only [IntKind.bits]; omega) (by simp only [IntKind.bits]; omega)) ?_
  refine wl_val rfl (ex_orN (m := bs.getD 2 0) (n := (ds.length * 128 % 256 &&& 128)) rfl rfl (by rfl) (by rfl) rfl (getD_lt hpk.lt) (Nat.lt_of_le_of_lt Nat.and_le_right (by decide))) ?_
  refine wl_val rfl (ex_indexAddrZ (n := 2) (by first | (rw [ha2]; done) | (rw [ha2]; rfl)) rfl rfl Tryd.elem24 (by omega)) ?_
  obtain ⟨g54, cur45, hg46, hx47, hcu48, hcs49, -⟩ := hO9.at (by omega)
  rw [ha2] at hx47; cases hx47
  refine wl_store1L rfl rfl (rfl) Tryd.size5 hcu48 (hO9.inb hcs49 (k := 2) (j := 0) (by omega) (by omega) (by omega)) fun w50 hB51 hw52 => ?_
  replace hw52 := evo_ob hg46 hw52
  have hO53 := hO9.set' hg46 hcu48 hB51
  have hE55 := hE43.step hw52 hG18.mem
  have hB56 := hw52.blk hB44 hA17.nmem
  have hO8 : OwnS w50 5 1 a1 (0 + m) c1 ((((bs.set 0 (ds.length / 512)).set 1 (ds.length / 2 % 256)).set 2 (bs.getD 2 0 ||| (ds.length * 128 % 256 &&& 128))).map bv) ob1 := by rw [← set_byte]; exact hO53
  refine wl_nil (nrm_then ?_)
  refine cw_seq ?_
  refine cw_region ?_
  refine wl_val rfl (ex_move rfl) ?_
  refine wl_val rfl (ex_assign rfl) ?_
  refine wl_nil (nrm_then ?_)
  refine cw_ret (body_ret1 rfl rfl ?_)
  have hh := head_packs hpk hM (n := ds.length) (by omega)
  refine ⟨a1, 0 + m, c1, _, ob1, rfl, hO8, ?_, hG18, hE55⟩
  have hfs : (form ds).length = (strm ds).length := by simp [form, strm]
  unfold Packs; rw [hfs]
  exact hh

end Go.Proofs.YtclmkppiolfgbaaDoor
