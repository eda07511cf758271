import Derived.Test.YtclmkppiolfgbaaDoorKc
namespace Go.Proofs.YtclmkppiolfgbaaDoor
open Go.Proofs
open Go.W
attribute [local irreducible] Decidable.decide
set_option linter.unusedSimpArgs false
set_option linter.unusedVariables false
theorem Tryd.agg4 : aggB Tryd.prog 4 = some false := by kernel_rfl
theorem Tryd.agg92 : aggB Tryd.prog 92 = some true := by kernel_rfl
theorem Tryd.build92 : Build Tryd.prog 92 #[(0, 1), (1, 1), (2, 1)] #[.bool false, .int .i64 0, .int .i64 0] := ⟨_, .agg #[.bool false, .int .i64 0, .int .i64 0], Tryd.underlying92, by kernel_rfl, rfl, fun w => by kernel_rfl⟩
theorem Tryd.fld92_0 : fieldB Tryd.prog 92 0 = some 0 := by kernel_rfl
theorem Tryd.fld92_1 : fieldB Tryd.prog 92 1 = some 1 := by kernel_rfl
theorem Tryd.fld92_2 : fieldB Tryd.prog 92 2 = some 2 := by kernel_rfl
theorem Tryd.goes42 : Goes Tryd.prog 42 := ⟨_, Tryd.func42, by kernel_rfl, by kernel_rfl⟩
theorem Tryd.goes55 : Goes Tryd.prog 55 := ⟨_, Tryd.func55, by kernel_rfl, by kernel_rfl⟩
theorem Tryd.size92 : sizeB Tryd.prog 92 = some 3 := by kernel_rfl
theorem Tryd.zero92 : zeroB Tryd.prog 92 = some #[.bool false, .int .i64 0, .int .i64 0] := by kernel_rfl


/-- One bit, in a byte of its own. -/
abbrev bb (b : Bool) : Value := bv b.toNat
theorem own_len' {w : World} {a : Option Addr} {m c : Nat} {l : List Bool} {ob : Option Nat} (h : OwnS w 5 1 a m c (l.map bb) ob) : l.length = m := by have := h.1; simpa using this
theorem ob_app {w : World} {ob ob1 : Option Nat} (h : ob1 = ob ∨ ∃ g, ob1 = some g ∧ w.heap.size ≤ g) : ob1 = ob ∨ Ge w ob1 := by
  rcases h with h | ⟨g, h, hg⟩
  · exact .inl h
  · subst h; exact .inr (fun y hy => by cases hy; exact hg)
theorem ob_mem {w : World} {ob ob1 : Option Nat} (h : ob1 = ob ∨ Ge w ob1) : ∀ y, y ∈ ob1.toList → y ∈ ob.toList ∨ w.heap.size ≤ y := fun y hy => by
  rcases h with h | h
  · subst h; exact .inl hy
  · exact h.mem y hy

theorem number_ok {w : World} {l : List Bool} {a : Option Addr} {m c : Nat} {ob : Option Nat} (h : OwnS w 5 1 a m c (l.map bb) ob) (v n : Nat) (hn : n ≤ 64) (hv : v < 18446744073709551616) (hl : l.length ≤ 1099511627776) :
    Calls Tryd.prog 42 #[.slice a m c, .int .u64 v, .int .i64 n] w (Ret fun r w' => ∃ a' m' c' ob', r = .slice a' m' c' ∧ OwnS w' 5 1 a' m' c' ((l ++ num v n).map bb) ob' ∧ Evo ob.toList w w' ∧ (ob' = ob ∨ Ge w ob')) := by
  refine calls_of_cw (N := 23) Tryd.func42 rfl rfl rfl ?_
  refine cw_seq ?_
  refine cw_region ?_
  refine wl_val rfl (ex_assign rfl) ?_
  refine wl_nil (nrm_then ?_)
  refine cw_seq ?_
  refine cw_seq ?_
  refine cw_region ?_
  refine wl_val rfl (ex_move rfl) ?_
  refine wl_val rfl (ex_sub_i64 rfl rfl (by omega) (by omega)) ?_
  refine wl_val rfl (ex_assign rfl) ?_
  refine wl_nil (nrm_then ?_)
  refine cw_block ?_
  refine cw_loop (α := Int × Nat × Option Addr × Nat × Nat × Option Nat) (((n : Int) - 1, 0, a, m, c, ob)) (fun x => [(7, .int .i64 x.1), (0, .slice x.2.2.1 x.2.2.2.1 x.2.2.2.2.1)]) [(1, _), (6, _)] (fun x wr => Evo ob.toList w wr ∧ (x.1 = (n : Int) - 1 - x.2.1 ∧ x.2.1 ≤ n ∧ OwnS wr 5 1 x.2.2.1 x.2.2.2.1 x.2.2.2.2.1 ((l ++ (num v n).take x.2.1).map bb) x.2.2.2.2.2 ∧ (x.2.2.2.2.2 = ob ∨ Ge w x.2.2.2.2.2))) (fun x => n - x.2.1) ⟨rfl, rfl, trivial⟩ ⟨rfl, rfl, trivial⟩ ⟨Evo.refl _ _, ⟨by simp, Nat.zero_le _, by simpa using h, .inl rfl⟩⟩ ?_
  rintro ⟨z, k, a1, m1, c1, ob1⟩ wr1 ⟨hV2, ⟨hz, hk, hR, hob⟩⟩
  show CW _ _ _ _ [(7, .int .i64 z), (0, .slice a1 m1 c1), (1, _), (6, _)] _
  try dsimp only at hz
  try dsimp only at hk
  try dsimp only at hR
  try dsimp only at hob
  have hE3 := (Evo.refl ob.toList w).step hV2 (fun y hy => .inl hy)
  have hml := own_len' hR
  have hlk : (l ++ (num v n).take k).length = l.length + k := by simp; omega
  rw [hlk] at hml
  refine cw_seq ?_
  refine cw_seq ?_
  refine cw_region ?_
  refine wl_val rfl (ex_move rfl) ?_
  refine wl_val rfl (ex_geq rfl rfl) ?_
  refine wl_nil (nrm_then ?_)
  refine cw_if rfl (fun hc11 => ?_) (fun hc11 => ?_)
  · skip
    refine cw_skip (nrm_then ?_)
    refine cw_seq ?_
    refine cw_block ?_
    refine cw_region ?_
    refine wl_val rfl (ex_move rfl) ?_
    refine wl_val rfl (ex_move rfl) ?_
    refine wl_val rfl (ex_move rfl) ?_
    refine wl_val rfl (ex_shrN (m := v) (n := n - 1 - k) rfl rfl (by omega) (by omega) (by first | exact Nat.le_of_ble_eq_true rfl | (simp only [IntKind.bits]; omega))) ?_
    refine wl_val rfl (ex_andN (m := v / 2 ^ (n - 1 - k)) (n := 1) rfl rfl (by omega) (by omega) rfl (Nat.lt_of_le_of_lt (Nat.div_le_self _ _) hv) (by decide)) ?_
    rw [bit_and]
    have htn := toNat_le (v.testBit (n - 1 - k))
    refine wl_val rfl (ex_convF rfl Tryd.underlying72 Tryd.underlying5 (by simp [IntKind.min, IntKind.max, IntKind.signed, IntKind.bits] <;> omega) (by simp [IntKind.min, IntKind.max, IntKind.signed, IntKind.bits] <;> omega)) ?_
    refine wl_bslice (vs := [_]) rfl Tryd.slice24 rfl rfl rfl rfl fun b4 w5 hO6 hs7 hw8 => ?_
    have hA9 := Apart.new (Lt.own hR) hs7
    have hG10 := Ge.new hE3 hs7
    have hG11 := Ge.new hV2 hs7
    have hE12 := hE3.then hw8
    have hE13 := hV2.then hw8
    have hO14 := hR.evo0 hw8
    refine wl_append rfl rfl rfl rfl Tryd.app24_24 hO14 (Src.ofOwn hO6 ⟨by first | rfl | assumption, trivial⟩) (by omega) fun a2 c2 w17 ob2 hO19 hw20 hob21 => ?_
    have hA22 := hA9.symm.app (Lt.own hO6) hob21
    have hE23 := hE12.step hw20 (ob_mem hob)
    have hE24 := hE13.step hw20 (ob_mem hob)
    have hO25 := hO6.evo hw20 hA9.symm.own
    have hob2 := ob_trans hob hE12 (ob_app hob21)
    refine wl_val rfl (ex_assign rfl) ?_
    refine wl_nil (nrm_block (nrm_then ?_))
    refine cw_region ?_
    refine wl_val rfl (ex_move rfl) ?_
    refine wl_val rfl (ex_sub_i64 rfl rfl (by omega) (by omega)) ?_
    refine wl_val rfl (ex_assign rfl) ?_
    refine wl_nil (nrm_same ?_)
    refine ⟨(z - 1, k + 1, a2, m1 + 1, c2, ob2), ?_, ⟨rfl, rfl, trivial⟩, ⟨rfl, rfl, trivial⟩, hE24, ?_⟩
    · (try dsimp only); omega
    · skip
      try dsimp only
      have hO := hO19
      refine ⟨by omega, by omega, ?_, hob2⟩
      rw [num_take_succ _ _ _ (by omega), ← List.append_assoc, List.map_append]
      exact hO
  · skip
    refine cw_exit (ex_then (ex_then (ex_here (nrm_then ?_))))
    refine cw_seq ?_
    refine cw_region ?_
    refine wl_val rfl (ex_move rfl) ?_
    refine wl_val rfl (ex_assign rfl) ?_
    refine wl_nil (nrm_then ?_)
    refine cw_ret (body_ret1 rfl rfl ?_)
    have hkn : k = n := by omega
    subst hkn
    rw [List.take_of_length_le (by simp)] at hR
    exact ⟨a1, m1, c1, ob1, rfl, hR, hE3, hob⟩

theorem time_ok {w : World} {l : List Bool} {a : Option Addr} {m c : Nat} {ob : Option Nat} (h : OwnS w 5 1 a m c (l.map bb) ob) (e : Int) (_he : -9223372036854775808 ≤ e ∧ e ≤ 9223372036854775807) (hl : l.length ≤ 1000000000000) :
    Calls Tryd.prog 43 #[.slice a m c, .int .i64 e] w (Ret fun r w' => ∃ a' m' c' ob', r = .slice a' m' c' ∧ OwnS w' 5 1 a' m' c' ((l ++ tbits e).map bb) ob' ∧ Evo ob.toList w w' ∧ (ob' = ob ∨ Ge w ob')) := by
  refine calls_of_cw (N := 54) Tryd.func43 rfl rfl rfl ?_
  refine cw_seq ?_
  refine cw_region ?_
  refine wl_val rfl (ex_assign rfl) ?_
  refine wl_nil (nrm_then ?_)
  refine cw_seq ?_
  refine cw_block ?_
  refine cw_seq ?_
  refine cw_region ?_
  refine wl_val rfl (ex_move rfl) ?_
  refine wl_val rfl (ex_eql rfl rfl) ?_
  refine wl_val rfl (ex_assign rfl) ?_
  refine wl_nil (nrm_then ?_)
  refine cw_if rfl (fun hc5 => ?_) (fun hc5 => ?_)
  · skip
    refine cw_seq ?_
    refine cw_region ?_
    refine wl_val rfl (ex_move rfl) ?_
    refine wl_call1 (vs := [_, _, _]) Tryd.goes42 rfl (number_ok h 0 1 (by omega) (by omega) (by omega)) rfl ?_
    rintro _ w1 ⟨a1, m1, c1, ob1, rfl, hO1, hw2, hob1⟩
    have hE3 := (Evo.refl ob.toList w).step hw2 (fun y hy => .inl hy)
    have hl1 : (l ++ num 0 1).length = l.length + 1 := by simp
    refine wl_val rfl (ex_assign rfl) ?_
    refine wl_nil (nrm_then ?_)
    refine cw_ret (ret_block (ret_then (body_ret1 rfl rfl ?_)))
    refine ⟨a1, m1, c1, ob1, rfl, ?_, hE3, hob1⟩
    rw [tbits, if_pos hc5]
    exact hO1
  · skip
    refine cw_seq ?_
    refine cw_region ?_
    refine wl_val rfl (ex_move rfl) ?_
    refine wl_val rfl (ex_geq rfl rfl) ?_
    refine wl_val rfl (ex_move rfl) ?_
    refine wl_split (t := 13) rfl (fun hs13 => ?_) (fun hs13 => ?_)
    · skip
      refine wl_go rfl rfl rfl rfl ?_
      refine wl_val rfl (ex_move rfl) ?_
      refine wl_go rfl rfl rfl rfl ?_
      refine wl_val rfl (ex_leq rfl rfl) ?_
      refine wl_val rfl (ex_pick_t rfl rfl) ?_
      refine wl_val rfl (ex_assign rfl) ?_
      refine wl_nil (nrm_then ?_)
      refine cw_if rfl (fun hc10 => ?_) (fun hc10 => ?_)
      · skip
        refine cw_seq ?_
        refine cw_region ?_
        refine wl_val rfl (ex_move rfl) ?_
        refine wl_call1 (vs := [_, _, _]) Tryd.goes42 rfl (number_ok h 2 2 (by omega) (by omega) (by omega)) rfl ?_
        rintro _ w4 ⟨a1, m1, c1, ob1, rfl, hO1, hw5, hob1⟩
        have hE6 := (Evo.refl ob.toList w).step hw5 (fun y hy => .inl hy)
        have hl1 : (l ++ num 2 2).length = l.length + 2 := by simp
        refine wl_val rfl (ex_move rfl) ?_
        refine wl_val rfl (ex_add_i64 rfl rfl (by omega) (by omega)) ?_
        refine wl_val rfl (ex_convU rfl Tryd.underlying2 Tryd.underlying72) ?_
        refine wl_call1 (vs := [_, _, _]) Tryd.goes42 rfl (number_ok hO1 (u64 (e + 63)) 7 (by omega) (u64_lt _) (by omega)) rfl ?_
        rintro _ w7 ⟨a2, m2, c2, ob2, rfl, hO2, hw8, hob2⟩
        have hob3 := ob_trans hob1 hE6 hob2
        have hE9 := hE6.step hw8 (ob_mem hob1)
        refine wl_val rfl (ex_assign rfl) ?_
        refine wl_nil (nrm_then ?_)
        refine cw_ret (ret_block (ret_then (body_ret1 rfl rfl ?_)))
        refine ⟨a2, m2, c2, ob2, rfl, ?_, hE9, hob3⟩
        rw [List.append_assoc] at hO2
        have hh : tbits e = num 2 2 ++ num (u64 (e + 63)) 7 := by
          have h2 : u64 (e + 63) = (e + 63).toNat := by unfold u64; omega
          rw [h2]
          unfold tbits
          repeat' split
          all_goals first | rfl | omega
        rw [hh]
        exact hO2
      · skip
        refine cw_seq ?_
        refine cw_region ?_
        refine wl_val rfl (ex_move rfl) ?_
        refine wl_val rfl (ex_geq rfl rfl) ?_
        refine wl_val rfl (ex_move rfl) ?_
        refine wl_split (t := 26) rfl (fun hs26 => ?_) (fun hs26 => ?_)
        · skip
          refine wl_go rfl rfl rfl rfl ?_
          refine wl_val rfl (ex_move rfl) ?_
          refine wl_go rfl rfl rfl rfl ?_
          refine wl_val rfl (ex_leq rfl rfl) ?_
          refine wl_val rfl (ex_pick_t rfl rfl) ?_
          refine wl_val rfl (ex_assign rfl) ?_
          refine wl_nil (nrm_then ?_)
          refine cw_if rfl (fun hc23 => ?_) (fun hc23 => ?_)
          · skip
            refine cw_seq ?_
            refine cw_region ?_
            refine wl_val rfl (ex_move rfl) ?_
            refine wl_call1 (vs := [_, _, _]) Tryd.goes42 rfl (number_ok h 6 3 (by omega) (by omega) (by omega)) rfl ?_
            rintro _ w10 ⟨a1, m1, c1, ob1, rfl, hO1, hw11, hob1⟩
            have hE12 := (Evo.refl ob.toList w).step hw11 (fun y hy => .inl hy)
            have hl1 : (l ++ num 6 3).length = l.length + 3 := by simp
            refine wl_val rfl (ex_move rfl) ?_
            refine wl_val rfl (ex_add_i64 rfl rfl (by omega) (by omega)) ?_
            refine wl_val rfl (ex_convU rfl Tryd.underlying2 Tryd.underlying72) ?_
            refine wl_call1 (vs := [_, _, _]) Tryd.goes42 rfl (number_ok hO1 (u64 (e + 255)) 9 (by omega) (u64_lt _) (by omega)) rfl ?_
            rintro _ w13 ⟨a2, m2, c2, ob2, rfl, hO2, hw14, hob2⟩
            have hob3 := ob_trans hob1 hE12 hob2
            have hE15 := hE12.step hw14 (ob_mem hob1)
            refine wl_val rfl (ex_assign rfl) ?_
            refine wl_nil (nrm_then ?_)
            refine cw_ret (ret_block (ret_then (body_ret1 rfl rfl ?_)))
            refine ⟨a2, m2, c2, ob2, rfl, ?_, hE15, hob3⟩
            rw [List.append_assoc] at hO2
            have hh : tbits e = num 6 3 ++ num (u64 (e + 255)) 9 := by
              have h2 : u64 (e + 255) = (e + 255).toNat := by unfold u64; omega
              rw [h2]
              unfold tbits
              repeat' split
              all_goals first | rfl | omega
            rw [hh]
            exact hO2
          · skip
            refine cw_seq ?_
            refine cw_region ?_
            refine wl_val rfl (ex_move rfl) ?_
            refine wl_val rfl (ex_geq rfl rfl) ?_
            refine wl_val rfl (ex_move rfl) ?_
            refine wl_split (t := 39) rfl (fun hs39 => ?_) (fun hs39 => ?_)
            · skip
              refine wl_go rfl rfl rfl rfl ?_
              refine wl_val rfl (ex_move rfl) ?_
              refine wl_go rfl rfl rfl rfl ?_
              refine wl_val rfl (ex_leq rfl rfl) ?_
              refine wl_val rfl (ex_pick_t rfl rfl) ?_
              refine wl_val rfl (ex_assign rfl) ?_
              refine wl_nil (nrm_then ?_)
              refine cw_if rfl (fun hc36 => ?_) (fun hc36 => ?_)
              · skip
                refine cw_seq ?_
                refine cw_region ?_
                refine wl_val rfl (ex_move rfl) ?_
                refine wl_call1 (vs := [_, _, _]) Tryd.goes42 rfl (number_ok h 14 4 (by omega) (by omega) (by omega)) rfl ?_
                rintro _ w16 ⟨a1, m1, c1, ob1, rfl, hO1, hw17, hob1⟩
                have hE18 := (Evo.refl ob.toList w).step hw17 (fun y hy => .inl hy)
                have hl1 : (l ++ num 14 4).length = l.length + 4 := by simp
                refine wl_val rfl (ex_move rfl) ?_
                refine wl_val rfl (ex_add_i64 rfl rfl (by omega) (by omega)) ?_
                refine wl_val rfl (ex_convU rfl Tryd.underlying2 Tryd.underlying72) ?_
                refine wl_call1 (vs := [_, _, _]) Tryd.goes42 rfl (number_ok hO1 (u64 (e + 2047)) 12 (by omega) (u64_lt _) (by omega)) rfl ?_
                rintro _ w19 ⟨a2, m2, c2, ob2, rfl, hO2, hw20, hob2⟩
                have hob3 := ob_trans hob1 hE18 hob2
                have hE21 := hE18.step hw20 (ob_mem hob1)
                refine wl_val rfl (ex_assign rfl) ?_
                refine wl_nil (nrm_then ?_)
                refine cw_ret (ret_block (ret_then (body_ret1 rfl rfl ?_)))
                refine ⟨a2, m2, c2, ob2, rfl, ?_, hE21, hob3⟩
                rw [List.append_assoc] at hO2
                have hh : tbits e = num 14 4 ++ num (u64 (e + 2047)) 12 := by
                  have h2 : u64 (e + 2047) = (e + 2047).toNat := by unfold u64; omega
                  rw [h2]
                  unfold tbits
                  repeat' split
                  all_goals first | rfl | omega
                rw [hh]
                exact hO2
              · skip
                refine cw_skip (nrm_block (nrm_then ?_))
                refine cw_seq ?_
                refine cw_region ?_
                refine wl_val rfl (ex_move rfl) ?_
                refine wl_call1 (vs := [_, _, _]) Tryd.goes42 rfl (number_ok h 15 4 (by omega) (by omega) (by omega)) rfl ?_
                rintro _ w22 ⟨a1, m1, c1, ob1, rfl, hO1, hw23, hob1⟩
                have hE24 := (Evo.refl ob.toList w).step hw23 (fun y hy => .inl hy)
                have hl1 : (l ++ num 15 4).length = l.length + 4 := by simp
                refine wl_val rfl (ex_move rfl) ?_
                refine wl_val rfl (ex_convU rfl Tryd.underlying2 Tryd.underlying72) ?_
                refine wl_call1 (vs := [_, _, _]) Tryd.goes42 rfl (number_ok hO1 (u64 e) 64 (by omega) (u64_lt _) (by omega)) rfl ?_
                rintro _ w25 ⟨a2, m2, c2, ob2, rfl, hO2, hw26, hob2⟩
                have hob3 := ob_trans hob1 hE24 hob2
                have hE27 := hE24.step hw26 (ob_mem hob1)
                refine wl_val rfl (ex_assign rfl) ?_
                refine wl_nil (nrm_then ?_)
                refine cw_ret (body_ret1 rfl rfl ?_)
                refine ⟨a2, m2, c2, ob2, rfl, ?_, hE27, hob3⟩
                rw [List.append_assoc] at hO2
                have hh : tbits e = num 15 4 ++ num (u64 e) 64 := by
                  unfold tbits
                  repeat' split
                  all_goals first | rfl | omega
                rw [hh]
                exact hO2
            · skip
              refine wl_no rfl rfl rfl rfl rfl rfl ?_
              refine wl_no rfl rfl rfl rfl rfl rfl ?_
              refine wl_val rfl (ex_pick_f rfl rfl) ?_
              refine wl_val rfl (ex_assign rfl) ?_
              refine wl_nil (nrm_then ?_)
              refine cw_false rfl ?_
              refine cw_skip (nrm_block (nrm_then ?_))
              refine cw_seq ?_
              refine cw_region ?_
              refine wl_val rfl (ex_move rfl) ?_
              refine wl_call1 (vs := [_, _, _]) Tryd.goes42 rfl (number_ok h 15 4 (by omega) (by omega) (by omega)) rfl ?_
              rintro _ w28 ⟨a1, m1, c1, ob1, rfl, hO1, hw29, hob1⟩
              have hE30 := (Evo.refl ob.toList w).step hw29 (fun y hy => .inl hy)
              have hl1 : (l ++ num 15 4).length = l.length + 4 := by simp
              refine wl_val rfl (ex_move rfl) ?_
              refine wl_val rfl (ex_convU rfl Tryd.underlying2 Tryd.underlying72) ?_
              refine wl_call1 (vs := [_, _, _]) Tryd.goes42 rfl (number_ok hO1 (u64 e) 64 (by omega) (u64_lt _) (by omega)) rfl ?_
              rintro _ w31 ⟨a2, m2, c2, ob2, rfl, hO2, hw32, hob2⟩
              have hob3 := ob_trans hob1 hE30 hob2
              have hE33 := hE30.step hw32 (ob_mem hob1)
              refine wl_val rfl (ex_assign rfl) ?_
              refine wl_nil (nrm_then ?_)
              refine cw_ret (body_ret1 rfl rfl ?_)
              refine ⟨a2, m2, c2, ob2, rfl, ?_, hE33, hob3⟩
              rw [List.append_assoc] at hO2
              have hh : tbits e = num 15 4 ++ num (u64 e) 64 := by
                unfold tbits
                repeat' split
                all_goals first | rfl | omega
              rw [hh]
              exact hO2
        · skip
          refine wl_no rfl rfl rfl rfl rfl rfl ?_
          refine wl_no rfl rfl rfl rfl rfl rfl ?_
          refine wl_val rfl (ex_pick_f rfl rfl) ?_
          refine wl_val rfl (ex_assign rfl) ?_
          refine wl_nil (nrm_then ?_)
          refine cw_false rfl ?_
          refine cw_seq ?_
          refine cw_region ?_
          refine wl_val rfl (ex_move rfl) ?_
          refine wl_val rfl (ex_geq rfl rfl) ?_
          refine wl_val rfl (ex_move rfl) ?_
          refine wl_split (t := 39) rfl (fun hs39 => ?_) (fun hs39 => ?_)
          · skip
            refine wl_go rfl rfl rfl rfl ?_
            refine wl_val rfl (ex_move rfl) ?_
            refine wl_go rfl rfl rfl rfl ?_
            refine wl_val rfl (ex_leq rfl rfl) ?_
            refine wl_val rfl (ex_pick_t rfl rfl) ?_
            refine wl_val rfl (ex_assign rfl) ?_
            refine wl_nil (nrm_then ?_)
            refine cw_if rfl (fun hc36 => ?_) (fun hc36 => ?_)
            · skip
              refine cw_seq ?_
              refine cw_region ?_
              refine wl_val rfl (ex_move rfl) ?_
              refine wl_call1 (vs := [_, _, _]) Tryd.goes42 rfl (number_ok h 14 4 (by omega) (by omega) (by omega)) rfl ?_
              rintro _ w34 ⟨a1, m1, c1, ob1, rfl, hO1, hw35, hob1⟩
              have hE36 := (Evo.refl ob.toList w).step hw35 (fun y hy => .inl hy)
              have hl1 : (l ++ num 14 4).length = l.length + 4 := by simp
              refine wl_val rfl (ex_move rfl) ?_
              refine wl_val rfl (ex_add_i64 rfl rfl (by omega) (by omega)) ?_
              refine wl_val rfl (ex_convU rfl Tryd.underlying2 Tryd.underlying72) ?_
              refine wl_call1 (vs := [_, _, _]) Tryd.goes42 rfl (number_ok hO1 (u64 (e + 2047)) 12 (by omega) (u64_lt _) (by omega)) rfl ?_
              rintro _ w37 ⟨a2, m2, c2, ob2, rfl, hO2, hw38, hob2⟩
              have hob3 := ob_trans hob1 hE36 hob2
              have hE39 := hE36.step hw38 (ob_mem hob1)
              refine wl_val rfl (ex_assign rfl) ?_
              refine wl_nil (nrm_then ?_)
              refine cw_ret (ret_block (ret_then (body_ret1 rfl rfl ?_)))
              refine ⟨a2, m2, c2, ob2, rfl, ?_, hE39, hob3⟩
              rw [List.append_assoc] at hO2
              have hh : tbits e = num 14 4 ++ num (u64 (e + 2047)) 12 := by
                have h2 : u64 (e + 2047) = (e + 2047).toNat := by unfold u64; omega
                rw [h2]
                unfold tbits
                repeat' split
                all_goals first | rfl | omega
              rw [hh]
              exact hO2
            · skip
              refine cw_skip (nrm_block (nrm_then ?_))
              refine cw_seq ?_
              refine cw_region ?_
              refine wl_val rfl (ex_move rfl) ?_
              refine wl_call1 (vs := [_, _, _]) Tryd.goes42 rfl (number_ok h 15 4 (by omega) (by omega) (by omega)) rfl ?_
              rintro _ w40 ⟨a1, m1, c1, ob1, rfl, hO1, hw41, hob1⟩
              have hE42 := (Evo.refl ob.toList w).step hw41 (fun y hy => .inl hy)
              have hl1 : (l ++ num 15 4).length = l.length + 4 := by simp
              refine wl_val rfl (ex_move rfl) ?_
              refine wl_val rfl (ex_convU rfl Tryd.underlying2 Tryd.underlying72) ?_
              refine wl_call1 (vs := [_, _, _]) Tryd.goes42 rfl (number_ok hO1 (u64 e) 64 (by omega) (u64_lt _) (by omega)) rfl ?_
              rintro _ w43 ⟨a2, m2, c2, ob2, rfl, hO2, hw44, hob2⟩
              have hob3 := ob_trans hob1 hE42 hob2
              have hE45 := hE42.step hw44 (ob_mem hob1)
              refine wl_val rfl (ex_assign rfl) ?_
              refine wl_nil (nrm_then ?_)
              refine cw_ret (body_ret1 rfl rfl ?_)
              refine ⟨a2, m2, c2, ob2, rfl, ?_, hE45, hob3⟩
              rw [List.append_assoc] at hO2
              have hh : tbits e = num 15 4 ++ num (u64 e) 64 := by
                unfold tbits
                repeat' split
                all_goals first | rfl | omega
              rw [hh]
              exact hO2
          · skip
            refine wl_no rfl rfl rfl rfl rfl rfl ?_
            refine wl_no rfl rfl rfl rfl rfl rfl ?_
            refine wl_val rfl (ex_pick_f rfl rfl) ?_
            refine wl_val rfl (ex_assign rfl) ?_
            refine wl_nil (nrm_then ?_)
            refine cw_false rfl ?_
            refine cw_skip (nrm_block (nrm_then ?_))
            refine cw_seq ?_
            refine cw_region ?_
            refine wl_val rfl (ex_move rfl) ?_
            refine wl_call1 (vs := [_, _, _]) Tryd.goes42 rfl (number_ok h 15 4 (by omega) (by omega) (by omega)) rfl ?_
            rintro _ w46 ⟨a1, m1, c1, ob1, rfl, hO1, hw47, hob1⟩
            have hE48 := (Evo.refl ob.toList w).step hw47 (fun y hy => .inl hy)
            have hl1 : (l ++ num 15 4).length = l.length + 4 := by simp
            refine wl_val rfl (ex_move rfl) ?_
            refine wl_val rfl (ex_convU rfl Tryd.underlying2 Tryd.underlying72) ?_
            refine wl_call1 (vs := [_, _, _]) Tryd.goes42 rfl (number_ok hO1 (u64 e) 64 (by omega) (u64_lt _) (by omega)) rfl ?_
            rintro _ w49 ⟨a2, m2, c2, ob2, rfl, hO2, hw50, hob2⟩
            have hob3 := ob_trans hob1 hE48 hob2
            have hE51 := hE48.step hw50 (ob_mem hob1)
            refine wl_val rfl (ex_assign rfl) ?_
            refine wl_nil (nrm_then ?_)
            refine cw_ret (body_ret1 rfl rfl ?_)
            refine ⟨a2, m2, c2, ob2, rfl, ?_, hE51, hob3⟩
            rw [List.append_assoc] at hO2
            have hh : tbits e = num 15 4 ++ num (u64 e) 64 := by
              unfold tbits
              repeat' split
              all_goals first | rfl | omega
            rw [hh]
            exact hO2
    · skip
      refine wl_no rfl rfl rfl rfl rfl rfl ?_
      refine wl_no rfl rfl rfl rfl rfl rfl ?_
      refine wl_val rfl (ex_pick_f rfl rfl) ?_
      refine wl_val rfl (ex_assign rfl) ?_
      refine wl_nil (nrm_then ?_)
      refine cw_false rfl ?_
      refine cw_seq ?_
      refine cw_region ?_
      refine wl_val rfl (ex_move rfl) ?_
      refine wl_val rfl (ex_geq rfl rfl) ?_
      refine wl_val rfl (ex_move rfl) ?_
      refine wl_split (t := 26) rfl (fun hs26 => ?_) (fun hs26 => ?_)
      · skip
        refine wl_go rfl rfl rfl rfl ?_
        refine wl_val rfl (ex_move rfl) ?_
        refine wl_go rfl rfl rfl rfl ?_
        refine wl_val rfl (ex_leq rfl rfl) ?_
        refine wl_val rfl (ex_pick_t rfl rfl) ?_
        refine wl_val rfl (ex_assign rfl) ?_
        refine wl_nil (nrm_then ?_)
        refine cw_if rfl (fun hc23 => ?_) (fun hc23 => ?_)
        · skip
          refine cw_seq ?_
          refine cw_region ?_
          refine wl_val rfl (ex_move rfl) ?_
          refine wl_call1 (vs := [_, _, _]) Tryd.goes42 rfl (number_ok h 6 3 (by omega) (by omega) (by omega)) rfl ?_
          rintro _ w52 ⟨a1, m1, c1, ob1, rfl, hO1, hw53, hob1⟩
          have hE54 := (Evo.refl ob.toList w).step hw53 (fun y hy => .inl hy)
          have hl1 : (l ++ num 6 3).length = l.length + 3 := by simp
          refine wl_val rfl (ex_move rfl) ?_
          refine wl_val rfl (ex_add_i64 rfl rfl (by omega) (by omega)) ?_
          refine wl_val rfl (ex_convU rfl Tryd.underlying2 Tryd.underlying72) ?_
          refine wl_call1 (vs := [_, _, _]) Tryd.goes42 rfl (number_ok hO1 (u64 (e + 255)) 9 (by omega) (u64_lt _) (by omega)) rfl ?_
          rintro _ w55 ⟨a2, m2, c2, ob2, rfl, hO2, hw56, hob2⟩
          have hob3 := ob_trans hob1 hE54 hob2
          have hE57 := hE54.step hw56 (ob_mem hob1)
          refine wl_val rfl (ex_assign rfl) ?_
          refine wl_nil (nrm_then ?_)
          refine cw_ret (ret_block (ret_then (body_ret1 rfl rfl ?_)))
          refine ⟨a2, m2, c2, ob2, rfl, ?_, hE57, hob3⟩
          rw [List.append_assoc] at hO2
          have hh : tbits e = num 6 3 ++ num (u64 (e + 255)) 9 := by
            have h2 : u64 (e + 255) = (e + 255).toNat := by unfold u64; omega
            rw [h2]
            unfold tbits
            repeat' split
            all_goals first | rfl | omega
          rw [hh]
          exact hO2
        · skip
          refine cw_seq ?_
          refine cw_region ?_
          refine wl_val rfl (ex_move rfl) ?_
          refine wl_val rfl (ex_geq rfl rfl) ?_
          refine wl_val rfl (ex_move rfl) ?_
          refine wl_split (t := 39) rfl (fun hs39 => ?_) (fun hs39 => ?_)
          · skip
            refine wl_go rfl rfl rfl rfl ?_
            refine wl_val rfl (ex_move rfl) ?_
            refine wl_go rfl rfl rfl rfl ?_
            refine wl_val rfl (ex_leq rfl rfl) ?_
            refine wl_val rfl (ex_pick_t rfl rfl) ?_
            refine wl_val rfl (ex_assign rfl) ?_
            refine wl_nil (nrm_then ?_)
            refine cw_if rfl (fun hc36 => ?_) (fun hc36 => ?_)
            · skip
              refine cw_seq ?_
              refine cw_region ?_
              refine wl_val rfl (ex_move rfl) ?_
              refine wl_call1 (vs := [_, _, _]) Tryd.goes42 rfl (number_ok h 14 4 (by omega) (by omega) (by omega)) rfl ?_
              rintro _ w58 ⟨a1, m1, c1, ob1, rfl, hO1, hw59, hob1⟩
              have hE60 := (Evo.refl ob.toList w).step hw59 (fun y hy => .inl hy)
              have hl1 : (l ++ num 14 4).length = l.length + 4 := by simp
              refine wl_val rfl (ex_move rfl) ?_
              refine wl_val rfl (ex_add_i64 rfl rfl (by omega) (by omega)) ?_
              refine wl_val rfl (ex_convU rfl Tryd.underlying2 Tryd.underlying72) ?_
              refine wl_call1 (vs := [_, _, _]) Tryd.goes42 rfl (number_ok hO1 (u64 (e + 2047)) 12 (by omega) (u64_lt _) (by omega)) rfl ?_
              rintro _ w61 ⟨a2, m2, c2, ob2, rfl, hO2, hw62, hob2⟩
              have hob3 := ob_trans hob1 hE60 hob2
              have hE63 := hE60.step hw62 (ob_mem hob1)
              refine wl_val rfl (ex_assign rfl) ?_
              refine wl_nil (nrm_then ?_)
              refine cw_ret (ret_block (ret_then (body_ret1 rfl rfl ?_)))
              refine ⟨a2, m2, c2, ob2, rfl, ?_, hE63, hob3⟩
              rw [List.append_assoc] at hO2
              have hh : tbits e = num 14 4 ++ num (u64 (e + 2047)) 12 := by
                have h2 : u64 (e + 2047) = (e + 2047).toNat := by unfold u64; omega
                rw [h2]
                unfold tbits
                repeat' split
                all_goals first | rfl | omega
              rw [hh]
              exact hO2
            · skip
              refine cw_skip (nrm_block (nrm_then ?_))
              refine cw_seq ?_
              refine cw_region ?_
              refine wl_val rfl (ex_move rfl) ?_
              refine wl_call1 (vs := [_, _, _]) Tryd.goes42 rfl (number_ok h 15 4 (by omega) (by omega) (by omega)) rfl ?_
              rintro _ w64 ⟨a1, m1, c1, ob1, rfl, hO1, hw65, hob1⟩
              have hE66 := (Evo.refl ob.toList w).step hw65 (fun y hy => .inl hy)
              have hl1 : (l ++ num 15 4).length = l.length + 4 := by simp
              refine wl_val rfl (ex_move rfl) ?_
              refine wl_val rfl (ex_convU rfl Tryd.underlying2 Tryd.underlying72) ?_
              refine wl_call1 (vs := [_, _, _]) Tryd.goes42 rfl (number_ok hO1 (u64 e) 64 (by omega) (u64_lt _) (by omega)) rfl ?_
              rintro _ w67 ⟨a2, m2, c2, ob2, rfl, hO2, hw68, hob2⟩
              have hob3 := ob_trans hob1 hE66 hob2
              have hE69 := hE66.step hw68 (ob_mem hob1)
              refine wl_val rfl (ex_assign rfl) ?_
              refine wl_nil (nrm_then ?_)
              refine cw_ret (body_ret1 rfl rfl ?_)
              refine ⟨a2, m2, c2, ob2, rfl, ?_, hE69, hob3⟩
              rw [List.append_assoc] at hO2
              have hh : tbits e = num 15 4 ++ num (u64 e) 64 := by
                unfold tbits
                repeat' split
                all_goals first | rfl | omega
              rw [hh]
              exact hO2
          · skip
            refine wl_no rfl rfl rfl rfl rfl rfl ?_
            refine wl_no rfl rfl rfl rfl rfl rfl ?_
            refine wl_val rfl (ex_pick_f rfl rfl) ?_
            refine wl_val rfl (ex_assign rfl) ?_
            refine wl_nil (nrm_then ?_)
            refine cw_false rfl ?_
            refine cw_skip (nrm_block (nrm_then ?_))
            refine cw_seq ?_
            refine cw_region ?_
            refine wl_val rfl (ex_move rfl) ?_
            refine wl_call1 (vs := [_, _, _]) Tryd.goes42 rfl (number_ok h 15 4 (by omega) (by omega) (by omega)) rfl ?_
            rintro _ w70 ⟨a1, m1, c1, ob1, rfl, hO1, hw71, hob1⟩
            have hE72 := (Evo.refl ob.toList w).step hw71 (fun y hy => .inl hy)
            have hl1 : (l ++ num 15 4).length = l.length + 4 := by simp
            refine wl_val rfl (ex_move rfl) ?_
            refine wl_val rfl (ex_convU rfl Tryd.underlying2 Tryd.underlying72) ?_
            refine wl_call1 (vs := [_, _, _]) Tryd.goes42 rfl (number_ok hO1 (u64 e) 64 (by omega) (u64_lt _) (by omega)) rfl ?_
            rintro _ w73 ⟨a2, m2, c2, ob2, rfl, hO2, hw74, hob2⟩
            have hob3 := ob_trans hob1 hE72 hob2
            have hE75 := hE72.step hw74 (ob_mem hob1)
            refine wl_val rfl (ex_assign rfl) ?_
            refine wl_nil (nrm_then ?_)
            refine cw_ret (body_ret1 rfl rfl ?_)
            refine ⟨a2, m2, c2, ob2, rfl, ?_, hE75, hob3⟩
            rw [List.append_assoc] at hO2
            have hh : tbits e = num 15 4 ++ num (u64 e) 64 := by
              unfold tbits
              repeat' split
              all_goals first | rfl | omega
            rw [hh]
            exact hO2
      · skip
        refine wl_no rfl rfl rfl rfl rfl rfl ?_
        refine wl_no rfl rfl rfl rfl rfl rfl ?_
        refine wl_val rfl (ex_pick_f rfl rfl) ?_
        refine wl_val rfl (ex_assign rfl) ?_
        refine wl_nil (nrm_then ?_)
        refine cw_false rfl ?_
        refine cw_seq ?_
        refine cw_region ?_
        refine wl_val rfl (ex_move rfl) ?_
        refine wl_val rfl (ex_geq rfl rfl) ?_
        refine wl_val rfl (ex_move rfl) ?_
        refine wl_split (t := 39) rfl (fun hs39 => ?_) (fun hs39 => ?_)
        · skip
          refine wl_go rfl rfl rfl rfl ?_
          refine wl_val rfl (ex_move rfl) ?_
          refine wl_go rfl rfl rfl rfl ?_
          refine wl_val rfl (ex_leq rfl rfl) ?_
          refine wl_val rfl (ex_pick_t rfl rfl) ?_
          refine wl_val rfl (ex_assign rfl) ?_
          refine wl_nil (nrm_then ?_)
          refine cw_if rfl (fun hc36 => ?_) (fun hc36 => ?_)
          · skip
            refine cw_seq ?_
            refine cw_region ?_
            refine wl_val rfl (ex_move rfl) ?_
            refine wl_call1 (vs := [_, _, _]) Tryd.goes42 rfl (number_ok h 14 4 (by omega) (by omega) (by omega)) rfl ?_
            rintro _ w76 ⟨a1, m1, c1, ob1, rfl, hO1, hw77, hob1⟩
            have hE78 := (Evo.refl ob.toList w).step hw77 (fun y hy => .inl hy)
            have hl1 : (l ++ num 14 4).length = l.length + 4 := by simp
            refine wl_val rfl (ex_move rfl) ?_
            refine wl_val rfl (ex_add_i64 rfl rfl (by omega) (by omega)) ?_
            refine wl_val rfl (ex_convU rfl Tryd.underlying2 Tryd.underlying72) ?_
            refine wl_call1 (vs := [_, _, _]) Tryd.goes42 rfl (number_ok hO1 (u64 (e + 2047)) 12 (by omega) (u64_lt _) (by omega)) rfl ?_
            rintro _ w79 ⟨a2, m2, c2, ob2, rfl, hO2, hw80, hob2⟩
            have hob3 := ob_trans hob1 hE78 hob2
            have hE81 := hE78.step hw80 (ob_mem hob1)
            refine wl_val rfl (ex_assign rfl) ?_
            refine wl_nil (nrm_then ?_)
            refine cw_ret (ret_block (ret_then (body_ret1 rfl rfl ?_)))
            refine ⟨a2, m2, c2, ob2, rfl, ?_, hE81, hob3⟩
            rw [List.append_assoc] at hO2
            have hh : tbits e = num 14 4 ++ num (u64 (e + 2047)) 12 := by
              have h2 : u64 (e + 2047) = (e + 2047).toNat := by unfold u64; omega
              rw [h2]
              unfold tbits
              repeat' split
              all_goals first | rfl | omega
            rw [hh]
            exact hO2
          · skip
            refine cw_skip (nrm_block (nrm_then ?_))
            refine cw_seq ?_
            refine cw_region ?_
            refine wl_val rfl (ex_move rfl) ?_
            refine wl_call1 (vs := [_, _, _]) Tryd.goes42 rfl (number_ok h 15 4 (by omega) (by omega) (by omega)) rfl ?_
            rintro _ w82 ⟨a1, m1, c1, ob1, rfl, hO1, hw83, hob1⟩
            have hE84 := (Evo.refl ob.toList w).step hw83 (fun y hy => .inl hy)
            have hl1 : (l ++ num 15 4).length = l.length + 4 := by simp
            refine wl_val rfl (ex_move rfl) ?_
            refine wl_val rfl (ex_convU rfl Tryd.underlying2 Tryd.underlying72) ?_
            refine wl_call1 (vs := [_, _, _]) Tryd.goes42 rfl (number_ok hO1 (u64 e) 64 (by omega) (u64_lt _) (by omega)) rfl ?_
            rintro _ w85 ⟨a2, m2, c2, ob2, rfl, hO2, hw86, hob2⟩
            have hob3 := ob_trans hob1 hE84 hob2
            have hE87 := hE84.step hw86 (ob_mem hob1)
            refine wl_val rfl (ex_assign rfl) ?_
            refine wl_nil (nrm_then ?_)
            refine cw_ret (body_ret1 rfl rfl ?_)
            refine ⟨a2, m2, c2, ob2, rfl, ?_, hE87, hob3⟩
            rw [List.append_assoc] at hO2
            have hh : tbits e = num 15 4 ++ num (u64 e) 64 := by
              unfold tbits
              repeat' split
              all_goals first | rfl | omega
            rw [hh]
            exact hO2
        · skip
          refine wl_no rfl rfl rfl rfl rfl rfl ?_
          refine wl_no rfl rfl rfl rfl rfl rfl ?_
          refine wl_val rfl (ex_pick_f rfl rfl) ?_
          refine wl_val rfl (ex_assign rfl) ?_
          refine wl_nil (nrm_then ?_)
          refine cw_false rfl ?_
          refine cw_skip (nrm_block (nrm_then ?_))
          refine cw_seq ?_
          refine cw_region ?_
          refine wl_val rfl (ex_move rfl) ?_
          refine wl_call1 (vs := [_, _, _]) Tryd.goes42 rfl (number_ok h 15 4 (by omega) (by omega) (by omega)) rfl ?_
          rintro _ w88 ⟨a1, m1, c1, ob1, rfl, hO1, hw89, hob1⟩
          have hE90 := (Evo.refl ob.toList w).step hw89 (fun y hy => .inl hy)
          have hl1 : (l ++ num 15 4).length = l.length + 4 := by simp
          refine wl_val rfl (ex_move rfl) ?_
          refine wl_val rfl (ex_convU rfl Tryd.underlying2 Tryd.underlying72) ?_
          refine wl_call1 (vs := [_, _, _]) Tryd.goes42 rfl (number_ok hO1 (u64 e) 64 (by omega) (u64_lt _) (by omega)) rfl ?_
          rintro _ w91 ⟨a2, m2, c2, ob2, rfl, hO2, hw92, hob2⟩
          have hob3 := ob_trans hob1 hE90 hob2
          have hE93 := hE90.step hw92 (ob_mem hob1)
          refine wl_val rfl (ex_assign rfl) ?_
          refine wl_nil (nrm_then ?_)
          refine cw_ret (body_ret1 rfl rfl ?_)
          refine ⟨a2, m2, c2, ob2, rfl, ?_, hE93, hob3⟩
          rw [List.append_assoc] at hO2
          have hh : tbits e = num 15 4 ++ num (u64 e) 64 := by
            unfold tbits
            repeat' split
            all_goals first | rfl | omega
          rw [hh]
          exact hO2

theorem zeros_ok {w : World} (x : Nat) (hx : x < 18446744073709551616) (h0 : x ≠ 0) :
    Calls Tryd.prog 55 #[.int .u64 x] w (Ret fun r w' => r = .tuple #[.int .i64 (lz x), .int .i64 (tz x)] ∧ Evo [] w w') := by
  have hl := lz_bit h0 hx
  have ht := tz_bit h0 hx
  have hl3 := (lz_spec h0 hx).1
  have ht3 := (tz_spec h0 hx).1
  refine calls_of_cw (N := 23) Tryd.func55 rfl rfl rfl ?_
  refine cw_seq ?_
  refine cw_region ?_
  refine wl_val rfl (ex_assign rfl) ?_
  refine wl_val rfl (ex_assign rfl) ?_
  refine wl_nil (nrm_then ?_)
  refine cw_seq ?_
  refine cw_region ?_
  refine wl_val rfl (ex_assign rfl) ?_
  refine wl_val rfl (ex_assign rfl) ?_
  refine wl_nil (nrm_then ?_)
  refine cw_seq ?_
  refine cw_block ?_
  refine cw_loop (α := Nat) (0) (fun k => [(4, .int .i64 (k : Nat))]) [(0, _), (2, _), (3, _), (5, _)] (fun k wr => Evo [] w wr ∧ (k ≤ lz x)) (fun k => lz x - k) ⟨rfl, trivial⟩ ⟨rfl, rfl, rfl, rfl, trivial⟩ ⟨Evo.refl _ _, Nat.zero_le _⟩ ?_
  rintro k wr1 ⟨hV2, hk⟩
  show CW _ _ _ _ [(4, _), (0, _), (2, _), (3, _), (5, _)] _
  have hE3 := (Evo.refl [] w).then hV2
  refine cw_seq ?_
  refine cw_seq ?_
  refine cw_region ?_
  refine wl_val rfl (ex_move rfl) ?_
  refine wl_val rfl (ex_move rfl) ?_
  refine wl_val rfl (ex_sub_i64 rfl rfl (by omega) (by omega)) ?_
  refine wl_val rfl (ex_shrN (m := x) (n := 63 - k) rfl rfl (by omega) (by omega) (by first | exact Nat.le_of_ble_eq_true rfl | (simp only [IntKind.bits]; omega))) ?_
  refine wl_val rfl (ex_andN (m := x / 2 ^ (63 - k)) (n := 1) rfl rfl (by omega) (by omega) rfl (Nat.lt_of_le_of_lt (Nat.div_le_self _ _) hx) (by decide)) ?_
  rw [bit_and]
  refine wl_val rfl (ex_eql rfl rfl) ?_
  refine wl_nil (nrm_then ?_)
  refine cw_if rfl (fun hc11 => ?_) (fun hc11 => ?_)
  · skip
    refine cw_skip (nrm_then ?_)
    refine cw_block ?_
    refine cw_region ?_
    refine wl_val rfl (ex_move rfl) ?_
    refine wl_val rfl (ex_add_i64 rfl rfl (by omega) (by omega)) ?_
    refine wl_val rfl (ex_assign rfl) ?_
    refine wl_nil (nrm_block (nrm_same ?_))
    refine ⟨k + 1, ?_, ⟨rfl, trivial⟩, ⟨rfl, rfl, rfl, rfl, trivial⟩, hV2, ?_⟩
    · have : ¬ k = lz x := fun h => (by subst h; rw [hl.1] at hc11; simp at hc11); omega
    · skip
      have : ¬ k = lz x := fun h => (by subst h; rw [hl.1] at hc11; simp at hc11)
      omega
  · skip
    refine cw_exit (ex_then (ex_then (ex_here (nrm_then ?_))))
    refine cw_seq ?_
    refine cw_block ?_
    refine cw_loop (α := Nat) (0) (fun j => [(5, .int .i64 (j : Nat))]) [(0, _), (2, _), (3, _), (4, _)] (fun j wr => Evo [] wr1 wr ∧ (j ≤ tz x)) (fun j => tz x - j) ⟨rfl, trivial⟩ ⟨rfl, rfl, rfl, rfl, trivial⟩ ⟨Evo.refl _ _, Nat.zero_le _⟩ ?_
    rintro j wr4 ⟨hV5, hj⟩
    show CW _ _ _ _ [(5, _), (0, _), (2, _), (3, _), (4, _)] _
    have hE6 := hE3.then hV5
    have hE7 := hV2.then hV5
    refine cw_seq ?_
    refine cw_seq ?_
    refine cw_region ?_
    refine wl_val rfl (ex_move rfl) ?_
    refine wl_val rfl (ex_move rfl) ?_
    refine wl_val rfl (ex_shrN (m := x) (n := j) rfl rfl (by omega) (by omega) (by first | exact Nat.le_of_ble_eq_true rfl | (simp only [IntKind.bits]; omega))) ?_
    refine wl_val rfl (ex_andN (m := x / 2 ^ j) (n := 1) rfl rfl (by omega) (by omega) rfl (Nat.lt_of_le_of_lt (Nat.div_le_self _ _) hx) (by decide)) ?_
    rw [bit_and]
    refine wl_val rfl (ex_eql rfl rfl) ?_
    refine wl_nil (nrm_then ?_)
    refine cw_if rfl (fun hc18 => ?_) (fun hc18 => ?_)
    · skip
      refine cw_skip (nrm_then ?_)
      refine cw_block ?_
      refine cw_region ?_
      refine wl_val rfl (ex_move rfl) ?_
      refine wl_val rfl (ex_add_i64 rfl rfl (by omega) (by omega)) ?_
      refine wl_val rfl (ex_assign rfl) ?_
      refine wl_nil (nrm_block (nrm_same ?_))
      refine ⟨j + 1, ?_, ⟨rfl, trivial⟩, ⟨rfl, rfl, rfl, rfl, trivial⟩, hV5, ?_⟩
      · have : ¬ j = tz x := fun h => (by subst h; rw [ht.1] at hc18; simp at hc18); omega
      · skip
        have : ¬ j = tz x := fun h => (by subst h; rw [ht.1] at hc18; simp at hc18)
        omega
    · skip
      refine cw_exit (ex_then (ex_then (ex_here (nrm_then ?_))))
      refine cw_seq ?_
      refine cw_region ?_
      refine wl_val rfl (ex_move rfl) ?_
      refine wl_val rfl (ex_move rfl) ?_
      refine wl_val rfl (ex_assign rfl) ?_
      refine wl_val rfl (ex_assign rfl) ?_
      refine wl_nil (nrm_then ?_)
      refine cw_ret (body_ret2 rfl rfl rfl ?_)
      have e1 : k = lz x := Nat.le_antisymm hk (Nat.le_of_not_lt fun h => by rw [hl.2 k h] at hc11; simp at hc11)
      have e2 : j = tz x := Nat.le_antisymm hj (Nat.le_of_not_lt fun h => by rw [ht.2 j h] at hc18; simp at hc18)
      subst e1 e2
      exact ⟨rfl, hE6⟩


theorem ap_ob {w : World} {o ob ob1 : Option Nat} (h : Apart o ob) (hl : Lt w o) (hob : ob1 = ob ∨ Ge w ob1) : Apart o ob1 := by
  rcases hob with h1 | h1
  · subst h1; exact h
  · exact Apart.fresh hl h1
theorem ge_ob {X : List Nat} {a w : World} {ob ob1 : Option Nat} (h : Ge a ob) (he : Evo X a w) (hob : ob1 = ob ∨ Ge w ob1) : Ge a ob1 := by
  rcases hob with h1 | h1
  · subst h1; exact h
  · exact Ge.fresh he h1
abbrev fv (f : Frm) : Value := .agg #[.bool f.is, .int .i64 f.l, .int .i64 f.r]

theorem value_ok {w : World} {l : List Bool} {a : Option Addr} {m c : Nat} {ob : Option Nat} (h : OwnS w 5 1 a m c (l.map bb) ob) (x : Nat) (hx : x < 18446744073709551616) (f : Frm) (hf : f.l + f.r ≤ 64) (hl : l.length ≤ 1000000000000) :
    Calls Tryd.prog 45 #[.slice a m c, .int .u64 x, fv f] w (Ret fun r w' => ∃ a' m' c' ob', r = .tuple #[.slice a' m' c', fv (vbits x f).2] ∧ OwnS w' 5 1 a' m' c' ((l ++ (vbits x f).1).map bb) ob' ∧ Evo ob.toList w w' ∧ (ob' = ob ∨ Ge w ob')) := by
  refine calls_of_cw (N := 72) Tryd.func45 rfl rfl rfl ?_
  refine cw_seq ?_
  refine cw_region ?_
  refine wl_boxA rfl rfl fun b1 w2 hB3 hs4 hw5 => ?_
  have hA6 := Apart.new (Lt.own h) hs4
  have hG7 := Ge.new (Evo.refl ob.toList w) hs4
  have hE8 := (Evo.refl ob.toList w).then hw5
  have hO9 := h.evo0 hw5
  refine wl_val rfl (ex_assign rfl) ?_
  refine wl_alloc rfl Tryd.zero92 fun b10 w11 hB12 hs13 hw14 => ?_
  have hA15 := Apart.new (Lt.own hO9) hs13
  have hA16 := Apart.new (Lt.blk hB3) hs13
  have hG17 := Ge.new hE8 hs13
  have hE18 := hE8.then hw14
  have hO19 := hO9.evo0 hw14
  have hB20 := hw14.blk0 hB3
  refine wl_nil (nrm_then ?_)
  refine cw_seq ?_
  refine cw_seq ?_
  refine cw_region ?_
  refine wl_val rfl (ex_move rfl) ?_
  refine wl_val rfl (ex_eql rfl rfl) ?_
  refine wl_nil (nrm_then ?_)
  refine cw_if rfl (fun hc11 => ?_) (fun hc11 => ?_)
  · skip
    refine cw_seq ?_
    refine cw_any (fun w0 w' => Evo ob.toList w0 w') (by kernel_rfl) (fun w21 hw22 => ?_)
    have hE23 := hE18.then hw22
    have hO24 := hO19.evo0 hw22
    have hB25 := hw22.blk0 hB20
    have hB26 := hw22.blk0 hB12
    refine ae_take 0 rfl (by kernel_rfl) (by kernel_rfl) (by kernel_rfl) rfl (fun _ hS => ex_move rfl) (Evo.refl ob.toList w21) ?_
    refine ae_take 2 rfl (by kernel_rfl) (by kernel_rfl) (by kernel_rfl) rfl (fun _ hS => ex_loadBlk rfl Tryd.agg92 Tryd.size92 (hS.blk hB25 (hA6.symm.nmem)) rfl) (Evo.refl ob.toList w21) ?_
    refine ae_loud [1] (by kernel_rfl) rfl ⟨?_, trivial⟩
    refine a_step rfl ?_
    refine wl_call1 (vs := [_, _, _]) Tryd.goes42 rfl (number_ok hO24 0 1 (by omega) (by omega) (by first | omega | (simp only [List.length_append, num_length]; omega))) rfl ?_
    rintro _ w27 ⟨a1, m1, c1, ob1, rfl, hO1, hw28, hb1⟩
    have hob1 := ob_trans (.inl rfl) hE23 hb1
    have hA29 := ap_ob hA6.symm (Lt.blk hB25) hb1
    have hA30 := ap_ob hA15.symm (Lt.blk hB26) hb1
    have hE31 := hE23.step hw28 (fun y hy => .inl hy)
    have hE32 := (Evo.refl ob.toList w21).step hw28 (fun y hy => .inl hy)
    have hB33 := hw28.blk hB25 hA6.symm.nmem
    have hB34 := hw28.blk hB26 hA15.symm.nmem
    refine wl_nil (ae_next (.inl hE32) ?_)
    refine ae_take 3 rfl (by kernel_rfl) (by kernel_rfl) (by kernel_rfl) rfl (fun _ hS => ex_assign rfl) hE32 ?_
    refine ae_loud [4] (by kernel_rfl) rfl ⟨?_, trivial⟩
    refine a_step rfl ?_
    refine wl_storeBlk rfl rfl Tryd.size92 hB34 rfl rfl ⟨by first | rfl | assumption, by first | rfl | assumption, by first | rfl | assumption, trivial⟩ fun w35 hB36 hw37 => ?_
    have hE38 := hE31.step hw37 hG17.mem1
    have hB40 := hw37.blk hB33 hA16.nmem1
    have hO41 := hO1.evo hw37 hA30.symm.own1
    refine wl_nil (ae_next (.inr (by kernel_rfl)) ?_)
    refine ae_done (by kernel_rfl) (nrm_then ?_)
    refine cw_ret (ret_then (body_retC2 rfl (ResOk.tmp rfl) (ResOk.cellA rfl Tryd.agg92 Tryd.size92 hB36 rfl) ?_))
    refine ⟨a1, m1, c1, ob1, ?_, ?_, hE38, hob1⟩
    · rw [vbits, if_pos (by omega)]
    · rw [vbits, if_pos (by omega)]; exact hO41
  · skip
    have h0 : x ≠ 0 := by omega
    refine cw_skip (nrm_then ?_)
    refine cw_seq ?_
    refine cw_region ?_
    refine wl_val rfl (ex_move rfl) ?_
    refine wl_call1 (vs := [_]) Tryd.goes55 rfl (zeros_ok x hx h0) rfl ?_
    rintro _ w42 ⟨rfl, hw43⟩
    have hE44 := hE18.then hw43
    have hO45 := hO19.evo0 hw43
    have hB46 := hw43.blk0 hB20
    have hB47 := hw43.blk0 hB12
    have hlt := lz_tz h0 hx
    refine wl_val rfl (ex_move rfl) ?_
    refine wl_val rfl (ex_extract rfl rfl) ?_
    refine wl_val rfl (ex_extract rfl rfl) ?_
    refine wl_val rfl (ex_assign rfl) ?_
    refine wl_val rfl (ex_assign rfl) ?_
    refine wl_nil (nrm_then ?_)
    refine cw_seq ?_
    refine cw_seq ?_
    refine cw_region ?_
    refine wl_val rfl (ex_fieldAddr rfl Tryd.fld92_0) ?_
    refine wl_val rfl (ex_load1 rfl Tryd.agg4 (cell_nth hB46 rfl)) ?_
    refine wl_val rfl (ex_move rfl) ?_
    refine wl_splitb (t := 22) rfl (fun hs22 => ?_) (fun hs22 => ?_)
    · skip
      refine wl_go rfl rfl rfl rfl ?_
      refine wl_val rfl (ex_fieldAddr rfl Tryd.fld92_1) ?_
      refine wl_go rfl rfl rfl rfl ?_
      refine wl_val rfl (ex_load1 rfl Tryd.agg3 (cell_nth hB46 rfl)) ?_
      refine wl_go rfl rfl rfl rfl ?_
      refine wl_val rfl (ex_move rfl) ?_
      refine wl_go rfl rfl rfl rfl ?_
      refine wl_val rfl (ex_leq rfl rfl) ?_
      refine wl_val rfl (ex_pick_t rfl rfl) ?_
      refine wl_val rfl (ex_move rfl) ?_
      refine wl_split (t := 28) rfl (fun hs28 => ?_) (fun hs28 => ?_)
      · skip
        refine wl_go rfl rfl rfl rfl ?_
        refine wl_val rfl (ex_fieldAddr rfl Tryd.fld92_2) ?_
        refine wl_go rfl rfl rfl rfl ?_
        refine wl_val rfl (ex_load1 rfl Tryd.agg3 (cell_nth hB46 rfl)) ?_
        refine wl_go rfl rfl rfl rfl ?_
        refine wl_val rfl (ex_move rfl) ?_
        refine wl_go rfl rfl rfl rfl ?_
        refine wl_val rfl (ex_leq rfl rfl) ?_
        refine wl_val rfl (ex_pick_t rfl rfl) ?_
        refine wl_nil (nrm_then ?_)
        refine cw_if rfl (fun hc33 => ?_) (fun hc33 => ?_)
        · skip
          have hff : f.l ≤ lz x ∧ f.r ≤ tz x := by omega
          refine cw_seq ?_
          refine cw_region ?_
          refine wl_val rfl (ex_move rfl) ?_
          refine wl_call1 (vs := [_, _, _]) Tryd.goes42 rfl (number_ok hO45 2 2 (by omega) (by omega) (by first | omega | (simp only [List.length_append, num_length]; omega))) rfl ?_
          rintro _ w48 ⟨a1, m1, c1, ob1, rfl, hO1, hw49, hb1⟩
          have hob1 := ob_trans (.inl rfl) hE44 hb1
          have hA50 := ap_ob hA6.symm (Lt.blk hB46) hb1
          have hA51 := ap_ob hA15.symm (Lt.blk hB47) hb1
          have hE52 := hE44.step hw49 (fun y hy => .inl hy)
          have hB53 := hw49.blk hB46 hA6.symm.nmem
          have hB54 := hw49.blk hB47 hA15.symm.nmem
          refine wl_val rfl (ex_assign rfl) ?_
          refine wl_nil (nrm_then ?_)
          refine cw_seq ?_
          refine cw_any (fun w0 w' => Evo ob1.toList w0 w') (by kernel_rfl) (fun w55 hw56 => ?_)
          have hE57 := hE52.then hw56
          have hB58 := hw56.blk0 hB53
          have hB59 := hw56.blk0 hB54
          have hO60 := hO1.evo0 hw56
          refine ae_take 0 rfl (by kernel_rfl) (by kernel_rfl) (by kernel_rfl) rfl (fun _ hS => ex_move rfl) (Evo.refl ob1.toList w55) ?_
          refine ae_take 1 rfl (by kernel_rfl) (by kernel_rfl) (by kernel_rfl) rfl (fun _ hS => ex_move rfl) (Evo.refl ob1.toList w55) ?_
          refine ae_take 2 rfl (by kernel_rfl) (by kernel_rfl) (by kernel_rfl) rfl (fun _ hS => ex_fieldAddr rfl Tryd.fld92_2) (Evo.refl ob1.toList w55) ?_
          refine ae_take 3 rfl (by kernel_rfl) (by kernel_rfl) (by kernel_rfl) rfl (fun _ hS => ex_load1 rfl Tryd.agg3 (cell_nth (hS.blk hB58 (hA50.nmem)) rfl)) (Evo.refl ob1.toList w55) ?_
          refine ae_take 4 rfl (by kernel_rfl) (by kernel_rfl) (by kernel_rfl) rfl (fun _ hS => ex_shrN (m := x) (n := f.r) rfl rfl (by omega) (by omega) (by first | exact Nat.le_of_ble_eq_true rfl | (simp only [IntKind.bits]; omega))) (Evo.refl ob1.toList w55) ?_
          refine ae_take 5 rfl (by kernel_rfl) (by kernel_rfl) (by kernel_rfl) rfl (fun _ hS => ex_fieldAddr rfl Tryd.fld92_1) (Evo.refl ob1.toList w55) ?_
          refine ae_take 6 rfl (by kernel_rfl) (by kernel_rfl) (by kernel_rfl) rfl (fun _ hS => ex_load1 rfl Tryd.agg3 (cell_nth (hS.blk hB58 (hA50.nmem)) rfl)) (Evo.refl ob1.toList w55) ?_
          refine ae_take 7 rfl (by kernel_rfl) (by kernel_rfl) (by kernel_rfl) rfl (fun _ hS => ex_sub_i64 rfl rfl (by omega) (by omega)) (Evo.refl ob1.toList w55) ?_
          refine ae_take 8 rfl (by kernel_rfl) (by kernel_rfl) (by kernel_rfl) rfl (fun _ hS => ex_fieldAddr rfl Tryd.fld92_2) (Evo.refl ob1.toList w55) ?_
          refine ae_take 9 rfl (by kernel_rfl) (by kernel_rfl) (by kernel_rfl) rfl (fun _ hS => ex_load1 rfl Tryd.agg3 (cell_nth (hS.blk hB58 (hA50.nmem)) rfl)) (Evo.refl ob1.toList w55) ?_
          refine ae_take 10 rfl (by kernel_rfl) (by kernel_rfl) (by kernel_rfl) rfl (fun _ hS => ex_sub_i64 rfl rfl (by omega) (by omega)) (Evo.refl ob1.toList w55) ?_
          rw [show ((64 : Int) - (f.l : Nat) - (f.r : Nat)) = ((64 - f.l - f.r : Nat) : Int) by omega]
          refine ae_take 12 rfl (by kernel_rfl) (by kernel_rfl) (by kernel_rfl) rfl (fun _ hS => ex_loadBlk rfl Tryd.agg92 Tryd.size92 (hS.blk hB58 (hA50.nmem)) rfl) (Evo.refl ob1.toList w55) ?_
          refine ae_loud [11] (by kernel_rfl) rfl ⟨?_, trivial⟩
          refine a_step rfl ?_
          refine wl_call1 (vs := [_, _, _]) Tryd.goes42 rfl (number_ok hO60 (x / 2 ^ f.r) (64 - f.l - f.r) (by omega) (Nat.lt_of_le_of_lt (Nat.div_le_self _ _) hx) (by first | omega | (simp only [List.length_append, num_length]; omega))) rfl ?_
          rintro _ w61 ⟨a2, m2, c2, ob2, rfl, hO2, hw62, hb2⟩
          have hob2 := ob_trans hob1 hE57 hb2
          have hA63 := ap_ob hA50 (Lt.blk hB58) hb2
          have hA64 := ap_ob hA51 (Lt.blk hB59) hb2
          have hE65 := hE57.step hw62 (ob_mem hob1)
          have hE66 := (Evo.refl ob1.toList w55).step hw62 (fun y hy => .inl hy)
          have hB67 := hw62.blk hB58 hA50.nmem
          have hB68 := hw62.blk hB59 hA51.nmem
          refine wl_nil (ae_next (.inl hE66) ?_)
          refine ae_take 13 rfl (by kernel_rfl) (by kernel_rfl) (by kernel_rfl) rfl (fun _ hS => ex_assign rfl) hE66 ?_
          refine ae_loud [14] (by kernel_rfl) rfl ⟨?_, trivial⟩
          refine a_step rfl ?_
          refine wl_storeBlk rfl rfl Tryd.size92 hB68 rfl rfl ⟨by first | rfl | assumption, by first | rfl | assumption, by first | rfl | assumption, trivial⟩ fun w69 hB70 hw71 => ?_
          have hE72 := hE65.step hw71 hG17.mem1
          have hB74 := hw71.blk hB67 hA16.nmem1
          have hO75 := hO2.evo hw71 hA64.symm.own1
          refine wl_nil (ae_next (.inr (by kernel_rfl)) ?_)
          refine ae_done (by kernel_rfl) (nrm_then ?_)
          refine cw_ret (ret_then (body_retC2 rfl (ResOk.tmp rfl) (ResOk.cellA rfl Tryd.agg92 Tryd.size92 hB70 rfl) ?_))
          refine ⟨a2, m2, c2, ob2, ?_, ?_, hE72, hob2⟩
          · rw [vbits, if_neg h0, if_pos ⟨hs22, hff⟩]
          · rw [vbits, if_neg h0, if_pos ⟨hs22, hff⟩, ← List.append_assoc]; exact hO75
        · skip
          refine cw_skip (nrm_then ?_)
          refine cw_seq ?_
          refine cw_region ?_
          refine wl_val rfl (ex_move rfl) ?_
          refine wl_call1 (vs := [_, _, _]) Tryd.goes42 rfl (number_ok hO45 6 3 (by omega) (by omega) (by first | omega | (simp only [List.length_append, num_length]; omega))) rfl ?_
          rintro _ w76 ⟨a1, m1, c1, ob1, rfl, hO1, hw77, hb1⟩
          have hob1 := ob_trans (.inl rfl) hE44 hb1
          have hA78 := ap_ob hA6.symm (Lt.blk hB46) hb1
          have hA79 := ap_ob hA15.symm (Lt.blk hB47) hb1
          have hE80 := hE44.step hw77 (fun y hy => .inl hy)
          have hB81 := hw77.blk hB46 hA6.symm.nmem
          have hB82 := hw77.blk hB47 hA15.symm.nmem
          refine wl_val rfl (ex_move rfl) ?_
          refine wl_val rfl (ex_convU rfl Tryd.underlying3 Tryd.underlying72) ?_
          rw [u64_of (show lz x < 18446744073709551616 by omega)]
          refine wl_call1 (vs := [_, _, _]) Tryd.goes42 rfl (number_ok hO1 (lz x) 6 (by omega) (by omega) (by first | omega | (simp only [List.length_append, num_length]; omega))) rfl ?_
          rintro _ w83 ⟨a2, m2, c2, ob2, rfl, hO2, hw84, hb2⟩
          have hob2 := ob_trans hob1 hE80 hb2
          have hA85 := ap_ob hA78 (Lt.blk hB81) hb2
          have hA86 := ap_ob hA79 (Lt.blk hB82) hb2
          have hE87 := hE80.step hw84 (ob_mem hob1)
          have hB88 := hw84.blk hB81 hA78.nmem
          have hB89 := hw84.blk hB82 hA79.nmem
          refine wl_val rfl (ex_move rfl) ?_
          refine wl_val rfl (ex_sub_i64 rfl rfl (by omega) (by omega)) ?_
          refine wl_val rfl (ex_move rfl) ?_
          refine wl_val rfl (ex_sub_i64 rfl rfl (by omega) (by omega)) ?_
          refine wl_val rfl (ex_convU rfl Tryd.underlying3 Tryd.underlying72) ?_
          rw [show u64 ((63 : Int) - (lz x : Nat) - (tz x : Nat)) = 63 - lz x - tz x by unfold u64; omega]
          refine wl_call1 (vs := [_, _, _]) Tryd.goes42 rfl (number_ok hO2 (63 - lz x - tz x) 6 (by omega) (by omega) (by first | omega | (simp only [List.length_append, num_length]; omega))) rfl ?_
          rintro _ w90 ⟨a3, m3, c3, ob3, rfl, hO3, hw91, hb3⟩
          have hob3 := ob_trans hob2 hE87 hb3
          have hA92 := ap_ob hA85 (Lt.blk hB88) hb3
          have hA93 := ap_ob hA86 (Lt.blk hB89) hb3
          have hE94 := hE87.step hw91 (ob_mem hob2)
          have hB95 := hw91.blk hB88 hA85.nmem
          have hB96 := hw91.blk hB89 hA86.nmem
          refine wl_val rfl (ex_assign rfl) ?_
          refine wl_nil (nrm_then ?_)
          refine cw_seq ?_
          refine cw_region ?_
          refine wl_val rfl (ex_move rfl) ?_
          refine wl_val rfl (ex_move rfl) ?_
          refine wl_val rfl (ex_move rfl) ?_
          refine wl_val rfl (ex_shrN (m := x) (n := tz x) rfl rfl (by omega) (by omega) (by first | exact Nat.le_of_ble_eq_true rfl | (simp only [IntKind.bits]; omega))) ?_
          refine wl_val rfl (ex_move rfl) ?_
          refine wl_val rfl (ex_sub_i64 rfl rfl (by omega) (by omega)) ?_
          refine wl_val rfl (ex_move rfl) ?_
          refine wl_val rfl (ex_sub_i64 rfl rfl (by omega) (by omega)) ?_
          rw [show ((64 : Int) - (lz x : Nat) - (tz x : Nat)) = ((64 - lz x - tz x : Nat) : Int) by omega]
          refine wl_call1 (vs := [_, _, _]) Tryd.goes42 rfl (number_ok hO3 (x / 2 ^ tz x) (64 - lz x - tz x) (by omega) (Nat.lt_of_le_of_lt (Nat.div_le_self _ _) hx) (by first | omega | (simp only [List.length_append, num_length]; omega))) rfl ?_
          rintro _ w97 ⟨a4, m4, c4, ob4, rfl, hO4, hw98, hb4⟩
          have hob4 := ob_trans hob3 hE94 hb4
          have hA99 := ap_ob hA93 (Lt.blk hB96) hb4
          have hE100 := hE94.step hw98 (ob_mem hob3)
          have hB101 := hw98.blk hB96 hA93.nmem
          refine wl_val rfl (ex_move rfl) ?_
          refine wl_val rfl (ex_move rfl) ?_
          refine wl_val rfl (ex_build (vs := [(0, _), (1, _), (2, _)]) Tryd.build92 rfl (cells := [_, _, _]) rfl) ?_
          refine wl_val rfl (ex_assign rfl) ?_
          refine wl_storeBlk rfl rfl Tryd.size92 hB101 rfl rfl ⟨by first | rfl | assumption, by first | rfl | assumption, by first | rfl | assumption, trivial⟩ fun w102 hB103 hw104 => ?_
          have hE105 := hE100.step hw104 hG17.mem1
          have hO106 := hO4.evo hw104 hA99.symm.own1
          refine wl_nil (nrm_then ?_)
          refine cw_ret (body_retC2 rfl (ResOk.tmp rfl) (ResOk.cellA rfl Tryd.agg92 Tryd.size92 hB103 rfl) ?_)
          have hn : ¬ (f.is = true ∧ f.l ≤ lz x ∧ f.r ≤ tz x) := fun ⟨h1, h2, h3⟩ => by first | omega | (rw [h1] at hs22; cases hs22)
          refine ⟨a4, m4, c4, ob4, ?_, ?_, hE105, hob4⟩
          · rw [vbits, if_neg h0, if_neg hn]; rfl
          · rw [vbits, if_neg h0, if_neg hn, ← List.append_assoc, ← List.append_assoc, ← List.append_assoc]; exact hO106
      · skip
        refine wl_no rfl rfl rfl rfl rfl rfl ?_
        refine wl_no rfl rfl rfl rfl rfl rfl ?_
        refine wl_no rfl rfl rfl rfl rfl rfl ?_
        refine wl_no rfl rfl rfl rfl rfl rfl ?_
        refine wl_val rfl (ex_pick_f rfl rfl) ?_
        refine wl_nil (nrm_then ?_)
        refine cw_false rfl ?_
        refine cw_skip (nrm_then ?_)
        refine cw_seq ?_
        refine cw_region ?_
        refine wl_val rfl (ex_move rfl) ?_
        refine wl_call1 (vs := [_, _, _]) Tryd.goes42 rfl (number_ok hO45 6 3 (by omega) (by omega) (by first | omega | (simp only [List.length_append, num_length]; omega))) rfl ?_
        rintro _ w107 ⟨a1, m1, c1, ob1, rfl, hO1, hw108, hb1⟩
        have hob1 := ob_trans (.inl rfl) hE44 hb1
        have hA109 := ap_ob hA6.symm (Lt.blk hB46) hb1
        have hA110 := ap_ob hA15.symm (Lt.blk hB47) hb1
        have hE111 := hE44.step hw108 (fun y hy => .inl hy)
        have hB112 := hw108.blk hB46 hA6.symm.nmem
        have hB113 := hw108.blk hB47 hA15.symm.nmem
        refine wl_val rfl (ex_move rfl) ?_
        refine wl_val rfl (ex_convU rfl Tryd.underlying3 Tryd.underlying72) ?_
        rw [u64_of (show lz x < 18446744073709551616 by omega)]
        refine wl_call1 (vs := [_, _, _]) Tryd.goes42 rfl (number_ok hO1 (lz x) 6 (by omega) (by omega) (by first | omega | (simp only [List.length_append, num_length]; omega))) rfl ?_
        rintro _ w114 ⟨a2, m2, c2, ob2, rfl, hO2, hw115, hb2⟩
        have hob2 := ob_trans hob1 hE111 hb2
        have hA116 := ap_ob hA109 (Lt.blk hB112) hb2
        have hA117 := ap_ob hA110 (Lt.blk hB113) hb2
        have hE118 := hE111.step hw115 (ob_mem hob1)
        have hB119 := hw115.blk hB112 hA109.nmem
        have hB120 := hw115.blk hB113 hA110.nmem
        refine wl_val rfl (ex_move rfl) ?_
        refine wl_val rfl (ex_sub_i64 rfl rfl (by omega) (by omega)) ?_
        refine wl_val rfl (ex_move rfl) ?_
        refine wl_val rfl (ex_sub_i64 rfl rfl (by omega) (by omega)) ?_
        refine wl_val rfl (ex_convU rfl Tryd.underlying3 Tryd.underlying72) ?_
        rw [show u64 ((63 : Int) - (lz x : Nat) - (tz x : Nat)) = 63 - lz x - tz x by unfold u64; omega]
        refine wl_call1 (vs := [_, _, _]) Tryd.goes42 rfl (number_ok hO2 (63 - lz x - tz x) 6 (by omega) (by omega) (by first | omega | (simp only [List.length_append, num_length]; omega))) rfl ?_
        rintro _ w121 ⟨a3, m3, c3, ob3, rfl, hO3, hw122, hb3⟩
        have hob3 := ob_trans hob2 hE118 hb3
        have hA123 := ap_ob hA116 (Lt.blk hB119) hb3
        have hA124 := ap_ob hA117 (Lt.blk hB120) hb3
        have hE125 := hE118.step hw122 (ob_mem hob2)
        have hB126 := hw122.blk hB119 hA116.nmem
        have hB127 := hw122.blk hB120 hA117.nmem
        refine wl_val rfl (ex_assign rfl) ?_
        refine wl_nil (nrm_then ?_)
        refine cw_seq ?_
        refine cw_region ?_
        refine wl_val rfl (ex_move rfl) ?_
        refine wl_val rfl (ex_move rfl) ?_
        refine wl_val rfl (ex_move rfl) ?_
        refine wl_val rfl (ex_shrN (m := x) (n := tz x) rfl rfl (by omega) (by omega) (by first | exact Nat.le_of_ble_eq_true rfl | (simp only [IntKind.bits]; omega))) ?_
        refine wl_val rfl (ex_move rfl) ?_
        refine wl_val rfl (ex_sub_i64 rfl rfl (by omega) (by omega)) ?_
        refine wl_val rfl (ex_move rfl) ?_
        refine wl_val rfl (ex_sub_i64 rfl rfl (by omega) (by omega)) ?_
        rw [show ((64 : Int) - (lz x : Nat) - (tz x : Nat)) = ((64 - lz x - tz x : Nat) : Int) by omega]
        refine wl_call1 (vs := [_, _, _]) Tryd.goes42 rfl (number_ok hO3 (x / 2 ^ tz x) (64 - lz x - tz x) (by omega) (Nat.lt_of_le_of_lt (Nat.div_le_self _ _) hx) (by first | omega | (simp only [List.length_append, num_length]; omega))) rfl ?_
        rintro _ w128 ⟨a4, m4, c4, ob4, rfl, hO4, hw129, hb4⟩
        have hob4 := ob_trans hob3 hE125 hb4
        have hA130 := ap_ob hA124 (Lt.blk hB127) hb4
        have hE131 := hE125.step hw129 (ob_mem hob3)
        have hB132 := hw129.blk hB127 hA124.nmem
        refine wl_val rfl (ex_move rfl) ?_
        refine wl_val rfl (ex_move rfl) ?_
        refine wl_val rfl (ex_build (vs := [(0, _), (1, _), (2, _)]) Tryd.build92 rfl (cells := [_, _, _]) rfl) ?_
        refine wl_val rfl (ex_assign rfl) ?_
        refine wl_storeBlk rfl rfl Tryd.size92 hB132 rfl rfl ⟨by first | rfl | assumption, by first | rfl | assumption, by first | rfl | assumption, trivial⟩ fun w133 hB134 hw135 => ?_
        have hE136 := hE131.step hw135 hG17.mem1
        have hO137 := hO4.evo hw135 hA130.symm.own1
        refine wl_nil (nrm_then ?_)
        refine cw_ret (body_retC2 rfl (ResOk.tmp rfl) (ResOk.cellA rfl Tryd.agg92 Tryd.size92 hB134 rfl) ?_)
        have hn : ¬ (f.is = true ∧ f.l ≤ lz x ∧ f.r ≤ tz x) := fun ⟨h1, h2, h3⟩ => by first | omega | (rw [h1] at hs22; cases hs22)
        refine ⟨a4, m4, c4, ob4, ?_, ?_, hE136, hob4⟩
        · rw [vbits, if_neg h0, if_neg hn]; rfl
        · rw [vbits, if_neg h0, if_neg hn, ← List.append_assoc, ← List.append_assoc, ← List.append_assoc]; exact hO137
    · skip
      refine wl_no rfl rfl rfl rfl rfl rfl ?_
      refine wl_no rfl rfl rfl rfl rfl rfl ?_
      refine wl_no rfl rfl rfl rfl rfl rfl ?_
      refine wl_no rfl rfl rfl rfl rfl rfl ?_
      refine wl_val rfl (ex_pick_f rfl rfl) ?_
      refine wl_val rfl (ex_move rfl) ?_
      refine wl_no rfl rfl rfl rfl rfl rfl ?_
      refine wl_no rfl rfl rfl rfl rfl rfl ?_
      refine wl_no rfl rfl rfl rfl rfl rfl ?_
      refine wl_no rfl rfl rfl rfl rfl rfl ?_
      refine wl_val rfl (ex_pick_f rfl rfl) ?_
      refine wl_nil (nrm_then ?_)
      refine cw_false rfl ?_
      refine cw_skip (nrm_then ?_)
      refine cw_seq ?_
      refine cw_region ?_
      refine wl_val rfl (ex_move rfl) ?_
      refine wl_call1 (vs := [_, _, _]) Tryd.goes42 rfl (number_ok hO45 6 3 (by omega) (by omega) (by first | omega | (simp only [List.length_append, num_length]; omega))) rfl ?_
      rintro _ w138 ⟨a1, m1, c1, ob1, rfl, hO1, hw139, hb1⟩
      have hob1 := ob_trans (.inl rfl) hE44 hb1
      have hA140 := ap_ob hA6.symm (Lt.blk hB46) hb1
      have hA141 := ap_ob hA15.symm (Lt.blk hB47) hb1
      have hE142 := hE44.step hw139 (fun y hy => .inl hy)
      have hB143 := hw139.blk hB46 hA6.symm.nmem
      have hB144 := hw139.blk hB47 hA15.symm.nmem
      refine wl_val rfl (ex_move rfl) ?_
      refine wl_val rfl (ex_convU rfl Tryd.underlying3 Tryd.underlying72) ?_
      rw [u64_of (show lz x < 18446744073709551616 by omega)]
      refine wl_call1 (vs := [_, _, _]) Tryd.goes42 rfl (number_ok hO1 (lz x) 6 (by omega) (by omega) (by first | omega | (simp only [List.length_append, num_length]; omega))) rfl ?_
      rintro _ w145 ⟨a2, m2, c2, ob2, rfl, hO2, hw146, hb2⟩
      have hob2 := ob_trans hob1 hE142 hb2
      have hA147 := ap_ob hA140 (Lt.blk hB143) hb2
      have hA148 := ap_ob hA141 (Lt.blk hB144) hb2
      have hE149 := hE142.step hw146 (ob_mem hob1)
      have hB150 := hw146.blk hB143 hA140.nmem
      have hB151 := hw146.blk hB144 hA141.nmem
      refine wl_val rfl (ex_move rfl) ?_
      refine wl_val rfl (ex_sub_i64 rfl rfl (by omega) (by omega)) ?_
      refine wl_val rfl (ex_move rfl) ?_
      refine wl_val rfl (ex_sub_i64 rfl rfl (by omega) (by omega)) ?_
      refine wl_val rfl (ex_convU rfl Tryd.underlying3 Tryd.underlying72) ?_
      rw [show u64 ((63 : Int) - (lz x : Nat) - (tz x : Nat)) = 63 - lz x - tz x by unfold u64; omega]
      refine wl_call1 (vs := [_, _, _]) Tryd.goes42 rfl (number_ok hO2 (63 - lz x - tz x) 6 (by omega) (by omega) (by first | omega | (simp only [List.length_append, num_length]; omega))) rfl ?_
      rintro _ w152 ⟨a3, m3, c3, ob3, rfl, hO3, hw153, hb3⟩
      have hob3 := ob_trans hob2 hE149 hb3
      have hA154 := ap_ob hA147 (Lt.blk hB150) hb3
      have hA155 := ap_ob hA148 (Lt.blk hB151) hb3
      have hE156 := hE149.step hw153 (ob_mem hob2)
      have hB157 := hw153.blk hB150 hA147.nmem
      have hB158 := hw153.blk hB151 hA148.nmem
      refine wl_val rfl (ex_assign rfl) ?_
      refine wl_nil (nrm_then ?_)
      refine cw_seq ?_
      refine cw_region ?_
      refine wl_val rfl (ex_move rfl) ?_
      refine wl_val rfl (ex_move rfl) ?_
      refine wl_val rfl (ex_move rfl) ?_
      refine wl_val rfl (ex_shrN (m := x) (n := tz x) rfl rfl (by omega) (by omega) (by first | exact Nat.le_of_ble_eq_true rfl | (simp only [IntKind.bits]; omega))) ?_
      refine wl_val rfl (ex_move rfl) ?_
      refine wl_val rfl (ex_sub_i64 rfl rfl (by omega) (by omega)) ?_
      refine wl_val rfl (ex_move rfl) ?_
      refine wl_val rfl (ex_sub_i64 rfl rfl (by omega) (by omega)) ?_
      rw [show ((64 : Int) - (lz x : Nat) - (tz x : Nat)) = ((64 - lz x - tz x : Nat) : Int) by omega]
      refine wl_call1 (vs := [_, _, _]) Tryd.goes42 rfl (number_ok hO3 (x / 2 ^ tz x) (64 - lz x - tz x) (by omega) (Nat.lt_of_le_of_lt (Nat.div_le_self _ _) hx) (by first | omega | (simp only [List.length_append, num_length]; omega))) rfl ?_
      rintro _ w159 ⟨a4, m4, c4, ob4, rfl, hO4, hw160, hb4⟩
      have hob4 := ob_trans hob3 hE156 hb4
      have hA161 := ap_ob hA155 (Lt.blk hB158) hb4
      have hE162 := hE156.step hw160 (ob_mem hob3)
      have hB163 := hw160.blk hB158 hA155.nmem
      refine wl_val rfl (ex_move rfl) ?_
      refine wl_val rfl (ex_move rfl) ?_
      refine wl_val rfl (ex_build (vs := [(0, _), (1, _), (2, _)]) Tryd.build92 rfl (cells := [_, _, _]) rfl) ?_
      refine wl_val rfl (ex_assign rfl) ?_
      refine wl_storeBlk rfl rfl Tryd.size92 hB163 rfl rfl ⟨by first | rfl | assumption, by first | rfl | assumption, by first | rfl | assumption, trivial⟩ fun w164 hB165 hw166 => ?_
      have hE167 := hE162.step hw166 hG17.mem1
      have hO168 := hO4.evo hw166 hA161.symm.own1
      refine wl_nil (nrm_then ?_)
      refine cw_ret (body_retC2 rfl (ResOk.tmp rfl) (ResOk.cellA rfl Tryd.agg92 Tryd.size92 hB165 rfl) ?_)
      have hn : ¬ (f.is = true ∧ f.l ≤ lz x ∧ f.r ≤ tz x) := fun ⟨h1, h2, h3⟩ => by first | omega | (rw [h1] at hs22; cases hs22)
      refine ⟨a4, m4, c4, ob4, ?_, ?_, hE167, hob4⟩
      · rw [vbits, if_neg h0, if_neg hn]; rfl
      · rw [vbits, if_neg h0, if_neg hn, ← List.append_assoc, ← List.append_assoc, ← List.append_assoc]; exact hO168

end Go.Proofs.YtclmkppiolfgbaaDoor
