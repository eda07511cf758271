import Derived.Test.YtclmkppiolfgbaaDoorKb
import Derived.Test.YtclmkppiolfgbaaDoorLz
namespace Go.Proofs.YtclmkppiolfgbaaDoor
open Go.Proofs
open Go.W
attribute [local irreducible] Decidable.decide
set_option linter.unusedSimpArgs false
set_option linter.unusedVariables false



/-- The library's table of the lowest bits lies where it lay at the start. -/
def Tab (w : World) : Prop := ∀ k, k < 64 → w.cell? ⟨1, k, none⟩ = some (bv (Lib.deBruijn64tab.getD k 0))
theorem Tab.evo {X : List Nat} {w w' : World} (h : Tab w) (he : Evo X w w') (hx : 1 ∉ X) : Tab w' := fun k hk => he.cell (h k hk) hx
theorem Tab.lt {w : World} (h : Tab w) : 1 < w.heap.size := World.block_lt_of_cell? w _ (h 0 (by omega))
theorem Tab.tab_lt : ∀ k, k < 64 → Lib.deBruijn64tab.getD k 0 < 64 := by decide
def arrB (P : Program) (t : TypeId) : Option (Nat × Nat) := match P.underlying t with
  | some (.array len e) => (P.info? e).map (fun i => (len, i.size))
  | _ => none
theorem ex_indexAddrA {P : Program} {σ : Env} {w : World} {dst : Option Nat} {T : TypeId} {pos : String} {after : Array Edge} {g : Option (Nat × Bool)} {x i : Operand} {t : TypeId} {k : IntKind} {z : Int} {n sz b o len : Nat} (hx : σ.ev x = some (.pointer (some ⟨b, o, none⟩))) (hi : σ.ev i = some (.int k z)) (hz : z = (n : Nat)) (he : arrB P t = some (len, sz)) (hlt : n < len) :
    Ex P σ ⟨dst, .indexAddr t x i, T, pos, after, g⟩ w (.pointer (some ⟨b, o + n * sz, none⟩)) w := fun ρ h => by
  subst hz
  simp only [arrB] at he
  split at he <;> try cases he
  rename_i len' e hu
  obtain ⟨inf, hin, hsz⟩ := Option.map_eq_some_iff.1 he
  simp only [Prod.mk.injEq] at hsz
  obtain ⟨rfl, rfl⟩ := hsz
  have ha : (⟨b, o, none⟩ : Addr).add (n * inf.size) = ⟨b, o + n * inf.size, none⟩ := by unfold Addr.add; split <;> simp_all
  simp [execOp, h x _ hx, h i _ hi, Instr.indexAt, asIntOf, run_underlying hu, Instr.sureAddr, sizeOf, typeInfo, hin, hlt, ha]
theorem Tryd.arr107 : arrB Tryd.prog 107 = some (64, 1) := by kernel_rfl
theorem dat_self (d : Ieee.Datum) : (d.order d != some .eq) = (match d with | .nan .. => true | _ => false) := by
  cases d with
  | nan a b => rfl
  | infinity s => cases s <;> simp [Ieee.Datum.order]
  | number s m i => simp [Ieee.Datum.order]
theorem order_self (v : Nat) : (FloatKind.f64.format.order v v != some .eq) = nanB v := by
  show ((FloatKind.f64.format.read v).order (FloatKind.f64.format.read v) != some .eq) = nanB v
  rw [dat_self]
  have e1 : FloatKind.f64.format.signWeight = 9223372036854775808 := rfl
  have e2 : FloatKind.f64.format.binade = 4503599627370496 := rfl
  have e3 : FloatKind.f64.format.infRung = 9218868437227405312 := rfl
  simp only [Ieee.Format.read, e1, e2, e3]
  unfold nanB
  by_cases h1 : v % 9223372036854775808 < 4503599627370496
  · rw [if_pos h1]; symm; exact decide_eq_false (by omega)
  · rw [if_neg h1]
    by_cases h2 : v % 9223372036854775808 < 9218868437227405312
    · rw [if_pos h2]; symm; exact decide_eq_false (by omega)
    · rw [if_neg h2]
      by_cases h3 : v % 9223372036854775808 = 9218868437227405312
      · rw [if_pos h3]; symm; exact decide_eq_false (by omega)
      · rw [if_neg h3]; symm; exact decide_eq_true (by omega)
theorem lz_call (x : Nat) (w : World) (hx : x < 18446744073709551616) : Calls Tryd.prog 48 #[.int .u64 x] w (Ret fun v w' => v = .int .i64 (lz x) ∧ Evo [] w w') := by
  refine (Tryd.bits_LeadingZeros64 x w (by omega) (by omega)).mono ?_
  rintro e w' ⟨rfl, rfl⟩
  refine ⟨_, rfl, ?_, Evo.refl _ _⟩
  have := Lib.bitLen_le x 64 (by omega) hx
  simp only [Int.toNat_natCast, lz]
  congr 1
  omega

theorem tz_ok {w : World} (ht : Tab w) (x : Nat) (hx : x < 18446744073709551616) (h0 : x ≠ 0) :
    Calls Tryd.prog 49 #[.int .u64 x] w (Ret fun v w' => v = .int .i64 (tz x) ∧ Evo [] w w') := by
  obtain ⟨hlow, hlt⟩ := Lib.lowest_bit 64 x h0 hx
  have hd := Lib.deBruijn64_at (tz x) hlt
  have hp : 2 ^ tz x < 18446744073709551616 := Nat.pow_lt_pow_right (a := 2) (by omega) hlt
  change tz x < 64 at hlt
  change x &&& (18446744073709551616 - x) = 2 ^ tz x at hlow
  refine calls_of_cw (N := 14) Tryd.func49 rfl rfl rfl ?_
  refine cw_seq ?_
  refine cw_region ?_
  refine wl_val rfl (ex_assign rfl) ?_
  refine wl_nil (nrm_then ?_)
  refine cw_seq ?_
  refine cw_seq ?_
  refine cw_region ?_
  refine wl_val rfl (ex_move rfl) ?_
  refine wl_val rfl (ex_eql rfl rfl) ?_
  refine wl_nil (nrm_then ?_)
  refine cw_if rfl (fun hc4 => ?_) (fun hc4 => ?_)
  · skip
    omega
  · skip
    refine cw_skip (nrm_then ?_)
    refine cw_seq ?_
    refine cw_region ?_
    refine wl_val rfl (ex_move rfl) ?_
    refine wl_val rfl (ex_move rfl) ?_
    refine wl_val rfl (ex_neg rfl) ?_
    rw [show IntKind.u64.wrap (-(x : Int)) = ((18446744073709551616 - x : Nat) : Int) by rw [u64_eq]; unfold u64; omega]
    refine wl_val rfl (ex_andN (m := x) (n := 18446744073709551616 - x) rfl rfl (by omega) (by omega) rfl (by simp only [IntKind.bits]; omega) (by simp only [IntKind.bits]; omega)) ?_
    rw [hlow]
    refine wl_val rfl (ex_mulU rfl rfl) ?_
    rw [show u64 (((2 ^ tz x : Nat) : Int) * 285870213051353865) = 2 ^ tz x * 285870213051353865 % 18446744073709551616 by unfold u64; rw [show (((2 ^ tz x : Nat) : Int) * 285870213051353865) = ((2 ^ tz x * 285870213051353865 : Nat) : Int) from (Int.natCast_mul _ _).symm]; generalize 2 ^ tz x * 285870213051353865 = q; omega]
    refine wl_val rfl (ex_shrN (m := 2 ^ tz x * 285870213051353865 % 18446744073709551616) (n := 58) rfl rfl (by rfl) (by rfl) (by first | exact Nat.le_of_ble_eq_true rfl | (simp only [IntKind.bits]; omega))) ?_
    refine wl_val rfl (ex_indexAddrA rfl rfl rfl Tryd.arr107 hd.1) ?_
    have hc := ht _ hd.1
    refine wl_val rfl (ex_load1 rfl Tryd.agg5 (by rw [Nat.mul_one, Nat.zero_add]; exact hc)) ?_
    rw [show bv (Lib.deBruijn64tab.getD (2 ^ tz x * 285870213051353865 % 18446744073709551616 / 288230376151711744) 0) = .int .u8 (tz x) by rw [hd.2]]
    refine wl_val rfl (ex_convF rfl Tryd.underlying5 Tryd.underlying3 (by simp [IntKind.min, IntKind.max, IntKind.signed, IntKind.bits] <;> omega) (by simp [IntKind.min, IntKind.max, IntKind.signed, IntKind.bits] <;> omega)) ?_
    refine wl_val rfl (ex_assign rfl) ?_
    refine wl_nil (nrm_then ?_)
    refine cw_ret (body_ret1 rfl rfl ?_)
    exact ⟨rfl, (Evo.refl [] w)⟩

theorem numBits_ok {w : World} (v : Nat) (hv : v < 18446744073709551616) :
    Calls Tryd.prog 47 #[.float .f64 v] w (Ret fun r w' => r = .int .u64 (cb v) ∧ Evo [] w w') := by
  refine calls_of_cw (N := 8) Tryd.func47 rfl rfl rfl ?_
  refine cw_seq ?_
  refine cw_region ?_
  refine wl_val rfl (ex_assign rfl) ?_
  refine wl_nil (nrm_then ?_)
  refine cw_seq ?_
  refine cw_seq ?_
  refine cw_region ?_
  refine wl_val rfl (ex_move rfl) ?_
  refine wl_val rfl (ex_move rfl) ?_
  refine wl_val rfl (ex_fneq rfl rfl) ?_
  rw [order_self]
  refine wl_nil (nrm_then ?_)
  refine cw_ifb rfl (fun hc5 => ?_) (fun hc5 => ?_)
  · skip
    refine cw_seq ?_
    refine cw_region ?_
    refine wl_val rfl (ex_assign rfl) ?_
    refine wl_nil (nrm_then ?_)
    refine cw_ret (ret_then (body_ret1 rfl rfl ?_))
    exact ⟨by rw [cb, if_pos hc5]; rfl, (Evo.refl [] w)⟩
  · skip
    refine cw_skip (nrm_then ?_)
    refine cw_seq ?_
    refine cw_region ?_
    refine wl_val rfl (ex_move rfl) ?_
    refine wl_val rfl (ex_extern (vs := [_]) (e := Extern.MathFloatBits.float64bits) Tryd.func36 (by kernel_rfl) (by kernel_rfl) (by kernel_rfl) (by kernel_rfl) rfl rfl) ?_
    refine wl_val rfl (ex_assign rfl) ?_
    refine wl_nil (nrm_then ?_)
    refine cw_ret (body_ret1 rfl rfl ?_)
    exact ⟨by rw [cb, if_neg (by simp [hc5])], (Evo.refl [] w)⟩

theorem refBits_ok {w : World} (v : Nat) (hv : v < 18446744073709551616) :
    Calls Tryd.prog 44 #[.float .f64 v] w (Ret fun r w' => r = .int .u64 (cb v) ∧ Evo [] w w') := by
  refine calls_of_cw (N := 10) Tryd.func44 rfl rfl rfl ?_
  refine cw_seq ?_
  refine cw_region ?_
  refine wl_val rfl (ex_assign rfl) ?_
  refine wl_nil (nrm_then ?_)
  refine cw_seq ?_
  refine cw_region ?_
  refine wl_val rfl (ex_move rfl) ?_
  refine wl_val rfl (ex_extern (vs := [_]) (e := Extern.MathFloatBits.float64bits) Tryd.func36 (by kernel_rfl) (by kernel_rfl) (by kernel_rfl) (by kernel_rfl) rfl rfl) ?_
  refine wl_val rfl (ex_assign rfl) ?_
  refine wl_nil (nrm_then ?_)
  refine cw_seq ?_
  refine cw_seq ?_
  refine cw_region ?_
  refine wl_val rfl (ex_move rfl) ?_
  refine wl_val rfl (ex_shlN (m := v) (n := 1) rfl rfl (by omega) (by omega) (by first | exact Nat.le_of_ble_eq_true rfl | (simp only [IntKind.bits]; omega)) rfl) ?_
  refine wl_val rfl (ex_gtr rfl rfl) ?_
  refine wl_nil (nrm_then ?_)
  refine cw_if rfl (fun hc8 => ?_) (fun hc8 => ?_)
  · skip
    refine cw_seq ?_
    refine cw_region ?_
    refine wl_val rfl (ex_assign rfl) ?_
    refine wl_nil (nrm_then ?_)
    refine cw_ret (ret_then (body_ret1 rfl rfl ?_))
    exact ⟨by rw [cb, if_pos (by simp [nanB, IntKind.bits] at *; omega)]; rfl, (Evo.refl [] w)⟩
  · skip
    refine cw_skip (nrm_then ?_)
    refine cw_seq ?_
    refine cw_region ?_
    refine wl_val rfl (ex_move rfl) ?_
    refine wl_val rfl (ex_assign rfl) ?_
    refine wl_nil (nrm_then ?_)
    refine cw_ret (body_ret1 rfl rfl ?_)
    exact ⟨by rw [cb, if_neg (by simp [nanB, IntKind.bits] at *; omega)], (Evo.refl [] w)⟩

theorem fromBits_ok {w : World} (v : Nat) :
    Calls Tryd.prog 41 #[.int .u64 v] w (Ret fun r w' => r = .float .f64 v ∧ Evo [] w w') := by
  refine calls_of_cw (N := 5) Tryd.func41 rfl rfl rfl ?_
  refine cw_seq ?_
  refine cw_region ?_
  refine wl_val rfl (ex_assign rfl) ?_
  refine wl_nil (nrm_then ?_)
  refine cw_seq ?_
  refine cw_region ?_
  refine wl_val rfl (ex_move rfl) ?_
  refine wl_val rfl (ex_extern (vs := [_]) (e := Extern.MathFloatBits.float64frombits) Tryd.func54 (by kernel_rfl) (by kernel_rfl) (by kernel_rfl) (by kernel_rfl) rfl rfl) ?_
  refine wl_val rfl (ex_assign rfl) ?_
  refine wl_nil (nrm_then ?_)
  refine cw_ret (body_ret1 rfl rfl ?_)
  exact ⟨rfl, (Evo.refl [] w)⟩

theorem numFromBits_ok {w : World} (v : Nat) :
    Calls Tryd.prog 52 #[.int .u64 v] w (Ret fun r w' => r = .float .f64 v ∧ Evo [] w w') := by
  refine calls_of_cw (N := 5) Tryd.func52 rfl rfl rfl ?_
  refine cw_seq ?_
  refine cw_region ?_
  refine wl_val rfl (ex_assign rfl) ?_
  refine wl_nil (nrm_then ?_)
  refine cw_seq ?_
  refine cw_region ?_
  refine wl_val rfl (ex_move rfl) ?_
  refine wl_val rfl (ex_extern (vs := [_]) (e := Extern.MathFloatBits.float64frombits) Tryd.func54 (by kernel_rfl) (by kernel_rfl) (by kernel_rfl) (by kernel_rfl) rfl rfl) ?_
  refine wl_val rfl (ex_assign rfl) ?_
  refine wl_nil (nrm_then ?_)
  refine cw_ret (body_ret1 rfl rfl ?_)
  exact ⟨rfl, (Evo.refl [] w)⟩

end Go.Proofs.YtclmkppiolfgbaaDoor
