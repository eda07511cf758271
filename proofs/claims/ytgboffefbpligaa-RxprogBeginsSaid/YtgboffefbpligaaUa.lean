/- The program's text of runes: isRune, tail, form, Text. -/
import Derived.Test.YtgboffefbpligaaTz
namespace Go.Proofs.Ytgboffefbpligaa
open Go.Proofs
open Go.W Go.RowKit
attribute [local irreducible] Decidable.decide
set_option linter.unusedSimpArgs false
set_option linter.unusedVariables false
theorem Try.app93_93 : appB Try.prog 93 93 = some (5, 1, 1) := by kernel_rfl
theorem Try.elem58 : elemB Try.prog 58 = some 1 := by kernel_rfl
theorem Try.goes66 : Goes Try.prog 66 := ⟨_, Try.func66, by kernel_rfl, by kernel_rfl⟩
theorem Try.goes67 : Goes Try.prog 67 := ⟨_, Try.func67, by kernel_rfl, by kernel_rfl⟩
theorem Try.goes84 : Goes Try.prog 84 := ⟨_, Try.func84, by kernel_rfl, by kernel_rfl⟩
theorem Try.make93 : makeB Try.prog 93 = some (5, 1, 1, #[.int .u8 0]) := by kernel_rfl


abbrev u8s (l : List Nat) : List Value := l.map fun c => Value.int .u8 (c : Nat)
section
variable {P : Program} {σ : Env} {w : World} {dst : Option Nat} {T : TypeId} {pos : String} {after : Array Edge} {g : Option (Nat × Bool)}
theorem ofInt32 {m : Nat} (h : m < 2147483648) : (BitVec.ofInt 32 (m : Int)).toNat = m := by
  rw [BitVec.ofInt_natCast, BitVec.toNat_ofNat, Nat.mod_eq_of_lt (by omega)]
/-- The six low bits of a rune. -/
theorem ex_low6 {x y : Operand} {t t' : TypeId} {m : Nat} (hx : σ.ev x = some (.int .i32 (m : Nat))) (hy : σ.ev y = some (.int .i32 63)) (h1 : m < 2147483648) :
    Ex P σ ⟨dst, .binOp .and t x y t', T, pos, after, g⟩ w (.int .i32 ((m % 64 : Nat) : Int)) w := fun ρ h => by
  have e1 : (BitVec.ofInt IntKind.i32.bits (m : Int)).toNat = m := ofInt32 h1
  have e2 : (BitVec.ofInt IntKind.i32.bits (63 : Int)).toNat = 63 := by decide
  have e3 : m &&& 63 = m % 64 := Nat.and_two_pow_sub_one_eq_mod m 6
  have hr : IntKind.i32.wrap (((m % 64 : Nat)) : Int) = ((m % 64 : Nat) : Int) := wrap_of (by have := Nat.mod_lt m (show 0 < 64 by decide); simp [IntKind.min, IntKind.signed, IntKind.bits]; omega) (by have := Nat.mod_lt m (show 0 < 64 by decide); simp [IntKind.max, IntKind.signed, IntKind.bits]; omega)
  simp only [execOp, h x _ hx, h y _ hy]
  simp only [eqGuard, Go.binOp, Op.intBits, Sem.run_bind, Sem.run_pure, Result.andThen_ok, BitVec.toNat_and, e1, e2, e3, hr]
  simp
/-- High marks and low bits are put together by adding. -/
theorem ex_orB {x y : Operand} {t t' : TypeId} {m n : Nat} {x' z : Int} (r : Nat) (hx : σ.ev x = some (.int .u8 x')) (hy : σ.ev y = some (.int .u8 z)) (hm : x' = ((m : Nat) : Int)) (hz : z = ((n : Nat) : Int)) (h1 : m < 256) (h2 : n < 256) (hr : m ||| n = r) :
    Ex P σ ⟨dst, .binOp .or t x y t', T, pos, after, g⟩ w (.int .u8 ((r : Nat) : Int)) w := by
  subst hr
  exact ex_orN hx hy hm hz rfl h1 h2
end
theorem or_add {a b : Nat} (k : Nat) (hb : b < 2 ^ k) : 2 ^ k * a ||| b = 2 ^ k * a + b := (Nat.two_pow_add_eq_or_of_lt hb a).symm
theorem or128 {b : Nat} (h : b < 64) : 128 ||| b = 128 + b := or_add (a := 2) 6 h
theorem or192 {b : Nat} (h : b < 32) : 192 ||| b = 192 + b := or_add (a := 6) 5 h
theorem or224 {b : Nat} (h : b < 16) : 224 ||| b = 224 + b := or_add (a := 14) 4 h
theorem or240 {b : Nat} (h : b < 8) : 240 ||| b = 240 + b := or_add (a := 30) 3 h

theorem uisRune_ok {w : World} (n : Int) : Calls Try.prog 66 #[.int .i32 n] w (Ret fun v w' => v = .bool (decide (IsR n)) ∧ Evo [] w w') := by
  refine calls_of_cw (N := 17) Try.func66 rfl rfl rfl ?_
  refine cw_seq ?_
  refine cw_region ?_
  refine wl_a ?_
  refine wl_nil (nrm_then ?_)
  refine cw_seq ?_
  refine cw_region ?_
  refine wl_m ?_
  refine wl_val rfl (ex_geq rfl rfl) ?_
  refine wl_m ?_
  refine wl_split (t := 5) rfl (fun hs5 => ?_) (fun hs5 => ?_)
  ·skip
   refine wl_g ?_
   refine wl_m ?_
   refine wl_g ?_
   refine wl_val rfl (ex_leq rfl rfl) ?_
   refine wl_pt ?_
   refine wl_m ?_
   refine wl_split (t := 9) rfl (fun hs9 => ?_) (fun hs9 => ?_)
   ·skip
    refine wl_g ?_
    refine wl_m ?_
    refine wl_g ?_
    refine wl_val rfl (ex_lss rfl rfl) ?_
    refine wl_g ?_
    refine wl_m ?_
    refine wl_split (t := 12) rfl (fun hs12 => ?_) (fun hs12 => ?_)
    ·skip
     refine wl_n ?_
     refine wl_n ?_
     refine wl_g ?_
     refine wl_pt ?_
     refine wl_pt ?_
     refine wl_a ?_
     refine wl_nil (nrm_then ?_)
     refine cw_ret (body_ret1 rfl rfl ?_)
     exact ⟨congrArg Value.bool (by first | exact decide_eq_decide.2 (by unfold IsR; omega) | exact (decide_eq_true (by unfold IsR; omega)).symm | exact (decide_eq_false (by unfold IsR; omega)).symm), (Evo.refl [] w)⟩
    ·skip
     refine wl_g ?_
     refine wl_m ?_
     refine wl_g ?_
     refine wl_val rfl (ex_gtr rfl rfl) ?_
     refine wl_g ?_
     refine wl_pf ?_
     refine wl_pt ?_
     refine wl_a ?_
     refine wl_nil (nrm_then ?_)
     refine cw_ret (body_ret1 rfl rfl ?_)
     exact ⟨congrArg Value.bool (by first | exact decide_eq_decide.2 (by unfold IsR; omega) | exact (decide_eq_true (by unfold IsR; omega)).symm | exact (decide_eq_false (by unfold IsR; omega)).symm), (Evo.refl [] w)⟩
   ·skip
    refine wl_n ?_
    refine wl_n ?_
    refine wl_n ?_
    refine wl_u ?_
    refine wl_u ?_
    refine wl_n ?_
    refine wl_pf ?_
    refine wl_a ?_
    refine wl_nil (nrm_then ?_)
    refine cw_ret (body_ret1 rfl rfl ?_)
    exact ⟨congrArg Value.bool (by first | exact decide_eq_decide.2 (by unfold IsR; omega) | exact (decide_eq_true (by unfold IsR; omega)).symm | exact (decide_eq_false (by unfold IsR; omega)).symm), (Evo.refl [] w)⟩
  ·skip
   refine wl_n ?_
   refine wl_n ?_
   refine wl_pf ?_
   refine wl_m ?_
   refine wl_n ?_
   refine wl_n ?_
   refine wl_n ?_
   refine wl_u ?_
   refine wl_u ?_
   refine wl_n ?_
   refine wl_pf ?_
   refine wl_a ?_
   refine wl_nil (nrm_then ?_)
   refine cw_ret (body_ret1 rfl rfl ?_)
   exact ⟨congrArg Value.bool (by first | exact decide_eq_decide.2 (by unfold IsR; omega) | exact (decide_eq_true (by unfold IsR; omega)).symm | exact (decide_eq_false (by unfold IsR; omega)).symm), (Evo.refl [] w)⟩

theorem utail_ok {w : World} (m : Nat) (hm : m < 2147483648) : Calls Try.prog 84 #[.int .i32 (m : Nat)] w (Ret fun v w' => v = .int .u8 ((128 + m % 64 : Nat) : Int) ∧ Evo [] w w') := by
  refine calls_of_cw (N := 7) Try.func84 rfl rfl rfl ?_
  refine cw_seq ?_
  refine cw_region ?_
  refine wl_a ?_
  refine wl_nil (nrm_then ?_)
  refine cw_seq ?_
  refine cw_region ?_
  refine wl_m ?_
  refine wl_val rfl (ex_low6 rfl rfl hm) ?_
  refine wl_val rfl (ex_convB (m % 64) rfl Try.underlying21 Try.underlying5 (by rfl) (by simp [IntKind.max, IntKind.bits, IntKind.signed] <;> omega)) ?_
  refine wl_val rfl (ex_orB (128 + m % 64) (m := 128) rfl rfl rfl rfl (by decide) (by omega) (or128 (by omega))) ?_
  refine wl_a ?_
  refine wl_nil (nrm_then ?_)
  refine cw_ret (body_ret1 rfl rfl ?_)
  exact ⟨rfl, (Evo.refl [] w)⟩

theorem uform_ok {w : World} {a : Option Addr} {n c : Nat} {ds : List Nat} {ob : Option Nat} {r : Int} (m : Nat) (hr : r = (m : Nat)) (hm : m < 1114112) (hO : OwnS w 5 1 a n c (u8s ds) ob) (hl : n ≤ 1000000000) :
    Calls Try.prog 67 #[.slice a n c, .int .i32 r] w (Ret fun v w' => ∃ a' c' ob', v = .slice a' (n + (formN m).length) c' ∧ OwnS w' 5 1 a' (n + (formN m).length) c' (u8s (ds ++ formN m)) ob' ∧ Evo ob.toList w w' ∧ (ob' = ob ∨ ∃ g, ob' = some g ∧ w.heap.size ≤ g)) := by
  subst hr
  refine calls_of_cw (N := 55) Try.func67 rfl rfl rfl ?_
  refine cw_seq ?_
  refine cw_region ?_
  refine wl_a ?_
  refine wl_nil (nrm_then ?_)
  refine cw_seq ?_
  refine cw_block ?_
  refine cw_seq ?_
  refine cw_region ?_
  refine wl_m ?_
  refine wl_val rfl (ex_lss rfl rfl) ?_
  refine wl_a ?_
  refine wl_nil (nrm_then ?_)
  refine cw_if rfl (fun hc5 => ?_) (fun hc5 => ?_)
  ·skip
   refine cw_seq ?_
   refine cw_region ?_
   refine wl_m ?_
   refine wl_m ?_
   refine wl_val rfl (ex_convB (m) rfl Try.underlying21 Try.underlying5 (by rfl) (by simp [IntKind.max, IntKind.bits, IntKind.signed] <;> omega)) ?_
   refine wl_bslice (vs := [_]) rfl Try.slice93 rfl rfl rfl rfl fun b1 w2 hO3 hs4 hw5 => ?_
   have hA6 := Apart.new (Lt.own hO) hs4
   have hG7 := Ge.new (Evo.refl ob.toList w) hs4
   have hE8 := (Evo.refl ob.toList w).then hw5
   have hO9 := hO.evo0 hw5
   have hszg := (hE8).size
   refine wl_append rfl rfl rfl rfl Try.app93_93 hO9 (Src.ofOwn hO3 ⟨rfl, trivial⟩) (by omega) fun a2 c2 w12 ob2 hO2 hw15 hob16 => ?_
   have hA17 := hA6.symm.app (Lt.own hO3) hob16
   have hE18 := hE8.step hw15 (fun y hy => .inl hy)
   have hO19 := hO3.evo hw15 hA6.symm.own
   have hob2 : ob2 = ob ∨ ∃ g, ob2 = some g ∧ w.heap.size ≤ g := hob16.imp id (fun ⟨g, h1, h2⟩ => ⟨g, h1, Nat.le_trans hszg h2⟩)
   refine wl_a ?_
   refine wl_nil (nrm_then ?_)
   refine cw_ret (ret_block (ret_then (body_ret1 rfl rfl ?_)))
   refine ⟨a2, c2, ob2, ?_, ?_, hE18, hob2⟩
   · rw [show (formN m).length = 1 from by unfold formN; rw [if_pos (by omega)]; try rfl]
   · rw [show (formN m).length = 1 from by unfold formN; rw [if_pos (by omega)]; try rfl, show u8s (ds ++ formN m) = u8s ds ++ u8s (formN m) from List.map_append]; have h9 := hO2; rw [show u8s (formN m) = _ from by unfold formN; rw [if_pos (by omega)]]; exact h9
  ·skip
   refine cw_seq ?_
   refine cw_region ?_
   refine wl_m ?_
   refine wl_val rfl (ex_lss rfl rfl) ?_
   refine wl_a ?_
   refine wl_nil (nrm_then ?_)
   refine cw_if rfl (fun hc13 => ?_) (fun hc13 => ?_)
   ·skip
    refine cw_seq ?_
    refine cw_region ?_
    refine wl_m ?_
    refine wl_m ?_
    refine wl_val rfl (ex_shrN (m := m) (n := 6) rfl rfl rfl rfl (by decide)) ?_
    refine wl_val rfl (ex_convB (m / 2 ^ 6) rfl Try.underlying21 Try.underlying5 (by rfl) (by simp [IntKind.max, IntKind.bits, IntKind.signed] <;> omega)) ?_
    refine wl_val rfl (ex_orB (192 + m / 2 ^ 6) (m := 192) (n := m / 2 ^ 6) rfl rfl rfl rfl (by decide) (by omega) (or192 (by omega))) ?_
    refine wl_m ?_
    refine wl_call1 (vs := [_]) Try.goes84 rfl (utail_ok (m) (by omega)) rfl ?_
    rintro _ w20 ⟨rfl, hw21⟩
    have hE22 := (Evo.refl ob.toList w).then hw21
    have hO23 := hO.evo0 hw21
    refine wl_bslice (vs := [_, _]) rfl Try.slice93 rfl rfl rfl rfl fun b24 w25 hO26 hs27 hw28 => ?_
    have hA29 := Apart.new (Lt.own hO23) hs27
    have hG30 := Ge.new hE22 hs27
    have hE31 := hE22.then hw28
    have hO32 := hO23.evo0 hw28
    have hszg := (hE31).size
    refine wl_append rfl rfl rfl rfl Try.app93_93 hO32 (Src.ofOwn hO26 ⟨rfl, rfl, trivial⟩) (by omega) fun a2 c2 w35 ob2 hO2 hw38 hob39 => ?_
    have hA40 := hA29.symm.app (Lt.own hO26) hob39
    have hE41 := hE31.step hw38 (fun y hy => .inl hy)
    have hO42 := hO26.evo hw38 hA29.symm.own
    have hob2 : ob2 = ob ∨ ∃ g, ob2 = some g ∧ w.heap.size ≤ g := hob39.imp id (fun ⟨g, h1, h2⟩ => ⟨g, h1, Nat.le_trans hszg h2⟩)
    refine wl_a ?_
    refine wl_nil (nrm_then ?_)
    refine cw_ret (ret_block (ret_then (body_ret1 rfl rfl ?_)))
    refine ⟨a2, c2, ob2, ?_, ?_, hE41, hob2⟩
    · rw [show (formN m).length = 2 from by unfold formN; rw [if_neg (by omega), if_pos (by omega)]; try rfl]
    · rw [show (formN m).length = 2 from by unfold formN; rw [if_neg (by omega), if_pos (by omega)]; try rfl, show u8s (ds ++ formN m) = u8s ds ++ u8s (formN m) from List.map_append]; have h9 := hO2; rw [show u8s (formN m) = _ from by unfold formN; rw [if_neg (by omega), if_pos (by omega)]]; exact h9
   ·skip
    refine cw_seq ?_
    refine cw_region ?_
    refine wl_m ?_
    refine wl_val rfl (ex_lss rfl rfl) ?_
    refine wl_a ?_
    refine wl_nil (nrm_then ?_)
    refine cw_if rfl (fun hc25 => ?_) (fun hc25 => ?_)
    ·skip
     refine cw_seq ?_
     refine cw_region ?_
     refine wl_m ?_
     refine wl_m ?_
     refine wl_val rfl (ex_shrN (m := m) (n := 12) rfl rfl rfl rfl (by decide)) ?_
     refine wl_val rfl (ex_convB (m / 2 ^ 12) rfl Try.underlying21 Try.underlying5 (by rfl) (by simp [IntKind.max, IntKind.bits, IntKind.signed] <;> omega)) ?_
     refine wl_val rfl (ex_orB (224 + m / 2 ^ 12) (m := 224) (n := m / 2 ^ 12) rfl rfl rfl rfl (by decide) (by omega) (or224 (by omega))) ?_
     refine wl_m ?_
     refine wl_val rfl (ex_shrN (m := m) (n := 6) rfl rfl rfl rfl (by decide)) ?_
     refine wl_call1 (vs := [_]) Try.goes84 rfl (utail_ok (m / 2 ^ 6) (by omega)) rfl ?_
     rintro _ w43 ⟨rfl, hw44⟩
     have hE45 := (Evo.refl ob.toList w).then hw44
     have hO46 := hO.evo0 hw44
     refine wl_m ?_
     refine wl_call1 (vs := [_]) Try.goes84 rfl (utail_ok (m) (by omega)) rfl ?_
     rintro _ w47 ⟨rfl, hw48⟩
     have hE49 := hE45.then hw48
     have hO50 := hO46.evo0 hw48
     refine wl_bslice (vs := [_, _, _]) rfl Try.slice93 rfl rfl rfl rfl fun b51 w52 hO53 hs54 hw55 => ?_
     have hA56 := Apart.new (Lt.own hO50) hs54
     have hG57 := Ge.new hE49 hs54
     have hE58 := hE49.then hw55
     have hO59 := hO50.evo0 hw55
     have hszg := (hE58).size
     refine wl_append rfl rfl rfl rfl Try.app93_93 hO59 (Src.ofOwn hO53 ⟨rfl, rfl, rfl, trivial⟩) (by omega) fun a2 c2 w62 ob2 hO2 hw65 hob66 => ?_
     have hA67 := hA56.symm.app (Lt.own hO53) hob66
     have hE68 := hE58.step hw65 (fun y hy => .inl hy)
     have hO69 := hO53.evo hw65 hA56.symm.own
     have hob2 : ob2 = ob ∨ ∃ g, ob2 = some g ∧ w.heap.size ≤ g := hob66.imp id (fun ⟨g, h1, h2⟩ => ⟨g, h1, Nat.le_trans hszg h2⟩)
     refine wl_a ?_
     refine wl_nil (nrm_then ?_)
     refine cw_ret (ret_block (ret_then (body_ret1 rfl rfl ?_)))
     refine ⟨a2, c2, ob2, ?_, ?_, hE68, hob2⟩
     · rw [show (formN m).length = 3 from by unfold formN; rw [if_neg (by omega), if_neg (by omega), if_pos (by omega)]; try rfl]
     · rw [show (formN m).length = 3 from by unfold formN; rw [if_neg (by omega), if_neg (by omega), if_pos (by omega)]; try rfl, show u8s (ds ++ formN m) = u8s ds ++ u8s (formN m) from List.map_append]; have h9 := hO2; rw [show u8s (formN m) = _ from by unfold formN; rw [if_neg (by omega), if_neg (by omega), if_pos (by omega)]]; exact h9
    ·skip
     refine cw_skip (nrm_block (nrm_then ?_))
     refine cw_seq ?_
     refine cw_region ?_
     refine wl_m ?_
     refine wl_m ?_
     refine wl_val rfl (ex_shrN (m := m) (n := 18) rfl rfl rfl rfl (by decide)) ?_
     refine wl_val rfl (ex_convB (m / 2 ^ 18) rfl Try.underlying21 Try.underlying5 (by rfl) (by simp [IntKind.max, IntKind.bits, IntKind.signed] <;> omega)) ?_
     refine wl_val rfl (ex_orB (240 + m / 2 ^ 18) (m := 240) (n := m / 2 ^ 18) rfl rfl rfl rfl (by decide) (by omega) (or240 (by omega))) ?_
     refine wl_m ?_
     refine wl_val rfl (ex_shrN (m := m) (n := 12) rfl rfl rfl rfl (by decide)) ?_
     refine wl_call1 (vs := [_]) Try.goes84 rfl (utail_ok (m / 2 ^ 12) (by omega)) rfl ?_
     rintro _ w70 ⟨rfl, hw71⟩
     have hE72 := (Evo.refl ob.toList w).then hw71
     have hO73 := hO.evo0 hw71
     refine wl_m ?_
     refine wl_val rfl (ex_shrN (m := m) (n := 6) rfl rfl rfl rfl (by decide)) ?_
     refine wl_call1 (vs := [_]) Try.goes84 rfl (utail_ok (m / 2 ^ 6) (by omega)) rfl ?_
     rintro _ w74 ⟨rfl, hw75⟩
     have hE76 := hE72.then hw75
     have hO77 := hO73.evo0 hw75
     refine wl_m ?_
     refine wl_call1 (vs := [_]) Try.goes84 rfl (utail_ok (m) (by omega)) rfl ?_
     rintro _ w78 ⟨rfl, hw79⟩
     have hE80 := hE76.then hw79
     have hO81 := hO77.evo0 hw79
     refine wl_bslice (vs := [_, _, _, _]) rfl Try.slice93 rfl rfl rfl rfl fun b82 w83 hO84 hs85 hw86 => ?_
     have hA87 := Apart.new (Lt.own hO81) hs85
     have hG88 := Ge.new hE80 hs85
     have hE89 := hE80.then hw86
     have hO90 := hO81.evo0 hw86
     have hszg := (hE89).size
     refine wl_append rfl rfl rfl rfl Try.app93_93 hO90 (Src.ofOwn hO84 ⟨rfl, rfl, rfl, rfl, trivial⟩) (by omega) fun a2 c2 w93 ob2 hO2 hw96 hob97 => ?_
     have hA98 := hA87.symm.app (Lt.own hO84) hob97
     have hE99 := hE89.step hw96 (fun y hy => .inl hy)
     have hO100 := hO84.evo hw96 hA87.symm.own
     have hob2 : ob2 = ob ∨ ∃ g, ob2 = some g ∧ w.heap.size ≤ g := hob97.imp id (fun ⟨g, h1, h2⟩ => ⟨g, h1, Nat.le_trans hszg h2⟩)
     refine wl_a ?_
     refine wl_nil (nrm_then ?_)
     refine cw_ret (body_ret1 rfl rfl ?_)
     refine ⟨a2, c2, ob2, ?_, ?_, hE99, hob2⟩
     · rw [show (formN m).length = 4 from by unfold formN; rw [if_neg (by omega), if_neg (by omega), if_neg (by omega)]; try rfl]
     · rw [show (formN m).length = 4 from by unfold formN; rw [if_neg (by omega), if_neg (by omega), if_neg (by omega)]; try rfl, show u8s (ds ++ formN m) = u8s ds ++ u8s (formN m) from List.map_append]; have h9 := hO2; rw [show u8s (formN m) = _ from by unfold formN; rw [if_neg (by omega), if_neg (by omega), if_neg (by omega)]]; exact h9


structure TxG where
  k : Nat
  na : Option Addr
  nc : Nat
  no : Option Nat
def frm (rs : List Int) : List Nat := rs.flatMap formB
theorem frm_succ {rs : List Int} {k : Nat} (h : k < rs.length) : frm (rs.take (k + 1)) = frm (rs.take k) ++ formB rs[k] := by
  unfold frm; rw [List.take_add_one, List.getElem?_eq_getElem h, List.flatMap_append]; simp
theorem frm_len (rs : List Int) : (frm rs).length ≤ 4 * rs.length := by
  induction rs with
  | nil => exact Nat.zero_le _
  | cons r rs ih => have := formB_len r; unfold frm at ih ⊢; rw [List.flatMap_cons, List.length_append, List.length_cons]; omega
theorem frm_lt (rs : List Int) : ∀ b, b ∈ frm rs → b < 256 := fun b hb => by
  obtain ⟨r, _, h⟩ := List.mem_flatMap.1 hb
  exact formB_lt r b h
structure TxI (w wr : World) (a : Option Addr) (c : Nat) (ob : Option Nat) (rs : List Int) (x : TxG) : Prop where
  src : OwnS wr 21 1 a rs.length c (i32s rs) ob
  k : x.k ≤ rs.length
  all : ∀ r, r ∈ rs.take x.k → IsR r
  own : OwnS wr 5 1 x.na (frm (rs.take x.k)).length x.nc (u8s (frm (rs.take x.k))) x.no
  ge : Ge w x.no

theorem utext_ok {w : World} {a : Option Addr} {c : Nat} {rs : List Int} {ob : Option Nat} (hO : OwnS w 21 1 a rs.length c (i32s rs) ob) (hl : rs.length ≤ 100000000) :
    Calls Try.prog 44 #[.slice a rs.length c] w (Ret fun v w' => ((v = .tuple #[.string (bstr (frm rs)), iv 0] ∧ ∀ r, r ∈ rs → IsR r) ∨ (v = .tuple #[.string (ByteArray.mk #[]), iv 12] ∧ ¬ ∀ r, r ∈ rs → IsR r)) ∧ Evo [] w w') := by
  refine calls_of_cw (N := 25) Try.func44 rfl rfl rfl ?_
  refine cw_seq ?_
  refine cw_region ?_
  refine wl_a ?_
  refine wl_a ?_
  refine wl_nil (nrm_then ?_)
  refine cw_seq ?_
  refine cw_region ?_
  refine wl_m ?_
  refine wl_val rfl (ex_len_slice rfl Try.underlying58 rfl) ?_
  refine wl_make (len := 0) (c := rs.length) rfl rfl rfl Try.make93 (by omega) (by omega) (by omega) (by decide) (by omega) (by omega) fun b4 w2 hN hs4 hw5 => ?_
  have hA6 := Apart.new (Lt.own hO) hs4
  have hG7 := Ge.new (Evo.refl [] w) hs4
  have hE8 := (Evo.refl [] w).then hw5
  have hO9 := hO.evo0 hw5
  refine wl_a ?_
  refine wl_nil (nrm_then ?_)
  refine cw_seq ?_
  refine cw_seq ?_
  refine cw_region ?_
  refine wl_m ?_
  refine wl_val rfl (ex_len_slice rfl Try.underlying58 rfl) ?_
  refine wl_m ?_
  refine wl_nil (nrm_then ?_)
  refine cw_block ?_
  refine cw_loop (α := TxG) (⟨0, some ⟨b4, 0, none⟩, rs.length, some b4⟩) (fun x => [(12, .int .i64 (x.k : Nat)), (4, .slice x.na (frm (rs.take x.k)).length x.nc)]) [(10, _), (11, _)] (fun x wr => Evo [] w wr ∧ (TxI w wr a c ob rs x)) (fun x => rs.length - x.k) ⟨rfl, rfl, trivial⟩ ⟨rfl, rfl, trivial⟩ ⟨hE8, ⟨hO9, Nat.zero_le _, (fun r h => by simp at h), hN, hG7⟩⟩ ?_
  rintro ⟨k, na, nc, no⟩ wr10 ⟨hV11, ⟨hsr, hk, hall, hn, hge⟩⟩
  show CW _ _ _ _ [(12, .int .i64 (k : Nat)), (4, .slice na (frm (rs.take k)).length nc), (10, _), (11, _)] _
  try dsimp only at hsr
  try dsimp only at hk
  try dsimp only at hall
  try dsimp only at hn
  try dsimp only at hge
  refine cw_seq ?_
  refine cw_region ?_
  refine wl_val rfl (ex_lss rfl rfl) ?_
  refine wl_nil (nrm_then ?_)
  refine cw_seq ?_
  refine cw_if rfl (fun hc13 => ?_) (fun hc13 => ?_)
  ·skip
   have hj' : k < rs.length := by omega
   obtain ⟨gR, hgR, haR, hcR⟩ := hsr.cells (by omega)
   refine cw_skip (nrm_then ?_)
   refine cw_seq ?_
   refine cw_block ?_
   refine cw_seq ?_
   refine cw_region ?_
   refine wl_val rfl (ex_indexAddr (n := k) (by rw [haR]; rfl) rfl Try.elem58 (by omega)) ?_
   refine wl_val rfl (ex_load1 rfl Try.agg21 (by rw [Nat.mul_one]; exact hcR k (.int .i32 rs[k]) (by rw [List.getElem?_map, List.getElem?_eq_getElem hj']; rfl))) ?_
   refine wl_a ?_
   refine wl_nil (nrm_then ?_)
   refine cw_seq ?_
   refine cw_seq ?_
   refine cw_region ?_
   refine wl_m ?_
   refine wl_call1 (vs := [_]) Try.goes66 rfl (uisRune_ok _) rfl ?_
   rintro _ w12 ⟨rfl, hw13⟩
   have hE14 := hV11.then hw13
   have hO15 := hn.evo0 hw13
   have hO16 := hsr.evo0 hw13
   refine wl_val rfl (ex_not rfl) ?_
   refine wl_nil (nrm_then ?_)
   refine cw_if rfl (fun hc18 => ?_) (fun hc18 => ?_)
   ·skip
    refine cw_seq ?_
    refine cw_region ?_
    refine wl_a ?_
    refine wl_a ?_
    refine wl_nil (nrm_then ?_)
    refine cw_ret (ret_then (ret_block (ret_then (ret_then (ret_block (ret_then (body_ret2 rfl rfl rfl ?_)))))))
    exact ⟨.inr ⟨rfl, fun h => (by simpa using hc18 : ¬ IsR rs[k]) (h _ (List.getElem_mem _))⟩, hE14⟩
   ·skip
    have hir : IsR rs[k] := by simpa using hc18
    have hir2 := isr_iff.1 hir
    obtain ⟨m, hm⟩ := Int.eq_ofNat_of_zero_le hir2.1
    have hm3 : m < 1114112 := by omega
    refine cw_skip (nrm_then ?_)
    refine cw_region ?_
    refine wl_m ?_
    refine wl_m ?_
    refine wl_call1 (vs := [_, _]) Try.goes67 rfl (uform_ok m hm hm3 hO15 (by have := frm_len (rs.take k); rw [List.length_take] at this; omega)) rfl ?_
    rintro _ w17 ⟨a1, c1, ob1, rfl, hN1, hw18, hob1⟩
    have hA19 := ap_ob (Apart.fresh (Lt.own hO) hge) (Lt.own hO16) hob1
    have hG20 := ge_ob hge hE14.size hob1
    have hE21 := hE14.step hw18 hge.mem
    have hO22 := hO16.evo hw18 (Apart.fresh (Lt.own hO) hge).own
    have e9 := frm_succ hj'
    have e8 : formB rs[k] = formN m := by rw [hm, formB, if_pos (hm ▸ hir)]; rfl
    rw [e8] at e9
    rw [show (frm (rs.take k)).length + (formN m).length = (frm (rs.take (k + 1))).length from by rw [e9, List.length_append]]
    refine wl_a ?_
    refine wl_nil (nrm_block (nrm_then ?_))
    refine cw_region ?_
    refine wl_val rfl (ex_add_i64 rfl rfl (by omega) (by omega)) ?_
    refine wl_m ?_
    refine wl_nil (nrm_same ?_)
    refine ⟨⟨k + 1, a1, c1, ob1⟩, ?_, ⟨rfl, rfl, trivial⟩, ⟨rfl, rfl, trivial⟩, hE21, ?_⟩
    · (try dsimp only); omega
    ·skip
     try dsimp only
     refine ⟨hO22, by show k + 1 ≤ _; omega, ?_, ?_, hG20⟩
     · show ∀ r, r ∈ rs.take (k + 1) → IsR r; intro r hr; rw [List.take_add_one, List.getElem?_eq_getElem hj', List.mem_append] at hr; rcases hr with hr | hr; exact hall r hr; (simp at hr; subst hr; exact hir)
     · have h9 := hN1; rw [← e9] at h9; show OwnS _ 5 1 _ (frm (rs.take (k + 1))).length _ (u8s (frm (rs.take (k + 1)))) _; rw [e9, List.length_append, ← e9]; exact h9
  ·skip
   have hall2 : rs.take k = rs := List.take_of_length_le (by omega)
   refine cw_exit (ex_then (ex_then (ex_here (nrm_then ?_))))
   refine cw_seq ?_
   refine cw_region ?_
   refine wl_m ?_
   refine wl_val rfl (ex_bstr (X := []) rfl (own_bstr hn rfl (frm_lt _)) Try.underlying93 Try.underlying5 Try.underlying9) ?_
   refine wl_a ?_
   refine wl_a ?_
   refine wl_nil (nrm_then ?_)
   refine cw_ret (body_ret2 rfl rfl rfl ?_)
   exact ⟨.inl ⟨by rw [hall2], hall2 ▸ hall⟩, hV11⟩

end Go.Proofs.Ytgboffefbpligaa
