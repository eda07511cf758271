/- Names: part 2 of 6 of what the law rests on. -/
import Derived.Test.YtljadkcojnlioaaPkA
namespace Go.Proofs.Ytljadkcojnlioaa
open Go.Proofs
set_option linter.unusedVariables false
open Go.Shelf
def Try.lays137_ren : Go.Shelf.Ren := ⟨fun | 137 => 49 | 217 => 57 | 266 => 64 | n => n, fun | 9 => 9 | 5 => 5 | 3 => 3 | n => n, fun | n => n⟩
theorem Try.lays137 : Go.Proofs.Lays.n137 Try.prog Try.lays137_ren := {
  mixed := by kernel_rfl
  f137 := Try.func49.trans (congrArg some (by kernel_rfl))
  f217 := Try.func57.trans (congrArg some (by kernel_rfl))
  f266 := Try.func64.trans (congrArg some (by kernel_rfl))
  t3 := Try.underlying3
  a3 := Try.isAgg3
  z3 := Try.sizeOf3
  v3 := Try.zeroValue3
  t5 := Try.underlying5
  a5 := Try.isAgg5
  z5 := Try.sizeOf5
  v5 := Try.zeroValue5
  t9 := Try.underlying9
  a9 := Try.isAgg9
  z9 := Try.sizeOf9
  v9 := Try.zeroValue9 }
open Go.RowKit in
theorem Try.strings_IndexByte (s : ByteArray) (c : Int) (w : World) :
    Calls Try.prog 49 #[.string s, .int .u8 c] w fun e w' => e = .returned (.int .i64 (Lib.indexByte s.data.toList c.toNat.toUInt8)) ∧ w' = w := Any.strings_IndexByte Try.lays137 s c w
def Try.lays143_ren : Go.Shelf.Ren := ⟨fun | 143 => 44 | 219 => 55 | 217 => 57 | 225 => 61 | 224 => 62 | 267 => 63 | 266 => 64 | 314 => 75 | n => n, fun | 9 => 9 | 3 => 3 | 4 => 4 | 5 => 5 | 46 => 94 | 146 => 108 | 51 => 105 | n => n, fun | 1 => 0 | n => n⟩
theorem Try.lays143 : Go.Proofs.Lays.n143 Try.prog Try.lays143_ren := {
  mixed := by kernel_rfl
  f143 := Try.func44.trans (congrArg some (by kernel_rfl))
  f217 := Try.func57.trans (congrArg some (by kernel_rfl))
  f219 := Try.func55.trans (congrArg some (by kernel_rfl))
  f224 := Try.func62.trans (congrArg some (by kernel_rfl))
  f225 := Try.func61.trans (congrArg some (by kernel_rfl))
  f266 := Try.func64.trans (congrArg some (by kernel_rfl))
  f267 := Try.func63.trans (congrArg some (by kernel_rfl))
  f314 := Try.func75.trans (congrArg some (by kernel_rfl))
  t3 := Try.underlying3
  a3 := Try.isAgg3
  z3 := Try.sizeOf3
  v3 := Try.zeroValue3
  t4 := Try.underlying4
  a4 := Try.isAgg4
  z4 := Try.sizeOf4
  v4 := Try.zeroValue4
  t5 := Try.underlying5
  a5 := Try.isAgg5
  z5 := Try.sizeOf5
  v5 := Try.zeroValue5
  t9 := Try.underlying9
  a9 := Try.isAgg9
  z9 := Try.sizeOf9
  v9 := Try.zeroValue9
  t46 := Try.underlying94
  a46 := Try.isAgg94
  z46 := Try.sizeOf94
  v46 := Try.zeroValue94
  t51 := Try.underlying105
  a51 := Try.isAgg105
  z51 := Try.sizeOf105
  v51 := Try.zeroValue105
  t146 := Try.underlying108
  a146 := Try.isAgg108
  z146 := Try.sizeOf108
  v146 := Try.zeroValue108
  g1 := by kernel_rfl }
open Go.RowKit Go.Lib in
theorem Try.strings_Index (s sub : ByteArray) (m : Int) (w : World) (hs : s.size < 4294967281) (hm : w.cell? ⟨0, 0, none⟩ = some (.int .i64 m)) :
    Calls Try.prog 44 #[.string s, .string sub] w fun e w' => e = .returned (.int .i64 (Lib.index s.data.toList sub.data.toList)) ∧ w' = w := Any.strings_Index Try.lays143 s sub m w hs hm
def Try.laysM143_ren : Go.Shelf.Ren := ⟨fun | 143 => 44 | 219 => 55 | 217 => 57 | 225 => 61 | 224 => 62 | 267 => 63 | 266 => 64 | 314 => 75 | n => n, fun | 9 => 9 | 3 => 3 | 4 => 4 | 5 => 5 | 46 => 94 | 146 => 108 | 51 => 105 | n => n, fun | 1 => 0 | n => n⟩
theorem Try.laysM143 : Go.Proofs.LaysM.n143 Try.prog Try.laysM143_ren := {
  mixed := by kernel_rfl
  f143 := Try.func44.trans (congrArg some (by kernel_rfl))
  f217 := Try.func57.trans (congrArg some (by kernel_rfl))
  f219 := Try.func55.trans (congrArg some (by kernel_rfl))
  f224 := Try.func62.trans (congrArg some (by kernel_rfl))
  f225 := Try.func61.trans (congrArg some (by kernel_rfl))
  f266 := Try.func64.trans (congrArg some (by kernel_rfl))
  f267 := Try.func63.trans (congrArg some (by kernel_rfl))
  f314 := Try.func75.trans (congrArg some (by kernel_rfl))
  t3 := Try.underlying3
  a3 := Try.isAgg3
  z3 := Try.sizeOf3
  v3 := Try.zeroValue3
  t4 := Try.underlying4
  a4 := Try.isAgg4
  z4 := Try.sizeOf4
  v4 := Try.zeroValue4
  t5 := Try.underlying5
  a5 := Try.isAgg5
  z5 := Try.sizeOf5
  v5 := Try.zeroValue5
  t9 := Try.underlying9
  a9 := Try.isAgg9
  z9 := Try.sizeOf9
  v9 := Try.zeroValue9
  t46 := Try.underlying94
  a46 := Try.isAgg94
  z46 := Try.sizeOf94
  v46 := Try.zeroValue94
  t51 := Try.underlying105
  a51 := Try.isAgg105
  z51 := Try.sizeOf105
  v51 := Try.zeroValue105
  t146 := Try.underlying108
  a146 := Try.isAgg108
  z146 := Try.sizeOf108
  v146 := Try.zeroValue108
  g1 := by kernel_rfl
  i3 := by kernel_rfl
  i4 := by kernel_rfl
  i5 := by kernel_rfl
  i9 := by kernel_rfl
  i46 := by kernel_rfl
  i51 := by kernel_rfl
  i146 := by kernel_rfl
  m1 := by kernel_rfl
  s1_3 := fun w h => Go.Proofs.cell_of_shapedOpen_int (zero := #[.int .i64 0]) (t := 3) h (of_decide_eq_true (by kernel_rfl)) (by kernel_rfl) rfl (by kernel_rfl) (by kernel_rfl) Try.underlying3 }
def Try.sortR_ren : Go.Shelf.Ren := ⟨fun | 6 => 52 | 15 => 60 | 14 => 59 | 28 => 73 | 29 => 74 | 20 => 65 | 21 => 66 | 22 => 67 | 23 => 68 | 24 => 69 | 25 => 70 | 26 => 71 | 27 => 72 | 46 => 76 | 47 => 77 | 48 => 78 | 49 => 79 | 50 => 80 | 57 => 81 | n => n, fun | 22 => 22 | 24 => 66 | 25 => 90 | 3 => 3 | 39 => 94 | 0 => 0 | 53 => 105 | 55 => 107 | 4 => 4 | 46 => 98 | 45 => 97 | 50 => 102 | 5 => 5 | 9 => 9 | 66 => 110 | 70 => 114 | 76 => 116 | 77 => 58 | n => n, fun | n => n⟩
theorem Try.sortR : Go.Proofs.SlLaysF0.n6 Try.prog Try.sortR_ren := {
  mixed := by kernel_rfl
  f6 := ⟨Try.f52.name, by decide, Try.func52.trans (congrArg some (by kernel_rfl))⟩
  f14 := ⟨Try.f59.name, by decide, Try.func59.trans (congrArg some (by kernel_rfl))⟩
  f15 := Try.func60.trans (congrArg some (by kernel_rfl))
  f20 := ⟨Try.f65.name, by decide, Try.func65.trans (congrArg some (by kernel_rfl))⟩
  f21 := ⟨Try.f66.name, by decide, Try.func66.trans (congrArg some (by kernel_rfl))⟩
  f22 := ⟨Try.f67.name, by decide, Try.func67.trans (congrArg some (by kernel_rfl))⟩
  f23 := ⟨Try.f68.name, by decide, Try.func68.trans (congrArg some (by kernel_rfl))⟩
  f24 := ⟨Try.f69.name, by decide, Try.func69.trans (congrArg some (by kernel_rfl))⟩
  f25 := ⟨Try.f70.name, by decide, Try.func70.trans (congrArg some (by kernel_rfl))⟩
  f26 := ⟨Try.f71.name, by decide, Try.func71.trans (congrArg some (by kernel_rfl))⟩
  f27 := ⟨Try.f72.name, by decide, Try.func72.trans (congrArg some (by kernel_rfl))⟩
  f28 := Try.func73.trans (congrArg some (by kernel_rfl))
  f29 := Try.func74.trans (congrArg some (by kernel_rfl))
  f46 := ⟨Try.f76.name, by decide, Try.func76.trans (congrArg some (by kernel_rfl))⟩
  f47 := Try.func77.trans (congrArg some (by kernel_rfl))
  f48 := Try.func78.trans (congrArg some (by kernel_rfl))
  f49 := ⟨Try.f79.name, by decide, Try.func79.trans (congrArg some (by kernel_rfl))⟩
  f50 := ⟨Try.f80.name, by decide, Try.func80.trans (congrArg some (by kernel_rfl))⟩
  f57 := ⟨Try.f81.name, by decide, Try.func81.trans (congrArg some (by kernel_rfl))⟩
  t0 := Try.underlying0
  a0 := Try.isAgg0
  z0 := Try.sizeOf0
  v0 := Try.zeroValue0
  t3 := Try.underlying3
  a3 := Try.isAgg3
  z3 := Try.sizeOf3
  v3 := Try.zeroValue3
  t4 := Try.underlying4
  a4 := Try.isAgg4
  z4 := Try.sizeOf4
  v4 := Try.zeroValue4
  t5 := Try.underlying5
  a5 := Try.isAgg5
  z5 := Try.sizeOf5
  v5 := Try.zeroValue5
  t9 := Try.underlying9
  a9 := Try.isAgg9
  z9 := Try.sizeOf9
  v9 := Try.zeroValue9
  t22 := Try.underlying22
  a22 := Try.isAgg22
  z22 := Try.sizeOf22
  v22 := Try.zeroValue22
  t25 := Try.underlying90
  a25 := Try.isAgg90
  z25 := Try.sizeOf90
  v25 := Try.zeroValue90
  t39 := Try.underlying94
  a39 := Try.isAgg94
  z39 := Try.sizeOf94
  v39 := Try.zeroValue94
  t45 := Try.underlying97
  a45 := Try.isAgg97
  z45 := Try.sizeOf97
  v45 := Try.zeroValue97
  t46 := Try.underlying98
  a46 := Try.isAgg98
  z46 := Try.sizeOf98
  v46 := Try.zeroValue98
  t50 := Try.underlying102
  a50 := Try.isAgg102
  z50 := Try.sizeOf102
  v50 := Try.zeroValue102
  t53 := Try.underlying105
  a53 := Try.isAgg105
  z53 := Try.sizeOf105
  v53 := Try.zeroValue105
  t55 := Try.underlying107
  a55 := Try.isAgg107
  z55 := Try.sizeOf107
  v55 := Try.zeroValue107
  t66 := Try.underlying110
  a66 := Try.isAgg110
  z66 := Try.sizeOf110
  v66 := Try.zeroValue110
  t70 := Try.underlying114
  a70 := Try.isAgg114
  z70 := Try.sizeOf114
  v70 := Try.zeroValue114
  t76 := Try.underlying116
  a76 := Try.isAgg116
  z76 := Try.sizeOf116
  v76 := Try.zeroValue116
  t77 := Try.underlying58
  a77 := Try.isAgg58
  z77 := Try.sizeOf58
  v77 := Try.zeroValue58 }
end Go.Proofs.Ytljadkcojnlioaa
namespace Go.W
open Go.RowKit
set_option linter.unusedVariables false
set_option linter.unusedSimpArgs false
set_option linter.unusedSectionVars false
section
variable {P : Program} {σ : Env} {w : World} {dst : Option Nat} {T : TypeId} {pos : String} {after : Array Edge} {g : Option (Nat × Bool)}
theorem run_eqSl (n : Nat) {t e : TypeId} {a : Option Addr} {k c : Nat} (ht : P.underlying t = some (.slice e)) : (Op.equalIn (n + 1) t (.slice a k c) (.slice none 0 0)).run P w = .ok a.isNone w := by
  cases a <;> simp [Op.equalIn, run_underlying ht]
theorem ex_eqSl {x y : Operand} {t e t' : TypeId} {a : Option Addr} {k c : Nat} (hx : σ.ev x = some (.slice a k c)) (hy : σ.ev y = some (.slice none 0 0)) (ht : P.underlying t = some (.slice e)) :
    Ex P σ ⟨dst, .binOp .eql t x y t', T, pos, after, g⟩ w (.bool a.isNone) w := fun ρ hρ => by
  have h1 : (Op.equal t (.slice a k c) (.slice none 0 0)).run P w = .ok a.isNone w := run_eqSl 9999 ht
  simp [execOp, hρ x _ hx, hρ y _ hy, eqGuard, Go.binOp, h1]
theorem ex_indexAddrA {x i : Operand} {t : TypeId} {k : IntKind} {n sz b o len c : Nat} {a : Option Addr} (hx : σ.ev x = some (.slice a len c)) (hi : σ.ev i = some (.int k (n : Nat))) (ha : a = some ⟨b, o, none⟩) (he : elemB P t = some sz) (hlt : n < len) :
    Ex P σ ⟨dst, .indexAddr t x i, T, pos, after, g⟩ w (.pointer (some ⟨b, o + n * sz, none⟩)) w := by
  subst ha; exact ex_indexAddr hx hi he hlt
theorem ex_ssubFrom {x lo : Operand} {t : TypeId} {s : ByteArray} {lv : Int} {l : Nat} (hx : σ.ev x = some (.string s)) (hlo : σ.ev lo = some (.int .i64 lv)) (ht : P.underlying t = some .string) (hl : lv = (l : Int)) (hlh : l ≤ s.size) :
    Ex P σ ⟨dst, .slice t x (some lo) none none, T, pos, after, g⟩ w (.string (s.extract l s.size)) w := fun ρ hρ => by
  subst hl
  have := run_slice_string_l (P := P) w t s ht .i64 (l : Int) (by omega) (by omega)
  simp only [execOp, hρ x _ hx, Option.map_some, Option.map_none, hρ lo _ hlo, Instr.sliceAt, run_underlying ht, Sem.run_bind, Result.andThen_ok, this, Int.toNat_natCast, Sem.run_pure]
theorem ex_ssubTo {x hi : Operand} {t : TypeId} {s : ByteArray} {hv : Int} {h : Nat} (hx : σ.ev x = some (.string s)) (hhi : σ.ev hi = some (.int .i64 hv)) (ht : P.underlying t = some .string) (hh : hv = (h : Int)) (hhc : h ≤ s.size) :
    Ex P σ ⟨dst, .slice t x none (some hi) none, T, pos, after, g⟩ w (.string (s.extract 0 h)) w := fun ρ hρ => by
  subst hh
  have := run_slice_string_h (P := P) w t s ht .i64 (h : Int) (by omega) (by omega)
  simp only [execOp, hρ x _ hx, Option.map_some, Option.map_none, hρ hi _ hhi, Instr.sliceAt, run_underlying ht, Sem.run_bind, Result.andThen_ok, this, Int.toNat_natCast, Sem.run_pure]
end
end Go.W
namespace Go.Proofs.Ytljadkcojnlioaa
open Go.Proofs
open Go.W Go.RowKit
attribute [local irreducible] Decidable.decide
set_option linter.unusedSimpArgs false
set_option linter.unusedVariables false
theorem Try.agg21 : aggB Try.prog 21 = some false := by kernel_rfl
theorem Try.agg22 : aggB Try.prog 22 = some false := by kernel_rfl
theorem Try.agg66 : aggB Try.prog 66 = some true := by kernel_rfl
theorem Try.app22_22 : appB Try.prog 22 22 = some (66, 2, 8) := by kernel_rfl
theorem Try.build66 : Build Try.prog 66 #[(0, 1), (1, 1)] #[.int .i32 0, .int .i32 0] := ⟨_, .agg #[.int .i32 0, .int .i32 0], Try.underlying66, by kernel_rfl, rfl, fun w => by kernel_rfl⟩
theorem Try.elem22 : elemB Try.prog 22 = some 2 := by kernel_rfl
theorem Try.elem77 : elemB Try.prog 77 = some 1 := by kernel_rfl
theorem Try.size66 : sizeB Try.prog 66 = some 2 := by kernel_rfl
theorem Try.slice22 : sliceB Try.prog 22 = some (66, 2) := by kernel_rfl
def Vr (l : List (Int × Int)) : Prop := ∀ g, g ∈ l → 0 ≤ g.1 ∧ g.1 ≤ g.2 ∧ g.2 ≤ 1114111
def pairs : List Int → List (Int × Int)
  | a :: b :: r => (a, b) :: pairs r
  | _ => []
theorem pairs_len : ∀ (l : List Int), (pairs l).length = l.length / 2
  | [] => rfl
  | [a] => by rw [show pairs [a] = [] from rfl]; simp
  | a :: b :: r => by rw [pairs, List.length_cons, pairs_len r]; simp only [List.length_cons]; omega
theorem pairs_get : ∀ {l : List Int} {k : Nat} (h : k < (pairs l).length) (h0 : 2 * k < l.length) (h1 : 2 * k + 1 < l.length), (pairs l)[k] = (l[2 * k], l[2 * k + 1])
  | [], k, h, _, _ => by cases h
  | [a], k, h, _, _ => by cases h
  | a :: b :: r, 0, h, _, _ => rfl
  | a :: b :: r, k + 1, h, h0, h1 => by
    have := pairs_get (l := r) (k := k) (by rw [pairs] at h; simpa using h) (by simp only [List.length_cons] at h0; omega) (by simp only [List.length_cons] at h1; omega)
    have h2 : (pairs (a :: b :: r))[k + 1] = (pairs r)[k]'(by rw [pairs] at h; simpa using h) := rfl
    rw [h2, this]
    simp only [show 2 * (k + 1) = 2 * k + 1 + 1 by omega, List.getElem_cons_succ]
theorem rcells_snoc (l : List (Int × Int)) (a b : Int) : rcells (l ++ [(a, b)]) = rcells l ++ [.int .i32 a, .int .i32 b] := by rw [rcells_app]; rfl
abbrev i32v (l : List Int) : List Value := l.map fun c => Value.int .i32 c
theorem own_i32v {w : World} {e : TypeId} {a : Option Addr} {n c : Nat} {ys : List Int} {ob : Option Nat} (h : OwnS w e 1 a n c (i32v ys) ob) {k : Nat} (hk : k < ys.length) : ∃ g, ob = some g ∧ a = some ⟨g, 0, none⟩ ∧ w.cell? ⟨g, 0 + k * 1, none⟩ = some (.int .i32 ys[k]) := by
  have hl : ys.length = n * 1 := by have := h.length; simpa using this
  obtain ⟨g, hg, ha, hc⟩ := h.cells (by omega)
  refine ⟨g, hg, ha, ?_⟩
  rw [Nat.mul_one]
  exact hc k _ (by simp [hk])
structure SpG where
  k : Nat
  sa : Option Addr
  sc : Nat
  so : Option Nat
structure SpI (w wr : World) (n : Nat) (l : List (Int × Int)) (a : Option Addr) (c : Nat) (ob : Option Nat) : Prop where
  hk : n = l.length
  own : OwnS wr 66 2 a n c (rcells l) ob
  ge : Ge w ob
theorem cloneR_ok {w : World} {a : Option Addr} {c : Nat} {l : List (Int × Int)} {ob : Option Nat} (hO : OwnS w 66 2 a l.length c (rcells l) ob) (hl : l.length ≤ 1000000) :
    Calls Try.prog 48 #[.slice a l.length c] w (Ret fun v w' => ∃ a' c' ob', v = .slice a' l.length c' ∧ OwnS w' 66 2 a' l.length c' (rcells l) ob' ∧ Ge w ob' ∧ Evo [] w w') := by
  refine calls_of_cw (N := 8) Try.func48 rfl rfl rfl ?_; refine cw_seq ?_; refine cw_region ?_; refine wl_a ?_; refine wl_nil (nrm_then ?_); refine cw_seq ?_; refine cw_seq ?_; refine cw_region ?_; refine wl_m ?_; refine wl_val rfl (ex_eqSl rfl rfl Try.underlying22) ?_; refine wl_nil (nrm_then ?_); refine cw_ifb rfl (fun hc4 => ?_) (fun hc4 => ?_)
  ·skip
   refine cw_seq ?_; refine cw_region ?_; refine wl_a ?_; refine wl_nil (nrm_then ?_); refine cw_ret (ret_then (body_ret1 rfl rfl ?_))
   obtain ⟨rfl, h1, rfl, rfl⟩ := (own_rz hO).resolve_right (fun ⟨g, h, _⟩ => by rw [h] at hc4; cases hc4)
   exact ⟨none, 0, none, rfl, OwnS.nil _ _ _, Ge.nil _, (Evo.refl [] w)⟩
  ·skip
   refine cw_skip (nrm_then ?_); refine cw_seq ?_; refine cw_region ?_; refine wl_bslice (vs := []) rfl Try.slice22 rfl rfl rfl rfl fun b1 w2 hO3 hs4 hw5 => ?_; have hA6 := Apart.new (Lt.own hO) hs4; have hG7 := Ge.new (Evo.refl [] w) hs4; have hE8 := (Evo.refl [] w).then hw5; have hO9 := hO.evo0 hw5; refine wl_m ?_; refine wl_append rfl rfl rfl rfl Try.app22_22 hO3 (Src.ofOwn (hO.evo0 hE8) (rcells_one l)) (by omega) fun a2 c2 w12 ob2 hO2 hw15 hob16 => ?_; have hA17 := hA6.app (Lt.own hO9) hob16; have hG18 := hG7.app hE8 hob16; have hE19 := hE8.step hw15 hG7.mem; have hO20 := hO9.evo hw15 hA6.own; refine wl_a ?_; refine wl_nil (nrm_then ?_); refine cw_ret (body_ret1 rfl rfl ?_); have hO3 := hO2; rw [Nat.zero_add] at hO3; exact ⟨a2, c2, ob2, by rw [Nat.zero_add], by simpa using hO3, hG18, hE19⟩
theorem span_ok {w : World} {a : Option Addr} {n c : Nat} {es : List Int} {ob : Option Nat} (hO : OwnS w 21 1 a n c (i32v es) ob) (hl : es.length ≤ 1000) :
    Calls Try.prog 28 #[.slice a n c] w (Ret fun v w' => ∃ a' c' ob', v = .slice a' (pairs es).length c' ∧ OwnS w' 66 2 a' (pairs es).length c' (rcells (pairs es)) ob' ∧ Ge w ob' ∧ Evo [] w w') := by
  have hn : n = es.length := by have := hO.length; simp at this; omega
  subst hn; have hpl := pairs_len es; refine calls_of_cw (N := 26) Try.func28 rfl rfl rfl ?_; refine cw_seq ?_; refine cw_region ?_; refine wl_a ?_; refine wl_nil (nrm_then ?_); refine cw_seq ?_; refine cw_region ?_; refine wl_a ?_; refine wl_nil (nrm_then ?_); refine cw_seq ?_; refine cw_seq ?_; refine cw_region ?_; refine wl_a ?_; refine wl_nil (nrm_then ?_); refine cw_block ?_; refine cw_loop (α := SpG) (⟨0, none, 0, none⟩) (fun x => [(3, .slice x.sa x.k x.sc), (4, .int .i64 ((2 * x.k : Nat) : Int))]) [(0, _), (2, _)] (fun x wr => Evo [] w wr ∧ (x.k ≤ (pairs es).length ∧ SpI w wr x.k ((pairs es).take x.k) x.sa x.sc x.so)) (fun x => (pairs es).length - x.k) ⟨rfl, rfl, trivial⟩ ⟨rfl, rfl, trivial⟩ ⟨(Evo.refl [] w), ⟨Nat.zero_le _, by simp, OwnS.nil _ _ _, Ge.nil _⟩⟩ ?_; rintro ⟨k, sa, sc, so⟩ wr1 ⟨hV2, ⟨hk, hkl, hown, hge⟩⟩; show CW _ _ _ _ [(3, .slice sa k sc), (4, .int .i64 ((2 * k : Nat) : Int)), (0, _), (2, _)] _
  try dsimp only at hk
  try dsimp only at hkl
  try dsimp only at hown
  try dsimp only at hge
  refine cw_seq ?_; refine cw_seq ?_; refine cw_region ?_; refine wl_m ?_; refine wl_val rfl (ex_add_i64 rfl rfl (by omega) (by omega)) ?_; refine wl_m ?_; refine wl_val rfl (ex_len_slice rfl Try.underlying77 rfl) ?_; refine wl_val rfl (ex_lss rfl rfl) ?_; refine wl_nil (nrm_then ?_); refine cw_if rfl (fun hc9 => ?_) (fun hc9 => ?_)
  ·skip
   have h0 : 2 * k < es.length := by omega
   have h1 : 2 * k + 1 < es.length := by omega
   have hk' : k < (pairs es).length := by omega
   obtain ⟨g0, hg0, ha0, hc0⟩ := own_i32v hO h0; obtain ⟨g1, hg1, ha1, hc1⟩ := own_i32v hO h1; refine cw_skip (nrm_then ?_); refine cw_seq ?_; refine cw_block ?_; refine cw_any (fun w0 w' => Evo so.toList w0 w') (by kernel_rfl) (fun w3 hw4 => ?_); have hE5 := hV2.then hw4; have hO6 := hown.evo0 hw4; refine ae_take 0 rfl (by kernel_rfl) (by kernel_rfl) (by kernel_rfl) rfl (fun _ hS => ex_move rfl) (Evo.refl so.toList w3) ?_; refine ae_take 1 rfl (by kernel_rfl) (by kernel_rfl) (by kernel_rfl) rfl (fun _ hS => ex_move rfl) (Evo.refl so.toList w3) ?_; refine ae_take 2 rfl (by kernel_rfl) (by kernel_rfl) (by kernel_rfl) rfl (fun _ hS => ex_move rfl) (Evo.refl so.toList w3) ?_; refine ae_take 3 rfl (by kernel_rfl) (by kernel_rfl) (by kernel_rfl) rfl (fun _ hS => ex_indexAddrA (n := 2 * k) rfl (by rfl) ha0 Try.elem77 h0) (Evo.refl so.toList w3) ?_; refine ae_take 4 rfl (by kernel_rfl) (by kernel_rfl) (by kernel_rfl) rfl (fun _ hS => ex_load1 rfl Try.agg21 (((hE5.step hS (hge.mem))).cell hc0 (by simp))) (Evo.refl so.toList w3) ?_; refine ae_take 5 rfl (by kernel_rfl) (by kernel_rfl) (by kernel_rfl) rfl (fun _ hS => ex_move rfl) (Evo.refl so.toList w3) ?_; refine ae_take 6 rfl (by kernel_rfl) (by kernel_rfl) (by kernel_rfl) rfl (fun _ hS => ex_move rfl) (Evo.refl so.toList w3) ?_; refine ae_take 7 rfl (by kernel_rfl) (by kernel_rfl) (by kernel_rfl) rfl (fun _ hS => ex_add_i64 rfl rfl (by omega) (by omega)) (Evo.refl so.toList w3) ?_; refine ae_take 8 rfl (by kernel_rfl) (by kernel_rfl) (by kernel_rfl) rfl (fun _ hS => ex_indexAddrA (n := 2 * k + 1) rfl (by rfl) ha1 Try.elem77 h1) (Evo.refl so.toList w3) ?_
   refine ae_take 9 rfl (by kernel_rfl) (by kernel_rfl) (by kernel_rfl) rfl (fun _ hS => ex_load1 rfl Try.agg21 (((hE5.step hS (hge.mem))).cell hc1 (by simp))) (Evo.refl so.toList w3) ?_; refine ae_take 10 rfl (by kernel_rfl) (by kernel_rfl) (by kernel_rfl) rfl (fun _ hS => ex_build (vs := [(0, _), (1, _)]) Try.build66 rfl (cells := [_, _]) rfl) (Evo.refl so.toList w3) ?_; refine ae_loud [11] (by kernel_rfl) rfl ⟨?_, trivial⟩; refine a_step rfl ?_; refine wl_bslice (vs := [_]) rfl Try.slice22 rfl rfl rfl rfl fun b7 w8 hO9 hs10 hw11 => ?_; have hA12 := Apart.new (Lt.own hO6) hs10; have hG13 := Ge.new hE5 hs10; have hG14 := Ge.new (Evo.refl so.toList w3) hs10; have hE15 := hE5.then hw11; have hE16 := (Evo.refl so.toList w3).then hw11; have hO17 := hO6.evo0 hw11; refine wl_nil (ae_next (.inl hE16) ?_); refine ae_loud [12] (by kernel_rfl) rfl ⟨?_, trivial⟩; refine a_step rfl ?_; refine wl_append rfl rfl rfl rfl Try.app22_22 hO17 (Src.ofOwn hO9 ⟨by first | rfl | assumption, by first | rfl | assumption, trivial⟩) (by omega) fun a2 c2 w20 ob2 hO2 hw23 hob24 => ?_; have hA25 := hA12.symm.app (Lt.own hO9) hob24; have hG26 := hge.app hE15 hob24; have hE27 := hE15.step hw23 hge.mem; have hE28 := hE16.step hw23 (fun y hy => .inl hy); have hO29 := hO9.evo hw23 hA12.symm.own; refine wl_nil (ae_next (.inl hE28) ?_); refine ae_take 13 rfl (by kernel_rfl) (by kernel_rfl) (by kernel_rfl) rfl (fun _ hS => ex_assign rfl) hE28 ?_; refine ae_done (by kernel_rfl) (nrm_block (nrm_then ?_)); refine cw_region ?_; refine wl_m ?_; refine wl_val rfl (ex_add_i64 rfl rfl (by omega) (by omega)) ?_; refine wl_a ?_; refine wl_nil (nrm_same ?_); refine ⟨⟨k + 1, a2, c2, ob2⟩, ?_, ⟨rfl, rfl, trivial⟩, ⟨rfl, rfl, trivial⟩, hE27, ?_⟩
   · (try dsimp only); omega
   ·skip
    try dsimp only
    refine ⟨hk', ⟨by rw [List.length_take]; omega, ?_, hG26⟩⟩
    rw [List.take_add_one, List.getElem?_eq_getElem hk', pairs_get hk' h0 h1, Option.toList_some, rcells_snoc]; exact hO2
  ·skip
   refine cw_exit (ex_then (ex_then (ex_here (nrm_then ?_)))); refine cw_seq ?_; refine cw_region ?_; refine wl_m ?_; refine wl_a ?_; refine wl_nil (nrm_then ?_); refine cw_ret (body_ret1 rfl rfl ?_)
   obtain rfl : k = (pairs es).length := by omega
   rw [List.take_length] at hown; exact ⟨sa, sc, so, rfl, hown, hge, hV2⟩
end Go.Proofs.Ytljadkcojnlioaa
namespace Go.Proofs.Ytljadkcojnlioaa
open Go.Proofs
open Go.W Go.RowKit
attribute [local irreducible] Decidable.decide
set_option linter.unusedSimpArgs false
set_option linter.unusedVariables false
open Go.Shelf Go.Lib Go.Sort in
section
def cl (z : Int) : Int := max 0 (min z 1114111)
def encC (g : Int × Int) : List Value := encR (cl g.1, cl g.2)
def cmC (x y : Int × Int) : Int := cl x.1 - cl y.1
theorem cl_of {z : Int} (h0 : 0 ≤ z) (h1 : z ≤ 1114111) : cl z = z := by unfold cl; omega
theorem cl_b (z : Int) : 0 ≤ cl z ∧ cl z ≤ 1114111 := by unfold cl; omega
set_option maxHeartbeats 1000000 in
theorem clos_ok (x y : Int × Int) (W : World) : Calls Try.prog 53 #[.agg (encC x).toArray, .agg (encC y).toArray] W fun e w' => e = .returned (.int .i64 (cmC x y)) ∧ ∃ q os', w' = Sort.grow (W.drewN q) os' := by
  have hx := cl_b x.1
  have hy := cl_b y.1
  unfold encC encR cmC
  generalize cl x.1 = p at *
  generalize cl y.1 = q at *
  generalize cl x.2 = p' at *
  generalize cl y.2 = q' at *
  show Calls Try.prog 53 #[.agg #[.int .i32 p, .int .i32 p'], .agg #[.int .i32 q, .int .i32 q']] W _
  go_enter Try.func53, Try.ntmps53
  go_wp2
  go_ret
  refine ⟨?_, 0, _, by rw [Sort.alloc_eq_grow, Sort.alloc_eq_grow, Sort.grow_grow]; rfl⟩
  rfl
end
theorem clP_of {l : List (Int × Int)} (h : Vr l) : l.map (fun g => (cl g.1, cl g.2)) = l := by
  conv => rhs; rw [← List.map_id l]
  refine List.map_congr_left fun g hg => ?_
  have := h g hg
  rw [cl_of (by omega) (by omega), cl_of (by omega) (by omega)]; rfl
theorem encC_cells (l : List (Int × Int)) : Sort.flatK encC 2 l.toArray = (rcells (l.map fun g => (cl g.1, cl g.2))).toArray := by
  rw [← flat_rcells]
  unfold Sort.flatK
  apply Array.ext
  · simp
  · intro t h1 h2
    have h3 : t < l.length * 2 := by simpa using h1
    have h5 : t / 2 < l.length := by omega
    simp [h5]
    rfl
theorem vr_perm {l m : List (Int × Int)} (h : m.Perm l) (hv : Vr l) : Vr m := fun g hg => hv g (h.mem_iff.1 hg)
theorem lt_cm (x y : Int × Int) : Go.Proofs.ltOf cmC x y = decide (cl x.1 < cl y.1) := by unfold Go.Proofs.ltOf cmC; exact decide_eq_decide.2 (by omega)
theorem swo_cm : Sort.SWO (Go.Proofs.ltOf cmC) where
  irrefl x := by rw [lt_cm]; simp
  trans x y z h1 h2 := by rw [lt_cm] at *; simp at *; omega
  ntrans x y z h1 h2 := by rw [lt_cm] at *; simp at *; omega
theorem sortR_ok {w : World} {a : Option Addr} {c : Nat} {l : List (Int × Int)} {ob : Option Nat} (hO : OwnS w 66 2 a l.length c (rcells l) ob) (hv : Vr l) (hl : l.length ≤ 1000000) :
    Calls Try.prog 52 #[.slice a l.length c, .func (.func 53) #[] #[]] w (Ret fun v w' => v = .tuple #[] ∧ ∃ m, m.Perm l ∧ (∀ i j (hij : i < j) (hj : j < m.length), m[i].1 ≤ m[j].1) ∧ OwnS w' 66 2 a l.length c (rcells m) ob ∧ Evo ob.toList w w') := by
  rcases own_rz hO with ⟨rfl, hn, rfl, rfl⟩ | ⟨g, rfl, rfl⟩
  · refine (Go.Proofs.AnyF.slices_SortFunc_none { Try.sortR with } none c (.func (.func 53) #[] #[]) w).mono ?_
    rintro e w' ⟨rfl, rfl⟩
    exact ⟨_, rfl, rfl, [], .refl _, (fun i j hij hj => by cases hj), hO, Evo.refl _ _⟩
  · have eg : ∀ args w, (callFunc 53 args).run Try.prog w = .ok (.enter 53 args) w := enters_of Try.func53 (by kernel_rfl) rfl
    have hH : Sort.HoldsK encC 2 w g 0 l.toArray := by
      have := own_holdsK hO
      unfold Sort.HoldsK at *
      rw [encC_cells, clP_of hv]; rw [flat_rcells] at this; exact this
    have hcon := Go.Proofs.AnyQ.slices_SortFunc Try.sortR 2 Try.isAgg66 Try.sizeOf66 encC (fun _ => rfl) (fun x v hv => by simp [encC, encR] at hv; rcases hv with rfl | rfl <;> rfl) cmC swo_cm 53 #[] g 0 c l.toArray w eg (fun _ _ _ _ x y => clos_ok x y _) hH hO.lt (by simp; omega)
    refine Calls.mono hcon ?_
    rintro e w' ⟨rfl, d', q, os, hp, hs, rfl⟩
    obtain ⟨h1, h2, h3⟩ := hp
    have hperm : d'.toList.Perm l := by
      have e1 : d'.extract 0 l.toArray.size = d' := by rw [← h1, Array.extract_size]
      have e2 : l.toArray.extract 0 l.toArray.size = l.toArray := Array.extract_size
      rw [e1, e2] at h3
      exact h3
    have hvm := vr_perm hperm hv
    have hlen : d'.toList.length = l.length := by simpa using h1
    refine ⟨_, rfl, rfl, d'.toList, hperm, fun i j hij hj => ?_, ?_, ?_⟩
    · have hjs : j < d'.size := by simpa using hj
      have h5 := hs i j (Nat.zero_le _) hij (by rw [← h1]; exact hjs)
      rw [lt_cm, decide_eq_false_iff_not] at h5
      have h6 := hvm _ (List.getElem_mem hj)
      have h7 := hvm _ (List.getElem_mem (show i < d'.toList.length by omega))
      have e1 : d'[j]! = d'.toList[j] := by rw [getElem!_pos d' j hjs]; simp
      have e2 : d'[i]! = d'.toList[i] := by rw [getElem!_pos d' i (by omega)]; simp
      rw [e1, e2, cl_of (by omega) (by omega), cl_of (by omega) (by omega)] at h5
      omega
    · have h8 := own_laidK hO (ds := rcells d'.toList) (by rw [rcells_len, hlen]) q os
      have e3 : Sort.flatK encC 2 d' = (rcells d'.toList).toArray := by
        have := encC_cells d'.toList
        rw [clP_of hvm] at this
        simpa using this
      show OwnS (Sort.grow (Sort.putRow id (Sort.ahead w q) g 0 (Sort.flatK encC 2 d')) os) _ _ _ _ _ _ _
      rw [e3]
      exact h8
    · exact evo_rowK w g q _ os
end Go.Proofs.Ytljadkcojnlioaa
namespace Go.W
open Go.RowKit
set_option linter.unusedVariables false
set_option linter.unusedSimpArgs false
section
variable {P : Program} {σ : Env} {w : World} {dst : Option Nat} {T : TypeId} {pos : String} {after : Array Edge} {g : Option (Nat × Bool)}
theorem ex_indexAddrZA {x i : Operand} {t : TypeId} {k : IntKind} {z : Int} {n sz b o len c : Nat} {a : Option Addr} (hx : σ.ev x = some (.slice a len c)) (hi : σ.ev i = some (.int k z)) (ha : a = some ⟨b, o, none⟩) (hz : z = n) (he : elemB P t = some sz) (hlt : n < len) :
    Ex P σ ⟨dst, .indexAddr t x i, T, pos, after, g⟩ w (.pointer (some ⟨b, o + n * sz, none⟩)) w := by subst ha; exact ex_indexAddrZ hx hi hz he hlt
theorem run_sizeB {t : TypeId} {m : Nat} (hs : sizeB P t = some m) (w : World) : (sizeOf t).run P w = .ok m w := by
  simp only [sizeB] at hs
  cases hi : P.info? t with
  | none => rw [hi] at hs; cases hs
  | some i => rw [hi] at hs; simp at hs; subst hs; simp [sizeOf, typeInfo, hi, go_sem]
theorem run_partA {t : TypeId} {cs : Array Value} {off m : Nat} (w : World) (ht : aggB P t = some true) (hs : sizeB P t = some m) : (part t cs off).run P w = .ok (.agg (cs.extract off (off + m))) w := by
  simp [part, run_isAgg ht, run_sizeB hs]
theorem ex_aidx {x i : Operand} {t e : TypeId} {k : IntKind} {z : Int} {n len sz : Nat} {cs : Array Value} {v : Value} (hx : σ.ev x = some (.agg cs)) (hi : σ.ev i = some (.int k z)) (ht : P.underlying t = some (.array len e)) (hz : z = (n : Int)) (hn : n < len) (hs : sizeB P e = some sz)
    (hp : ∀ w, (part e cs (n * sz)).run P w = .ok v w) : Ex P σ ⟨dst, .index t x i, T, pos, after, g⟩ w v w := fun ρ h => by
  subst hz
  have hc : 0 ≤ (n : Int) ∧ (n : Int) < len := ⟨by omega, by omega⟩
  have hp' := hp w
  simp [run_sizeB hs, go_sem] at hp'
  simp [execOp, h x _ hx, h i _ hi, Instr.index, run_underlying ht, asIntOf, hc, hn, run_sizeB hs, go_sem]
  rw [hp']; rfl
theorem ex_arrAddr {x i : Operand} {t e : TypeId} {k : IntKind} {z : Int} {n len sz b o : Nat} (hx : σ.ev x = some (.pointer (some ⟨b, o, none⟩))) (hi : σ.ev i = some (.int k z)) (ht : P.underlying t = some (.array len e)) (hz : z = (n : Int)) (hn : n < len) (hs : sizeB P e = some sz) :
    Ex P σ ⟨dst, .indexAddr t x i, T, pos, after, g⟩ w (.pointer (some ⟨b, o + n * sz, none⟩)) w := fun ρ h => by
  subst hz
  have hc : 0 ≤ (n : Int) ∧ (n : Int) < len := ⟨by omega, by omega⟩
  simp [execOp, h x _ hx, h i _ hi, Instr.indexAt, run_underlying ht, Instr.sureAddr, asIntOf, hc, hn, run_sizeB hs, Addr.add, go_sem]
theorem ex_buildA {t e : TypeId} {len sz : Nat} {parts : Array (Nat × Operand)} {vs : List (Nat × Value)} {zero cells : Array Value} (ht : P.underlying t = some (.array len e)) (hz : zeroB P t = some zero) (hs : sizeB P e = some sz)
    (hp : parts.toList.map (fun p => (p.1, σ.ev p.2)) = vs.map (fun q => (q.1, some q.2))) (hf : Instr.fill (fun i => some (i * sz, sz)) zero vs = some cells) : Ex P σ ⟨dst, .build t parts, T, pos, after, g⟩ w (.agg cells) w := fun ρ ha => by
  obtain ⟨z, hz1, hz2⟩ := Option.map_eq_some_iff.1 hz
  obtain ⟨i, hi, hz'⟩ := Option.bind_eq_some_iff.1 hz1
  have hparts : (parts.map fun p => (p.1, ρ p.2)).toList = vs := by
    rw [Array.toList_map]
    clear hf
    revert hp
    generalize parts.toList = l
    intro hp
    induction l generalizing vs with
    | nil => cases vs with | nil => rfl | cons _ _ => simp at hp
    | cons p l ih =>
      cases vs with
      | nil => simp at hp
      | cons q vs =>
        simp only [List.map_cons, List.cons.injEq, Prod.mk.injEq] at hp
        obtain ⟨⟨h1, h2⟩, h3⟩ := hp
        rw [List.map_cons, ih h3, h1, ha _ _ h2]
  have hzero : (zeroValue t).run P w = .ok z w := by simp [zeroValue, typeInfo, hi, hz', go_sem]
  subst hz2
  rw [Array.toList_map] at hparts
  simp only [execOp, Instr.build, hzero, Sem.run_bind, Result.andThen_ok, run_underlying ht, run_sizeB hs, Array.toList_map, hparts, hf, Sem.run_pure]
theorem ex_ssubFromE {x lo : Operand} {t : TypeId} {s r : ByteArray} {lv : Int} {l : Nat} (hx : σ.ev x = some (.string s)) (hlo : σ.ev lo = some (.int .i64 lv)) (ht : P.underlying t = some .string) (hl : lv = (l : Int)) (hlh : l ≤ s.size) (hr : s.extract l s.size = r) :
    Ex P σ ⟨dst, .slice t x (some lo) none none, T, pos, after, g⟩ w (.string r) w := by subst hr; exact ex_ssubFrom hx hlo ht hl hlh
theorem ex_ssubE {x lo hi : Operand} {t : TypeId} {s r : ByteArray} {lv hv : Int} {l h : Nat} (hx : σ.ev x = some (.string s)) (hlo : σ.ev lo = some (.int .i64 lv)) (hhi : σ.ev hi = some (.int .i64 hv)) (ht : P.underlying t = some .string) (hl : lv = (l : Int)) (hh : hv = (h : Int)) (hlh : l ≤ h) (hhc : h ≤ s.size) (hr : s.extract l h = r) :
    Ex P σ ⟨dst, .slice t x (some lo) (some hi) none, T, pos, after, g⟩ w (.string r) w := by subst hr; exact ex_ssub hx hlo hhi ht hl hh hlh hhc
theorem ex_sidxE {x i : Operand} {t : TypeId} {k : IntKind} {s : ByteArray} {z : Int} {n m : Nat} (hx : σ.ev x = some (.string s)) (hi : σ.ev i = some (.int k z)) (ht : P.underlying t = some .string) (hz : z = (n : Int)) (hn : n < s.size) (hr : sb s n = m) :
    Ex P σ ⟨dst, .index t x i, T, pos, after, g⟩ w (.int .u8 (m : Nat)) w := by subst hr; exact ex_sidx hx hi ht hz hn
theorem ex_addE {x y : Operand} {t t' : TypeId} {m n r : Int} (hx : σ.ev x = some (.int .i64 m)) (hy : σ.ev y = some (.int .i64 n)) (hr : m + n = r) (h1 : -9223372036854775808 ≤ r) (h2 : r ≤ 9223372036854775807) :
    Ex P σ ⟨dst, .binOp .add t x y t', T, pos, after, g⟩ w (.int .i64 r) w := by subst hr; exact ex_add_i64 hx hy h1 h2
end
section
variable {P : Program} {N : NN} {R : Post} {σ : Env} {w : World} {ops : Array Oper} {rest : List Oper} {T : TypeId} {pos : String} {after : Array Edge}
theorem wl_store4 {t U : TypeId} {x y : Operand} {b : Nat} {f1 f2 f3 f4 v0 v1 g1 g2 g3 g4 v6 v7 : Value} (hx : σ.ev x = some (.pointer (some ⟨b, 2, none⟩))) (hy : σ.ev y = some (.agg #[f1, f2, f3, f4])) (hs : sizeB P t = some 4)
    (h1 : AllOne [f1, f2, f3, f4]) (hb : w.heap[b]? = some (.cells #[v0, v1, g1, g2, g3, g4, v6, v7] U (0, 0)))
    (h : ∀ w', w'.heap[b]? = some (.cells #[v0, v1, f1, f2, f3, f4, v6, v7] U (0, 0)) → Evo [b] w w' → WL P N ops R rest σ w') :
    WL P N ops R (⟨none, .store t x y, T, pos, after, none⟩ :: rest) σ w := by
  refine wl_storeG (v := .agg #[f1, f2, f3, f4]) hx hy hs rfl (fun u hu => h1.mem u hu) hb (by show 2 + 4 ≤ 8; omega) ?_
  intro w' hb' he
  exact h w' hb' he
end
end Go.W
namespace Go.Proofs.Ytljadkcojnlioaa
open Go.Proofs
open Go.W Go.RowKit
attribute [local irreducible] Decidable.decide
set_option linter.unusedSimpArgs false
set_option linter.unusedVariables false
theorem Try.fld66_0 : fieldB Try.prog 66 0 = some 0 := by kernel_rfl
theorem Try.fld66_1 : fieldB Try.prog 66 1 = some 1 := by kernel_rfl
theorem Try.goes48 : Goes Try.prog 48 := ⟨_, Try.func48, by kernel_rfl, by kernel_rfl⟩
theorem Try.goes52 : Goes Try.prog 52 := ⟨_, Try.func52, by kernel_rfl, by kernel_rfl⟩
theorem Try.size21 : sizeB Try.prog 21 = some 1 := by kernel_rfl
theorem Try.zero66 : zeroB Try.prog 66 = some #[.int .i32 0, .int .i32 0] := by kernel_rfl
structure MgP (m : List (Int × Int)) (k : Nat) (o : List (Int × Int)) : Prop where
  hk : k ≤ m.length
  can : CanR o
  eq : ∀ c, InR c o ↔ InR c (m.take k)
  le : ∀ g, g ∈ o → ∀ i (h : i < m.length), k ≤ i → g.1 ≤ m[i].1
  len : o.length ≤ k
theorem mg_start (m : List (Int × Int)) : MgP m 0 [] := ⟨Nat.zero_le _, trivial, fun c => by simp, (fun g h => by cases h), Nat.le_refl _⟩
theorem inR_take {m : List (Int × Int)} {k : Nat} (h : k < m.length) (c : Int) : InR c (m.take (k + 1)) ↔ InR c (m.take k) ∨ (m[k].1 ≤ c ∧ c ≤ m[k].2) := by
  rw [List.take_add_one, List.getElem?_eq_getElem h, Option.toList_some, inR_app, inR_one]
section
variable {m : List (Int × Int)} {k : Nat} {o : List (Int × Int)}
theorem mg_app (h : MgP m k o) (hk : k < m.length) (hv : Vr m) (hs : ∀ i j (hij : i < j) (hj : j < m.length), m[i].1 ≤ m[j].1) (ho : o = [] ∨ ∃ o' g, o = o' ++ [g] ∧ ¬ m[k].1 ≤ g.2 + 1) : MgP m (k + 1) (o ++ [m[k]]) := by
  have hx := hv _ (List.getElem_mem hk)
  refine ⟨hk, ?_, fun c => ?_, fun g hg i hi hki => ?_, by rw [List.length_append]; have := h.len; simp; omega⟩
  · rcases ho with rfl | ⟨o', g, rfl, hn⟩
    · exact canR_one hx.1 hx.2.1 hx.2.2
    · exact ((can_more h.can (h.le g (by simp) k hk (Nat.le_refl _)) hx.2.1 hx.2.2).2 hn).1
  · rw [inR_app, inR_one, inR_take hk, h.eq]
  · rcases List.mem_append.1 hg with hg | hg
    · exact h.le g hg i hi (by omega)
    · rw [List.mem_singleton.1 hg]; exact hs k i (by omega) hi
theorem mg_ext {o' : List (Int × Int)} {g : Int × Int} (h : MgP m k (o' ++ [g])) (hk : k < m.length) (hv : Vr m) (hn : m[k].1 ≤ g.2 + 1) : MgP m (k + 1) (o' ++ [(g.1, max g.2 m[k].2)]) := by
  have hx := hv _ (List.getElem_mem hk)
  have h1 := (can_more h.can (h.le g (by simp) k hk (Nat.le_refl _)) hx.2.1 hx.2.2).1 hn
  refine ⟨hk, h1.1, fun c => by rw [h1.2, inR_take hk, h.eq], fun g' hg i hi hki => ?_, by have := h.len; simp at this ⊢; omega⟩
  rcases List.mem_append.1 hg with hg | hg
  · exact h.le g' (by simp [hg]) i hi (by omega)
  · rw [List.mem_singleton.1 hg]; exact h.le g (by simp) i hi (by omega)
theorem mg_end (h : MgP m k o) (hk : m.length ≤ k) {l : List (Int × Int)} (hp : m.Perm l) {S : Int → Prop} (hS : ∀ c, InR c l ↔ S c) : o = canon S := by
  refine (canon_of h.can fun c => ?_).symm
  rw [h.eq, List.take_of_length_le hk, inR_perm hp, hS]
end
theorem rcells_set (o : List (Int × Int)) (g : Int × Int) (z : Int) (j : Nat) (hj : j = 0 + o.length * 2 + 1) : (rcells (o ++ [g])).set j (.int .i32 z) = rcells (o ++ [(g.1, z)]) := by
  subst hj
  obtain ⟨a, b⟩ := g
  rw [rcells_snoc, rcells_snoc, List.set_append_right _ _ (by rw [rcells_len]; omega), rcells_len, show 0 + o.length * 2 + 1 - o.length * 2 = 1 by omega]
  rfl
theorem snoc_of {l : List (Int × Int)} (h : 0 < l.length) : ∃ o g, l = o ++ [g] ∧ o.length = l.length - 1 := by
  rcases List.eq_nil_or_concat l with rfl | ⟨o, g, rfl⟩
  · cases h
  · exact ⟨o, g, by simp, by simp⟩
structure MgG where
  k : Nat
  n : Nat
  o : List (Int × Int)
  sa : Option Addr
  sc : Nat
  so : Option Nat
structure MgI (w wr : World) (m : List (Int × Int)) (a1 : Option Addr) (c1 : Nat) (ob1 : Option Nat) (x : MgG) : Prop where
  p : MgP m x.k x.o
  cl : OwnS wr 66 2 a1 m.length c1 (rcells m) ob1
  own : OwnS wr 66 2 x.sa x.n x.sc (rcells x.o) x.so
  ge : Ge w x.so
  gc : Ge w ob1
  ap : Apart ob1 x.so
theorem max_i {a b : Int} : (if a < b then b else a) = max a b := by omega
def RsOut (w w' : World) (v : Value) (S : Int → Prop) (n : Nat) : Prop := ∃ a c ob, v = .slice a (canon S).length c ∧ OwnS w' 66 2 a (canon S).length c (rcells (canon S)) ob ∧ Ge w ob ∧ (canon S).length ≤ n ∧ CanR (canon S) ∧ (∀ c, InR c (canon S) ↔ S c) ∧ Evo [] w w'
theorem merged_ok {w : World} {a : Option Addr} {c : Nat} {l : List (Int × Int)} {ob : Option Nat} (hO : OwnS w 66 2 a l.length c (rcells l) ob) (hv : Vr l) (hl : l.length ≤ 1000000) {S : Int → Prop} (hS : ∀ c, InR c l ↔ S c) :
    Calls Try.prog 41 #[.slice a l.length c] w (Ret fun v w' => RsOut w w' v S l.length) := by
  refine calls_of_cw (N := 53) Try.func41 rfl rfl rfl ?_; refine cw_seq ?_; refine cw_region ?_; refine wl_a ?_; refine wl_nil (nrm_then ?_); refine cw_seq ?_; refine cw_region ?_; refine wl_m ?_; refine wl_call1 (vs := [_]) Try.goes48 rfl (cloneR_ok hO hl) rfl ?_; rintro _ w1 ⟨a1, c1, ob1, rfl, hO1, hg1, hw2⟩; have hG3 := Ge.fresh (Evo.refl [] w) hg1; have hE4 := (Evo.refl [] w).then hw2; refine wl_a ?_; refine wl_nil (nrm_then ?_); refine cw_seq ?_; refine cw_region ?_; refine wl_m ?_; refine wl_call1 (vs := [_, _]) Try.goes52 rfl (sortR_ok hO1 hv hl) rfl ?_; rintro _ w5 ⟨rfl, m, hpm, hsm, hO2, hw6⟩; have hml := hpm.length_eq; have hvm := vr_perm hpm hv; have hE7 := hE4.step hw6 hG3.mem; rw [← hml] at hO2; refine wl_nil (nrm_then ?_); refine cw_seq ?_; refine cw_region ?_; refine wl_a ?_; refine wl_nil (nrm_then ?_); refine cw_seq ?_; refine cw_seq ?_; refine cw_region ?_; refine wl_m ?_; refine wl_val rfl (ex_len_slice rfl Try.underlying22 rfl) ?_; refine wl_m ?_; refine wl_nil (nrm_then ?_); refine cw_block ?_; refine cw_loop (α := MgG) (⟨0, 0, [], none, 0, none⟩) (fun x => [(3, .slice x.sa x.n x.sc), (13, .int .i64 (x.k : Nat))]) [(2, _), (11, _), (12, _)] (fun x wr => Evo [] w wr ∧ (MgI w wr m a1 c1 ob1 x)) (fun x => m.length - x.k) ⟨rfl, rfl, trivial⟩ ⟨rfl, rfl, rfl, trivial⟩ ⟨hE7, ⟨mg_start m, hO2, OwnS.nil _ _ _, Ge.nil _, hg1, Apart.nil _⟩⟩ ?_; rintro ⟨k, n, o, sa, sc, so⟩ wr8 ⟨hV9, ⟨hp, hcl, hown, hge, hgc, hap⟩⟩; show CW _ _ _ _ [(3, .slice sa n sc), (13, .int .i64 (k : Nat)), (2, _), (11, _), (12, _)] _
  try dsimp only at hp
  try dsimp only at hcl
  try dsimp only at hown
  try dsimp only at hge
  try dsimp only at hgc
  try dsimp only at hap
  have hE10 := Evo.refl ([]) wr8; have hon := own_rn hown; have hpl := hp.len; have hpk := hp.hk
  try dsimp only at hpl hpk
  refine cw_seq ?_; refine cw_region ?_; refine wl_val rfl (ex_lss rfl rfl) ?_; refine wl_nil (nrm_then ?_); refine cw_seq ?_; refine cw_if rfl (fun hc14 => ?_) (fun hc14 => ?_)
  ·skip
   have hk' : k < m.length := by omega
   have hvk := hvm _ (List.getElem_mem hk'); obtain ⟨g1, hg1', ha1, hc1⟩ := own_elem hcl hk'; refine cw_skip (nrm_then ?_); refine cw_seq ?_; refine cw_block ?_; refine cw_seq ?_; refine cw_region ?_; refine wl_val rfl (ex_indexAddrA (n := k) rfl rfl ha1 Try.elem22 (by omega)) ?_; refine wl_val rfl (ex_loadA rfl Try.agg66 Try.size66 (vs := [_, _]) rfl (hc1.evo hE10 (by simp))) ?_; refine wl_alloc rfl Try.zero66 fun b11 w12 hB13 hs14 hw15 => ?_; have hA16 := Apart.new (Lt.own hown) hs14; have hA17 := Apart.new (Lt.own hcl) hs14; have hG18 := Ge.new hV9 hs14; have hG19 := Ge.new hE10 hs14; have hE20 := hV9.then hw15; have hE21 := hE10.then hw15; have hO22 := hown.evo0 hw15; have hO23 := hcl.evo0 hw15; refine wl_storeBlk rfl rfl Try.size66 hB13 rfl rfl ⟨by first | rfl | assumption, by first | rfl | assumption, trivial⟩ fun w24 hB25 hw26 => ?_; have hE27 := hE20.step hw26 hG18.mem1; have hE28 := hE21.step hw26 hG19.mem1; have hO29 := hO22.evo hw26 hA16.own1; have hO30 := hO23.evo hw26 hA17.own1
   try simp only [List.setIfInBounds_toArray, List.set_cons_zero, List.set_cons_succ, Nat.reduceAdd, Nat.zero_add, Nat.add_zero] at hB25
   refine wl_nil (nrm_then ?_); refine cw_seq ?_; refine cw_seq ?_; refine cw_region ?_; refine wl_m ?_; refine wl_val rfl (ex_len_slice rfl Try.underlying22 rfl) ?_; refine wl_a ?_; refine wl_nil (nrm_then ?_); refine cw_seq ?_; refine cw_quiet (by kernel_rfl) (by kernel_rfl) ?_; refine ql_val rfl (fun _ hq32 => ex_move rfl) ?_; refine ql_val rfl (fun _ hq32 => ex_gtr rfl rfl) ?_; refine ql_val rfl (fun _ hq32 => ex_move rfl) ?_; refine ql_split (t := 21) rfl (fun hs21 => ?_) (fun hs21 => ?_)
   ·skip
    have h0 : 0 < o.length := by omega
    obtain ⟨o', q, hoq, hol⟩ := snoc_of h0; subst hoq
    have hol2 : (o' ++ [q]).length = o'.length + 1 := by simp
    have hqb := canL_init (x := q) hp.can; obtain ⟨gq, hgq, haq, hcq⟩ := own_elem hown (i := o'.length) (by omega); rw [List.getElem_concat_length (h := rfl)] at hcq; refine ql_go rfl rfl rfl rfl ?_; refine ql_val rfl (fun _ hq32 => ex_fieldAddr rfl Try.fld66_0) ?_; refine ql_go rfl rfl rfl rfl ?_; refine ql_val rfl (fun _ hq32 => ex_load1 rfl Try.agg21 (cell_nth (hq32.blk0 hB25) rfl)) ?_; refine ql_go rfl rfl rfl rfl ?_; refine ql_val rfl (fun _ hq32 => ex_move rfl) ?_; refine ql_go rfl rfl rfl rfl ?_; refine ql_val rfl (fun _ hq32 => ex_move rfl) ?_; refine ql_go rfl rfl rfl rfl ?_; refine ql_val rfl (fun _ hq32 => ex_sub_i64 rfl rfl (by omega) (by omega)) ?_; refine ql_go rfl rfl rfl rfl ?_; refine ql_val rfl (fun _ hq32 => ex_indexAddrZA (n := o'.length) rfl rfl haq (by omega) Try.elem22 (by omega)) ?_; refine ql_go rfl rfl rfl rfl ?_; refine ql_val rfl (fun _ hq32 => ex_fieldAddr rfl Try.fld66_1) ?_; refine ql_go rfl rfl rfl rfl ?_; refine ql_val rfl (fun _ hq32 => ex_load1 rfl Try.agg21 (((hE28.then hq32)).cell (hcq 1 _ rfl) (by simp))) ?_; refine ql_go rfl rfl rfl rfl ?_; refine ql_val rfl (fun _ hq32 => ex_add_i32 rfl rfl (by omega) (by omega)) ?_; refine ql_go rfl rfl rfl rfl ?_; refine ql_val rfl (fun _ hq32 => ex_leq rfl rfl) ?_; refine ql_val rfl (fun _ hq32 => ex_pick_t rfl rfl) ?_; refine ql_nil (fun wq31 hq32 => nrm_then ?_); have hE33 := hE27.then hq32; have hE34 := hE28.then hq32; have hO35 := hO29.evo0 hq32; have hO36 := hO30.evo0 hq32; have hB37 := hq32.blk0 hB25; refine cw_if rfl (fun hc32 => ?_) (fun hc32 => ?_)
    ·skip
     refine cw_seq ?_; refine cw_any (fun w0 w' => Evo so.toList w0 w') (by kernel_rfl) (fun w38 hw39 => ?_); have hE40 := hE33.then hw39; have hE41 := hE34.then hw39; have hO42 := hO35.evo0 hw39; have hO43 := hO36.evo0 hw39; have hB44 := hw39.blk0 hB37; refine ae_take 0 rfl (by kernel_rfl) (by kernel_rfl) (by kernel_rfl) rfl (fun _ hS => ex_move rfl) (Evo.refl so.toList w38) ?_; refine ae_take 1 rfl (by kernel_rfl) (by kernel_rfl) (by kernel_rfl) rfl (fun _ hS => ex_move rfl) (Evo.refl so.toList w38) ?_; refine ae_take 2 rfl (by kernel_rfl) (by kernel_rfl) (by kernel_rfl) rfl (fun _ hS => ex_sub_i64 rfl rfl (by omega) (by omega)) (Evo.refl so.toList w38) ?_; refine ae_take 3 rfl (by kernel_rfl) (by kernel_rfl) (by kernel_rfl) rfl (fun _ hS => ex_move rfl) (Evo.refl so.toList w38) ?_; refine ae_take 4 rfl (by kernel_rfl) (by kernel_rfl) (by kernel_rfl) rfl (fun _ hS => ex_move rfl) (Evo.refl so.toList w38) ?_; refine ae_take 5 rfl (by kernel_rfl) (by kernel_rfl) (by kernel_rfl) rfl (fun _ hS => ex_sub_i64 rfl rfl (by omega) (by omega)) (Evo.refl so.toList w38) ?_; refine ae_take 6 rfl (by kernel_rfl) (by kernel_rfl) (by kernel_rfl) rfl (fun _ hS => ex_indexAddrZA (n := o'.length) rfl rfl haq (by omega) Try.elem22 (by omega)) (Evo.refl so.toList w38) ?_; refine ae_take 7 rfl (by kernel_rfl) (by kernel_rfl) (by kernel_rfl) rfl (fun _ hS => ex_fieldAddr rfl Try.fld66_1) (Evo.refl so.toList w38) ?_; refine ae_take 9 rfl (by kernel_rfl) (by kernel_rfl) (by kernel_rfl) rfl (fun _ hS => ex_fieldAddr rfl Try.fld66_1) (Evo.refl so.toList w38) ?_; refine ae_take 10 rfl (by kernel_rfl) (by kernel_rfl) (by kernel_rfl) rfl (fun _ hS => ex_load1 rfl Try.agg21 (cell_nth (hS.blk hB44 (hA16.symm.nmem)) rfl)) (Evo.refl so.toList w38) ?_; refine ae_loud [8] (by kernel_rfl) rfl ⟨?_, trivial⟩
     refine a_step rfl ?_; refine wl_val rfl (ex_load1 rfl Try.agg21 ((hE41).cell (hcq 1 _ rfl) (by simp))) ?_; refine wl_nil (ae_next (.inl (Evo.refl so.toList w38)) ?_); refine ae_loud [11] (by kernel_rfl) rfl ⟨?_, trivial⟩; refine a_step rfl ?_; refine wl_val rfl (ex_max rfl rfl) ?_; refine wl_nil (ae_next (.inl (Evo.refl so.toList w38)) ?_); refine ae_take 12 rfl (by kernel_rfl) (by kernel_rfl) (by kernel_rfl) rfl (fun _ hS => ex_indexAddrZA (n := o'.length) rfl rfl haq (by omega) Try.elem22 (by omega)) (Evo.refl so.toList w38) ?_; refine ae_take 13 rfl (by kernel_rfl) (by kernel_rfl) (by kernel_rfl) rfl (fun _ hS => ex_fieldAddr rfl Try.fld66_1) (Evo.refl so.toList w38) ?_; refine ae_loud [14] (by kernel_rfl) rfl ⟨?_, trivial⟩; refine a_step rfl ?_
     obtain ⟨g54, cur45, hg46, hx47, hcu48, hcs49, -⟩ := hO42.at (by omega)
     rw [haq] at hx47; cases hx47
     refine wl_store1L rfl rfl (rfl) Try.size21 hcu48 (hO42.inb hcs49 (k := o'.length) (j := 1) (by omega) (by omega) (by omega)) fun w50 hB51 hw52 => ?_; replace hw52 := evo_ob hg46 hw52; have hO53 := hO42.set' hg46 hcu48 hB51; have hE55 := hE40.step hw52 hge.mem; have hE57 := (Evo.refl so.toList w38).step hw52 (fun y hy => .inl hy); have hO58 := hO43.evo hw52 hap.own; have hB59 := hw52.blk hB44 hA16.symm.nmem; refine wl_nil (ae_next (.inl hE57) ?_); refine ae_done (by kernel_rfl) (nrm_then ?_); refine cw_exit (ex_then (ex_here (nrm_then ?_))); refine cw_region ?_; refine wl_val rfl (ex_add_i64 rfl rfl (by omega) (by omega)) ?_; refine wl_m ?_; refine wl_nil (nrm_same ?_); refine ⟨⟨k + 1, n, o' ++ [(q.1, max q.2 m[k].2)], sa, sc, so⟩, ?_, ⟨rfl, rfl, trivial⟩, ⟨rfl, rfl, rfl, trivial⟩, hE55, ?_⟩
     · (try dsimp only); omega
     ·skip
      try dsimp only
      have hO9 := hO53; rw [rcells_set _ _ _ _ rfl, max_i] at hO9; exact ⟨mg_ext hp hk' hvm hc32, hO58, hO9, hge, hgc, hap⟩
    ·skip
     refine cw_skip (nrm_then ?_); refine cw_region ?_; refine wl_m ?_; refine wl_val rfl (ex_loadBlk rfl Try.agg66 Try.size66 hB37 rfl) ?_; refine wl_bslice (vs := [_]) rfl Try.slice22 rfl rfl rfl rfl fun b60 w61 hO62 hs63 hw64 => ?_; have hA65 := Apart.new (Lt.own hO35) hs63; have hA66 := Apart.new (Lt.own hO36) hs63; have hA67 := Apart.new (Lt.blk hB37) hs63; have hG68 := Ge.new hE33 hs63; have hG69 := Ge.new hE34 hs63; have hE70 := hE33.then hw64; have hE71 := hE34.then hw64; have hO72 := hO35.evo0 hw64; have hO73 := hO36.evo0 hw64; have hB74 := hw64.blk0 hB37
     refine wl_append rfl rfl rfl rfl Try.app22_22 hO72 (Src.ofOwn hO62 ⟨by first | rfl | assumption, by first | rfl | assumption, trivial⟩) (by have := hp.len; omega) fun a2 c2 w77 ob2 hO3 hw80 hob81 => ?_
     have hA82 := hap.app (Lt.own hO73) hob81; have hA83 := hA16.symm.app (Lt.blk hB74) hob81; have hA84 := hA65.symm.app (Lt.own hO62) hob81; have hG85 := hge.app hE70 hob81; have hE86 := hE70.step hw80 hge.mem; have hO88 := hO73.evo hw80 hap.own; have hB89 := hw80.blk hB74 hA16.symm.nmem; have hO90 := hO62.evo hw80 hA65.symm.own; refine wl_a ?_; refine wl_nil (nrm_block (nrm_then ?_)); refine cw_region ?_; refine wl_val rfl (ex_add_i64 rfl rfl (by omega) (by omega)) ?_; refine wl_m ?_; refine wl_nil (nrm_same ?_); refine ⟨⟨k + 1, n + 1, (o' ++ [q]) ++ [m[k]], a2, c2, ob2⟩, ?_, ⟨rfl, rfl, trivial⟩, ⟨rfl, rfl, rfl, trivial⟩, hE86, ?_⟩
     · (try dsimp only); omega
     ·skip
      try dsimp only
      refine ⟨mg_app hp hk' hvm hsm (.inr ⟨o', q, rfl, hc32⟩), hO88, ?_, hG85, hgc, hA82⟩
      rw [rcells_app]; exact hO3
   ·skip
    refine ql_no rfl rfl rfl rfl rfl rfl ?_; refine ql_no rfl rfl rfl rfl rfl rfl ?_; refine ql_no rfl rfl rfl rfl rfl rfl ?_; refine ql_no rfl rfl rfl rfl rfl rfl ?_; refine ql_no rfl rfl rfl rfl rfl rfl ?_; refine ql_no rfl rfl rfl rfl rfl rfl ?_; refine ql_no rfl rfl rfl rfl rfl rfl ?_; refine ql_no rfl rfl rfl rfl rfl rfl ?_; refine ql_no rfl rfl rfl rfl rfl rfl ?_; refine ql_no rfl rfl rfl rfl rfl rfl ?_; refine ql_val rfl (fun _ hq32 => ex_pick_f rfl rfl) ?_; refine ql_nil (fun wq31 hq32 => nrm_then ?_); have hE91 := hE27.then hq32; have hE92 := hE28.then hq32; have hO93 := hO29.evo0 hq32; have hO94 := hO30.evo0 hq32; have hB95 := hq32.blk0 hB25; refine cw_false rfl ?_; refine cw_skip (nrm_then ?_); refine cw_region ?_; refine wl_m ?_; refine wl_val rfl (ex_loadBlk rfl Try.agg66 Try.size66 hB95 rfl) ?_; refine wl_bslice (vs := [_]) rfl Try.slice22 rfl rfl rfl rfl fun b96 w97 hO98 hs99 hw100 => ?_; have hA101 := Apart.new (Lt.own hO93) hs99; have hA102 := Apart.new (Lt.own hO94) hs99; have hA103 := Apart.new (Lt.blk hB95) hs99; have hG104 := Ge.new hE91 hs99; have hG105 := Ge.new hE92 hs99; have hE106 := hE91.then hw100; have hE107 := hE92.then hw100; have hO108 := hO93.evo0 hw100; have hO109 := hO94.evo0 hw100; have hB110 := hw100.blk0 hB95
    refine wl_append rfl rfl rfl rfl Try.app22_22 hO108 (Src.ofOwn hO98 ⟨by first | rfl | assumption, by first | rfl | assumption, trivial⟩) (by have := hp.len; omega) fun a2 c2 w113 ob2 hO3 hw116 hob117 => ?_
    have hA118 := hap.app (Lt.own hO109) hob117; have hA119 := hA16.symm.app (Lt.blk hB110) hob117; have hA120 := hA101.symm.app (Lt.own hO98) hob117; have hG121 := hge.app hE106 hob117; have hE122 := hE106.step hw116 hge.mem; have hO124 := hO109.evo hw116 hap.own; have hB125 := hw116.blk hB110 hA16.symm.nmem; have hO126 := hO98.evo hw116 hA101.symm.own; refine wl_a ?_; refine wl_nil (nrm_block (nrm_then ?_)); refine cw_region ?_; refine wl_val rfl (ex_add_i64 rfl rfl (by omega) (by omega)) ?_; refine wl_m ?_; refine wl_nil (nrm_same ?_); refine ⟨⟨k + 1, n + 1, o ++ [m[k]], a2, c2, ob2⟩, ?_, ⟨rfl, rfl, trivial⟩, ⟨rfl, rfl, rfl, trivial⟩, hE122, ?_⟩
    · (try dsimp only); omega
    ·skip
     try dsimp only
     refine ⟨mg_app hp hk' hvm hsm (.inl (List.length_eq_zero_iff.1 (by omega))), hO124, ?_, hG121, hgc, hA118⟩
     rw [rcells_app]; exact hO3
  ·skip
   refine cw_exit (ex_then (ex_then (ex_here (nrm_then ?_)))); refine cw_seq ?_; refine cw_region ?_; refine wl_m ?_; refine wl_a ?_; refine wl_nil (nrm_then ?_); refine cw_ret (body_ret1 rfl rfl ?_); have e := mg_end hp (by omega) hpm hS; subst e; subst hon; exact ⟨sa, sc, so, rfl, hown, hge, by omega, hp.can, fun c => by rw [hp.eq, List.take_of_length_le (by omega), inR_perm hpm, hS], hV9⟩
end Go.Proofs.Ytljadkcojnlioaa
namespace Go.Proofs.Ytljadkcojnlioaa
open Go.Proofs
open Go.W Go.RowKit
attribute [local irreducible] Decidable.decide
set_option linter.unusedSimpArgs false
set_option linter.unusedVariables false
theorem Try.goes41 : Goes Try.prog 41 := ⟨_, Try.func41, by kernel_rfl, by kernel_rfl⟩
structure NgG where
  k : Nat
  n : Nat
  o : List (Int × Int)
  nx : Int
  sa : Option Addr
  sc : Nat
  so : Option Nat
structure NgI (w wr : World) (m : List (Int × Int)) (a1 : Option Addr) (c1 : Nat) (ob1 : Option Nat) (x : NgG) : Prop where
  hk : x.k ≤ m.length
  eq : x.o ++ gaps x.nx (m.drop x.k) = gaps 0 m
  b0 : 0 ≤ x.nx
  b1 : x.nx ≤ 1114112
  len : x.n ≤ x.k
  cl : OwnS wr 66 2 a1 m.length c1 (rcells m) ob1
  own : OwnS wr 66 2 x.sa x.n x.sc (rcells x.o) x.so
  ge : Ge w x.so
  gc : Ge w ob1
  ap : Apart ob1 x.so
theorem gaps_cons (b : Int) {m : List (Int × Int)} {k : Nat} (h : k < m.length) : gaps b (m.drop k) = (if b < m[k].1 then [(b, m[k].1 - 1)] else []) ++ gaps (m[k].2 + 1) (m.drop (k + 1)) := by
  rw [List.drop_eq_getElem_cons h, gaps]
theorem can_get {m : List (Int × Int)} (h : CanR m) : ∀ {k : Nat} (hk : k < m.length), 0 ≤ m[k].1 ∧ m[k].1 ≤ m[k].2 ∧ m[k].2 ≤ 1114111 := by
  have key : ∀ {m : List (Int × Int)} {b : Int}, 0 ≤ b → CanL b m → ∀ {k : Nat} (hk : k < m.length), 0 ≤ m[k].1 ∧ m[k].1 ≤ m[k].2 ∧ m[k].2 ≤ 1114111 := by
    intro m
    induction m with
    | nil => intro b _ _ k hk; cases hk
    | cons g m ih =>
      intro b hb hc k hk
      rw [CanL] at hc
      cases k with
      | zero => exact ⟨by show 0 ≤ g.1; omega, hc.2.1, hc.2.2.1⟩
      | succ k => exact ih (b := g.2 + 2) (by omega) hc.2.2.2 (by simpa using hk)
  intro k hk
  exact key (Int.le_refl _) h hk
theorem can_vr {m : List (Int × Int)} (h : CanR m) : Vr m := fun g hg => by
  obtain ⟨k, hk, rfl⟩ := List.getElem_of_mem hg
  exact can_get h hk
theorem neg_canon {m : List (Int × Int)} {S : Int → Prop} (h : CanR m) (hS : ∀ c, InR c m ↔ S c) : CanR (gaps 0 m) ∧ (∀ c, InR c (gaps 0 m) ↔ negS S c) ∧ gaps 0 m = canon (negS S) := by
  obtain ⟨h1, h2⟩ := gaps_ok (b := 0) (d := 0) (Int.le_refl _) (Int.le_refl _) h
  have h3 : ∀ c, InR c (gaps 0 m) ↔ negS S c := fun c => by rw [h2, hS]; exact Iff.rfl
  exact ⟨h1, h3, (canon_of h1 h3).symm⟩
theorem negated_ok {w : World} {a : Option Addr} {c : Nat} {l : List (Int × Int)} {ob : Option Nat} (hO : OwnS w 66 2 a l.length c (rcells l) ob) (hv : Vr l) (hl : l.length ≤ 1000000) {S : Int → Prop} (hS : ∀ c, InR c l ↔ S c) :
    Calls Try.prog 36 #[.slice a l.length c] w (Ret fun v w' => RsOut w w' v (negS S) (l.length + 1)) := by
  refine calls_of_cw (N := 38) Try.func36 rfl rfl rfl ?_; refine cw_seq ?_; refine cw_region ?_; refine wl_a ?_; refine wl_nil (nrm_then ?_); refine cw_seq ?_; refine cw_region ?_; refine wl_a ?_; refine wl_nil (nrm_then ?_); refine cw_seq ?_; refine cw_region ?_; refine wl_a ?_; refine wl_nil (nrm_then ?_); refine cw_seq ?_; refine cw_seq ?_; refine cw_region ?_; refine wl_m ?_; refine wl_call1 (vs := [_]) Try.goes41 rfl (merged_ok hO hv hl hS) rfl ?_; rintro _ w1 ⟨a1, c1, ob1, rfl, hO1, hg1, hml, hcan, heqS, hw2⟩; have hG3 := Ge.fresh (Evo.refl [] w) hg1; have hE4 := (Evo.refl [] w).then hw2
  generalize hm : canon S = m at *
  refine wl_val rfl (ex_len_slice rfl Try.underlying22 rfl) ?_; refine wl_m ?_; refine wl_nil (nrm_then ?_); refine cw_block ?_
  refine cw_loop (α := NgG) (⟨0, 0, [], 0, none, 0, none⟩) (fun x => [(3, .slice x.sa x.n x.sc), (10, .int .i64 (x.k : Nat)), (4, .int .i32 x.nx)]) [(2, _), (8, _), (9, _)] (fun x wr => Evo [] w wr ∧ (NgI w wr m a1 c1 ob1 x)) (fun x => m.length - x.k) ⟨rfl, rfl, rfl, trivial⟩ ⟨rfl, rfl, rfl, trivial⟩ ⟨hE4, ⟨Nat.zero_le _, rfl, Int.le_refl _, (by show (0 : Int) ≤ 1114112; omega), Nat.le_refl _, hO1, OwnS.nil _ _ _, Ge.nil _, hg1, Apart.nil _⟩⟩ ?_
  rintro ⟨k, n, o, nx, sa, sc, so⟩ wr5 ⟨hV6, ⟨hk, heq, hb0, hb1, hlen, hcl, hown, hge, hgc, hap⟩⟩; show CW _ _ _ _ [(3, .slice sa n sc), (10, .int .i64 (k : Nat)), (4, .int .i32 nx), (2, _), (8, _), (9, _)] _
  try dsimp only at hk
  try dsimp only at heq
  try dsimp only at hb0
  try dsimp only at hb1
  try dsimp only at hlen
  try dsimp only at hcl
  try dsimp only at hown
  try dsimp only at hge
  try dsimp only at hgc
  try dsimp only at hap
  have hE7 := Evo.refl ([]) wr5; refine cw_seq ?_; refine cw_region ?_; refine wl_val rfl (ex_lss rfl rfl) ?_; refine wl_nil (nrm_then ?_); refine cw_seq ?_; refine cw_if rfl (fun hc11 => ?_) (fun hc11 => ?_)
  ·skip
   have hk' : k < m.length := by omega
   have hmk := can_get hcan hk'; obtain ⟨g1, hg1', ha1, hc1⟩ := own_elem hcl hk'; have hgc0 := gaps_cons nx hk'; refine cw_skip (nrm_then ?_); refine cw_seq ?_; refine cw_block ?_; refine cw_seq ?_; refine cw_region ?_; refine wl_val rfl (ex_indexAddrA (n := k) rfl rfl ha1 Try.elem22 (by omega)) ?_; refine wl_val rfl (ex_loadA rfl Try.agg66 Try.size66 (vs := [_, _]) rfl (hc1.evo hE7 (by simp))) ?_; refine wl_alloc rfl Try.zero66 fun b8 w9 hB10 hs11 hw12 => ?_; have hA13 := Apart.new (Lt.own hown) hs11; have hA14 := Apart.new (Lt.own hcl) hs11; have hG15 := Ge.new hV6 hs11; have hG16 := Ge.new hE7 hs11; have hE17 := hV6.then hw12; have hE18 := hE7.then hw12; have hO19 := hown.evo0 hw12; have hO20 := hcl.evo0 hw12; refine wl_storeBlk rfl rfl Try.size66 hB10 rfl rfl ⟨by first | rfl | assumption, by first | rfl | assumption, trivial⟩ fun w21 hB22 hw23 => ?_; have hE24 := hE17.step hw23 hG15.mem1; have hE25 := hE18.step hw23 hG16.mem1; have hO26 := hO19.evo hw23 hA13.own1; have hO27 := hO20.evo hw23 hA14.own1
   try simp only [List.setIfInBounds_toArray, List.set_cons_zero, List.set_cons_succ, Nat.reduceAdd, Nat.zero_add, Nat.add_zero] at hB22
   refine wl_nil (nrm_then ?_); refine cw_seq ?_; refine cw_seq ?_; refine cw_region ?_; refine wl_val rfl (ex_fieldAddr rfl Try.fld66_0) ?_; refine wl_val rfl (ex_load1 rfl Try.agg21 (cell_nth hB22 rfl)) ?_; refine wl_m ?_; refine wl_val rfl (ex_gtr rfl rfl) ?_; refine wl_nil (nrm_then ?_); refine cw_if rfl (fun hc17 => ?_) (fun hc17 => ?_)
   ·skip
    refine cw_region ?_; refine wl_m ?_; refine wl_m ?_; refine wl_val rfl (ex_fieldAddr rfl Try.fld66_0) ?_; refine wl_val rfl (ex_load1 rfl Try.agg21 (cell_nth hB22 rfl)) ?_; refine wl_val rfl (ex_sub_i32 rfl rfl (by omega) (by omega)) ?_; refine wl_val rfl (ex_build (vs := [(0, _), (1, _)]) Try.build66 rfl (cells := [_, _]) rfl) ?_; refine wl_bslice (vs := [_]) rfl Try.slice22 rfl rfl rfl rfl fun b28 w29 hO30 hs31 hw32 => ?_; have hA33 := Apart.new (Lt.own hO26) hs31; have hA34 := Apart.new (Lt.own hO27) hs31; have hA35 := Apart.new (Lt.blk hB22) hs31; have hG36 := Ge.new hE24 hs31; have hG37 := Ge.new hE25 hs31; have hE38 := hE24.then hw32; have hE39 := hE25.then hw32; have hO40 := hO26.evo0 hw32; have hO41 := hO27.evo0 hw32; have hB42 := hw32.blk0 hB22; refine wl_append rfl rfl rfl rfl Try.app22_22 hO40 (Src.ofOwn hO30 ⟨by first | rfl | assumption, by first | rfl | assumption, trivial⟩) (by omega) fun a2 c2 w45 ob2 hO3 hw48 hob49 => ?_; have hA50 := hap.app (Lt.own hO41) hob49; have hA51 := hA13.symm.app (Lt.blk hB42) hob49; have hA52 := hA33.symm.app (Lt.own hO30) hob49; have hG53 := hge.app hE38 hob49; have hE54 := hE38.step hw48 hge.mem; have hO56 := hO41.evo hw48 hap.own; have hB57 := hw48.blk hB42 hA13.symm.nmem; have hO58 := hO30.evo hw48 hA33.symm.own; refine wl_a ?_; refine wl_nil (nrm_then ?_); refine cw_region ?_; refine wl_val rfl (ex_fieldAddr rfl Try.fld66_1) ?_; refine wl_val rfl (ex_load1 rfl Try.agg21 (cell_nth hB57 rfl)) ?_; refine wl_val rfl (ex_add_i32 rfl rfl (by omega) (by omega)) ?_; refine wl_a ?_; refine wl_nil (nrm_block (nrm_then ?_)); refine cw_region ?_; refine wl_val rfl (ex_add_i64 rfl rfl (by omega) (by omega)) ?_; refine wl_m ?_; refine wl_nil (nrm_same ?_)
    refine ⟨⟨k + 1, n + 1, o ++ [(nx, m[k].1 - 1)], m[k].2 + 1, a2, c2, ob2⟩, ?_, ⟨rfl, rfl, rfl, trivial⟩, ⟨rfl, rfl, rfl, trivial⟩, hE54, ?_⟩
    · (try dsimp only); omega
    ·skip
     try dsimp only
     refine ⟨hk', ?_, (by show 0 ≤ m[k].2 + 1; omega), (by show m[k].2 + 1 ≤ 1114112; omega), (by show n + 1 ≤ k + 1; omega), hO56, ?_, hG53, hgc, hA50⟩
     · rw [← heq, hgc0, if_pos (by omega), List.append_assoc]
     · rw [rcells_snoc]; exact hO3
   ·skip
    refine cw_skip (nrm_then ?_); refine cw_region ?_; refine wl_val rfl (ex_fieldAddr rfl Try.fld66_1) ?_; refine wl_val rfl (ex_load1 rfl Try.agg21 (cell_nth hB22 rfl)) ?_; refine wl_val rfl (ex_add_i32 rfl rfl (by omega) (by omega)) ?_; refine wl_a ?_; refine wl_nil (nrm_block (nrm_then ?_)); refine cw_region ?_; refine wl_val rfl (ex_add_i64 rfl rfl (by omega) (by omega)) ?_; refine wl_m ?_; refine wl_nil (nrm_same ?_); refine ⟨⟨k + 1, n, o, m[k].2 + 1, sa, sc, so⟩, ?_, ⟨rfl, rfl, rfl, trivial⟩, ⟨rfl, rfl, rfl, trivial⟩, hE24, ?_⟩
    · (try dsimp only); omega
    ·skip
     try dsimp only
     refine ⟨hk', ?_, (by show 0 ≤ m[k].2 + 1; omega), (by show m[k].2 + 1 ≤ 1114112; omega), (by show n ≤ k + 1; omega), hO27, hO26, hge, hgc, hap⟩
     rw [← heq, hgc0, if_neg (by omega), List.nil_append]
  ·skip
   refine cw_exit (ex_then (ex_then (ex_here (nrm_then ?_)))); refine cw_seq ?_; refine cw_seq ?_; refine cw_region ?_; refine wl_m ?_; refine wl_val rfl (ex_leq rfl rfl) ?_; refine wl_nil (nrm_then ?_); refine cw_if rfl (fun hc31 => ?_) (fun hc31 => ?_)
   ·skip
    refine cw_region ?_; refine wl_m ?_; refine wl_m ?_; refine wl_val rfl (ex_build (vs := [(0, _), (1, _)]) Try.build66 rfl (cells := [_, _]) rfl) ?_; refine wl_bslice (vs := [_]) rfl Try.slice22 rfl rfl rfl rfl fun b59 w60 hO61 hs62 hw63 => ?_; have hA64 := Apart.new (Lt.own hown) hs62; have hA65 := Apart.new (Lt.own hcl) hs62; have hG66 := Ge.new hV6 hs62; have hG67 := Ge.new hE7 hs62; have hE68 := hV6.then hw63; have hE69 := hE7.then hw63; have hO70 := hown.evo0 hw63; have hO71 := hcl.evo0 hw63; refine wl_append rfl rfl rfl rfl Try.app22_22 hO70 (Src.ofOwn hO61 ⟨by first | rfl | assumption, by first | rfl | assumption, trivial⟩) (by omega) fun a2 c2 w74 ob2 hO3 hw77 hob78 => ?_; have hA79 := hap.app (Lt.own hO71) hob78; have hA80 := hA64.symm.app (Lt.own hO61) hob78; have hG81 := hge.app hE68 hob78; have hE82 := hE68.step hw77 hge.mem; have hO84 := hO71.evo hw77 hap.own; have hO85 := hO61.evo hw77 hA64.symm.own; refine wl_a ?_; refine wl_nil (nrm_then ?_); refine cw_seq ?_; refine cw_region ?_; refine wl_m ?_; refine wl_a ?_; refine wl_nil (nrm_then ?_); refine cw_ret (body_ret1 rfl rfl ?_); obtain ⟨h1, h2, h3⟩ := neg_canon hcan heqS; rw [List.drop_eq_nil_of_le (by omega), gaps, if_pos (by omega)] at heq; have hO9 : OwnS _ _ 2 _ _ _ (rcells o ++ rcells [(nx, 1114111)]) _ := hO3; rw [← rcells_app, heq] at hO9; have hn9 := own_rn hO9; rw [h3] at hO9 hn9 h1 h2
    exact ⟨a2, c2, ob2, by rw [hn9], by rw [← hn9]; exact hO9, hG81, by omega, h1, h2, hE82⟩
   ·skip
    refine cw_skip (nrm_then ?_); refine cw_seq ?_; refine cw_region ?_; refine wl_m ?_; refine wl_a ?_; refine wl_nil (nrm_then ?_); refine cw_ret (body_ret1 rfl rfl ?_); obtain ⟨h1, h2, h3⟩ := neg_canon hcan heqS; rw [List.drop_eq_nil_of_le (by omega), gaps, if_neg (by omega), List.append_nil] at heq; have hO9 := hown; rw [heq] at hO9; have hn9 := own_rn hO9; rw [h3] at hO9 hn9 h1 h2
    exact ⟨sa, sc, so, by rw [hn9], by rw [← hn9]; exact hO9, hge, by omega, h1, h2, hV6⟩
end Go.Proofs.Ytljadkcojnlioaa
namespace Go.Proofs.Ytljadkcojnlioaa
open Go.Proofs
open Go.W Go.RowKit
attribute [local irreducible] Decidable.decide
set_option linter.unusedSimpArgs false
set_option linter.unusedVariables false
mutual
def OT : Rx → World → List Value → List Nat → Prop
  | .mk k r rs mn mx lz cp nm ks, w, vs, bs => ∃ (ra : Option Addr) (rc : Nat) (rb : Option Nat) (ka : Option Addr) (kc : Nat) (kb : Option Nat) (cs : List Value) (bk : List Nat),
    vs = [iv k, .int .i32 r, .slice ra rs.length rc, iv mn, iv mx, .bool lz, iv cp, .string nm, .slice ka ks.length kc] ∧ OwnS w 66 2 ra rs.length rc (rcells rs) rb ∧ OwnS w 25 9 ka ks.length kc cs kb ∧ OTs ks w cs bk ∧
    bs = rb.toList ++ (kb.toList ++ bk) ∧ rs.length ≤ 1000000 ∧ nm.size ≤ 1000000 ∧ ks.length ≤ 1000000
def OTs : List Rx → World → List Value → List Nat → Prop
  | [], _, cs, bs => cs = [] ∧ bs = []
  | x :: l, w, cs, bs => ∃ (vs cs' : List Value) (b1 b2 : List Nat), cs = vs ++ cs' ∧ bs = b1 ++ b2 ∧ OT x w vs b1 ∧ OTs l w cs' b2
end
theorem own_blk {w : World} {e : TypeId} {sz : Nat} {a : Option Addr} {n c : Nat} {xs : List Value} {ob : Option Nat} (h : OwnS w e sz a n c xs ob) : ∀ b, b ∈ ob.toList → b < w.heap.size := fun b hb => by
  cases ob with
  | none => cases hb
  | some g => rw [List.mem_singleton.1 hb]; exact h.lt
mutual
theorem OT.evo : ∀ {x : Rx} {w w' : World} {vs : List Value} {bs X : List Nat}, OT x w vs bs → Evo X w w' → (∀ b, b ∈ bs → b ∉ X) → OT x w' vs bs
  | .mk k r rs mn mx lz cp nm ks, w, w', vs, bs, X, h, he, hx => by
    rw [OT] at h ⊢
    obtain ⟨ra, rc, rb, ka, kc, kb, cs, bk, h1, h2, h3, h4, rfl, h5⟩ := h
    exact ⟨ra, rc, rb, ka, kc, kb, cs, bk, h1, h2.evo he (fun g hg => hx g (by simp [hg])), h3.evo he (fun g hg => hx g (by simp [hg])), OTs.evo h4 he (fun b hb => hx b (by simp [hb])), rfl, h5⟩
theorem OTs.evo : ∀ {l : List Rx} {w w' : World} {cs : List Value} {bs X : List Nat}, OTs l w cs bs → Evo X w w' → (∀ b, b ∈ bs → b ∉ X) → OTs l w' cs bs
  | [], w, w', cs, bs, X, h, he, hx => by rw [OTs] at h ⊢; exact h
  | x :: l, w, w', cs, bs, X, h, he, hx => by
    rw [OTs] at h ⊢
    obtain ⟨vs, cs', b1, b2, h1, rfl, h3, h4⟩ := h
    exact ⟨vs, cs', b1, b2, h1, rfl, OT.evo h3 he (fun b hb => hx b (by simp [hb])), OTs.evo h4 he (fun b hb => hx b (by simp [hb]))⟩
end
mutual
theorem OT.lt : ∀ {x : Rx} {w : World} {vs : List Value} {bs : List Nat}, OT x w vs bs → ∀ b, b ∈ bs → b < w.heap.size
  | .mk k r rs mn mx lz cp nm ks, w, vs, bs, h => by
    rw [OT] at h
    obtain ⟨ra, rc, rb, ka, kc, kb, cs, bk, h1, h2, h3, h4, rfl, h5⟩ := h
    intro b hb
    rcases List.mem_append.1 hb with hb | hb
    · exact own_blk h2 b hb
    · rcases List.mem_append.1 hb with hb | hb
      · exact own_blk h3 b hb
      · exact OTs.lt h4 b hb
theorem OTs.lt : ∀ {l : List Rx} {w : World} {cs : List Value} {bs : List Nat}, OTs l w cs bs → ∀ b, b ∈ bs → b < w.heap.size
  | [], w, cs, bs, h => by rw [OTs] at h; rw [h.2]; exact fun b hb => by cases hb
  | x :: l, w, cs, bs, h => by
    rw [OTs] at h
    obtain ⟨vs, cs', b1, b2, h1, rfl, h3, h4⟩ := h
    intro b hb
    rcases List.mem_append.1 hb with hb | hb
    · exact OT.lt h3 b hb
    · exact OTs.lt h4 b hb
end
theorem OT.nine {x : Rx} {w : World} {vs : List Value} {bs : List Nat} (h : OT x w vs bs) : ∃ ra rc ka kc, vs = [iv x.kind, .int .i32 x.r, .slice ra x.ranges.length rc, iv x.min, iv x.max, .bool x.lazy, iv x.cap, .string x.name, .slice ka x.kids.length kc] := by
  cases x with
  | mk k r rs mn mx lz cp nm ks =>
    rw [OT] at h
    obtain ⟨ra, rc, rb, ka, kc, kb, cs, bk, h1, _⟩ := h
    exact ⟨ra, rc, ka, kc, h1⟩
theorem OT.len {x : Rx} {w : World} {vs : List Value} {bs : List Nat} (h : OT x w vs bs) : vs.length = 9 := by
  obtain ⟨ra, rc, ka, kc, rfl⟩ := h.nine; rfl
theorem OT.one {x : Rx} {w : World} {vs : List Value} {bs : List Nat} (h : OT x w vs bs) : AllOne vs := by
  obtain ⟨ra, rc, ka, kc, rfl⟩ := h.nine; exact ⟨rfl, rfl, rfl, rfl, rfl, rfl, rfl, rfl, rfl, trivial⟩
theorem allOne_app : ∀ {l m : List Value}, AllOne l → AllOne m → AllOne (l ++ m)
  | [], m, _, h => h
  | v :: l, m, h, h2 => ⟨h.1, allOne_app h.2 h2⟩
theorem OTs.len : ∀ {l : List Rx} {w : World} {cs : List Value} {bs : List Nat}, OTs l w cs bs → cs.length = l.length * 9
  | [], w, cs, bs, h => by rw [OTs] at h; rw [h.1]; rfl
  | x :: l, w, cs, bs, h => by
    rw [OTs] at h
    obtain ⟨vs, cs', b1, b2, rfl, rfl, h3, h4⟩ := h
    rw [List.length_append, h3.len, OTs.len h4, List.length_cons]; omega
theorem OTs.one : ∀ {l : List Rx} {w : World} {cs : List Value} {bs : List Nat}, OTs l w cs bs → AllOne cs
  | [], w, cs, bs, h => by rw [OTs] at h; rw [h.1]; trivial
  | x :: l, w, cs, bs, h => by
    rw [OTs] at h
    obtain ⟨vs, cs', b1, b2, rfl, rfl, h3, h4⟩ := h
    exact allOne_app h3.one (OTs.one h4)
theorem OTs.nil (w : World) : OTs [] w [] [] := by rw [OTs]; exact ⟨rfl, rfl⟩
theorem OTs.single {x : Rx} {w : World} {vs : List Value} {bs : List Nat} (h : OT x w vs bs) : OTs [x] w vs bs := by
  rw [OTs]; exact ⟨vs, [], bs, [], by simp, by simp, h, OTs.nil w⟩
theorem OTs.app : ∀ {l m : List Rx} {w : World} {cs cs' : List Value} {bs bs' : List Nat}, OTs l w cs bs → OTs m w cs' bs' → OTs (l ++ m) w (cs ++ cs') (bs ++ bs')
  | [], m, w, cs, cs', bs, bs', h, h2 => by rw [OTs] at h; rw [h.1, h.2]; exact h2
  | x :: l, m, w, cs, cs', bs, bs', h, h2 => by
    rw [OTs] at h
    obtain ⟨vs, ct, b1, b2, rfl, rfl, h3, h4⟩ := h
    show OTs (x :: (l ++ m)) w _ _
    rw [OTs]
    exact ⟨vs, ct ++ cs', b1, b2 ++ bs', List.append_assoc .., List.append_assoc .., h3, OTs.app h4 h2⟩
theorem OTs.parts : ∀ {l m : List Rx} {w : World} {cs : List Value} {bs : List Nat}, OTs (l ++ m) w cs bs → ∃ c1 c2 b1 b2, cs = c1 ++ c2 ∧ bs = b1 ++ b2 ∧ OTs l w c1 b1 ∧ OTs m w c2 b2
  | [], m, w, cs, bs, h => ⟨[], cs, [], bs, rfl, rfl, OTs.nil w, h⟩
  | x :: l, m, w, cs, bs, h => by
    have h' : OTs (x :: (l ++ m)) w cs bs := h
    rw [OTs] at h'
    obtain ⟨vs, ct, b1, b2, rfl, rfl, h3, h4⟩ := h'
    obtain ⟨c1, c2, d1, d2, rfl, rfl, h5, h6⟩ := OTs.parts h4
    exact ⟨vs ++ c1, c2, b1 ++ d1, d2, (List.append_assoc ..).symm, (List.append_assoc ..).symm, by rw [OTs]; exact ⟨vs, c1, b1, d1, rfl, rfl, h3, h5⟩, h6⟩
theorem OTs.one' {x : Rx} {w : World} {cs : List Value} {bs : List Nat} (h : OTs [x] w cs bs) : OT x w cs bs := by
  rw [OTs] at h
  obtain ⟨vs, ct, b1, b2, rfl, rfl, h3, h4⟩ := h
  rw [OTs] at h4
  rw [h4.1, h4.2, List.append_nil, List.append_nil]; exact h3
structure Fr (w : World) (bs : List Nat) : Prop where
  nd : bs.Nodup
  ge : ∀ b, b ∈ bs → w.heap.size ≤ b
theorem Fr.nil (w : World) : Fr w [] := ⟨List.nodup_nil, fun b h => by cases h⟩
theorem Fr.app {w w1 : World} {b1 b2 : List Nat} (h1 : Fr w b1) (h2 : Fr w1 b2) (hw : w.heap.size ≤ w1.heap.size) (hl : ∀ b, b ∈ b1 → b < w1.heap.size) : Fr w (b1 ++ b2) where
  nd := List.nodup_append.2 ⟨h1.nd, h2.nd, fun a ha b hb e => by have := hl a ha; have := h2.ge b hb; omega⟩
  ge := fun b hb => by
    rcases List.mem_append.1 hb with hb | hb
    · exact h1.ge b hb
    · have := h2.ge b hb; omega
theorem Fr.older {w w1 : World} {bs : List Nat} (h : Fr w1 bs) (hw : w.heap.size ≤ w1.heap.size) : Fr w bs := ⟨h.nd, fun b hb => Nat.le_trans hw (h.ge b hb)⟩
def TOut (w w' : World) (v : Value) (x : Rx) : Prop := ∃ vs bs, v = .agg vs.toArray ∧ OT x w' vs bs ∧ Fr w bs
theorem ge_fr {w : World} {ob : Option Nat} (h : Ge w ob) : Fr w ob.toList := by
  cases ob with
  | none => exact Fr.nil w
  | some g => exact ⟨List.nodup_cons.2 ⟨by simp, List.nodup_nil⟩, fun b hb => by rw [List.mem_singleton.1 hb]; exact h g rfl⟩
theorem ot_leaf (k : Int) (w : World) : OT (rxK k) w [iv k, .int .i32 0, .slice none 0 0, iv 0, iv 0, .bool false, iv 0, .string ByteArray.empty, .slice none 0 0] [] := by
  unfold rxK
  rw [OT]
  exact ⟨none, 0, none, none, 0, none, [], [], rfl, OwnS.nil _ _ _, OwnS.nil _ _ _, OTs.nil w, rfl, by simp, by show (0 : Nat) ≤ 1000000; omega, by simp⟩
theorem ot_lit (c : Int) (w : World) : OT (rxLit c) w [iv 2, .int .i32 c, .slice none 0 0, iv 0, iv 0, .bool false, iv 0, .string ByteArray.empty, .slice none 0 0] [] := by
  unfold rxLit
  rw [OT]
  exact ⟨none, 0, none, none, 0, none, [], [], rfl, OwnS.nil _ _ _, OwnS.nil _ _ _, OTs.nil w, rfl, by simp, by show (0 : Nat) ≤ 1000000; omega, by simp⟩
theorem ot_cls {l : List (Int × Int)} {w : World} {a : Option Addr} {n c : Nat} {ob : Option Nat} (h : OwnS w 66 2 a n c (rcells l) ob) (hl : l.length ≤ 1000000) : OT (rxCls l) w [iv 3, .int .i32 0, .slice a n c, iv 0, iv 0, .bool false, iv 0, .string ByteArray.empty, .slice none 0 0] ob.toList := by
  obtain rfl := own_rn h
  unfold rxCls
  rw [OT]
  exact ⟨a, c, ob, none, 0, none, [], [], rfl, h, OwnS.nil _ _ _, OTs.nil w, by simp, hl, by show (0 : Nat) ≤ 1000000; omega, by simp⟩
end Go.Proofs.Ytljadkcojnlioaa
namespace Go.Proofs.Ytljadkcojnlioaa
open Go.Proofs
open Go.W Go.RowKit
attribute [local irreducible] Decidable.decide
set_option linter.unusedSimpArgs false
set_option linter.unusedVariables false
theorem Try.agg25 : aggB Try.prog 25 = some true := by kernel_rfl
theorem Try.agg85 : aggB Try.prog 85 = some true := by kernel_rfl
theorem Try.size25 : sizeB Try.prog 25 = some 9 := by kernel_rfl
theorem Try.size85 : sizeB Try.prog 85 = some 2 := by kernel_rfl
theorem Try.zero85 : zeroB Try.prog 85 = some #[.int .i32 0, .int .i32 0] := by kernel_rfl
theorem Try.zero86 : zeroB Try.prog 86 = some #[.int .i32 0, .int .i32 0, .int .i32 0, .int .i32 0] := by kernel_rfl
def halv (j : Nat) : Int × Int := if j = 0 then (65, 32) else (97, -32)
theorem halv_c (j : Nat) : (halv j).1 = 65 ∧ (halv j).2 = 32 ∨ (halv j).1 = 97 ∧ (halv j).2 = -32 := by
  unfold halv
  split
  · exact .inl ⟨rfl, rfl⟩
  · exact .inr ⟨rfl, rfl⟩
def foldH (h x : Int × Int) : List (Int × Int) := if max x.1 h.1 ≤ min x.2 (h.1 + 25) then [(max x.1 h.1 + h.2, min x.2 (h.1 + 25) + h.2)] else []
def foldN (x : Int × Int) : Nat → List (Int × Int)
  | 0 => []
  | j + 1 => foldN x j ++ foldH (halv j) x
def foldL (l : List (Int × Int)) : List (Int × Int) := l.flatMap fun x => foldN x 2
theorem foldH_in {h x : Int × Int} {c : Int} : InR c (foldH h x) ↔ (h.1 + h.2 ≤ c ∧ c ≤ h.1 + 25 + h.2 ∧ x.1 ≤ c - h.2 ∧ c - h.2 ≤ x.2) := by
  unfold foldH
  split
  · rw [inR_one]; show max x.1 h.1 + h.2 ≤ c ∧ c ≤ min x.2 (h.1 + 25) + h.2 ↔ _; omega
  · refine ⟨fun h => (inR_none c h).elim, fun h => ?_⟩
    omega
theorem foldN_in {x : Int × Int} {c : Int} : InR c (foldN x 2) ↔ (97 ≤ c ∧ c ≤ 122 ∧ x.1 ≤ c - 32 ∧ c - 32 ≤ x.2) ∨ (65 ≤ c ∧ c ≤ 90 ∧ x.1 ≤ c + 32 ∧ c + 32 ≤ x.2) := by
  show InR c ((([] : List (Int × Int)) ++ foldH (65, 32) x) ++ foldH (97, -32) x) ↔ _
  rw [List.nil_append, inR_app, foldH_in, foldH_in]
  show (65 + 32 ≤ c ∧ c ≤ 65 + 25 + 32 ∧ x.1 ≤ c - 32 ∧ c - 32 ≤ x.2) ∨ (97 + -32 ≤ c ∧ c ≤ 97 + 25 + -32 ∧ x.1 ≤ c - -32 ∧ c - -32 ≤ x.2) ↔ _
  omega
theorem foldL_in {l : List (Int × Int)} {c : Int} : InR c (l ++ foldL l) ↔ foldS (fun c => InR c l) c := by
  rw [inR_app]
  unfold foldS foldL
  constructor
  · rintro (h | ⟨g, hg, h⟩)
    · exact .inl h
    · obtain ⟨x, hx, hgx⟩ := List.mem_flatMap.1 hg
      have h2 := foldN_in.1 ⟨g, hgx, h⟩
      rcases h2 with h2 | h2
      · exact .inr (.inl ⟨h2.1, h2.2.1, x, hx, h2.2.2⟩)
      · exact .inr (.inr ⟨h2.1, h2.2.1, x, hx, h2.2.2⟩)
  · rintro (h | ⟨h1, h2, x, hx, h3⟩ | ⟨h1, h2, x, hx, h3⟩)
    · exact .inl h
    · obtain ⟨g, hg, h4⟩ := foldN_in.2 (.inl ⟨h1, h2, h3⟩)
      exact .inr ⟨g, List.mem_flatMap.2 ⟨x, hx, hg⟩, h4⟩
    · obtain ⟨g, hg, h4⟩ := foldN_in.2 (.inr ⟨h1, h2, h3⟩)
      exact .inr ⟨g, List.mem_flatMap.2 ⟨x, hx, hg⟩, h4⟩
theorem foldH_vr {j : Nat} {x : Int × Int} : Vr (foldH (halv j) x) := fun g hg => by
  have hc := halv_c j
  unfold foldH at hg
  split at hg
  · rw [List.mem_singleton.1 hg]
    show 0 ≤ max x.1 (halv j).1 + (halv j).2 ∧ max x.1 (halv j).1 + (halv j).2 ≤ min x.2 ((halv j).1 + 25) + (halv j).2 ∧ _ ≤ (1114111 : Int)
    omega
  · cases hg
theorem foldL_vr {l : List (Int × Int)} : Vr (foldL l) := fun g hg => by
  obtain ⟨x, hx, hgx⟩ := List.mem_flatMap.1 hg
  have hgx' : g ∈ (([] : List (Int × Int)) ++ foldH (halv 0) x) ++ foldH (halv 1) x := hgx
  rw [List.nil_append] at hgx'
  rcases List.mem_append.1 hgx' with h | h
  · exact foldH_vr g h
  · exact foldH_vr g h
theorem foldL_snoc {l : List (Int × Int)} {k : Nat} (h : k < l.length) : foldL (l.take (k + 1)) = foldL (l.take k) ++ foldN l[k] 2 := by
  unfold foldL
  rw [List.take_add_one, List.getElem?_eq_getElem h, List.flatMap_append]; simp
theorem foldH_len (h x : Int × Int) : (foldH h x).length ≤ 1 := by unfold foldH; split <;> simp
theorem foldN_len (x : Int × Int) : ∀ j, (foldN x j).length ≤ j
  | 0 => Nat.le_refl _
  | j + 1 => by rw [foldN, List.length_append]; have := foldN_len x j; have := foldH_len (halv j) x; omega
structure FoG where
  k : Nat
  n : Nat
  sa : Option Addr
  sc : Nat
  so : Option Nat
structure FoI (w wr : World) (l o : List (Int × Int)) (a : Option Addr) (c : Nat) (ob : Option Nat) (x : FoG) (m : Nat) : Prop where
  hk : x.k ≤ m
  cl : OwnS wr 66 2 a l.length c (rcells l) ob
  own : OwnS wr 66 2 x.sa x.n x.sc (rcells o) x.so
  ge : Ge w x.so
  ap : Apart ob x.so
structure FiG where
  j : Nat
  n2 : Nat
  sa2 : Option Addr
  sc2 : Nat
  so2 : Option Nat
structure FiI (w wr : World) (l o : List (Int × Int)) (a : Option Addr) (c : Nat) (ob : Option Nat) (q : Nat) (g : Int × Int) (x : FiG) : Prop where
  hj : x.j ≤ 2
  cl : OwnS wr 66 2 a l.length c (rcells l) ob
  own : OwnS wr 66 2 x.sa2 x.n2 x.sc2 (rcells o) x.so2
  ge : Ge w x.so2
  ap : Apart ob x.so2
  b5 : wr.heap[q]? = some (.cells #[.int .i32 g.1, .int .i32 g.2] 66 (0, 0))
  s5 : Ge w (some q)
  ap5 : Apart (some q) x.so2
theorem foldH_yes {h x : Int × Int} (hc : max x.1 h.1 ≤ min x.2 (h.1 + 25)) : foldH h x = [(max x.1 h.1 + h.2, min x.2 (h.1 + 25) + h.2)] := by unfold foldH; rw [if_pos hc]
theorem foldH_no {h x : Int × Int} (hc : ¬ max x.1 h.1 ≤ min x.2 (h.1 + 25)) : foldH h x = [] := by unfold foldH; rw [if_neg hc]
theorem min_i {a b : Int} : (if b < a then b else a) = min a b := by omega
theorem vr_app {l m : List (Int × Int)} (h : Vr l) (h2 : Vr m) : Vr (l ++ m) := fun g hg => (List.mem_append.1 hg).elim (h g) (h2 g)
theorem foldL_len : ∀ l : List (Int × Int), (foldL l).length ≤ 2 * l.length
  | [] => Nat.le_refl _
  | x :: l => by
    have h1 : foldL (x :: l) = foldN x 2 ++ foldL l := List.flatMap_cons
    rw [h1, List.length_append, List.length_cons]; have := foldL_len l; have := foldN_len x 2; omega
theorem RsOut.evo {w w' : World} {v : Value} {S : Int → Prop} {n : Nat} (h : RsOut w w' v S n) : Evo [] w w' := by obtain ⟨_, _, _, _, _, _, _, _, _, h⟩ := h; exact h
theorem foldS_congr {S T : Int → Prop} (h : ∀ c, S c ↔ T c) (c : Int) : foldS S c ↔ foldS T c := by unfold foldS; rw [h, h, h]
theorem part_halv {j : Nat} (hj : j < 2) (w : World) : (part 85 #[.int .i32 65, .int .i32 32, .int .i32 97, .int .i32 (-32)] (j * 2)).run Try.prog w = .ok (.agg #[.int .i32 (halv j).1, .int .i32 (halv j).2]) w := by
  rw [run_partA w Try.agg85 Try.size85]
  match j, hj with
  | 0, _ => rfl
  | 1, _ => rfl
theorem folded_ok {w : World} {a : Option Addr} {c : Nat} {l : List (Int × Int)} {ob : Option Nat} (hO : OwnS w 66 2 a l.length c (rcells l) ob) (hv : Vr l) (hl : l.length ≤ 300000) {S : Int → Prop} (hS : ∀ c, InR c l ↔ S c) :
    Calls Try.prog 35 #[.slice a l.length c] w (Ret fun v w' => RsOut w w' v (foldS S) (3 * l.length)) := by
  refine calls_of_cw (N := 54) Try.func35 rfl rfl rfl ?_; refine cw_seq ?_; refine cw_region ?_; refine wl_a ?_; refine wl_nil (nrm_then ?_); refine cw_seq ?_; refine cw_region ?_; refine wl_m ?_; refine wl_call1 (vs := [_]) Try.goes48 rfl (cloneR_ok hO (by omega)) rfl ?_; rintro _ w1 ⟨a1, c1, ob1, rfl, hO1, hg1, hw2⟩; have hA3 := Apart.fresh (Lt.own hO) hg1; have hG4 := Ge.fresh (Evo.refl [] w) hg1; have hE5 := (Evo.refl [] w).then hw2; have hO6 := hO.evo0 hw2; refine wl_a ?_; refine wl_nil (nrm_then ?_); refine cw_seq ?_; refine cw_seq ?_; refine cw_region ?_; refine wl_m ?_; refine wl_val rfl (ex_len_slice rfl Try.underlying22 rfl) ?_; refine wl_m ?_; refine wl_nil (nrm_then ?_); refine cw_block ?_
  refine cw_loop (α := FoG) (⟨0, l.length, a1, c1, ob1⟩) (fun x => [(3, .slice x.sa x.n x.sc), (14, .int .i64 (x.k : Nat))]) [(2, _), (12, _), (13, _)] (fun x wr => Evo [] w wr ∧ (FoI w wr l (l ++ foldL (l.take x.k)) a c ob x l.length ∧ x.n ≤ l.length + 2 * x.k)) (fun x => l.length - x.k) ⟨rfl, rfl, trivial⟩ ⟨rfl, rfl, rfl, trivial⟩ ⟨hE5, ⟨⟨Nat.zero_le _, hO6, by simp [foldL]; exact hO1, hg1, hA3⟩, Nat.le_refl _⟩⟩ ?_
  rintro ⟨k, n, sa, sc, so⟩ wr7 ⟨hV8, ⟨⟨hk, hcl, hown, hge, hap⟩, hnl⟩⟩; show CW _ _ _ _ [(3, .slice sa n sc), (14, .int .i64 (k : Nat)), (2, _), (12, _), (13, _)] _
  try dsimp only at hk
  try dsimp only at hcl
  try dsimp only at hown
  try dsimp only at hge
  try dsimp only at hap
  try dsimp only at hnl
  have hE9 := Evo.refl ([]) wr7; refine cw_seq ?_; refine cw_region ?_; refine wl_val rfl (ex_lss rfl rfl) ?_; refine wl_nil (nrm_then ?_); refine cw_seq ?_; refine cw_if rfl (fun hc15 => ?_) (fun hc15 => ?_)
  ·skip
   have hk' : k < l.length := by omega
   have hlk := hv _ (List.getElem_mem hk'); obtain ⟨g1, hg1', ha1, hc1⟩ := own_elem hcl hk'; refine cw_skip (nrm_then ?_); refine cw_seq ?_; refine cw_block ?_; refine cw_seq ?_; refine cw_region ?_; refine wl_val rfl (ex_indexAddrA (n := k) rfl rfl ha1 Try.elem22 (by omega)) ?_; refine wl_val rfl (ex_loadA rfl Try.agg66 Try.size66 (vs := [_, _]) rfl (hc1.evo hE9 (by simp))) ?_; refine wl_alloc rfl Try.zero66 fun b5 w10 hB11 hs12 hw13 => ?_; have hsz_b5 := hs12; have hA14 := Apart.new (Lt.own hown) hs12; have hA15 := Apart.new (Lt.own hcl) hs12; have hG16 := Ge.new hV8 hs12; have hG17 := Ge.new hE9 hs12; have hE18 := hV8.then hw13; have hE19 := hE9.then hw13; have hO20 := hown.evo0 hw13; have hO21 := hcl.evo0 hw13; refine wl_storeBlk rfl rfl Try.size66 hB11 rfl rfl ⟨by first | rfl | assumption, by first | rfl | assumption, trivial⟩ fun w22 hB23 hw24 => ?_; have hE25 := hE18.step hw24 hG16.mem1; have hE26 := hE19.step hw24 hG17.mem1; have hO27 := hO20.evo hw24 hA14.own1; have hO28 := hO21.evo hw24 hA15.own1
   try simp only [List.setIfInBounds_toArray, List.set_cons_zero, List.set_cons_succ, Nat.reduceAdd, Nat.zero_add, Nat.add_zero] at hB23
   refine wl_nil (nrm_then ?_); refine cw_seq ?_; refine cw_region ?_; refine wl_val rfl (ex_buildA (vs := [(0, _), (1, _)]) Try.underlying85 Try.zero85 Try.size21 rfl (cells := #[.int .i32 65, .int .i32 32]) (by kernel_rfl)) ?_; refine wl_val rfl (ex_buildA (vs := [(0, _), (1, _)]) Try.underlying85 Try.zero85 Try.size21 rfl (cells := #[.int .i32 97, .int .i32 (-32)]) (by kernel_rfl)) ?_; refine wl_val rfl (ex_buildA (vs := [(0, _), (1, _)]) Try.underlying86 Try.zero86 Try.size85 rfl (cells := #[.int .i32 65, .int .i32 32, .int .i32 97, .int .i32 (-32)]) (by kernel_rfl)) ?_; refine wl_m ?_; refine wl_nil (nrm_then ?_); refine cw_block ?_
   refine cw_loop (α := FiG) (⟨0, n, sa, sc, so⟩) (fun x => [(3, .slice x.sa2 x.n2 x.sc2), (21, .int .i64 (x.j : Nat))]) [(2, _), (5, _), (12, _), (13, _), (14, _), (20, _)] (fun x wr => Evo [] w wr ∧ (FiI w wr l (l ++ foldL (l.take k) ++ foldN l[k] x.j) a c ob b5 l[k] x ∧ x.n2 ≤ n + x.j)) (fun x => 2 - x.j) ⟨rfl, rfl, trivial⟩ ⟨rfl, rfl, rfl, rfl, rfl, rfl, trivial⟩ ⟨hE25, ⟨⟨Nat.zero_le _, hO28, by simp [foldN]; exact hO27, hge, hap, hB23, hG16, hA14.symm⟩, Nat.le_refl _⟩⟩ ?_
   rintro ⟨j, n2, sa2, sc2, so2⟩ wr29 ⟨hV30, ⟨⟨hj, hcl2, hown2, hge2, hap2, hb52, hs52, hap5⟩, hnl2⟩⟩; show CW _ _ _ _ [(3, .slice sa2 n2 sc2), (21, .int .i64 (j : Nat)), (2, _), (5, _), (12, _), (13, _), (14, _), (20, _)] _
   try dsimp only at hj
   try dsimp only at hcl2
   try dsimp only at hown2
   try dsimp only at hge2
   try dsimp only at hap2
   try dsimp only at hb52
   try dsimp only at hs52
   try dsimp only at hap5
   try dsimp only at hnl2
   refine cw_seq ?_; refine cw_region ?_; refine wl_val rfl (ex_lss rfl rfl) ?_; refine wl_nil (nrm_then ?_); refine cw_seq ?_; refine cw_if rfl (fun hc22 => ?_) (fun hc22 => ?_)
   ·skip
    have hj' : j < 2 := by omega
    have hhc := halv_c j; refine cw_skip (nrm_then ?_); refine cw_seq ?_; refine cw_block ?_; refine cw_seq ?_; refine cw_region ?_; refine wl_val rfl (ex_aidx (n := j) rfl rfl Try.underlying86 rfl (by omega) Try.size85 (part_halv hj')) ?_; refine wl_alloc rfl Try.zero85 fun b7 w31 hB32 hs33 hw34 => ?_; have hsz_b7 := hs33; have hA35 := Apart.new (Lt.own hown2) hs33; have hA36 := Apart.new (Lt.own hcl2) hs33; have hA37 := Apart.new (Lt.blk hb52) hs33; have hG38 := Ge.new hV30 hs33; have hE39 := hV30.then hw34; have hO40 := hown2.evo0 hw34; have hO41 := hcl2.evo0 hw34; have hB42 := hw34.blk0 hb52; refine wl_storeBlk rfl rfl Try.size85 hB32 rfl rfl ⟨by first | rfl | assumption, by first | rfl | assumption, trivial⟩ fun w43 hB44 hw45 => ?_; have hE46 := hE39.step hw45 hG38.mem1; have hO47 := hO40.evo hw45 hA35.own1; have hO48 := hO41.evo hw45 hA36.own1; have hB49 := hw45.blk hB42 hA37.nmem1
    try simp only [List.setIfInBounds_toArray, List.set_cons_zero, List.set_cons_succ, Nat.reduceAdd, Nat.zero_add, Nat.add_zero] at hB44
    refine wl_nil (nrm_then ?_); refine cw_seq ?_; refine cw_any (fun w0 w' => Evo [] w0 w') (by kernel_rfl) (fun w50 hw51 => ?_); have hE52 := hE46.then hw51; have hO53 := hO47.evo0 hw51; have hO54 := hO48.evo0 hw51; have hB55 := hw51.blk0 hB49; have hB56 := hw51.blk0 hB44; refine ae_take 0 rfl (by kernel_rfl) (by kernel_rfl) (by kernel_rfl) rfl (fun _ hS => ex_fieldAddr rfl Try.fld66_0) (Evo.refl [] w50) ?_; refine ae_take 1 rfl (by kernel_rfl) (by kernel_rfl) (by kernel_rfl) rfl (fun _ hS => ex_load1 rfl Try.agg21 (cell_nth (hS.blk0 hB55) rfl)) (Evo.refl [] w50) ?_; refine ae_take 2 rfl (by kernel_rfl) (by kernel_rfl) (by kernel_rfl) rfl (fun _ hS => ex_arrAddr (n := 0) rfl rfl Try.underlying85 rfl (by omega) Try.size21) (Evo.refl [] w50) ?_; refine ae_take 3 rfl (by kernel_rfl) (by kernel_rfl) (by kernel_rfl) rfl (fun _ hS => ex_load1 rfl Try.agg21 (cell_nth (hS.blk0 hB56) rfl)) (Evo.refl [] w50) ?_; refine ae_take 5 rfl (by kernel_rfl) (by kernel_rfl) (by kernel_rfl) rfl (fun _ hS => ex_fieldAddr rfl Try.fld66_1) (Evo.refl [] w50) ?_; refine ae_take 6 rfl (by kernel_rfl) (by kernel_rfl) (by kernel_rfl) rfl (fun _ hS => ex_load1 rfl Try.agg21 (cell_nth (hS.blk0 hB55) rfl)) (Evo.refl [] w50) ?_; refine ae_take 7 rfl (by kernel_rfl) (by kernel_rfl) (by kernel_rfl) rfl (fun _ hS => ex_arrAddr (n := 0) rfl rfl Try.underlying85 rfl (by omega) Try.size21) (Evo.refl [] w50) ?_; refine ae_take 8 rfl (by kernel_rfl) (by kernel_rfl) (by kernel_rfl) rfl (fun _ hS => ex_load1 rfl Try.agg21 (cell_nth (hS.blk0 hB56) rfl)) (Evo.refl [] w50) ?_; refine ae_take 9 rfl (by kernel_rfl) (by kernel_rfl) (by kernel_rfl) rfl (fun _ hS => ex_add_i32 rfl rfl (by omega) (by omega)) (Evo.refl [] w50) ?_; refine ae_loud [4, 10] (by kernel_rfl) rfl ⟨?_, ?_, trivial⟩
    ·skip
     refine a_step rfl ?_; refine wl_val rfl (ex_max rfl rfl) ?_; refine wl_nil (ae_next (.inl (Evo.refl [] w50)) ?_); refine ae_take 11 rfl (by kernel_rfl) (by kernel_rfl) (by kernel_rfl) rfl (fun _ hS => ex_assign rfl) (Evo.refl [] w50) ?_; refine ae_loud [10] (by kernel_rfl) rfl ⟨?_, trivial⟩; refine a_step rfl ?_; refine wl_val rfl (ex_min rfl rfl) ?_; refine wl_nil (ae_next (.inl (Evo.refl [] w50)) ?_); refine ae_take 12 rfl (by kernel_rfl) (by kernel_rfl) (by kernel_rfl) rfl (fun _ hS => ex_assign rfl) (Evo.refl [] w50) ?_; refine ae_done (by kernel_rfl) (nrm_then ?_); refine cw_seq ?_; refine cw_region ?_; refine wl_m ?_; refine wl_m ?_; refine wl_val rfl (ex_leq rfl rfl) ?_; refine wl_nil (nrm_then ?_); refine cw_if rfl (fun hc37 => ?_) (fun hc37 => ?_)
     ·skip
      refine cw_region ?_; refine wl_m ?_; refine wl_m ?_; refine wl_val rfl (ex_arrAddr (n := 1) rfl rfl Try.underlying85 rfl (by omega) Try.size21) ?_; refine wl_val rfl (ex_load1 rfl Try.agg21 (cell_nth hB56 rfl)) ?_; refine wl_val rfl (ex_add_i32 rfl rfl (by omega) (by omega)) ?_; refine wl_m ?_; refine wl_val rfl (ex_arrAddr (n := 1) rfl rfl Try.underlying85 rfl (by omega) Try.size21) ?_; refine wl_val rfl (ex_load1 rfl Try.agg21 (cell_nth hB56 rfl)) ?_; refine wl_val rfl (ex_add_i32 rfl rfl (by omega) (by omega)) ?_; refine wl_val rfl (ex_build (vs := [(0, _), (1, _)]) Try.build66 rfl (cells := [_, _]) rfl) ?_; refine wl_bslice (vs := [_]) rfl Try.slice22 rfl rfl rfl rfl fun b57 w58 hO59 hs60 hw61 => ?_; have hA62 := Apart.new (Lt.own hO53) hs60; have hA63 := Apart.new (Lt.own hO54) hs60; have hA64 := Apart.new (Lt.blk hB55) hs60; have hA65 := Apart.new (Lt.blk hB56) hs60; have hG66 := Ge.new hE52 hs60; have hE67 := hE52.then hw61; have hO68 := hO53.evo0 hw61; have hO69 := hO54.evo0 hw61; have hB70 := hw61.blk0 hB55; have hB71 := hw61.blk0 hB56; refine wl_append rfl rfl rfl rfl Try.app22_22 hO68 (Src.ofOwn hO59 ⟨by first | rfl | assumption, by first | rfl | assumption, trivial⟩) (by omega) fun a2 c2 w74 ob2 hO3 hw77 hob78 => ?_; have hA79 := hap2.app (Lt.own hO69) hob78; have hA80 := hap5.app (Lt.blk hB70) hob78; have hA81 := hA35.symm.app (Lt.blk hB71) hob78; have hA82 := hA62.symm.app (Lt.own hO59) hob78; have hG83 := hge2.app hE67 hob78; have hE84 := hE67.step hw77 hge2.mem; have hO85 := hO69.evo hw77 hap2.own; have hB86 := hw77.blk hB70 hap5.nmem; have hB87 := hw77.blk hB71 hA35.symm.nmem; have hO88 := hO59.evo hw77 hA62.symm.own; refine wl_a ?_; refine wl_nil (nrm_block (nrm_then ?_)); refine cw_region ?_
      refine wl_val rfl (ex_add_i64 rfl rfl (by omega) (by omega)) ?_; refine wl_m ?_; refine wl_nil (nrm_same ?_); refine ⟨⟨j + 1, n2 + 1, a2, c2, ob2⟩, ?_, ⟨rfl, rfl, trivial⟩, ⟨rfl, rfl, rfl, rfl, rfl, rfl, trivial⟩, hE84, ?_⟩
      · (try dsimp only); omega
      ·skip
       try dsimp only
       refine ⟨⟨hj', hO85, ?_, hG83, hA79, hB86, hs52, hA80⟩, (by show n2 + 1 ≤ n + (j + 1); omega)⟩
       simp only [max_i, min_i] at hc37; rw [foldN, ← List.append_assoc, rcells_app _ (foldH (halv j) l[k]), foldH_yes hc37]; have hO9 := hO3; simp only [max_i, min_i] at hO9; exact hO9
     ·skip
      refine cw_skip (nrm_block (nrm_then ?_)); refine cw_region ?_; refine wl_val rfl (ex_add_i64 rfl rfl (by omega) (by omega)) ?_; refine wl_m ?_; refine wl_nil (nrm_same ?_); refine ⟨⟨j + 1, n2, sa2, sc2, so2⟩, ?_, ⟨rfl, rfl, trivial⟩, ⟨rfl, rfl, rfl, rfl, rfl, rfl, trivial⟩, hE52, ?_⟩
      · (try dsimp only); omega
      ·skip
       try dsimp only
       simp only [max_i, min_i] at hc37
       refine ⟨⟨hj', hO54, ?_, hge2, hap2, hB55, hs52, hap5⟩, (by show n2 ≤ n + (j + 1); omega)⟩
       rw [foldN, foldH_no hc37, List.append_nil]; exact hO53
    ·skip
     refine a_step rfl ?_; refine wl_val rfl (ex_min rfl rfl) ?_; refine wl_nil (ae_next (.inl (Evo.refl [] w50)) ?_); refine ae_loud [4] (by kernel_rfl) rfl ⟨?_, trivial⟩; refine a_step rfl ?_; refine wl_val rfl (ex_max rfl rfl) ?_; refine wl_nil (ae_next (.inl (Evo.refl [] w50)) ?_); refine ae_take 11 rfl (by kernel_rfl) (by kernel_rfl) (by kernel_rfl) rfl (fun _ hS => ex_assign rfl) (Evo.refl [] w50) ?_; refine ae_take 12 rfl (by kernel_rfl) (by kernel_rfl) (by kernel_rfl) rfl (fun _ hS => ex_assign rfl) (Evo.refl [] w50) ?_; refine ae_done (by kernel_rfl) (nrm_then ?_); refine cw_seq ?_; refine cw_region ?_; refine wl_m ?_; refine wl_m ?_; refine wl_val rfl (ex_leq rfl rfl) ?_; refine wl_nil (nrm_then ?_); refine cw_if rfl (fun hc37 => ?_) (fun hc37 => ?_)
     ·skip
      refine cw_region ?_; refine wl_m ?_; refine wl_m ?_; refine wl_val rfl (ex_arrAddr (n := 1) rfl rfl Try.underlying85 rfl (by omega) Try.size21) ?_; refine wl_val rfl (ex_load1 rfl Try.agg21 (cell_nth hB56 rfl)) ?_; refine wl_val rfl (ex_add_i32 rfl rfl (by omega) (by omega)) ?_; refine wl_m ?_; refine wl_val rfl (ex_arrAddr (n := 1) rfl rfl Try.underlying85 rfl (by omega) Try.size21) ?_; refine wl_val rfl (ex_load1 rfl Try.agg21 (cell_nth hB56 rfl)) ?_; refine wl_val rfl (ex_add_i32 rfl rfl (by omega) (by omega)) ?_; refine wl_val rfl (ex_build (vs := [(0, _), (1, _)]) Try.build66 rfl (cells := [_, _]) rfl) ?_; refine wl_bslice (vs := [_]) rfl Try.slice22 rfl rfl rfl rfl fun b89 w90 hO91 hs92 hw93 => ?_; have hA94 := Apart.new (Lt.own hO53) hs92; have hA95 := Apart.new (Lt.own hO54) hs92; have hA96 := Apart.new (Lt.blk hB55) hs92; have hA97 := Apart.new (Lt.blk hB56) hs92; have hG98 := Ge.new hE52 hs92; have hE99 := hE52.then hw93; have hO100 := hO53.evo0 hw93; have hO101 := hO54.evo0 hw93; have hB102 := hw93.blk0 hB55; have hB103 := hw93.blk0 hB56; refine wl_append rfl rfl rfl rfl Try.app22_22 hO100 (Src.ofOwn hO91 ⟨by first | rfl | assumption, by first | rfl | assumption, trivial⟩) (by omega) fun a2 c2 w106 ob2 hO3 hw109 hob110 => ?_; have hA111 := hap2.app (Lt.own hO101) hob110; have hA112 := hap5.app (Lt.blk hB102) hob110; have hA113 := hA35.symm.app (Lt.blk hB103) hob110; have hA114 := hA94.symm.app (Lt.own hO91) hob110; have hG115 := hge2.app hE99 hob110; have hE116 := hE99.step hw109 hge2.mem; have hO117 := hO101.evo hw109 hap2.own; have hB118 := hw109.blk hB102 hap5.nmem; have hB119 := hw109.blk hB103 hA35.symm.nmem; have hO120 := hO91.evo hw109 hA94.symm.own; refine wl_a ?_; refine wl_nil (nrm_block (nrm_then ?_)); refine cw_region ?_
      refine wl_val rfl (ex_add_i64 rfl rfl (by omega) (by omega)) ?_; refine wl_m ?_; refine wl_nil (nrm_same ?_); refine ⟨⟨j + 1, n2 + 1, a2, c2, ob2⟩, ?_, ⟨rfl, rfl, trivial⟩, ⟨rfl, rfl, rfl, rfl, rfl, rfl, trivial⟩, hE116, ?_⟩
      · (try dsimp only); omega
      ·skip
       try dsimp only
       refine ⟨⟨hj', hO117, ?_, hG115, hA111, hB118, hs52, hA112⟩, (by show n2 + 1 ≤ n + (j + 1); omega)⟩
       simp only [max_i, min_i] at hc37; rw [foldN, ← List.append_assoc, rcells_app _ (foldH (halv j) l[k]), foldH_yes hc37]; have hO9 := hO3; simp only [max_i, min_i] at hO9; exact hO9
     ·skip
      refine cw_skip (nrm_block (nrm_then ?_)); refine cw_region ?_; refine wl_val rfl (ex_add_i64 rfl rfl (by omega) (by omega)) ?_; refine wl_m ?_; refine wl_nil (nrm_same ?_); refine ⟨⟨j + 1, n2, sa2, sc2, so2⟩, ?_, ⟨rfl, rfl, trivial⟩, ⟨rfl, rfl, rfl, rfl, rfl, rfl, trivial⟩, hE52, ?_⟩
      · (try dsimp only); omega
      ·skip
       try dsimp only
       simp only [max_i, min_i] at hc37
       refine ⟨⟨hj', hO54, ?_, hge2, hap2, hB55, hs52, hap5⟩, (by show n2 ≤ n + (j + 1); omega)⟩
       rw [foldN, foldH_no hc37, List.append_nil]; exact hO53
   ·skip
    refine cw_exit (ex_then (ex_then (ex_here (nrm_block (nrm_then ?_))))); refine cw_region ?_; refine wl_val rfl (ex_add_i64 rfl rfl (by omega) (by omega)) ?_; refine wl_m ?_; refine wl_nil (nrm_same ?_); refine ⟨⟨k + 1, n2, sa2, sc2, so2⟩, ?_, ⟨rfl, rfl, trivial⟩, ⟨rfl, rfl, rfl, trivial⟩, hV30, ?_⟩
    · (try dsimp only); omega
    ·skip
     try dsimp only
     obtain rfl : j = 2 := by omega
     refine ⟨⟨hk', hcl2, ?_, hge2, hap2⟩, (by show n2 ≤ l.length + 2 * (k + 1); omega)⟩
     rw [foldL_snoc hk', ← List.append_assoc]; exact hown2
  ·skip
   rw [List.take_of_length_le (show l.length ≤ k by omega)] at hown; have hfl := foldL_len l; have hn9 := own_rn hown; subst hn9; have hV9 := hV8; refine cw_exit (ex_then (ex_then (ex_here (nrm_then ?_)))); refine cw_seq ?_; refine cw_region ?_; refine wl_m ?_
   refine wl_call1 (vs := [_]) Try.goes41 rfl (merged_ok hown (vr_app hv foldL_vr) (by rw [List.length_append]; omega) (fun c => foldL_in.trans (foldS_congr hS c))) rfl ?_
   rintro rv w121 hR; have hw122 := hR.evo; have hE123 := hV8.then hw122; have hE124 := hE9.then hw122; have hO125 := hown.evo0 hw122; have hO126 := hcl.evo0 hw122; refine wl_a ?_; refine wl_nil (nrm_then ?_); refine cw_ret (body_ret1 rfl rfl ?_); obtain ⟨a9, c9, ob9, rfl, hO9, hg9, hl9, hcan9, heq9, hev9⟩ := hR
   exact ⟨a9, c9, ob9, rfl, hO9, Ge.fresh hV9 hg9, by rw [List.length_append] at hl9; have := foldL_len l; omega, hcan9, heq9, hE123⟩
end Go.Proofs.Ytljadkcojnlioaa
namespace Go.Proofs.Ytljadkcojnlioaa
open Go.Proofs
open Go.W Go.RowKit
attribute [local irreducible] Decidable.decide
set_option linter.unusedSimpArgs false
set_option linter.unusedVariables false
theorem Try.agg4 : aggB Try.prog 4 = some false := by kernel_rfl
theorem Try.build25 : Build Try.prog 25 #[(0, 1), (1, 1), (2, 1), (3, 1), (4, 1), (5, 1), (6, 1), (7, 1), (8, 1)] #[.int .i64 0, .int .i32 0, .slice none 0 0, .int .i64 0, .int .i64 0, .bool false, .int .i64 0, .string ByteArray.empty, .slice none 0 0] := ⟨_, .agg #[.int .i64 0, .int .i32 0, .slice none 0 0, .int .i64 0, .int .i64 0, .bool false, .int .i64 0, .string ByteArray.empty, .slice none 0 0], Try.underlying25, by kernel_rfl, rfl, fun w => by kernel_rfl⟩
theorem Try.goes28 : Goes Try.prog 28 := ⟨_, Try.func28, by kernel_rfl, by kernel_rfl⟩
theorem Try.goes36 : Goes Try.prog 36 := ⟨_, Try.func36, by kernel_rfl, by kernel_rfl⟩
theorem Try.slice77 : sliceB Try.prog 77 = some (21, 1) := by kernel_rfl
theorem Try.zero25 : zeroB Try.prog 25 = some #[.int .i64 0, .int .i32 0, .slice none 0 0, .int .i64 0, .int .i64 0, .bool false, .int .i64 0, .string ByteArray.empty, .slice none 0 0] := by kernel_rfl
def SetOut (w w' : World) (v : Value) (S : Int → Prop) (n : Nat) : Prop := ∃ a c ob l, v = .slice a l.length c ∧ OwnS w' 66 2 a l.length c (rcells l) ob ∧ Ge w ob ∧ Vr l ∧ (∀ c, InR c l ↔ S c) ∧ l.length ≤ n
theorem RsOut.set {X : List Nat} {w0 w w' : World} {v : Value} {S : Int → Prop} {n : Nat} (h : RsOut w w' v S n) (he : Evo X w0 w) : SetOut w0 w' v S n := by
  obtain ⟨a, c, ob, h1, h2, h3, h4, h5, h6, -⟩ := h
  exact ⟨a, c, ob, canon S, h1, h2, Ge.fresh he h3, can_vr h5, h6, h4⟩
theorem node_lit {S : Int → Prop} {m : List (Int × Int)} (e : canon S = m) (h1 : m.length = 1) (h2 : (m[0]'(by omega)).1 = (m[0]'(by omega)).2) : nodeS S = rxLit (m[0]'(by omega)).1 := by
  obtain ⟨⟨a, b⟩, rfl⟩ := List.length_eq_one_iff.1 h1
  have h2' : a = b := h2
  unfold nodeS
  rw [e]
  show (if a = b then rxLit a else rxCls [(a, b)]) = _
  rw [if_pos h2']; rfl
theorem node_cls {S : Int → Prop} {m : List (Int × Int)} (e : canon S = m) (h : ∀ h1 : m.length = 1, ¬ (m[0]'(by omega)).1 = (m[0]'(by omega)).2) : nodeS S = rxCls m := by
  unfold nodeS
  rw [e]
  match m, h with
  | [], h => rfl
  | [(a, b)], h =>
    have h2 : ¬ a = b := h rfl
    show (if a = b then rxLit a else rxCls [(a, b)]) = _
    rw [if_neg h2]
  | a :: b :: l, h => rfl
theorem or_c : ∀ c : Nat, c < 256 → ((c ||| 32 = 100 → c = 68 ∨ c = 100) ∧ (c ||| 32 = 115 → c = 83 ∨ c = 115) ∧ (c ||| 32 = 119 → c = 87 ∨ c = 119)) ∧ (c ||| 32 ≠ 100 → c ≠ 68 ∧ c ≠ 100) ∧ (c ||| 32 ≠ 115 → c ≠ 83 ∧ c ≠ 115) ∧ (c ||| 32 ≠ 119 → c ≠ 87 ∧ c ≠ 119) := by
  have h : ∀ c : Fin 256, ((c.1 ||| 32 = 100 → c.1 = 68 ∨ c.1 = 100) ∧ (c.1 ||| 32 = 115 → c.1 = 83 ∨ c.1 = 115) ∧ (c.1 ||| 32 = 119 → c.1 = 87 ∨ c.1 = 119)) ∧ (c.1 ||| 32 ≠ 100 → c.1 ≠ 68 ∧ c.1 ≠ 100) ∧ (c.1 ||| 32 ≠ 115 → c.1 ≠ 83 ∧ c.1 ≠ 115) ∧ (c.1 ||| 32 ≠ 119 → c.1 ≠ 87 ∧ c.1 ≠ 119) := by decide +kernel
  exact fun c hc => h ⟨c, hc⟩
theorem vr_lit {l : List (Int × Int)} (h : l.all (fun g => decide (0 ≤ g.1) && decide (g.1 ≤ g.2) && decide (g.2 ≤ 1114111)) = true) : Vr l := fun g hg => by
  have := List.all_eq_true.1 h g hg
  simp only [Bool.and_eq_true, decide_eq_true_eq] at this
  exact ⟨this.1.1, this.1.2, this.2⟩
theorem letS_none {c : Nat} (h : c ≠ 100 ∧ c ≠ 115 ∧ c ≠ 119 ∧ c ≠ 68 ∧ c ≠ 83 ∧ c ≠ 87) : letS c = none := by
  unfold letS; rw [if_neg h.1, if_neg h.2.1, if_neg h.2.2.1, if_neg h.2.2.2.1, if_neg h.2.2.2.2.1, if_neg h.2.2.2.2.2]
def LetOut (w w' : World) (v : Value) (o : Option (Int → Prop)) : Prop := (o = none ∧ v = .tuple #[.slice none 0 0, .bool false]) ∨ ∃ S v', o = some S ∧ v = .tuple #[v', .bool true] ∧ SetOut w w' v' S 8
theorem node_ok {w : World} {a : Option Addr} {c : Nat} {l : List (Int × Int)} {ob : Option Nat} (hO : OwnS w 66 2 a l.length c (rcells l) ob) (hv : Vr l) (hl : l.length ≤ 1000000) {S : Int → Prop} (hS : ∀ c, InR c l ↔ S c) :
    Calls Try.prog 27 #[.slice a l.length c] w (Ret fun v w' => TOut w w' v (nodeS S) ∧ Evo [] w w') := by
  refine calls_of_cw (N := 26) Try.func27 rfl rfl rfl ?_; refine cw_seq ?_; refine cw_region ?_; refine wl_alloc rfl Try.zero25 fun b2 w1 hB2 hs3 hw4 => ?_; have hsz_b2 := hs3; have hG5 := Ge.new (Evo.refl [] w) hs3; have hE6 := (Evo.refl [] w).then hw4; refine wl_nil (nrm_then ?_); refine cw_seq ?_; refine cw_region ?_; refine wl_m ?_; refine wl_call1 (vs := [_]) Try.goes41 rfl (merged_ok (hO.evo0 hE6) hv hl hS) rfl ?_; rintro _ w7 ⟨a1, c1, ob1, rfl, hO1, hg1, hml, hcan, heqS, hw8⟩; have hA9 := Apart.fresh (Lt.blk hB2) hg1; have hG10 := Ge.fresh hE6 hg1; have hE11 := hE6.then hw8; have hB12 := hw8.blk0 hB2
  generalize hm : canon S = m at *
  refine wl_a ?_; refine wl_nil (nrm_then ?_); refine cw_seq ?_; refine cw_seq ?_; refine cw_quiet (by kernel_rfl) (by kernel_rfl) ?_; refine ql_val rfl (fun _ hq14 => ex_move rfl) ?_; refine ql_val rfl (fun _ hq14 => ex_len_slice rfl Try.underlying22 rfl) ?_; refine ql_val rfl (fun _ hq14 => ex_eql rfl rfl) ?_; refine ql_val rfl (fun _ hq14 => ex_move rfl) ?_; refine ql_split (t := 8) rfl (fun hs8 => ?_) (fun hs8 => ?_)
  ·skip
   have hm1 : m.length = 1 := by omega
   obtain ⟨g1, hg1', ha1, hc1⟩ := own_elem hO1 (i := 0) (by omega); refine ql_go rfl rfl rfl rfl ?_; refine ql_val rfl (fun _ hq14 => ex_move rfl) ?_; refine ql_go rfl rfl rfl rfl ?_; refine ql_val rfl (fun _ hq14 => ex_indexAddrA (n := 0) rfl rfl ha1 Try.elem22 (by omega)) ?_; refine ql_go rfl rfl rfl rfl ?_; refine ql_val rfl (fun _ hq14 => ex_fieldAddr rfl Try.fld66_0) ?_; refine ql_go rfl rfl rfl rfl ?_; refine ql_val rfl (fun _ hq14 => ex_load1 rfl Try.agg21 ((((Evo.refl ([]) w7).then hq14)).cell (hc1 0 _ rfl) (by simp))) ?_; refine ql_go rfl rfl rfl rfl ?_; refine ql_val rfl (fun _ hq14 => ex_move rfl) ?_; refine ql_go rfl rfl rfl rfl ?_; refine ql_val rfl (fun _ hq14 => ex_indexAddrA (n := 0) rfl rfl ha1 Try.elem22 (by omega)) ?_; refine ql_go rfl rfl rfl rfl ?_; refine ql_val rfl (fun _ hq14 => ex_fieldAddr rfl Try.fld66_1) ?_; refine ql_go rfl rfl rfl rfl ?_; refine ql_val rfl (fun _ hq14 => ex_load1 rfl Try.agg21 ((((Evo.refl ([]) w7).then hq14)).cell (hc1 1 _ rfl) (by simp))) ?_; refine ql_go rfl rfl rfl rfl ?_; refine ql_val rfl (fun _ hq14 => ex_eql rfl rfl) ?_; refine ql_val rfl (fun _ hq14 => ex_pick_t rfl rfl) ?_; refine ql_nil (fun wq13 hq14 => nrm_then ?_); have hE15 := hE11.then hq14; have hE16 := (Evo.refl ([]) w7).then hq14; have hB17 := hq14.blk0 hB12; have hO18 := hO1.evo0 hq14; refine cw_if rfl (fun hc18 => ?_) (fun hc18 => ?_)
   ·skip
    refine cw_seq ?_; refine cw_region ?_; refine wl_m ?_; refine wl_val rfl (ex_indexAddrA (n := 0) rfl rfl ha1 Try.elem22 (by omega)) ?_; refine wl_val rfl (ex_fieldAddr rfl Try.fld66_0) ?_; refine wl_val rfl (ex_load1 rfl Try.agg21 ((hE16).cell (hc1 0 _ rfl) (by simp))) ?_; refine wl_val rfl (ex_build (vs := [(0, _), (1, _)]) Try.build25 rfl (cells := [_, _, _, _, _, _, _, _, _]) rfl) ?_; refine wl_storeBlk rfl rfl Try.size25 hB17 rfl rfl ⟨by first | rfl | assumption, by first | rfl | assumption, by first | rfl | assumption, by first | rfl | assumption, by first | rfl | assumption, by first | rfl | assumption, by first | rfl | assumption, by first | rfl | assumption, by first | rfl | assumption, trivial⟩ fun w19 hB20 hw21 => ?_; have hE22 := hE15.step hw21 hG5.mem1; have hO24 := hO18.evo hw21 hA9.symm.own1
    try simp only [List.setIfInBounds_toArray, List.set_cons_zero, List.set_cons_succ, Nat.reduceAdd, Nat.zero_add, Nat.add_zero] at hB20
    refine wl_nil (nrm_then ?_); refine cw_ret (ret_then (body_retC1 rfl (ResOk.cellA rfl Try.agg25 Try.size25 hB20 rfl) ?_)); refine ⟨?_, hE22⟩; rw [node_lit hm hm1 (by simpa using hc18)]; exact ⟨_, [], rfl, ot_lit _ _, Fr.nil _⟩
   ·skip
    refine cw_skip (nrm_then ?_); refine cw_seq ?_; refine cw_region ?_; refine wl_m ?_; refine wl_val rfl (ex_build (vs := [(0, _), (2, _)]) Try.build25 rfl (cells := [_, _, _, _, _, _, _, _, _]) rfl) ?_; refine wl_storeBlk rfl rfl Try.size25 hB17 rfl rfl ⟨by first | rfl | assumption, by first | rfl | assumption, by first | rfl | assumption, by first | rfl | assumption, by first | rfl | assumption, by first | rfl | assumption, by first | rfl | assumption, by first | rfl | assumption, by first | rfl | assumption, trivial⟩ fun w25 hB26 hw27 => ?_; have hE28 := hE15.step hw27 hG5.mem1; have hO30 := hO18.evo hw27 hA9.symm.own1
    try simp only [List.setIfInBounds_toArray, List.set_cons_zero, List.set_cons_succ, Nat.reduceAdd, Nat.zero_add, Nat.add_zero] at hB26
    refine wl_nil (nrm_then ?_); refine cw_ret (body_retC1 rfl (ResOk.cellA rfl Try.agg25 Try.size25 hB26 rfl) ?_); refine ⟨?_, hE28⟩; rw [node_cls hm (fun h1 => by simpa using hc18)]; exact ⟨_, _, rfl, ot_cls hO30 (by omega), ge_fr hG10⟩
  ·skip
   refine ql_no rfl rfl rfl rfl rfl rfl ?_; refine ql_no rfl rfl rfl rfl rfl rfl ?_; refine ql_no rfl rfl rfl rfl rfl rfl ?_; refine ql_no rfl rfl rfl rfl rfl rfl ?_; refine ql_no rfl rfl rfl rfl rfl rfl ?_; refine ql_no rfl rfl rfl rfl rfl rfl ?_; refine ql_no rfl rfl rfl rfl rfl rfl ?_; refine ql_no rfl rfl rfl rfl rfl rfl ?_; refine ql_no rfl rfl rfl rfl rfl rfl ?_; refine ql_val rfl (fun _ hq14 => ex_pick_f rfl rfl) ?_; refine ql_nil (fun wq13 hq14 => nrm_then ?_); have hE31 := hE11.then hq14; have hE32 := (Evo.refl ([]) w7).then hq14; have hB33 := hq14.blk0 hB12; have hO34 := hO1.evo0 hq14; refine cw_false rfl ?_; refine cw_skip (nrm_then ?_); refine cw_seq ?_; refine cw_region ?_; refine wl_m ?_; refine wl_val rfl (ex_build (vs := [(0, _), (2, _)]) Try.build25 rfl (cells := [_, _, _, _, _, _, _, _, _]) rfl) ?_; refine wl_storeBlk rfl rfl Try.size25 hB33 rfl rfl ⟨by first | rfl | assumption, by first | rfl | assumption, by first | rfl | assumption, by first | rfl | assumption, by first | rfl | assumption, by first | rfl | assumption, by first | rfl | assumption, by first | rfl | assumption, by first | rfl | assumption, trivial⟩ fun w35 hB36 hw37 => ?_; have hE38 := hE31.step hw37 hG5.mem1; have hO40 := hO34.evo hw37 hA9.symm.own1
   try simp only [List.setIfInBounds_toArray, List.set_cons_zero, List.set_cons_succ, Nat.reduceAdd, Nat.zero_add, Nat.add_zero] at hB36
   refine wl_nil (nrm_then ?_); refine cw_ret (body_retC1 rfl (ResOk.cellA rfl Try.agg25 Try.size25 hB36 rfl) ?_); refine ⟨?_, hE38⟩; rw [node_cls hm (fun h1 => by omega)]; exact ⟨_, _, rfl, ot_cls hO40 (by omega), ge_fr hG10⟩
theorem setOut_le {w w' : World} {v : Value} {S : Int → Prop} {n m : Nat} (h : SetOut w w' v S n) (hm : n ≤ m) : SetOut w w' v S m := by
  obtain ⟨a, c, ob, l, h1, h2, h3, h4, h5, h6⟩ := h
  exact ⟨a, c, ob, l, h1, h2, h3, h4, h5, Nat.le_trans h6 hm⟩
theorem letterSet_ok {w : World} (c : Nat) (hc : c < 256) :
    Calls Try.prog 38 #[.int .u8 (c : Nat)] w (Ret fun v w' => LetOut w w' v (letS c) ∧ Evo [] w w') := by
  have hor := or_c c hc; refine calls_of_cw (N := 31) Try.func38 rfl rfl rfl ?_; refine cw_seq ?_; refine cw_region ?_; refine wl_a ?_; refine wl_a ?_; refine wl_nil (nrm_then ?_); refine cw_seq ?_; refine cw_region ?_; refine wl_a ?_; refine wl_nil (nrm_then ?_); refine cw_seq ?_; refine cw_seq ?_; refine cw_region ?_; refine wl_m ?_; refine wl_val rfl (ex_orN (m := c) (n := 32) rfl rfl rfl rfl rfl hc (by decide)) ?_; refine wl_nil (nrm_then ?_); refine cw_block ?_; refine cw_seq ?_; refine cw_region ?_; refine wl_val rfl (ex_eql rfl rfl) ?_; refine wl_a ?_; refine wl_nil (nrm_then ?_); refine cw_if rfl (fun hc7 => ?_) (fun hc7 => ?_)
  ·skip
   have hcs := hor.1.1 (by omega); refine cw_region ?_; refine wl_bslice (vs := [_, _]) rfl Try.slice77 rfl rfl rfl rfl fun b1 w2 hO3 hs4 hw5 => ?_; have hG6 := Ge.new (Evo.refl [] w) hs4; have hE7 := (Evo.refl [] w).then hw5; refine wl_call1 (vs := [_]) Try.goes28 rfl (span_ok (es := [48, 57]) hO3 (by decide)) rfl ?_; rintro _ w8 ⟨a1, c1, ob1, rfl, hO1, hg1, hw9⟩; have hA10 := Apart.fresh (Lt.own hO3) hg1; have hG11 := Ge.fresh hE7 hg1; have hE12 := hE7.then hw9; have hO13 := hO3.evo0 hw9; refine wl_a ?_; refine wl_nil (nrm_block (nrm_then ?_)); refine cw_seq ?_; refine cw_seq ?_; refine cw_region ?_; refine wl_m ?_; refine wl_nil (nrm_then ?_); refine cw_block ?_; refine cw_seq ?_; refine cw_seq ?_; refine cw_region ?_; refine wl_val rfl (ex_eql rfl rfl) ?_; refine wl_a ?_; refine wl_nil (nrm_then ?_); refine cw_if rfl (fun hc20 => ?_) (fun hc20 => ?_)
   ·skip
    refine cw_skip (nrm_then ?_); refine cw_if rfl (fun hc20 => ?_) (fun hc20 => ?_)
    ·skip
     refine cw_region ?_; refine wl_m ?_; refine wl_call1 (vs := [_]) Try.goes36 rfl (negated_ok (l := [(48, 57)]) hO1 (vr_lit (by kernel_rfl)) (by decide) (fun c => Iff.rfl)) rfl ?_; rintro rv w14 hR; have hV9 := hE12; have hw15 := hR.evo; have hE16 := hE12.then hw15; have hO17 := hO1.evo0 hw15; refine wl_a ?_; refine wl_nil (nrm_block (nrm_then ?_)); refine cw_seq ?_; refine cw_region ?_; refine wl_m ?_; refine wl_a ?_; refine wl_a ?_; refine wl_nil (nrm_then ?_); refine cw_ret (body_ret2 rfl rfl rfl ?_)
     obtain rfl : c = 68 := by omega
     exact ⟨.inr ⟨_, _, rfl, rfl, setOut_le (hR.set hV9) (by decide)⟩, hE16⟩
    ·skip
     exfalso; omega
   ·skip
    refine cw_seq ?_; refine cw_region ?_; refine wl_val rfl (ex_eql rfl rfl) ?_; refine wl_a ?_; refine wl_nil (nrm_then ?_); refine cw_if rfl (fun hc20 => ?_) (fun hc20 => ?_)
    ·skip
     exfalso; omega
    ·skip
     refine cw_region ?_; refine wl_val rfl (ex_eql rfl rfl) ?_; refine wl_a ?_; refine wl_nil (nrm_then ?_); refine cw_if rfl (fun hc20 => ?_) (fun hc20 => ?_)
     ·skip
      exfalso; omega
     ·skip
      refine cw_seq ?_; refine cw_seq ?_; refine cw_region ?_; refine wl_val rfl (ex_eql rfl rfl) ?_; refine wl_a ?_; refine wl_nil (nrm_then ?_); refine cw_if rfl (fun hc26 => ?_) (fun hc26 => ?_)
      ·skip
       refine cw_skip (nrm_then ?_); refine cw_if rfl (fun hc26 => ?_) (fun hc26 => ?_)
       ·skip
        refine cw_skip (nrm_block (nrm_then ?_)); refine cw_seq ?_; refine cw_region ?_; refine wl_m ?_; refine wl_a ?_; refine wl_a ?_; refine wl_nil (nrm_then ?_); refine cw_ret (body_ret2 rfl rfl rfl ?_)
        obtain rfl : c = 100 := by omega
        exact ⟨.inr ⟨_, _, rfl, rfl, _, _, _, [(48, 57)], rfl, hO1, hG11, vr_lit (by kernel_rfl), fun c => Iff.rfl, by decide⟩, hE12⟩
       ·skip
        exfalso; omega
      ·skip
       exfalso; omega
  ·skip
   refine cw_seq ?_; refine cw_region ?_; refine wl_val rfl (ex_eql rfl rfl) ?_; refine wl_a ?_; refine wl_nil (nrm_then ?_); refine cw_if rfl (fun hc11 => ?_) (fun hc11 => ?_)
   ·skip
    have hcs := hor.1.2.1 (by omega); refine cw_region ?_; refine wl_bslice (vs := [_, _, _, _, _, _]) rfl Try.slice77 rfl rfl rfl rfl fun b18 w19 hO20 hs21 hw22 => ?_; have hG23 := Ge.new (Evo.refl [] w) hs21; have hE24 := (Evo.refl [] w).then hw22; refine wl_call1 (vs := [_]) Try.goes28 rfl (span_ok (es := [9, 10, 12, 13, 32, 32]) hO20 (by decide)) rfl ?_; rintro _ w25 ⟨a1, c1, ob1, rfl, hO1, hg1, hw26⟩; have hA27 := Apart.fresh (Lt.own hO20) hg1; have hG28 := Ge.fresh hE24 hg1; have hE29 := hE24.then hw26; have hO30 := hO20.evo0 hw26; refine wl_a ?_; refine wl_nil (nrm_block (nrm_then ?_)); refine cw_seq ?_; refine cw_seq ?_; refine cw_region ?_; refine wl_m ?_; refine wl_nil (nrm_then ?_); refine cw_block ?_; refine cw_seq ?_; refine cw_seq ?_; refine cw_region ?_; refine wl_val rfl (ex_eql rfl rfl) ?_; refine wl_a ?_; refine wl_nil (nrm_then ?_); refine cw_if rfl (fun hc20 => ?_) (fun hc20 => ?_)
    ·skip
     exfalso; omega
    ·skip
     refine cw_seq ?_; refine cw_region ?_; refine wl_val rfl (ex_eql rfl rfl) ?_; refine wl_a ?_; refine wl_nil (nrm_then ?_); refine cw_if rfl (fun hc20 => ?_) (fun hc20 => ?_)
     ·skip
      refine cw_skip (nrm_then ?_); refine cw_if rfl (fun hc20 => ?_) (fun hc20 => ?_)
      ·skip
       refine cw_region ?_; refine wl_m ?_; refine wl_call1 (vs := [_]) Try.goes36 rfl (negated_ok (l := [(9, 10), (12, 13), (32, 32)]) hO1 (vr_lit (by kernel_rfl)) (by decide) (fun c => Iff.rfl)) rfl ?_; rintro rv w31 hR; have hV9 := hE29; have hw32 := hR.evo; have hE33 := hE29.then hw32; have hO34 := hO1.evo0 hw32; refine wl_a ?_; refine wl_nil (nrm_block (nrm_then ?_)); refine cw_seq ?_; refine cw_region ?_; refine wl_m ?_; refine wl_a ?_; refine wl_a ?_; refine wl_nil (nrm_then ?_); refine cw_ret (body_ret2 rfl rfl rfl ?_)
       obtain rfl : c = 83 := by omega
       exact ⟨.inr ⟨_, _, rfl, rfl, setOut_le (hR.set hV9) (by decide)⟩, hE33⟩
      ·skip
       exfalso; omega
     ·skip
      refine cw_region ?_; refine wl_val rfl (ex_eql rfl rfl) ?_; refine wl_a ?_; refine wl_nil (nrm_then ?_); refine cw_if rfl (fun hc20 => ?_) (fun hc20 => ?_)
      ·skip
       exfalso; omega
      ·skip
       refine cw_seq ?_; refine cw_seq ?_; refine cw_region ?_; refine wl_val rfl (ex_eql rfl rfl) ?_; refine wl_a ?_; refine wl_nil (nrm_then ?_); refine cw_if rfl (fun hc26 => ?_) (fun hc26 => ?_)
       ·skip
        exfalso; omega
       ·skip
        refine cw_seq ?_; refine cw_region ?_; refine wl_val rfl (ex_eql rfl rfl) ?_; refine wl_a ?_; refine wl_nil (nrm_then ?_); refine cw_if rfl (fun hc26 => ?_) (fun hc26 => ?_)
        ·skip
         refine cw_skip (nrm_then ?_); refine cw_if rfl (fun hc26 => ?_) (fun hc26 => ?_)
         ·skip
          refine cw_skip (nrm_block (nrm_then ?_)); refine cw_seq ?_; refine cw_region ?_; refine wl_m ?_; refine wl_a ?_; refine wl_a ?_; refine wl_nil (nrm_then ?_); refine cw_ret (body_ret2 rfl rfl rfl ?_)
          obtain rfl : c = 115 := by omega
          exact ⟨.inr ⟨_, _, rfl, rfl, _, _, _, [(9, 10), (12, 13), (32, 32)], rfl, hO1, hG28, vr_lit (by kernel_rfl), fun c => Iff.rfl, by decide⟩, hE29⟩
         ·skip
          exfalso; omega
        ·skip
         exfalso; omega
   ·skip
    refine cw_seq ?_; refine cw_region ?_; refine wl_val rfl (ex_eql rfl rfl) ?_; refine wl_a ?_; refine wl_nil (nrm_then ?_); refine cw_if rfl (fun hc15 => ?_) (fun hc15 => ?_)
    ·skip
     have hcs := hor.1.2.2 (by omega); refine cw_region ?_; refine wl_bslice (vs := [_, _, _, _, _, _, _, _]) rfl Try.slice77 rfl rfl rfl rfl fun b35 w36 hO37 hs38 hw39 => ?_; have hG40 := Ge.new (Evo.refl [] w) hs38; have hE41 := (Evo.refl [] w).then hw39; refine wl_call1 (vs := [_]) Try.goes28 rfl (span_ok (es := [48, 57, 65, 90, 95, 95, 97, 122]) hO37 (by decide)) rfl ?_; rintro _ w42 ⟨a1, c1, ob1, rfl, hO1, hg1, hw43⟩; have hA44 := Apart.fresh (Lt.own hO37) hg1; have hG45 := Ge.fresh hE41 hg1; have hE46 := hE41.then hw43; have hO47 := hO37.evo0 hw43; refine wl_a ?_; refine wl_nil (nrm_block (nrm_then ?_)); refine cw_seq ?_; refine cw_seq ?_; refine cw_region ?_; refine wl_m ?_; refine wl_nil (nrm_then ?_); refine cw_block ?_; refine cw_seq ?_; refine cw_seq ?_; refine cw_region ?_; refine wl_val rfl (ex_eql rfl rfl) ?_; refine wl_a ?_; refine wl_nil (nrm_then ?_); refine cw_if rfl (fun hc20 => ?_) (fun hc20 => ?_)
     ·skip
      exfalso; omega
     ·skip
      refine cw_seq ?_; refine cw_region ?_; refine wl_val rfl (ex_eql rfl rfl) ?_; refine wl_a ?_; refine wl_nil (nrm_then ?_); refine cw_if rfl (fun hc20 => ?_) (fun hc20 => ?_)
      ·skip
       exfalso; omega
      ·skip
       refine cw_region ?_; refine wl_val rfl (ex_eql rfl rfl) ?_; refine wl_a ?_; refine wl_nil (nrm_then ?_); refine cw_if rfl (fun hc20 => ?_) (fun hc20 => ?_)
       ·skip
        refine cw_region ?_; refine wl_m ?_; refine wl_call1 (vs := [_]) Try.goes36 rfl (negated_ok (l := [(48, 57), (65, 90), (95, 95), (97, 122)]) hO1 (vr_lit (by kernel_rfl)) (by decide) (fun c => Iff.rfl)) rfl ?_; rintro rv w48 hR; have hV9 := hE46; have hw49 := hR.evo; have hE50 := hE46.then hw49; have hO51 := hO1.evo0 hw49; refine wl_a ?_; refine wl_nil (nrm_block (nrm_then ?_)); refine cw_seq ?_; refine cw_region ?_; refine wl_m ?_; refine wl_a ?_; refine wl_a ?_; refine wl_nil (nrm_then ?_); refine cw_ret (body_ret2 rfl rfl rfl ?_)
        obtain rfl : c = 87 := by omega
        exact ⟨.inr ⟨_, _, rfl, rfl, setOut_le (hR.set hV9) (by decide)⟩, hE50⟩
       ·skip
        refine cw_seq ?_; refine cw_seq ?_; refine cw_region ?_; refine wl_val rfl (ex_eql rfl rfl) ?_; refine wl_a ?_; refine wl_nil (nrm_then ?_); refine cw_if rfl (fun hc26 => ?_) (fun hc26 => ?_)
        ·skip
         exfalso; omega
        ·skip
         refine cw_seq ?_; refine cw_region ?_; refine wl_val rfl (ex_eql rfl rfl) ?_; refine wl_a ?_; refine wl_nil (nrm_then ?_); refine cw_if rfl (fun hc26 => ?_) (fun hc26 => ?_)
         ·skip
          exfalso; omega
         ·skip
          refine cw_region ?_; refine wl_val rfl (ex_eql rfl rfl) ?_; refine wl_a ?_; refine wl_nil (nrm_then ?_); refine cw_if rfl (fun hc26 => ?_) (fun hc26 => ?_)
          ·skip
           refine cw_skip (nrm_block (nrm_then ?_)); refine cw_seq ?_; refine cw_region ?_; refine wl_m ?_; refine wl_a ?_; refine wl_a ?_; refine wl_nil (nrm_then ?_); refine cw_ret (body_ret2 rfl rfl rfl ?_)
           obtain rfl : c = 119 := by omega
           exact ⟨.inr ⟨_, _, rfl, rfl, _, _, _, [(48, 57), (65, 90), (95, 95), (97, 122)], rfl, hO1, hG45, vr_lit (by kernel_rfl), fun c => Iff.rfl, by decide⟩, hE46⟩
          ·skip
           exfalso; omega
    ·skip
     refine cw_seq ?_; refine cw_region ?_; refine wl_a ?_; refine wl_a ?_; refine wl_nil (nrm_then ?_); refine cw_ret (ret_block (ret_then (body_ret2 rfl rfl rfl ?_)))
     exact ⟨.inl ⟨letS_none (by have := hor.2; omega), rfl⟩, (Evo.refl [] w)⟩
end Go.Proofs.Ytljadkcojnlioaa
namespace Go.Proofs.Ytljadkcojnlioaa
open Go.Proofs
open Go.W Go.RowKit
attribute [local irreducible] Decidable.decide
set_option linter.unusedSimpArgs false
set_option linter.unusedVariables false
theorem Try.fld38_0 : fieldB Try.prog 38 0 = some 0 := by kernel_rfl
theorem Try.fld41_2 : fieldB Try.prog 41 2 = some 2 := by kernel_rfl
theorem Try.goes27 : Goes Try.prog 27 := ⟨_, Try.func27, by kernel_rfl, by kernel_rfl⟩
theorem Try.goes35 : Goes Try.prog 35 := ⟨_, Try.func35, by kernel_rfl, by kernel_rfl⟩
theorem nam0 {n : ByteArray} (h : n = asc [97, 108, 110, 117, 109]) : namS n = some (rs [(48, 57), (65, 90), (97, 122)]) := by unfold namS; rw [if_pos h]
theorem nam1 {n : ByteArray} (h0 : ¬ n = asc [97, 108, 110, 117, 109]) (h : n = asc [97, 108, 112, 104, 97]) : namS n = some (rs [(65, 90), (97, 122)]) := by unfold namS; rw [if_neg h0, if_pos h]
theorem nam2 {n : ByteArray} (h0 : ¬ n = asc [97, 108, 110, 117, 109]) (h1 : ¬ n = asc [97, 108, 112, 104, 97]) (h : n = asc [97, 115, 99, 105, 105]) : namS n = some (rs [(0, 127)]) := by unfold namS; rw [if_neg h0, if_neg h1, if_pos h]
theorem nam3 {n : ByteArray} (h0 : ¬ n = asc [97, 108, 110, 117, 109]) (h1 : ¬ n = asc [97, 108, 112, 104, 97]) (h2 : ¬ n = asc [97, 115, 99, 105, 105]) (h : n = asc [98, 108, 97, 110, 107]) : namS n = some (rs [(9, 9), (32, 32)]) := by unfold namS; rw [if_neg h0, if_neg h1, if_neg h2, if_pos h]
theorem nam4 {n : ByteArray} (h0 : ¬ n = asc [97, 108, 110, 117, 109]) (h1 : ¬ n = asc [97, 108, 112, 104, 97]) (h2 : ¬ n = asc [97, 115, 99, 105, 105]) (h3 : ¬ n = asc [98, 108, 97, 110, 107]) (h : n = asc [99, 110, 116, 114, 108]) : namS n = some (rs [(0, 31), (127, 127)]) := by unfold namS; rw [if_neg h0, if_neg h1, if_neg h2, if_neg h3, if_pos h]
theorem nam5 {n : ByteArray} (h0 : ¬ n = asc [97, 108, 110, 117, 109]) (h1 : ¬ n = asc [97, 108, 112, 104, 97]) (h2 : ¬ n = asc [97, 115, 99, 105, 105]) (h3 : ¬ n = asc [98, 108, 97, 110, 107]) (h4 : ¬ n = asc [99, 110, 116, 114, 108]) (h : n = asc [100, 105, 103, 105, 116]) : namS n = some (rs [(48, 57)]) := by unfold namS; rw [if_neg h0, if_neg h1, if_neg h2, if_neg h3, if_neg h4, if_pos h]
theorem nam6 {n : ByteArray} (h0 : ¬ n = asc [97, 108, 110, 117, 109]) (h1 : ¬ n = asc [97, 108, 112, 104, 97]) (h2 : ¬ n = asc [97, 115, 99, 105, 105]) (h3 : ¬ n = asc [98, 108, 97, 110, 107]) (h4 : ¬ n = asc [99, 110, 116, 114, 108]) (h5 : ¬ n = asc [100, 105, 103, 105, 116]) (h : n = asc [103, 114, 97, 112, 104]) : namS n = some (rs [(33, 126)]) := by unfold namS; rw [if_neg h0, if_neg h1, if_neg h2, if_neg h3, if_neg h4, if_neg h5, if_pos h]
theorem nam7 {n : ByteArray} (h0 : ¬ n = asc [97, 108, 110, 117, 109]) (h1 : ¬ n = asc [97, 108, 112, 104, 97]) (h2 : ¬ n = asc [97, 115, 99, 105, 105]) (h3 : ¬ n = asc [98, 108, 97, 110, 107]) (h4 : ¬ n = asc [99, 110, 116, 114, 108]) (h5 : ¬ n = asc [100, 105, 103, 105, 116]) (h6 : ¬ n = asc [103, 114, 97, 112, 104]) (h : n = asc [108, 111, 119, 101, 114]) : namS n = some (rs [(97, 122)]) := by unfold namS; rw [if_neg h0, if_neg h1, if_neg h2, if_neg h3, if_neg h4, if_neg h5, if_neg h6, if_pos h]
theorem nam8 {n : ByteArray} (h0 : ¬ n = asc [97, 108, 110, 117, 109]) (h1 : ¬ n = asc [97, 108, 112, 104, 97]) (h2 : ¬ n = asc [97, 115, 99, 105, 105]) (h3 : ¬ n = asc [98, 108, 97, 110, 107]) (h4 : ¬ n = asc [99, 110, 116, 114, 108]) (h5 : ¬ n = asc [100, 105, 103, 105, 116]) (h6 : ¬ n = asc [103, 114, 97, 112, 104]) (h7 : ¬ n = asc [108, 111, 119, 101, 114]) (h : n = asc [112, 114, 105, 110, 116]) : namS n = some (rs [(32, 126)]) := by unfold namS; rw [if_neg h0, if_neg h1, if_neg h2, if_neg h3, if_neg h4, if_neg h5, if_neg h6, if_neg h7, if_pos h]
theorem nam9 {n : ByteArray} (h0 : ¬ n = asc [97, 108, 110, 117, 109]) (h1 : ¬ n = asc [97, 108, 112, 104, 97]) (h2 : ¬ n = asc [97, 115, 99, 105, 105]) (h3 : ¬ n = asc [98, 108, 97, 110, 107]) (h4 : ¬ n = asc [99, 110, 116, 114, 108]) (h5 : ¬ n = asc [100, 105, 103, 105, 116]) (h6 : ¬ n = asc [103, 114, 97, 112, 104]) (h7 : ¬ n = asc [108, 111, 119, 101, 114]) (h8 : ¬ n = asc [112, 114, 105, 110, 116]) (h : n = asc [112, 117, 110, 99, 116]) : namS n = some (rs [(33, 47), (58, 64), (91, 96), (123, 126)]) := by unfold namS; rw [if_neg h0, if_neg h1, if_neg h2, if_neg h3, if_neg h4, if_neg h5, if_neg h6, if_neg h7, if_neg h8, if_pos h]
theorem nam10 {n : ByteArray} (h0 : ¬ n = asc [97, 108, 110, 117, 109]) (h1 : ¬ n = asc [97, 108, 112, 104, 97]) (h2 : ¬ n = asc [97, 115, 99, 105, 105]) (h3 : ¬ n = asc [98, 108, 97, 110, 107]) (h4 : ¬ n = asc [99, 110, 116, 114, 108]) (h5 : ¬ n = asc [100, 105, 103, 105, 116]) (h6 : ¬ n = asc [103, 114, 97, 112, 104]) (h7 : ¬ n = asc [108, 111, 119, 101, 114]) (h8 : ¬ n = asc [112, 114, 105, 110, 116]) (h9 : ¬ n = asc [112, 117, 110, 99, 116]) (h : n = asc [115, 112, 97, 99, 101]) : namS n = some (rs [(9, 13), (32, 32)]) := by unfold namS; rw [if_neg h0, if_neg h1, if_neg h2, if_neg h3, if_neg h4, if_neg h5, if_neg h6, if_neg h7, if_neg h8, if_neg h9, if_pos h]
theorem nam11 {n : ByteArray} (h0 : ¬ n = asc [97, 108, 110, 117, 109]) (h1 : ¬ n = asc [97, 108, 112, 104, 97]) (h2 : ¬ n = asc [97, 115, 99, 105, 105]) (h3 : ¬ n = asc [98, 108, 97, 110, 107]) (h4 : ¬ n = asc [99, 110, 116, 114, 108]) (h5 : ¬ n = asc [100, 105, 103, 105, 116]) (h6 : ¬ n = asc [103, 114, 97, 112, 104]) (h7 : ¬ n = asc [108, 111, 119, 101, 114]) (h8 : ¬ n = asc [112, 114, 105, 110, 116]) (h9 : ¬ n = asc [112, 117, 110, 99, 116]) (h10 : ¬ n = asc [115, 112, 97, 99, 101]) (h : n = asc [117, 112, 112, 101, 114]) : namS n = some (rs [(65, 90)]) := by unfold namS; rw [if_neg h0, if_neg h1, if_neg h2, if_neg h3, if_neg h4, if_neg h5, if_neg h6, if_neg h7, if_neg h8, if_neg h9, if_neg h10, if_pos h]
theorem nam12 {n : ByteArray} (h0 : ¬ n = asc [97, 108, 110, 117, 109]) (h1 : ¬ n = asc [97, 108, 112, 104, 97]) (h2 : ¬ n = asc [97, 115, 99, 105, 105]) (h3 : ¬ n = asc [98, 108, 97, 110, 107]) (h4 : ¬ n = asc [99, 110, 116, 114, 108]) (h5 : ¬ n = asc [100, 105, 103, 105, 116]) (h6 : ¬ n = asc [103, 114, 97, 112, 104]) (h7 : ¬ n = asc [108, 111, 119, 101, 114]) (h8 : ¬ n = asc [112, 114, 105, 110, 116]) (h9 : ¬ n = asc [112, 117, 110, 99, 116]) (h10 : ¬ n = asc [115, 112, 97, 99, 101]) (h11 : ¬ n = asc [117, 112, 112, 101, 114]) (h : n = asc [119, 111, 114, 100]) : namS n = some (rs [(48, 57), (65, 90), (95, 95), (97, 122)]) := by unfold namS; rw [if_neg h0, if_neg h1, if_neg h2, if_neg h3, if_neg h4, if_neg h5, if_neg h6, if_neg h7, if_neg h8, if_neg h9, if_neg h10, if_neg h11, if_pos h]
theorem nam13 {n : ByteArray} (h0 : ¬ n = asc [97, 108, 110, 117, 109]) (h1 : ¬ n = asc [97, 108, 112, 104, 97]) (h2 : ¬ n = asc [97, 115, 99, 105, 105]) (h3 : ¬ n = asc [98, 108, 97, 110, 107]) (h4 : ¬ n = asc [99, 110, 116, 114, 108]) (h5 : ¬ n = asc [100, 105, 103, 105, 116]) (h6 : ¬ n = asc [103, 114, 97, 112, 104]) (h7 : ¬ n = asc [108, 111, 119, 101, 114]) (h8 : ¬ n = asc [112, 114, 105, 110, 116]) (h9 : ¬ n = asc [112, 117, 110, 99, 116]) (h10 : ¬ n = asc [115, 112, 97, 99, 101]) (h11 : ¬ n = asc [117, 112, 112, 101, 114]) (h12 : ¬ n = asc [119, 111, 114, 100]) (h : n = asc [120, 100, 105, 103, 105, 116]) : namS n = some (rs [(48, 57), (65, 70), (97, 102)]) := by unfold namS; rw [if_neg h0, if_neg h1, if_neg h2, if_neg h3, if_neg h4, if_neg h5, if_neg h6, if_neg h7, if_neg h8, if_neg h9, if_neg h10, if_neg h11, if_neg h12, if_pos h]
theorem namN {n : ByteArray} (h0 : ¬ n = asc [97, 108, 110, 117, 109]) (h1 : ¬ n = asc [97, 108, 112, 104, 97]) (h2 : ¬ n = asc [97, 115, 99, 105, 105]) (h3 : ¬ n = asc [98, 108, 97, 110, 107]) (h4 : ¬ n = asc [99, 110, 116, 114, 108]) (h5 : ¬ n = asc [100, 105, 103, 105, 116]) (h6 : ¬ n = asc [103, 114, 97, 112, 104]) (h7 : ¬ n = asc [108, 111, 119, 101, 114]) (h8 : ¬ n = asc [112, 114, 105, 110, 116]) (h9 : ¬ n = asc [112, 117, 110, 99, 116]) (h10 : ¬ n = asc [115, 112, 97, 99, 101]) (h11 : ¬ n = asc [117, 112, 112, 101, 114]) (h12 : ¬ n = asc [119, 111, 114, 100]) (h13 : ¬ n = asc [120, 100, 105, 103, 105, 116])  : namS n = none := by unfold namS; rw [if_neg h0, if_neg h1, if_neg h2, if_neg h3, if_neg h4, if_neg h5, if_neg h6, if_neg h7, if_neg h8, if_neg h9, if_neg h10, if_neg h11, if_neg h12, if_neg h13]
theorem named_ok {w : World} (n : ByteArray) :
    Calls Try.prog 46 #[.string n] w (Ret fun v w' => LetOut w w' v (namS n) ∧ Evo [] w w') := by
  refine calls_of_cw (N := 61) Try.func46 rfl rfl rfl ?_; refine cw_seq ?_; refine cw_region ?_; refine wl_a ?_; refine wl_a ?_; refine wl_nil (nrm_then ?_); refine cw_seq ?_; refine cw_seq ?_; refine cw_region ?_; refine wl_m ?_; refine wl_nil (nrm_then ?_); refine cw_block ?_; refine cw_seq ?_; refine cw_region ?_; refine wl_val rfl (ex_eqs rfl rfl) ?_; refine wl_a ?_; refine wl_nil (nrm_then ?_); refine cw_if rfl (fun hc5 => ?_) (fun hc5 => ?_)
  ·skip
   refine cw_seq ?_; refine cw_region ?_; refine wl_bslice (vs := [_, _, _, _, _, _]) rfl Try.slice77 rfl rfl rfl rfl fun b1 w2 hO3 hs4 hw5 => ?_; have hG6 := Ge.new (Evo.refl [] w) hs4; have hE7 := (Evo.refl [] w).then hw5; refine wl_call1 (vs := [_]) Try.goes28 rfl (span_ok (es := [48, 57, 65, 90, 97, 122]) hO3 (by decide)) rfl ?_; rintro _ w8 ⟨a1, c1, ob1, rfl, hO1, hg1, hw9⟩; have hA10 := Apart.fresh (Lt.own hO3) hg1; have hG11 := Ge.fresh hE7 hg1; have hE12 := hE7.then hw9; have hO13 := hO3.evo0 hw9; refine wl_a ?_; refine wl_a ?_; refine wl_nil (nrm_then ?_); refine cw_ret (ret_block (ret_then (body_ret2 rfl rfl rfl ?_))); exact ⟨.inr ⟨_, _, nam0  hc5, rfl, _, _, _, [(48, 57), (65, 90), (97, 122)], rfl, hO1, hG11, vr_lit (by kernel_rfl), fun c => Iff.rfl, by decide⟩, hE12⟩
  ·skip
   refine cw_seq ?_; refine cw_region ?_; refine wl_val rfl (ex_eqs rfl rfl) ?_; refine wl_a ?_; refine wl_nil (nrm_then ?_); refine cw_if rfl (fun hc9 => ?_) (fun hc9 => ?_)
   ·skip
    refine cw_seq ?_; refine cw_region ?_; refine wl_bslice (vs := [_, _, _, _]) rfl Try.slice77 rfl rfl rfl rfl fun b14 w15 hO16 hs17 hw18 => ?_; have hG19 := Ge.new (Evo.refl [] w) hs17; have hE20 := (Evo.refl [] w).then hw18; refine wl_call1 (vs := [_]) Try.goes28 rfl (span_ok (es := [65, 90, 97, 122]) hO16 (by decide)) rfl ?_; rintro _ w21 ⟨a1, c1, ob1, rfl, hO1, hg1, hw22⟩; have hA23 := Apart.fresh (Lt.own hO16) hg1; have hG24 := Ge.fresh hE20 hg1; have hE25 := hE20.then hw22; have hO26 := hO16.evo0 hw22; refine wl_a ?_; refine wl_a ?_; refine wl_nil (nrm_then ?_); refine cw_ret (ret_block (ret_then (body_ret2 rfl rfl rfl ?_))); exact ⟨.inr ⟨_, _, nam1 hc5 hc9, rfl, _, _, _, [(65, 90), (97, 122)], rfl, hO1, hG24, vr_lit (by kernel_rfl), fun c => Iff.rfl, by decide⟩, hE25⟩
   ·skip
    refine cw_seq ?_; refine cw_region ?_; refine wl_val rfl (ex_eqs rfl rfl) ?_; refine wl_a ?_; refine wl_nil (nrm_then ?_); refine cw_if rfl (fun hc13 => ?_) (fun hc13 => ?_)
    ·skip
     refine cw_seq ?_; refine cw_region ?_; refine wl_bslice (vs := [_, _]) rfl Try.slice77 rfl rfl rfl rfl fun b27 w28 hO29 hs30 hw31 => ?_; have hG32 := Ge.new (Evo.refl [] w) hs30; have hE33 := (Evo.refl [] w).then hw31; refine wl_call1 (vs := [_]) Try.goes28 rfl (span_ok (es := [0, 127]) hO29 (by decide)) rfl ?_; rintro _ w34 ⟨a1, c1, ob1, rfl, hO1, hg1, hw35⟩; have hA36 := Apart.fresh (Lt.own hO29) hg1; have hG37 := Ge.fresh hE33 hg1; have hE38 := hE33.then hw35; have hO39 := hO29.evo0 hw35; refine wl_a ?_; refine wl_a ?_; refine wl_nil (nrm_then ?_); refine cw_ret (ret_block (ret_then (body_ret2 rfl rfl rfl ?_))); exact ⟨.inr ⟨_, _, nam2 hc5 hc9 hc13, rfl, _, _, _, [(0, 127)], rfl, hO1, hG37, vr_lit (by kernel_rfl), fun c => Iff.rfl, by decide⟩, hE38⟩
    ·skip
     refine cw_seq ?_; refine cw_region ?_; refine wl_val rfl (ex_eqs rfl rfl) ?_; refine wl_a ?_; refine wl_nil (nrm_then ?_); refine cw_if rfl (fun hc17 => ?_) (fun hc17 => ?_)
     ·skip
      refine cw_seq ?_; refine cw_region ?_; refine wl_bslice (vs := [_, _, _, _]) rfl Try.slice77 rfl rfl rfl rfl fun b40 w41 hO42 hs43 hw44 => ?_; have hG45 := Ge.new (Evo.refl [] w) hs43; have hE46 := (Evo.refl [] w).then hw44; refine wl_call1 (vs := [_]) Try.goes28 rfl (span_ok (es := [9, 9, 32, 32]) hO42 (by decide)) rfl ?_; rintro _ w47 ⟨a1, c1, ob1, rfl, hO1, hg1, hw48⟩; have hA49 := Apart.fresh (Lt.own hO42) hg1; have hG50 := Ge.fresh hE46 hg1; have hE51 := hE46.then hw48; have hO52 := hO42.evo0 hw48; refine wl_a ?_; refine wl_a ?_; refine wl_nil (nrm_then ?_); refine cw_ret (ret_block (ret_then (body_ret2 rfl rfl rfl ?_))); exact ⟨.inr ⟨_, _, nam3 hc5 hc9 hc13 hc17, rfl, _, _, _, [(9, 9), (32, 32)], rfl, hO1, hG50, vr_lit (by kernel_rfl), fun c => Iff.rfl, by decide⟩, hE51⟩
     ·skip
      refine cw_seq ?_; refine cw_region ?_; refine wl_val rfl (ex_eqs rfl rfl) ?_; refine wl_a ?_; refine wl_nil (nrm_then ?_); refine cw_if rfl (fun hc21 => ?_) (fun hc21 => ?_)
      ·skip
       refine cw_seq ?_; refine cw_region ?_; refine wl_bslice (vs := [_, _, _, _]) rfl Try.slice77 rfl rfl rfl rfl fun b53 w54 hO55 hs56 hw57 => ?_; have hG58 := Ge.new (Evo.refl [] w) hs56; have hE59 := (Evo.refl [] w).then hw57; refine wl_call1 (vs := [_]) Try.goes28 rfl (span_ok (es := [0, 31, 127, 127]) hO55 (by decide)) rfl ?_; rintro _ w60 ⟨a1, c1, ob1, rfl, hO1, hg1, hw61⟩; have hA62 := Apart.fresh (Lt.own hO55) hg1; have hG63 := Ge.fresh hE59 hg1; have hE64 := hE59.then hw61; have hO65 := hO55.evo0 hw61; refine wl_a ?_; refine wl_a ?_; refine wl_nil (nrm_then ?_); refine cw_ret (ret_block (ret_then (body_ret2 rfl rfl rfl ?_))); exact ⟨.inr ⟨_, _, nam4 hc5 hc9 hc13 hc17 hc21, rfl, _, _, _, [(0, 31), (127, 127)], rfl, hO1, hG63, vr_lit (by kernel_rfl), fun c => Iff.rfl, by decide⟩, hE64⟩
      ·skip
       refine cw_seq ?_; refine cw_region ?_; refine wl_val rfl (ex_eqs rfl rfl) ?_; refine wl_a ?_; refine wl_nil (nrm_then ?_); refine cw_if rfl (fun hc25 => ?_) (fun hc25 => ?_)
       ·skip
        refine cw_seq ?_; refine cw_region ?_; refine wl_bslice (vs := [_, _]) rfl Try.slice77 rfl rfl rfl rfl fun b66 w67 hO68 hs69 hw70 => ?_; have hG71 := Ge.new (Evo.refl [] w) hs69; have hE72 := (Evo.refl [] w).then hw70; refine wl_call1 (vs := [_]) Try.goes28 rfl (span_ok (es := [48, 57]) hO68 (by decide)) rfl ?_; rintro _ w73 ⟨a1, c1, ob1, rfl, hO1, hg1, hw74⟩; have hA75 := Apart.fresh (Lt.own hO68) hg1; have hG76 := Ge.fresh hE72 hg1; have hE77 := hE72.then hw74; have hO78 := hO68.evo0 hw74; refine wl_a ?_; refine wl_a ?_; refine wl_nil (nrm_then ?_); refine cw_ret (ret_block (ret_then (body_ret2 rfl rfl rfl ?_))); exact ⟨.inr ⟨_, _, nam5 hc5 hc9 hc13 hc17 hc21 hc25, rfl, _, _, _, [(48, 57)], rfl, hO1, hG76, vr_lit (by kernel_rfl), fun c => Iff.rfl, by decide⟩, hE77⟩
       ·skip
        refine cw_seq ?_; refine cw_region ?_; refine wl_val rfl (ex_eqs rfl rfl) ?_; refine wl_a ?_; refine wl_nil (nrm_then ?_); refine cw_if rfl (fun hc29 => ?_) (fun hc29 => ?_)
        ·skip
         refine cw_seq ?_; refine cw_region ?_; refine wl_bslice (vs := [_, _]) rfl Try.slice77 rfl rfl rfl rfl fun b79 w80 hO81 hs82 hw83 => ?_; have hG84 := Ge.new (Evo.refl [] w) hs82; have hE85 := (Evo.refl [] w).then hw83; refine wl_call1 (vs := [_]) Try.goes28 rfl (span_ok (es := [33, 126]) hO81 (by decide)) rfl ?_; rintro _ w86 ⟨a1, c1, ob1, rfl, hO1, hg1, hw87⟩; have hA88 := Apart.fresh (Lt.own hO81) hg1; have hG89 := Ge.fresh hE85 hg1; have hE90 := hE85.then hw87; have hO91 := hO81.evo0 hw87; refine wl_a ?_; refine wl_a ?_; refine wl_nil (nrm_then ?_); refine cw_ret (ret_block (ret_then (body_ret2 rfl rfl rfl ?_))); exact ⟨.inr ⟨_, _, nam6 hc5 hc9 hc13 hc17 hc21 hc25 hc29, rfl, _, _, _, [(33, 126)], rfl, hO1, hG89, vr_lit (by kernel_rfl), fun c => Iff.rfl, by decide⟩, hE90⟩
        ·skip
         refine cw_seq ?_; refine cw_region ?_; refine wl_val rfl (ex_eqs rfl rfl) ?_; refine wl_a ?_; refine wl_nil (nrm_then ?_); refine cw_if rfl (fun hc33 => ?_) (fun hc33 => ?_)
         ·skip
          refine cw_seq ?_; refine cw_region ?_; refine wl_bslice (vs := [_, _]) rfl Try.slice77 rfl rfl rfl rfl fun b92 w93 hO94 hs95 hw96 => ?_; have hG97 := Ge.new (Evo.refl [] w) hs95; have hE98 := (Evo.refl [] w).then hw96; refine wl_call1 (vs := [_]) Try.goes28 rfl (span_ok (es := [97, 122]) hO94 (by decide)) rfl ?_; rintro _ w99 ⟨a1, c1, ob1, rfl, hO1, hg1, hw100⟩; have hA101 := Apart.fresh (Lt.own hO94) hg1; have hG102 := Ge.fresh hE98 hg1; have hE103 := hE98.then hw100; have hO104 := hO94.evo0 hw100; refine wl_a ?_; refine wl_a ?_; refine wl_nil (nrm_then ?_); refine cw_ret (ret_block (ret_then (body_ret2 rfl rfl rfl ?_))); exact ⟨.inr ⟨_, _, nam7 hc5 hc9 hc13 hc17 hc21 hc25 hc29 hc33, rfl, _, _, _, [(97, 122)], rfl, hO1, hG102, vr_lit (by kernel_rfl), fun c => Iff.rfl, by decide⟩, hE103⟩
         ·skip
          refine cw_seq ?_; refine cw_region ?_; refine wl_val rfl (ex_eqs rfl rfl) ?_; refine wl_a ?_; refine wl_nil (nrm_then ?_); refine cw_if rfl (fun hc37 => ?_) (fun hc37 => ?_)
          ·skip
           refine cw_seq ?_; refine cw_region ?_; refine wl_bslice (vs := [_, _]) rfl Try.slice77 rfl rfl rfl rfl fun b105 w106 hO107 hs108 hw109 => ?_; have hG110 := Ge.new (Evo.refl [] w) hs108; have hE111 := (Evo.refl [] w).then hw109; refine wl_call1 (vs := [_]) Try.goes28 rfl (span_ok (es := [32, 126]) hO107 (by decide)) rfl ?_; rintro _ w112 ⟨a1, c1, ob1, rfl, hO1, hg1, hw113⟩; have hA114 := Apart.fresh (Lt.own hO107) hg1; have hG115 := Ge.fresh hE111 hg1; have hE116 := hE111.then hw113; have hO117 := hO107.evo0 hw113; refine wl_a ?_; refine wl_a ?_; refine wl_nil (nrm_then ?_); refine cw_ret (ret_block (ret_then (body_ret2 rfl rfl rfl ?_))); exact ⟨.inr ⟨_, _, nam8 hc5 hc9 hc13 hc17 hc21 hc25 hc29 hc33 hc37, rfl, _, _, _, [(32, 126)], rfl, hO1, hG115, vr_lit (by kernel_rfl), fun c => Iff.rfl, by decide⟩, hE116⟩
          ·skip
           refine cw_seq ?_; refine cw_region ?_; refine wl_val rfl (ex_eqs rfl rfl) ?_; refine wl_a ?_; refine wl_nil (nrm_then ?_); refine cw_if rfl (fun hc41 => ?_) (fun hc41 => ?_)
           ·skip
            refine cw_seq ?_; refine cw_region ?_; refine wl_bslice (vs := [_, _, _, _, _, _, _, _]) rfl Try.slice77 rfl rfl rfl rfl fun b118 w119 hO120 hs121 hw122 => ?_; have hG123 := Ge.new (Evo.refl [] w) hs121; have hE124 := (Evo.refl [] w).then hw122; refine wl_call1 (vs := [_]) Try.goes28 rfl (span_ok (es := [33, 47, 58, 64, 91, 96, 123, 126]) hO120 (by decide)) rfl ?_; rintro _ w125 ⟨a1, c1, ob1, rfl, hO1, hg1, hw126⟩; have hA127 := Apart.fresh (Lt.own hO120) hg1; have hG128 := Ge.fresh hE124 hg1; have hE129 := hE124.then hw126; have hO130 := hO120.evo0 hw126; refine wl_a ?_; refine wl_a ?_; refine wl_nil (nrm_then ?_); refine cw_ret (ret_block (ret_then (body_ret2 rfl rfl rfl ?_))); exact ⟨.inr ⟨_, _, nam9 hc5 hc9 hc13 hc17 hc21 hc25 hc29 hc33 hc37 hc41, rfl, _, _, _, [(33, 47), (58, 64), (91, 96), (123, 126)], rfl, hO1, hG128, vr_lit (by kernel_rfl), fun c => Iff.rfl, by decide⟩, hE129⟩
           ·skip
            refine cw_seq ?_; refine cw_region ?_; refine wl_val rfl (ex_eqs rfl rfl) ?_; refine wl_a ?_; refine wl_nil (nrm_then ?_); refine cw_if rfl (fun hc45 => ?_) (fun hc45 => ?_)
            ·skip
             refine cw_seq ?_; refine cw_region ?_; refine wl_bslice (vs := [_, _, _, _]) rfl Try.slice77 rfl rfl rfl rfl fun b131 w132 hO133 hs134 hw135 => ?_; have hG136 := Ge.new (Evo.refl [] w) hs134; have hE137 := (Evo.refl [] w).then hw135; refine wl_call1 (vs := [_]) Try.goes28 rfl (span_ok (es := [9, 13, 32, 32]) hO133 (by decide)) rfl ?_; rintro _ w138 ⟨a1, c1, ob1, rfl, hO1, hg1, hw139⟩; have hA140 := Apart.fresh (Lt.own hO133) hg1; have hG141 := Ge.fresh hE137 hg1; have hE142 := hE137.then hw139; have hO143 := hO133.evo0 hw139; refine wl_a ?_; refine wl_a ?_; refine wl_nil (nrm_then ?_); refine cw_ret (ret_block (ret_then (body_ret2 rfl rfl rfl ?_))); exact ⟨.inr ⟨_, _, nam10 hc5 hc9 hc13 hc17 hc21 hc25 hc29 hc33 hc37 hc41 hc45, rfl, _, _, _, [(9, 13), (32, 32)], rfl, hO1, hG141, vr_lit (by kernel_rfl), fun c => Iff.rfl, by decide⟩, hE142⟩
            ·skip
             refine cw_seq ?_; refine cw_region ?_; refine wl_val rfl (ex_eqs rfl rfl) ?_; refine wl_a ?_; refine wl_nil (nrm_then ?_); refine cw_if rfl (fun hc49 => ?_) (fun hc49 => ?_)
             ·skip
              refine cw_seq ?_; refine cw_region ?_; refine wl_bslice (vs := [_, _]) rfl Try.slice77 rfl rfl rfl rfl fun b144 w145 hO146 hs147 hw148 => ?_; have hG149 := Ge.new (Evo.refl [] w) hs147; have hE150 := (Evo.refl [] w).then hw148; refine wl_call1 (vs := [_]) Try.goes28 rfl (span_ok (es := [65, 90]) hO146 (by decide)) rfl ?_; rintro _ w151 ⟨a1, c1, ob1, rfl, hO1, hg1, hw152⟩; have hA153 := Apart.fresh (Lt.own hO146) hg1; have hG154 := Ge.fresh hE150 hg1; have hE155 := hE150.then hw152; have hO156 := hO146.evo0 hw152; refine wl_a ?_; refine wl_a ?_; refine wl_nil (nrm_then ?_); refine cw_ret (ret_block (ret_then (body_ret2 rfl rfl rfl ?_))); exact ⟨.inr ⟨_, _, nam11 hc5 hc9 hc13 hc17 hc21 hc25 hc29 hc33 hc37 hc41 hc45 hc49, rfl, _, _, _, [(65, 90)], rfl, hO1, hG154, vr_lit (by kernel_rfl), fun c => Iff.rfl, by decide⟩, hE155⟩
             ·skip
              refine cw_seq ?_; refine cw_region ?_; refine wl_val rfl (ex_eqs rfl rfl) ?_; refine wl_a ?_; refine wl_nil (nrm_then ?_); refine cw_if rfl (fun hc53 => ?_) (fun hc53 => ?_)
              ·skip
               refine cw_seq ?_; refine cw_region ?_; refine wl_bslice (vs := [_, _, _, _, _, _, _, _]) rfl Try.slice77 rfl rfl rfl rfl fun b157 w158 hO159 hs160 hw161 => ?_; have hG162 := Ge.new (Evo.refl [] w) hs160; have hE163 := (Evo.refl [] w).then hw161; refine wl_call1 (vs := [_]) Try.goes28 rfl (span_ok (es := [48, 57, 65, 90, 95, 95, 97, 122]) hO159 (by decide)) rfl ?_; rintro _ w164 ⟨a1, c1, ob1, rfl, hO1, hg1, hw165⟩; have hA166 := Apart.fresh (Lt.own hO159) hg1; have hG167 := Ge.fresh hE163 hg1; have hE168 := hE163.then hw165; have hO169 := hO159.evo0 hw165; refine wl_a ?_; refine wl_a ?_; refine wl_nil (nrm_then ?_); refine cw_ret (ret_block (ret_then (body_ret2 rfl rfl rfl ?_))); exact ⟨.inr ⟨_, _, nam12 hc5 hc9 hc13 hc17 hc21 hc25 hc29 hc33 hc37 hc41 hc45 hc49 hc53, rfl, _, _, _, [(48, 57), (65, 90), (95, 95), (97, 122)], rfl, hO1, hG167, vr_lit (by kernel_rfl), fun c => Iff.rfl, by decide⟩, hE168⟩
              ·skip
               refine cw_seq ?_; refine cw_region ?_; refine wl_val rfl (ex_eqs rfl rfl) ?_; refine wl_a ?_; refine wl_nil (nrm_then ?_); refine cw_if rfl (fun hc57 => ?_) (fun hc57 => ?_)
               ·skip
                refine cw_seq ?_; refine cw_region ?_; refine wl_bslice (vs := [_, _, _, _, _, _]) rfl Try.slice77 rfl rfl rfl rfl fun b170 w171 hO172 hs173 hw174 => ?_; have hG175 := Ge.new (Evo.refl [] w) hs173; have hE176 := (Evo.refl [] w).then hw174; refine wl_call1 (vs := [_]) Try.goes28 rfl (span_ok (es := [48, 57, 65, 70, 97, 102]) hO172 (by decide)) rfl ?_; rintro _ w177 ⟨a1, c1, ob1, rfl, hO1, hg1, hw178⟩; have hA179 := Apart.fresh (Lt.own hO172) hg1; have hG180 := Ge.fresh hE176 hg1; have hE181 := hE176.then hw178; have hO182 := hO172.evo0 hw178; refine wl_a ?_; refine wl_a ?_; refine wl_nil (nrm_then ?_); refine cw_ret (ret_block (ret_then (body_ret2 rfl rfl rfl ?_))); exact ⟨.inr ⟨_, _, nam13 hc5 hc9 hc13 hc17 hc21 hc25 hc29 hc33 hc37 hc41 hc45 hc49 hc53 hc57, rfl, _, _, _, [(48, 57), (65, 70), (97, 102)], rfl, hO1, hG180, vr_lit (by kernel_rfl), fun c => Iff.rfl, by decide⟩, hE181⟩
               ·skip
                refine cw_skip (nrm_block (nrm_then ?_)); refine cw_seq ?_; refine cw_region ?_; refine wl_a ?_; refine wl_a ?_; refine wl_nil (nrm_then ?_); refine cw_ret (body_ret2 rfl rfl rfl ?_); exact ⟨.inl ⟨namN hc5 hc9 hc13 hc17 hc21 hc25 hc29 hc33 hc37 hc41 hc45 hc49 hc53 hc57, rfl⟩, (Evo.refl [] w)⟩
theorem rs_one (c x : Int) : InR x [(c, c)] ↔ x = c := by rw [inR_one]; show c ≤ x ∧ x ≤ c ↔ _; omega
theorem lit_ok {w : World} {b : Nat} {s : ByteArray} {st : PS} {a : Option Addr} {c : Nat} {ob : Option Nat} (hR : RdAt w b s st a c ob) (r : Int) (h0 : 0 ≤ r) (h1 : r ≤ 1114111) :
    Calls Try.prog 30 #[.pointer (some ⟨b, 0, none⟩), .int .i32 r] w (Ret fun v w' => TOut w w' v (litP st.now r) ∧ Evo [] w w') := by
  have hap := hR.ap
  have hvr : Vr [(r, r)] := fun g hg => by rw [List.mem_singleton.1 hg]; exact ⟨h0, Int.le_refl _, h1⟩
  refine calls_of_cw (N := 19) Try.func30 rfl rfl rfl ?_; refine cw_seq ?_; refine cw_region ?_; refine wl_alloc rfl Try.zero25 fun b4 w1 hB2 hs3 hw4 => ?_; have hsz_b4 := hs3; have hA5 := Apart.new (Lt.blk hR.blk) hs3; have hA6 := Apart.new (Lt.own hR.own) hs3; have hG7 := Ge.new (Evo.refl [] w) hs3; have hE8 := (Evo.refl [] w).then hw4; have hB9 := hw4.blk0 hR.blk; have hO10 := hR.own.evo0 hw4; refine wl_nil (nrm_then ?_); refine cw_seq ?_; refine cw_region ?_; refine wl_m ?_; refine wl_m ?_; refine wl_bslice (vs := [_, _]) rfl Try.slice77 rfl rfl rfl rfl fun b11 w12 hO13 hs14 hw15 => ?_; have hA16 := Apart.new (Lt.blk hB9) hs14; have hA17 := Apart.new (Lt.own hO10) hs14; have hA18 := Apart.new (Lt.blk hB2) hs14; have hG19 := Ge.new hE8 hs14; have hE20 := hE8.then hw15; have hB21 := hw15.blk0 hB9; have hO22 := hO10.evo0 hw15; have hB23 := hw15.blk0 hB2; refine wl_call1 (vs := [_]) Try.goes28 rfl (span_ok (es := [r, r]) hO13 (by simp)) rfl ?_; rintro _ w24 ⟨a1, c1, ob1, rfl, hO1, hg1, hw25⟩; have hA26 := Apart.fresh (Lt.blk hB21) hg1; have hA27 := Apart.fresh (Lt.own hO22) hg1; have hA28 := Apart.fresh (Lt.blk hB23) hg1; have hA29 := Apart.fresh (Lt.own hO13) hg1; have hG30 := Ge.fresh hE20 hg1; have hE31 := hE20.then hw25; have hB32 := hw25.blk0 hB21; have hO33 := hO22.evo0 hw25; have hB34 := hw25.blk0 hB23; have hO35 := hO13.evo0 hw25; refine wl_a ?_; refine wl_nil (nrm_then ?_); refine cw_seq ?_; refine cw_seq ?_; refine cw_region ?_; refine wl_m ?_; refine wl_val rfl (ex_nilCheck rfl) ?_; refine wl_val rfl (ex_fieldAddr rfl Try.fld41_2) ?_; refine wl_val rfl (ex_fieldAddr rfl Try.fld38_0) ?_; refine wl_val rfl (ex_load1 rfl Try.agg4 (cell_nth hB32 rfl)) ?_; refine wl_nil (nrm_then ?_); refine cw_ifb rfl (fun hc14 => ?_) (fun hc14 => ?_)
  ·skip
   have hl9 : litP st.now r = nodeS (foldS fun x => x = r) := by unfold litP; rw [if_pos hc14]
   refine cw_region ?_; refine wl_m ?_; refine wl_call1 (vs := [_]) Try.goes35 rfl (folded_ok (l := [(r, r)]) hO1 hvr (by simp) (rs_one r)) rfl ?_; rintro rv w36 ⟨a2, c2, ob2, rfl, hO2, hg2, hl2, hcan2, heq2, hw37⟩; have hA38 := Apart.fresh (Lt.blk hB32) hg2; have hA39 := Apart.fresh (Lt.own hO33) hg2; have hA40 := Apart.fresh (Lt.blk hB34) hg2; have hA41 := Apart.fresh (Lt.own hO1) hg2; have hG42 := Ge.fresh hE31 hg2; have hE43 := hE31.then hw37; have hB44 := hw37.blk0 hB32; have hO45 := hO33.evo0 hw37; have hB46 := hw37.blk0 hB34; have hO47 := hO1.evo0 hw37; refine wl_a ?_; refine wl_nil (nrm_then ?_); refine cw_seq ?_; refine cw_region ?_; refine wl_m ?_
   refine wl_call1 (vs := [_]) Try.goes27 rfl (node_ok hO2 (can_vr hcan2) (by have : ([(r, r)] : List (Int × Int)).length = 1 := rfl; omega) heq2) rfl ?_
   rintro rv w48 ⟨hT, hw49⟩; have hV9 := hE43; have hb49 := blk_lt hB46; have hE50 := hE43.then hw49; have hB51 := hw49.blk0 hB44; have hO52 := hO45.evo0 hw49; have hB53 := hw49.blk0 hB46; have hO54 := hO47.evo0 hw49; have hO55 := hO2.evo0 hw49; obtain ⟨vs, bs, rfl, hOT, hFr⟩ := hT; obtain ⟨ra, rc, ka, kc, rfl⟩ := id hOT.nine; refine wl_storeBlk rfl rfl Try.size25 hB53 rfl rfl ⟨by first | rfl | assumption, by first | rfl | assumption, by first | rfl | assumption, by first | rfl | assumption, by first | rfl | assumption, by first | rfl | assumption, by first | rfl | assumption, by first | rfl | assumption, by first | rfl | assumption, trivial⟩ fun w56 hB57 hw58 => ?_; have hE59 := hE50.step hw58 hG7.mem1; have hE60 := (Evo.refl ([b4]) w48).step hw58 (fun y hy => .inl hy); have hB61 := hw58.blk hB51 hA5.nmem1; have hO62 := hO52.evo hw58 hA6.own1; have hO63 := hO54.evo hw58 hA28.symm.own1; have hO64 := hO55.evo hw58 hA40.symm.own1
   try simp only [List.setIfInBounds_toArray, List.set_cons_zero, List.set_cons_succ, Nat.reduceAdd, Nat.zero_add, Nat.add_zero] at hB57
   refine wl_nil (nrm_then ?_); refine cw_ret (body_retC1 rfl (ResOk.cellA rfl Try.agg25 Try.size25 hB57 rfl) ?_); refine ⟨?_, hE59⟩; rw [hl9]; refine ⟨_, bs, rfl, hOT.evo hE60 (fun b hb h => ?_), hFr.older hV9.size⟩
   have := hFr.ge b hb; rw [List.mem_singleton.1 h] at this; omega
  ·skip
   have hl9 : litP st.now r = nodeS (fun x => x = r) := by unfold litP; rw [if_neg (by simp [hc14])]
   refine cw_skip (nrm_then ?_); refine cw_seq ?_; refine cw_region ?_; refine wl_m ?_; refine wl_call1 (vs := [_]) Try.goes27 rfl (node_ok (l := [(r, r)]) hO1 hvr (by simp) (rs_one r)) rfl ?_; rintro rv w65 ⟨hT, hw66⟩; have hV9 := hE31; have hb49 := blk_lt hB34; have hE67 := hE31.then hw66; have hB68 := hw66.blk0 hB32; have hO69 := hO33.evo0 hw66; have hB70 := hw66.blk0 hB34; have hO71 := hO1.evo0 hw66; obtain ⟨vs, bs, rfl, hOT, hFr⟩ := hT; obtain ⟨ra, rc, ka, kc, rfl⟩ := id hOT.nine; refine wl_storeBlk rfl rfl Try.size25 hB70 rfl rfl ⟨by first | rfl | assumption, by first | rfl | assumption, by first | rfl | assumption, by first | rfl | assumption, by first | rfl | assumption, by first | rfl | assumption, by first | rfl | assumption, by first | rfl | assumption, by first | rfl | assumption, trivial⟩ fun w72 hB73 hw74 => ?_; have hE75 := hE67.step hw74 hG7.mem1; have hE76 := (Evo.refl ([b4]) w65).step hw74 (fun y hy => .inl hy); have hB77 := hw74.blk hB68 hA5.nmem1; have hO78 := hO69.evo hw74 hA6.own1; have hO79 := hO71.evo hw74 hA28.symm.own1
   try simp only [List.setIfInBounds_toArray, List.set_cons_zero, List.set_cons_succ, Nat.reduceAdd, Nat.zero_add, Nat.add_zero] at hB73
   refine wl_nil (nrm_then ?_); refine cw_ret (body_retC1 rfl (ResOk.cellA rfl Try.agg25 Try.size25 hB73 rfl) ?_); refine ⟨?_, hE75⟩; rw [hl9]; refine ⟨_, bs, rfl, hOT.evo hE76 (fun b hb h => ?_), hFr.older hV9.size⟩
   have := hFr.ge b hb; rw [List.mem_singleton.1 h] at this; omega
end Go.Proofs.Ytljadkcojnlioaa
namespace Go.Proofs.Ytljadkcojnlioaa
open Go.Proofs
open Go.W Go.RowKit
attribute [local irreducible] Decidable.decide
set_option linter.unusedSimpArgs false
set_option linter.unusedVariables false
theorem Try.agg39 : aggB Try.prog 39 = some false := by kernel_rfl
theorem Try.app39_39 : appB Try.prog 39 39 = some (9, 1, 16) := by kernel_rfl
theorem Try.elem39 : elemB Try.prog 39 = some 1 := by kernel_rfl
theorem Try.fld47_1 : fieldB Try.prog 47 1 = some 1 := by kernel_rfl
theorem Try.goes31 : Goes Try.prog 31 := ⟨_, Try.func31, by kernel_rfl, by kernel_rfl⟩
theorem Try.size39 : sizeB Try.prog 39 = some 1 := by kernel_rfl
theorem Try.slice39 : sliceB Try.prog 39 = some (9, 1) := by kernel_rfl
theorem own_strs {w : World} {e : TypeId} {a : Option Addr} {n c : Nat} {ys : List ByteArray} {ob : Option Nat} (h : OwnS w e 1 a n c (ys.map sv) ob) (h0 : 0 < n) : ∃ g, a = some ⟨g, 0, none⟩ ∧ ∀ k (hk : k < ys.length), w.cell? ⟨g, 0 + k * 1, none⟩ = some (sv ys[k]) := by
  obtain ⟨g, hg, ha, hc⟩ := h.cells h0
  refine ⟨g, ha, fun k hk => ?_⟩
  rw [Nat.mul_one]
  exact hc k _ (by simp [hk])
def RangesTo (l : List (Int × Int)) (n : Nat) : Prop := ∀ i (h : i < l.length), i < n → 0 ≤ l[i].1 ∧ l[i].1 ≤ l[i].2 ∧ l[i].2 ≤ 1114111 ∧ ∀ j (hj : j < l.length), i = j + 1 → l[j].2 + 1 < l[i].1
theorem RangesTo.succ {l : List (Int × Int)} {n : Nat} (h : RangesTo l n) (hn : n < l.length) (h1 : 0 ≤ l[n].1) (h2 : l[n].1 ≤ l[n].2) (h3 : l[n].2 ≤ 1114111) (h4 : ∀ j (hj : j < l.length), n = j + 1 → l[j].2 + 1 < l[n].1) : RangesTo l (n + 1) := fun i hi hin => by
  by_cases e : i = n
  · subst e; exact ⟨h1, h2, h3, h4⟩
  · exact h i hi (by omega)
theorem RangesTo.ok {l : List (Int × Int)} {n : Nat} (h : RangesTo l n) (hn : l.length ≤ n) (h1 : ∀ h : l.length = 1, l[0].1 ≠ l[0].2) : RangesOk l := ⟨fun i hi => h i hi (by omega), h1⟩
theorem word_ok {w : World} (c : Nat) : Calls Try.prog 31 #[.int .u8 (c : Nat)] w (Ret fun v w' => v = .bool (decide (wordN c)) ∧ Evo [] w w') := by
  refine calls_of_cw (N := 29) Try.func31 rfl rfl rfl ?_; refine cw_seq ?_; refine cw_region ?_; refine wl_a ?_; refine wl_nil (nrm_then ?_); refine cw_seq ?_; refine cw_region ?_; refine wl_m ?_; refine wl_val rfl (ex_geq rfl rfl) ?_; refine wl_m ?_; refine wl_split (t := 5) rfl (fun hs5 => ?_) (fun hs5 => ?_)
  ·skip
   refine wl_g ?_; refine wl_m ?_; refine wl_g ?_; refine wl_val rfl (ex_leq rfl rfl) ?_; refine wl_pt ?_; refine wl_m ?_; refine wl_split (t := 9) rfl (fun hs9 => ?_) (fun hs9 => ?_)
   ·skip
    refine wl_n ?_; refine wl_n ?_; refine wl_n ?_; refine wl_u ?_; refine wl_u ?_; refine wl_n ?_; refine wl_pt ?_; refine wl_m ?_; refine wl_n ?_; refine wl_n ?_; refine wl_n ?_; refine wl_u ?_; refine wl_u ?_; refine wl_n ?_; refine wl_pt ?_; refine wl_m ?_; refine wl_n ?_; refine wl_n ?_; refine wl_pt ?_; refine wl_a ?_; refine wl_nil (nrm_then ?_); refine cw_ret (body_ret1 rfl rfl ?_); refine ⟨congrArg Value.bool (Bool.eq_iff_iff.2 ?_), (Evo.refl [] w)⟩
    simp only [decide_eq_true_eq, Bool.false_eq_true, Bool.true_eq_false, true_iff, false_iff, eq_self, iff_true]; unfold wordN; omega
   ·skip
    refine wl_g ?_; refine wl_m ?_; refine wl_g ?_; refine wl_val rfl (ex_geq rfl rfl) ?_; refine wl_g ?_; refine wl_m ?_; refine wl_split (t := 12) rfl (fun hs12 => ?_) (fun hs12 => ?_)
    ·skip
     refine wl_g ?_; refine wl_m ?_; refine wl_g ?_; refine wl_val rfl (ex_leq rfl rfl) ?_; refine wl_g ?_; refine wl_pt ?_; refine wl_pf ?_; refine wl_m ?_; refine wl_split (t := 17) rfl (fun hs17 => ?_) (fun hs17 => ?_)
     ·skip
      refine wl_n ?_; refine wl_n ?_; refine wl_n ?_; refine wl_u ?_; refine wl_u ?_; refine wl_n ?_; refine wl_pt ?_; refine wl_m ?_; refine wl_n ?_; refine wl_n ?_; refine wl_pt ?_; refine wl_a ?_; refine wl_nil (nrm_then ?_); refine cw_ret (body_ret1 rfl rfl ?_); refine ⟨congrArg Value.bool (Bool.eq_iff_iff.2 ?_), (Evo.refl [] w)⟩
      simp only [decide_eq_true_eq, Bool.false_eq_true, Bool.true_eq_false, true_iff, false_iff, eq_self, iff_true]; unfold wordN; omega
     ·skip
      refine wl_g ?_; refine wl_m ?_; refine wl_g ?_; refine wl_val rfl (ex_geq rfl rfl) ?_; refine wl_g ?_; refine wl_m ?_; refine wl_split (t := 20) rfl (fun hs20 => ?_) (fun hs20 => ?_)
      ·skip
       refine wl_g ?_; refine wl_m ?_; refine wl_g ?_; refine wl_val rfl (ex_leq rfl rfl) ?_; refine wl_g ?_; refine wl_pt ?_; refine wl_pf ?_; refine wl_m ?_; refine wl_split (t := 25) rfl (fun hs25 => ?_) (fun hs25 => ?_)
       ·skip
        refine wl_n ?_; refine wl_n ?_; refine wl_pt ?_; refine wl_a ?_; refine wl_nil (nrm_then ?_); refine cw_ret (body_ret1 rfl rfl ?_); refine ⟨congrArg Value.bool (Bool.eq_iff_iff.2 ?_), (Evo.refl [] w)⟩
        simp only [decide_eq_true_eq, Bool.false_eq_true, Bool.true_eq_false, true_iff, false_iff, eq_self, iff_true]; unfold wordN; omega
       ·skip
        refine wl_g ?_; refine wl_m ?_; refine wl_g ?_; refine wl_val rfl (ex_eql rfl rfl) ?_; refine wl_pf ?_; refine wl_a ?_; refine wl_nil (nrm_then ?_); refine cw_ret (body_ret1 rfl rfl ?_); refine ⟨congrArg Value.bool (Bool.eq_iff_iff.2 ?_), (Evo.refl [] w)⟩
        simp only [decide_eq_true_eq, Bool.false_eq_true, Bool.true_eq_false, true_iff, false_iff, eq_self, iff_true]; unfold wordN; omega
      ·skip
       refine wl_n ?_; refine wl_n ?_; refine wl_g ?_; refine wl_pf ?_; refine wl_pf ?_; refine wl_m ?_; refine wl_g ?_; refine wl_m ?_; refine wl_g ?_; refine wl_val rfl (ex_eql rfl rfl) ?_; refine wl_pf ?_; refine wl_a ?_; refine wl_nil (nrm_then ?_); refine cw_ret (body_ret1 rfl rfl ?_); refine ⟨congrArg Value.bool (Bool.eq_iff_iff.2 ?_), (Evo.refl [] w)⟩
       simp only [decide_eq_true_eq, Bool.false_eq_true, Bool.true_eq_false, true_iff, false_iff, eq_self, iff_true]; unfold wordN; omega
    ·skip
     refine wl_n ?_; refine wl_n ?_; refine wl_g ?_; refine wl_pf ?_; refine wl_pf ?_; refine wl_m ?_; refine wl_g ?_; refine wl_m ?_; refine wl_g ?_; refine wl_val rfl (ex_geq rfl rfl) ?_; refine wl_g ?_; refine wl_m ?_; refine wl_split (t := 20) rfl (fun hs20 => ?_) (fun hs20 => ?_)
     ·skip
      refine wl_g ?_; refine wl_m ?_; refine wl_g ?_; refine wl_val rfl (ex_leq rfl rfl) ?_; refine wl_g ?_; refine wl_pt ?_; refine wl_pf ?_; refine wl_m ?_; refine wl_split (t := 25) rfl (fun hs25 => ?_) (fun hs25 => ?_)
      ·skip
       refine wl_n ?_; refine wl_n ?_; refine wl_pt ?_; refine wl_a ?_; refine wl_nil (nrm_then ?_); refine cw_ret (body_ret1 rfl rfl ?_); refine ⟨congrArg Value.bool (Bool.eq_iff_iff.2 ?_), (Evo.refl [] w)⟩
       simp only [decide_eq_true_eq, Bool.false_eq_true, Bool.true_eq_false, true_iff, false_iff, eq_self, iff_true]; unfold wordN; omega
      ·skip
       refine wl_g ?_; refine wl_m ?_; refine wl_g ?_; refine wl_val rfl (ex_eql rfl rfl) ?_; refine wl_pf ?_; refine wl_a ?_; refine wl_nil (nrm_then ?_); refine cw_ret (body_ret1 rfl rfl ?_); refine ⟨congrArg Value.bool (Bool.eq_iff_iff.2 ?_), (Evo.refl [] w)⟩
       simp only [decide_eq_true_eq, Bool.false_eq_true, Bool.true_eq_false, true_iff, false_iff, eq_self, iff_true]; unfold wordN; omega
     ·skip
      refine wl_n ?_; refine wl_n ?_; refine wl_g ?_; refine wl_pf ?_; refine wl_pf ?_; refine wl_m ?_; refine wl_g ?_; refine wl_m ?_; refine wl_g ?_; refine wl_val rfl (ex_eql rfl rfl) ?_; refine wl_pf ?_; refine wl_a ?_; refine wl_nil (nrm_then ?_); refine cw_ret (body_ret1 rfl rfl ?_); refine ⟨congrArg Value.bool (Bool.eq_iff_iff.2 ?_), (Evo.refl [] w)⟩
      simp only [decide_eq_true_eq, Bool.false_eq_true, Bool.true_eq_false, true_iff, false_iff, eq_self, iff_true]; unfold wordN; omega
  ·skip
   refine wl_n ?_; refine wl_n ?_; refine wl_pf ?_; refine wl_m ?_; refine wl_g ?_; refine wl_m ?_; refine wl_g ?_; refine wl_val rfl (ex_geq rfl rfl) ?_; refine wl_g ?_; refine wl_m ?_; refine wl_split (t := 12) rfl (fun hs12 => ?_) (fun hs12 => ?_)
   ·skip
    refine wl_g ?_; refine wl_m ?_; refine wl_g ?_; refine wl_val rfl (ex_leq rfl rfl) ?_; refine wl_g ?_; refine wl_pt ?_; refine wl_pf ?_; refine wl_m ?_; refine wl_split (t := 17) rfl (fun hs17 => ?_) (fun hs17 => ?_)
    ·skip
     refine wl_n ?_; refine wl_n ?_; refine wl_n ?_; refine wl_u ?_; refine wl_u ?_; refine wl_n ?_; refine wl_pt ?_; refine wl_m ?_; refine wl_n ?_; refine wl_n ?_; refine wl_pt ?_; refine wl_a ?_; refine wl_nil (nrm_then ?_); refine cw_ret (body_ret1 rfl rfl ?_); refine ⟨congrArg Value.bool (Bool.eq_iff_iff.2 ?_), (Evo.refl [] w)⟩
     simp only [decide_eq_true_eq, Bool.false_eq_true, Bool.true_eq_false, true_iff, false_iff, eq_self, iff_true]; unfold wordN; omega
    ·skip
     refine wl_g ?_; refine wl_m ?_; refine wl_g ?_; refine wl_val rfl (ex_geq rfl rfl) ?_; refine wl_g ?_; refine wl_m ?_; refine wl_split (t := 20) rfl (fun hs20 => ?_) (fun hs20 => ?_)
     ·skip
      refine wl_g ?_; refine wl_m ?_; refine wl_g ?_; refine wl_val rfl (ex_leq rfl rfl) ?_; refine wl_g ?_; refine wl_pt ?_; refine wl_pf ?_; refine wl_m ?_; refine wl_split (t := 25) rfl (fun hs25 => ?_) (fun hs25 => ?_)
      ·skip
       refine wl_n ?_; refine wl_n ?_; refine wl_pt ?_; refine wl_a ?_; refine wl_nil (nrm_then ?_); refine cw_ret (body_ret1 rfl rfl ?_); refine ⟨congrArg Value.bool (Bool.eq_iff_iff.2 ?_), (Evo.refl [] w)⟩
       simp only [decide_eq_true_eq, Bool.false_eq_true, Bool.true_eq_false, true_iff, false_iff, eq_self, iff_true]; unfold wordN; omega
      ·skip
       refine wl_g ?_; refine wl_m ?_; refine wl_g ?_; refine wl_val rfl (ex_eql rfl rfl) ?_; refine wl_pf ?_; refine wl_a ?_; refine wl_nil (nrm_then ?_); refine cw_ret (body_ret1 rfl rfl ?_); refine ⟨congrArg Value.bool (Bool.eq_iff_iff.2 ?_), (Evo.refl [] w)⟩
       simp only [decide_eq_true_eq, Bool.false_eq_true, Bool.true_eq_false, true_iff, false_iff, eq_self, iff_true]; unfold wordN; omega
     ·skip
      refine wl_n ?_; refine wl_n ?_; refine wl_g ?_; refine wl_pf ?_; refine wl_pf ?_; refine wl_m ?_; refine wl_g ?_; refine wl_m ?_; refine wl_g ?_; refine wl_val rfl (ex_eql rfl rfl) ?_; refine wl_pf ?_; refine wl_a ?_; refine wl_nil (nrm_then ?_); refine cw_ret (body_ret1 rfl rfl ?_); refine ⟨congrArg Value.bool (Bool.eq_iff_iff.2 ?_), (Evo.refl [] w)⟩
      simp only [decide_eq_true_eq, Bool.false_eq_true, Bool.true_eq_false, true_iff, false_iff, eq_self, iff_true]; unfold wordN; omega
   ·skip
    refine wl_n ?_; refine wl_n ?_; refine wl_g ?_; refine wl_pf ?_; refine wl_pf ?_; refine wl_m ?_; refine wl_g ?_; refine wl_m ?_; refine wl_g ?_; refine wl_val rfl (ex_geq rfl rfl) ?_; refine wl_g ?_; refine wl_m ?_; refine wl_split (t := 20) rfl (fun hs20 => ?_) (fun hs20 => ?_)
    ·skip
     refine wl_g ?_; refine wl_m ?_; refine wl_g ?_; refine wl_val rfl (ex_leq rfl rfl) ?_; refine wl_g ?_; refine wl_pt ?_; refine wl_pf ?_; refine wl_m ?_; refine wl_split (t := 25) rfl (fun hs25 => ?_) (fun hs25 => ?_)
     ·skip
      refine wl_n ?_; refine wl_n ?_; refine wl_pt ?_; refine wl_a ?_; refine wl_nil (nrm_then ?_); refine cw_ret (body_ret1 rfl rfl ?_); refine ⟨congrArg Value.bool (Bool.eq_iff_iff.2 ?_), (Evo.refl [] w)⟩
      simp only [decide_eq_true_eq, Bool.false_eq_true, Bool.true_eq_false, true_iff, false_iff, eq_self, iff_true]; unfold wordN; omega
     ·skip
      refine wl_g ?_; refine wl_m ?_; refine wl_g ?_; refine wl_val rfl (ex_eql rfl rfl) ?_; refine wl_pf ?_; refine wl_a ?_; refine wl_nil (nrm_then ?_); refine cw_ret (body_ret1 rfl rfl ?_); refine ⟨congrArg Value.bool (Bool.eq_iff_iff.2 ?_), (Evo.refl [] w)⟩
      simp only [decide_eq_true_eq, Bool.false_eq_true, Bool.true_eq_false, true_iff, false_iff, eq_self, iff_true]; unfold wordN; omega
    ·skip
     refine wl_n ?_; refine wl_n ?_; refine wl_g ?_; refine wl_pf ?_; refine wl_pf ?_; refine wl_m ?_; refine wl_g ?_; refine wl_m ?_; refine wl_g ?_; refine wl_val rfl (ex_eql rfl rfl) ?_; refine wl_pf ?_; refine wl_a ?_; refine wl_nil (nrm_then ?_); refine cw_ret (body_ret1 rfl rfl ?_); refine ⟨congrArg Value.bool (Bool.eq_iff_iff.2 ?_), (Evo.refl [] w)⟩
     simp only [decide_eq_true_eq, Bool.false_eq_true, Bool.true_eq_false, true_iff, false_iff, eq_self, iff_true]; unfold wordN; omega
theorem classFine_ok {X : List Nat} {w : World} {v : Value} {l : List (Int × Int)} (hs : RSl 2 RRg X w v l) (hl : l.length ≤ 140737488351232) : Calls Try.prog 20 #[v] w (Ret fun v w' => ∃ b, v = .bool b ∧ (b = true ↔ RangesOk l) ∧ Evo [] w w') := by
  obtain ⟨sa, sc, rfl, hlc, e1⟩ := hs; refine calls_of_cw (N := 58) Try.func20 rfl rfl rfl ?_; refine cw_seq ?_; refine cw_region ?_; refine wl_a ?_; refine wl_nil (nrm_then ?_); refine cw_seq ?_; refine cw_seq ?_; refine cw_region ?_; refine wl_m ?_; refine wl_val rfl (ex_len_slice rfl Try.underlying22 rfl) ?_; refine wl_m ?_; refine wl_nil (nrm_then ?_); refine cw_block ?_; refine cw_loop (α := Nat) (0) (fun k => [(7, .int .i64 (k : Nat))]) [(0, _), (5, _), (6, _)] (fun k wr => Evo [] w wr ∧ (k ≤ l.length ∧ RangesTo l k)) (fun k => l.length - k) ⟨rfl, trivial⟩ ⟨rfl, rfl, rfl, trivial⟩ ⟨Evo.refl _ _, ⟨Nat.zero_le _, fun i _ h => by omega⟩⟩ ?_; rintro k wr1 ⟨hV2, ⟨hk, hok⟩⟩; show CW _ _ _ _ [(7, _), (0, _), (5, _), (6, _)] _; have hE3 := (Evo.refl [] w).then hV2; refine cw_seq ?_; refine cw_region ?_; refine wl_val rfl (ex_lss rfl rfl) ?_; refine wl_nil (nrm_then ?_); refine cw_seq ?_; refine cw_if rfl (fun hc8 => ?_) (fun hc8 => ?_)
  ·skip
   have hk' : k < l.length := by omega
   obtain ⟨b1, o1, vs1, ha1, hb1, -, hc1, rfl⟩ := e1 k hk'; refine cw_skip (nrm_then ?_); refine cw_seq ?_; refine cw_block ?_; refine cw_seq ?_; refine cw_region ?_; refine wl_m ?_
   refine wl_val rfl (ex_indexAddr (n := k) (by rw [ha1]; rfl) rfl Try.elem22 (by omega)) ?_
   refine wl_val rfl (ex_loadA rfl Try.agg66 Try.size66 (vs := [_, _]) rfl (hc1.evo hE3 (by simp))) ?_; refine wl_alloc rfl Try.zero66 fun b4 w5 hB6 hs7 hw8 => ?_; have hG9 := Ge.new hE3 hs7; have hG10 := Ge.new hV2 hs7; have hE11 := hE3.then hw8; have hE12 := hV2.then hw8; refine wl_a ?_; refine wl_storeBlk rfl rfl Try.size66 hB6 rfl rfl ⟨by first | rfl | assumption, by first | rfl | assumption, trivial⟩ fun w13 hB14 hw15 => ?_; have hE16 := hE11.step hw15 hG9.mem1; have hE17 := hE12.step hw15 hG10.mem1; refine wl_nil (nrm_then ?_); refine cw_seq ?_; refine cw_quiet (by kernel_rfl) (by kernel_rfl) ?_; refine ql_val rfl (fun _ hq19 => ex_fieldAddr rfl Try.fld66_0) ?_; refine ql_val rfl (fun _ hq19 => ex_load1 rfl Try.agg21 (cell_nth (hq19.blk0 hB14) rfl)) ?_; refine ql_val rfl (fun _ hq19 => ex_lss rfl rfl) ?_; refine ql_val rfl (fun _ hq19 => ex_move rfl) ?_; refine ql_split (t := 15) rfl (fun hs15 => ?_) (fun hs15 => ?_)
   ·skip
    refine ql_no rfl rfl rfl rfl rfl rfl ?_; refine ql_no rfl rfl rfl rfl rfl rfl ?_; refine ql_no rfl rfl rfl rfl rfl rfl ?_; refine ql_no rfl rfl rfl rfl rfl rfl ?_; refine ql_no rfl rfl rfl rfl rfl rfl ?_; refine ql_val rfl (fun _ hq19 => ex_pick_t rfl rfl) ?_; refine ql_val rfl (fun _ hq19 => ex_move rfl) ?_; refine ql_no rfl rfl rfl rfl rfl rfl ?_; refine ql_no rfl rfl rfl rfl rfl rfl ?_; refine ql_no rfl rfl rfl rfl rfl rfl ?_; refine ql_val rfl (fun _ hq19 => ex_pick_t rfl rfl) ?_; refine ql_val rfl (fun _ hq19 => ex_move rfl) ?_; refine ql_no rfl rfl rfl rfl rfl rfl ?_; refine ql_no rfl rfl rfl rfl rfl rfl ?_; refine ql_no rfl rfl rfl rfl rfl rfl ?_; refine ql_nou rfl rfl rfl rfl rfl ?_; refine ql_nou rfl rfl rfl rfl rfl ?_; refine ql_nou rfl rfl rfl rfl rfl ?_; refine ql_nou rfl rfl rfl rfl rfl ?_; refine ql_nou rfl rfl rfl rfl rfl ?_; refine ql_nou rfl rfl rfl rfl rfl ?_; refine ql_nou rfl rfl rfl rfl rfl ?_; refine ql_nou rfl rfl rfl rfl rfl ?_; refine ql_nou rfl rfl rfl rfl rfl ?_; refine ql_nou rfl rfl rfl rfl rfl ?_; refine ql_no rfl rfl rfl rfl rfl rfl ?_; refine ql_val rfl (fun _ hq19 => ex_pick_t rfl rfl) ?_; refine ql_nil (fun wq18 hq19 => nrm_then ?_); have hE20 := hE16.then hq19; have hE21 := hE17.then hq19; refine cw_true rfl ?_; refine cw_seq ?_; refine cw_region ?_; refine wl_a ?_; refine wl_nil (nrm_then ?_); refine cw_ret (ret_block (ret_then (ret_then (ret_block (ret_then (body_ret1 rfl rfl ?_))))))
    exact ⟨false, rfl, by simp only [Bool.false_eq_true, false_iff]; exact fun h => by have := (h.1 k hk').1; omega, hE20⟩
   ·skip
    refine ql_go rfl rfl rfl rfl ?_; refine ql_val rfl (fun _ hq19 => ex_fieldAddr rfl Try.fld66_0) ?_; refine ql_go rfl rfl rfl rfl ?_; refine ql_val rfl (fun _ hq19 => ex_load1 rfl Try.agg21 (cell_nth (hq19.blk0 hB14) rfl)) ?_; refine ql_go rfl rfl rfl rfl ?_; refine ql_val rfl (fun _ hq19 => ex_fieldAddr rfl Try.fld66_1) ?_; refine ql_go rfl rfl rfl rfl ?_; refine ql_val rfl (fun _ hq19 => ex_load1 rfl Try.agg21 (cell_nth (hq19.blk0 hB14) rfl)) ?_; refine ql_go rfl rfl rfl rfl ?_; refine ql_val rfl (fun _ hq19 => ex_gtr rfl rfl) ?_; refine ql_val rfl (fun _ hq19 => ex_pick_f rfl rfl) ?_; refine ql_val rfl (fun _ hq19 => ex_move rfl) ?_; refine ql_split (t := 22) rfl (fun hs22 => ?_) (fun hs22 => ?_)
    ·skip
     refine ql_no rfl rfl rfl rfl rfl rfl ?_; refine ql_no rfl rfl rfl rfl rfl rfl ?_; refine ql_no rfl rfl rfl rfl rfl rfl ?_; refine ql_val rfl (fun _ hq19 => ex_pick_t rfl rfl) ?_; refine ql_val rfl (fun _ hq19 => ex_move rfl) ?_; refine ql_no rfl rfl rfl rfl rfl rfl ?_; refine ql_no rfl rfl rfl rfl rfl rfl ?_; refine ql_no rfl rfl rfl rfl rfl rfl ?_; refine ql_nou rfl rfl rfl rfl rfl ?_; refine ql_nou rfl rfl rfl rfl rfl ?_; refine ql_nou rfl rfl rfl rfl rfl ?_; refine ql_nou rfl rfl rfl rfl rfl ?_; refine ql_nou rfl rfl rfl rfl rfl ?_; refine ql_nou rfl rfl rfl rfl rfl ?_; refine ql_nou rfl rfl rfl rfl rfl ?_; refine ql_nou rfl rfl rfl rfl rfl ?_; refine ql_nou rfl rfl rfl rfl rfl ?_; refine ql_nou rfl rfl rfl rfl rfl ?_; refine ql_no rfl rfl rfl rfl rfl rfl ?_; refine ql_val rfl (fun _ hq19 => ex_pick_t rfl rfl) ?_; refine ql_nil (fun wq18 hq19 => nrm_then ?_); have hE22 := hE16.then hq19; have hE23 := hE17.then hq19; refine cw_true rfl ?_; refine cw_seq ?_; refine cw_region ?_; refine wl_a ?_; refine wl_nil (nrm_then ?_); refine cw_ret (ret_block (ret_then (ret_then (ret_block (ret_then (body_ret1 rfl rfl ?_))))))
     exact ⟨false, rfl, by simp only [Bool.false_eq_true, false_iff]; exact fun h => by have := (h.1 k hk').2.1; omega, hE22⟩
    ·skip
     refine ql_go rfl rfl rfl rfl ?_; refine ql_val rfl (fun _ hq19 => ex_fieldAddr rfl Try.fld66_1) ?_; refine ql_go rfl rfl rfl rfl ?_; refine ql_val rfl (fun _ hq19 => ex_load1 rfl Try.agg21 (cell_nth (hq19.blk0 hB14) rfl)) ?_; refine ql_go rfl rfl rfl rfl ?_; refine ql_val rfl (fun _ hq19 => ex_gtr rfl rfl) ?_; refine ql_val rfl (fun _ hq19 => ex_pick_f rfl rfl) ?_; refine ql_val rfl (fun _ hq19 => ex_move rfl) ?_; refine ql_split (t := 27) rfl (fun hs27 => ?_) (fun hs27 => ?_)
     ·skip
      refine ql_no rfl rfl rfl rfl rfl rfl ?_; refine ql_no rfl rfl rfl rfl rfl rfl ?_; refine ql_no rfl rfl rfl rfl rfl rfl ?_; refine ql_nou rfl rfl rfl rfl rfl ?_; refine ql_nou rfl rfl rfl rfl rfl ?_; refine ql_nou rfl rfl rfl rfl rfl ?_; refine ql_nou rfl rfl rfl rfl rfl ?_; refine ql_nou rfl rfl rfl rfl rfl ?_; refine ql_nou rfl rfl rfl rfl rfl ?_; refine ql_nou rfl rfl rfl rfl rfl ?_; refine ql_nou rfl rfl rfl rfl rfl ?_; refine ql_nou rfl rfl rfl rfl rfl ?_; refine ql_nou rfl rfl rfl rfl rfl ?_; refine ql_no rfl rfl rfl rfl rfl rfl ?_; refine ql_val rfl (fun _ hq19 => ex_pick_t rfl rfl) ?_; refine ql_nil (fun wq18 hq19 => nrm_then ?_); have hE24 := hE16.then hq19; have hE25 := hE17.then hq19; refine cw_true rfl ?_; refine cw_seq ?_; refine cw_region ?_; refine wl_a ?_; refine wl_nil (nrm_then ?_); refine cw_ret (ret_block (ret_then (ret_then (ret_block (ret_then (body_ret1 rfl rfl ?_))))))
      exact ⟨false, rfl, by simp only [Bool.false_eq_true, false_iff]; exact fun h => by have := (h.1 k hk').2.2.1; omega, hE24⟩
     ·skip
      refine ql_go rfl rfl rfl rfl ?_; refine ql_val rfl (fun _ hq19 => ex_move rfl) ?_; refine ql_go rfl rfl rfl rfl ?_; refine ql_val rfl (fun _ hq19 => ex_gtr rfl rfl) ?_; refine ql_go rfl rfl rfl rfl ?_; refine ql_val rfl (fun _ hq19 => ex_move rfl) ?_; refine ql_split (t := 30) rfl (fun hs30 => ?_) (fun hs30 => ?_)
      ·skip
       obtain ⟨b2, o2, vs2, ha2, hb2, -, hc2, rfl⟩ := e1 (k - 1) (by omega); have hpr := hok (k - 1) (by omega) (by omega); refine ql_go rfl rfl rfl rfl ?_; refine ql_val rfl (fun _ hq19 => ex_fieldAddr rfl Try.fld66_0) ?_; refine ql_go rfl rfl rfl rfl ?_; refine ql_val rfl (fun _ hq19 => ex_load1 rfl Try.agg21 (cell_nth (hq19.blk0 hB14) rfl)) ?_; refine ql_go rfl rfl rfl rfl ?_; refine ql_val rfl (fun _ hq19 => ex_move rfl) ?_; refine ql_go rfl rfl rfl rfl ?_; refine ql_val rfl (fun _ hq19 => ex_move rfl) ?_; refine ql_go rfl rfl rfl rfl ?_; refine ql_val rfl (fun _ hq19 => ex_sub_i64 rfl rfl (by omega) (by omega)) ?_; refine ql_go rfl rfl rfl rfl ?_
       refine ql_val rfl (fun _ hq19 => ex_indexAddrZ (n := k - 1) (by rw [ha2]; rfl) rfl (by omega) Try.elem22 (by omega)) ?_
       refine ql_go rfl rfl rfl rfl ?_; refine ql_val rfl (fun _ hq19 => ex_fieldAddr rfl Try.fld66_1) ?_; refine ql_go rfl rfl rfl rfl ?_; refine ql_val rfl (fun _ hq19 => ex_load1 rfl Try.agg21 ((hc2.evo (hE16.then hq19) (by simp)) 1 _ rfl)) ?_; refine ql_go rfl rfl rfl rfl ?_; refine ql_val rfl (fun _ hq19 => ex_add_i32 rfl rfl (by omega) (by omega)) ?_; refine ql_go rfl rfl rfl rfl ?_; refine ql_val rfl (fun _ hq19 => ex_leq rfl rfl) ?_; refine ql_go rfl rfl rfl rfl ?_; refine ql_val rfl (fun _ hq19 => ex_pick_t rfl rfl) ?_; refine ql_val rfl (fun _ hq19 => ex_pick_f rfl rfl) ?_; refine ql_nil (fun wq18 hq19 => nrm_then ?_); have hE26 := hE16.then hq19; have hE27 := hE17.then hq19; refine cw_if rfl (fun hc42 => ?_) (fun hc42 => ?_)
       ·skip
        refine cw_seq ?_; refine cw_region ?_; refine wl_a ?_; refine wl_nil (nrm_then ?_); refine cw_ret (ret_block (ret_then (ret_then (ret_block (ret_then (body_ret1 rfl rfl ?_))))))
        exact ⟨false, rfl, by simp only [Bool.false_eq_true, false_iff]; exact fun h => by have := (h.1 k hk').2.2.2 (k - 1) (by omega) (by omega); omega, hE26⟩
       ·skip
        refine cw_skip (nrm_block (nrm_then ?_)); refine cw_region ?_; refine wl_val rfl (ex_add_i64 rfl rfl (by omega) (by omega)) ?_; refine wl_m ?_; refine wl_nil (nrm_same ?_); refine ⟨k + 1, ?_, ⟨rfl, trivial⟩, ⟨rfl, rfl, rfl, trivial⟩, hE27, ?_⟩
        · omega
        ·skip
         exact ⟨by omega, hok.succ hk' (by omega) (by omega) (by omega) (fun j hj e => by first | (subst e; simp only [Nat.add_sub_cancel] at *; omega) | omega)⟩
      ·skip
       refine ql_no rfl rfl rfl rfl rfl rfl ?_; refine ql_no rfl rfl rfl rfl rfl rfl ?_; refine ql_no rfl rfl rfl rfl rfl rfl ?_; refine ql_no rfl rfl rfl rfl rfl rfl ?_; refine ql_no rfl rfl rfl rfl rfl rfl ?_; refine ql_no rfl rfl rfl rfl rfl rfl ?_; refine ql_no rfl rfl rfl rfl rfl rfl ?_; refine ql_no rfl rfl rfl rfl rfl rfl ?_; refine ql_no rfl rfl rfl rfl rfl rfl ?_; refine ql_no rfl rfl rfl rfl rfl rfl ?_; refine ql_go rfl rfl rfl rfl ?_; refine ql_val rfl (fun _ hq19 => ex_pick_f rfl rfl) ?_; refine ql_val rfl (fun _ hq19 => ex_pick_f rfl rfl) ?_; refine ql_nil (fun wq18 hq19 => nrm_then ?_); have hE28 := hE16.then hq19; have hE29 := hE17.then hq19; refine cw_false rfl ?_; refine cw_skip (nrm_block (nrm_then ?_)); refine cw_region ?_; refine wl_val rfl (ex_add_i64 rfl rfl (by omega) (by omega)) ?_; refine wl_m ?_; refine wl_nil (nrm_same ?_); refine ⟨k + 1, ?_, ⟨rfl, trivial⟩, ⟨rfl, rfl, rfl, trivial⟩, hE29, ?_⟩
       · omega
       ·skip
        exact ⟨by omega, hok.succ hk' (by omega) (by omega) (by omega) (fun j hj e => by first | (subst e; simp only [Nat.add_sub_cancel] at *; omega) | omega)⟩
  ·skip
   refine cw_exit (ex_then (ex_then (ex_here (nrm_then ?_)))); refine cw_seq ?_; refine cw_quiet (by kernel_rfl) (by kernel_rfl) ?_; refine ql_val rfl (fun _ hq31 => ex_move rfl) ?_; refine ql_val rfl (fun _ hq31 => ex_len_slice rfl Try.underlying22 rfl) ?_; refine ql_val rfl (fun _ hq31 => ex_neq rfl rfl) ?_; refine ql_val rfl (fun _ hq31 => ex_move rfl) ?_; refine ql_split (t := 47) rfl (fun hs47 => ?_) (fun hs47 => ?_)
   ·skip
    refine ql_no rfl rfl rfl rfl rfl rfl ?_; refine ql_no rfl rfl rfl rfl rfl rfl ?_; refine ql_no rfl rfl rfl rfl rfl rfl ?_; refine ql_no rfl rfl rfl rfl rfl rfl ?_; refine ql_no rfl rfl rfl rfl rfl rfl ?_; refine ql_no rfl rfl rfl rfl rfl rfl ?_; refine ql_no rfl rfl rfl rfl rfl rfl ?_; refine ql_no rfl rfl rfl rfl rfl rfl ?_; refine ql_no rfl rfl rfl rfl rfl rfl ?_; refine ql_val rfl (fun _ hq31 => ex_pick_t rfl rfl) ?_; refine ql_val rfl (fun _ hq31 => ex_assign rfl) ?_; refine ql_nil (fun wq30 hq31 => nrm_then ?_); have hE32 := hE3.then hq31; have hE33 := hV2.then hq31; refine cw_ret (body_ret1 rfl rfl ?_)
    exact ⟨true, rfl, by simp only [true_iff]; exact hok.ok (by omega) (fun h => by omega), hE32⟩
   ·skip
    obtain ⟨b3, o3, vs3, ha3, hb3, -, hc3, rfl⟩ := e1 0 (by omega); refine ql_go rfl rfl rfl rfl ?_; refine ql_val rfl (fun _ hq31 => ex_move rfl) ?_; refine ql_go rfl rfl rfl rfl ?_
    refine ql_val rfl (fun _ hq31 => ex_indexAddrZ (n := 0) (by rw [ha3]; rfl) rfl rfl Try.elem22 (by omega)) ?_
    refine ql_go rfl rfl rfl rfl ?_; refine ql_val rfl (fun _ hq31 => ex_fieldAddr rfl Try.fld66_0) ?_; refine ql_go rfl rfl rfl rfl ?_; refine ql_val rfl (fun _ hq31 => ex_load1 rfl Try.agg21 ((hc3.evo (hE3.then hq31) (by simp)) 0 _ rfl)) ?_; refine ql_go rfl rfl rfl rfl ?_; refine ql_val rfl (fun _ hq31 => ex_move rfl) ?_; refine ql_go rfl rfl rfl rfl ?_
    refine ql_val rfl (fun _ hq31 => ex_indexAddrZ (n := 0) (by rw [ha3]; rfl) rfl rfl Try.elem22 (by omega)) ?_
    refine ql_go rfl rfl rfl rfl ?_; refine ql_val rfl (fun _ hq31 => ex_fieldAddr rfl Try.fld66_1) ?_; refine ql_go rfl rfl rfl rfl ?_; refine ql_val rfl (fun _ hq31 => ex_load1 rfl Try.agg21 ((hc3.evo (hE3.then hq31) (by simp)) 1 _ rfl)) ?_; refine ql_go rfl rfl rfl rfl ?_; refine ql_val rfl (fun _ hq31 => ex_neq rfl rfl) ?_; refine ql_val rfl (fun _ hq31 => ex_pick_f rfl rfl) ?_; refine ql_val rfl (fun _ hq31 => ex_assign rfl) ?_; refine ql_nil (fun wq30 hq31 => nrm_then ?_); have hE34 := hE3.then hq31; have hE35 := hV2.then hq31; refine cw_ret (body_ret1 rfl rfl ?_)
    exact ⟨_, rfl, by simp only [decide_eq_true_eq]; exact ⟨fun h => hok.ok (by omega) (fun _ => h), fun h => h.2 (by omega)⟩, hE34⟩
theorem name_new {ns : List ByteArray} {nm : ByteArray} (h : ∀ j (hj : j < ns.length), nm = ByteArray.mk #[] ∨ ¬ ns[j] = nm) : nm = ByteArray.mk #[] ∨ nm ∉ ns := by
  by_cases h0 : nm = ByteArray.mk #[]
  · exact .inl h0
  · right
    intro hm
    obtain ⟨j, hj, he⟩ := List.getElem_of_mem hm
    rcases h j hj with h1 | h1
    · exact h0 h1
    · exact h1 he
theorem own_new {w : World} {jb : Nat} {ob ob' : Option Nat} (hne : ∀ g, ob = some g → g ≠ jb) (hlt : jb < w.heap.size) (h : ob' = ob ∨ ∃ g, ob' = some g ∧ w.heap.size ≤ g) : ∀ g, ob' = some g → g ≠ jb := fun g hg => by
  rcases h with rfl | ⟨g', h1, h2⟩
  · exact hne g hg
  · rw [hg] at h1; cases h1; omega
theorem group_ok {w : World} {jb : Nat} {st : St} {a : Option Addr} {c : Nat} {ob : Option Nat} {cap : Int} {nm : ByteArray} (hJ : JAt w 47 jb st a c ob) (hl : st.2.length ≤ 100000) (hn : nm.size ≤ 140737488351232) :
    Calls Try.prog 21 #[.pointer (some ⟨jb, 0, none⟩), .int .i64 cap, .string nm] w (Ret fun v w' => ∃ b, v = .bool b ∧ (b = true ↔ GroupOk cap nm st.2) ∧ Evo (jb :: ob.toList) w w' ∧
      (b = true → ∃ a' c' ob', JAt w' 47 jb (st.1, st.2 ++ [nm]) a' c' ob' ∧ (ob' = ob ∨ ∃ g, ob' = some g ∧ w.heap.size ≤ g))) := by
  obtain ⟨hB, hO, hne⟩ := hJ
  have hAJN : Apart (some jb) ob := fun g h1 h2 => by cases h1; exact hne jb h2 rfl
  have hlt := blk_lt hB; refine calls_of_cw (N := 60) Try.func21 rfl rfl rfl ?_; refine cw_seq ?_; refine cw_region ?_; refine wl_a ?_; refine wl_nil (nrm_then ?_); refine cw_seq ?_; refine cw_seq ?_; refine cw_region ?_; refine wl_m ?_; refine wl_m ?_; refine wl_val rfl (ex_nilCheck rfl) ?_; refine wl_val rfl (ex_fieldAddr rfl Try.fld47_1) ?_; refine wl_val rfl (ex_load1 rfl Try.agg39 (cell_nth hB rfl)) ?_; refine wl_val rfl (ex_len_slice rfl Try.underlying39 rfl) ?_; refine wl_val rfl (ex_add_i64 rfl rfl (by omega) (by omega)) ?_; refine wl_val rfl (ex_neq rfl rfl) ?_; refine wl_m ?_; refine wl_split (t := 18) rfl (fun hs18 => ?_) (fun hs18 => ?_)
  ·skip
   refine wl_n ?_; refine wl_n ?_; refine wl_pt ?_; refine wl_nil (nrm_then ?_); refine cw_true rfl ?_; refine cw_seq ?_; refine cw_region ?_; refine wl_a ?_; refine wl_nil (nrm_then ?_); refine cw_ret (ret_then (body_ret1 rfl rfl ?_))
   exact ⟨false, rfl, by simp only [Bool.false_eq_true, false_iff]; exact fun h => hs18 h.1, (Evo.refl (jb :: ob.toList) w), fun h => by cases h⟩
  ·skip
   refine wl_g ?_; refine wl_m ?_; refine wl_g ?_; refine wl_val rfl (ex_gtr rfl rfl) ?_; refine wl_pf ?_; refine wl_nil (nrm_then ?_); refine cw_if rfl (fun hc21 => ?_) (fun hc21 => ?_)
   ·skip
    refine cw_seq ?_; refine cw_region ?_; refine wl_a ?_; refine wl_nil (nrm_then ?_); refine cw_ret (ret_then (body_ret1 rfl rfl ?_))
    exact ⟨false, rfl, by simp only [Bool.false_eq_true, false_iff]; exact fun h => by have := h.2.1; omega, (Evo.refl (jb :: ob.toList) w), fun h => by cases h⟩
   ·skip
    refine cw_skip (nrm_then ?_); refine cw_seq ?_; refine cw_seq ?_; refine cw_region ?_; refine wl_m ?_; refine wl_val rfl (ex_len_str rfl Try.underlying9 rfl) ?_; refine wl_m ?_; refine wl_nil (nrm_then ?_); refine cw_block ?_; refine cw_loop (α := Nat) (0) (fun k => [(24, .int .i64 (k : Nat))]) [(0, _), (2, _), (23, _)] (fun k wr => Evo [] w wr ∧ (k ≤ nm.size ∧ ∀ j, j < k → wordN (sb nm j))) (fun k => nm.size - k) ⟨rfl, trivial⟩ ⟨rfl, rfl, rfl, trivial⟩ ⟨Evo.refl _ _, ⟨Nat.zero_le _, fun j h => by omega⟩⟩ ?_; rintro k wr1 ⟨hV2, ⟨hk, hok⟩⟩; show CW _ _ _ _ [(24, _), (0, _), (2, _), (23, _)] _; have hE3 := (Evo.refl (jb :: ob.toList) w).then hV2; have hB4 := hV2.blk0 hB; have hO5 := hO.evo0 hV2; refine cw_seq ?_; refine cw_region ?_; refine wl_val rfl (ex_lss rfl rfl) ?_; refine wl_nil (nrm_then ?_); refine cw_seq ?_; refine cw_if rfl (fun hc25 => ?_) (fun hc25 => ?_)
    ·skip
     have hk' : k < nm.size := by omega
     refine cw_skip (nrm_then ?_); refine cw_seq ?_; refine cw_block ?_; refine cw_seq ?_; refine cw_region ?_; refine wl_m ?_; refine wl_a ?_; refine wl_nil (nrm_then ?_); refine cw_seq ?_; refine cw_region ?_; refine wl_m ?_; refine wl_m ?_; refine wl_val rfl (ex_sidx (n := k) rfl rfl Try.underlying9 rfl (by omega)) ?_; refine wl_call1 (vs := [_]) Try.goes31 rfl (word_ok (sb nm k)) rfl ?_; rintro _ w6 ⟨rfl, hw7⟩; have hE8 := hE3.then hw7; have hE9 := hV2.then hw7; have hB10 := hw7.blk0 hB4; have hO11 := hO5.evo0 hw7; refine wl_val rfl (ex_not rfl) ?_; refine wl_nil (nrm_then ?_); refine cw_if rfl (fun hc31 => ?_) (fun hc31 => ?_)
     ·skip
      refine cw_seq ?_; refine cw_region ?_; refine wl_a ?_; refine wl_nil (nrm_then ?_); refine cw_ret (ret_block (ret_then (ret_then (ret_block (ret_then (body_ret1 rfl rfl ?_))))))
      exact ⟨false, rfl, by simp only [Bool.false_eq_true, false_iff]; exact fun h => hc31 (h.2.2.1 k hk'), hE8, fun h => by cases h⟩
     ·skip
      refine cw_skip (nrm_block (nrm_then ?_)); refine cw_region ?_; refine wl_val rfl (ex_add_i64 rfl rfl (by omega) (by omega)) ?_; refine wl_m ?_; refine wl_nil (nrm_same ?_); refine ⟨k + 1, ?_, ⟨rfl, trivial⟩, ⟨rfl, rfl, rfl, trivial⟩, hE9, ?_⟩
      · omega
      ·skip
       refine ⟨by omega, fun j hj => ?_⟩
       by_cases e : j < k
       · exact hok j e
       · obtain rfl : j = k := by omega
         exact Classical.not_not.1 hc31
    ·skip
     refine cw_exit (ex_then (ex_then (ex_here (nrm_then ?_)))); refine cw_seq ?_; refine cw_seq ?_; refine cw_region ?_; refine wl_m ?_; refine wl_val rfl (ex_nilCheck rfl) ?_; refine wl_val rfl (ex_fieldAddr rfl Try.fld47_1) ?_; refine wl_val rfl (ex_load1 rfl Try.agg39 (cell_nth hB4 rfl)) ?_; refine wl_val rfl (ex_len_slice rfl Try.underlying39 rfl) ?_; refine wl_m ?_; refine wl_nil (nrm_then ?_); refine cw_block ?_; refine cw_loop (α := Nat) (0) (fun l => [(38, .int .i64 (l : Nat))]) [(0, _), (2, _), (36, _), (37, _)] (fun l wr => Evo [] wr1 wr ∧ (l ≤ st.2.length ∧ ∀ j (hj : j < st.2.length), j < l → nm = ByteArray.mk #[] ∨ ¬ st.2[j] = nm)) (fun l => st.2.length - l) ⟨rfl, trivial⟩ ⟨rfl, rfl, rfl, rfl, trivial⟩ ⟨Evo.refl _ _, ⟨Nat.zero_le _, fun j _ h => by omega⟩⟩ ?_; rintro l wr12 ⟨hV13, ⟨hl2, hno⟩⟩; show CW _ _ _ _ [(38, _), (0, _), (2, _), (36, _), (37, _)] _; have hE14 := hE3.then hV13; have hE15 := hV2.then hV13; have hB16 := hV13.blk0 hB4; have hO17 := hO5.evo0 hV13; refine cw_seq ?_; refine cw_region ?_; refine wl_val rfl (ex_lss rfl rfl) ?_; refine wl_nil (nrm_then ?_); refine cw_seq ?_; refine cw_if rfl (fun hc39 => ?_) (fun hc39 => ?_)
     ·skip
      have hl' : l < st.2.length := by omega
      obtain ⟨gN, haN, hcN⟩ := own_strs hO17 (by omega); refine cw_skip (nrm_then ?_); refine cw_seq ?_; refine cw_block ?_; refine cw_seq ?_; refine cw_region ?_
      refine wl_val rfl (ex_indexAddr (n := l) (by rw [haN]; rfl) rfl Try.elem39 (by omega)) ?_
      refine wl_val rfl (ex_load1 rfl Try.agg9 (hcN l (by omega))) ?_; refine wl_a ?_; refine wl_nil (nrm_then ?_); refine cw_seq ?_; refine cw_region ?_; refine wl_m ?_; refine wl_val rfl (ex_neqs rfl rfl) ?_; refine wl_m ?_; refine wl_split (t := 44) rfl (fun hs44 => ?_) (fun hs44 => ?_)
      ·skip
       refine wl_g ?_; refine wl_m ?_; refine wl_g ?_; refine wl_m ?_; refine wl_g ?_; refine wl_val rfl (ex_eqs rfl rfl) ?_; refine wl_pt ?_; refine wl_nil (nrm_then ?_); refine cw_if rfl (fun hc48 => ?_) (fun hc48 => ?_)
       ·skip
        refine cw_seq ?_; refine cw_region ?_; refine wl_a ?_; refine wl_nil (nrm_then ?_); refine cw_ret (ret_block (ret_then (ret_then (ret_block (ret_then (body_ret1 rfl rfl ?_))))))
        exact ⟨false, rfl, by simp only [Bool.false_eq_true, false_iff]; exact fun h => by rcases h.2.2.2 with h1 | h1; exact hs44 h1; exact h1 (hc48 ▸ List.getElem_mem hl'), hE14, fun h => by cases h⟩
       ·skip
        refine cw_skip (nrm_block (nrm_then ?_)); refine cw_region ?_; refine wl_val rfl (ex_add_i64 rfl rfl (by omega) (by omega)) ?_; refine wl_m ?_; refine wl_nil (nrm_same ?_); refine ⟨l + 1, ?_, ⟨rfl, trivial⟩, ⟨rfl, rfl, rfl, rfl, trivial⟩, hV13, ?_⟩
        · omega
        ·skip
         refine ⟨by omega, fun j hj hjl => ?_⟩
         by_cases e : j < l
         · exact hno j hj e
         · obtain rfl : j = l := by omega
           exact .inr hc48
      ·skip
       refine wl_n ?_; refine wl_n ?_; refine wl_n ?_; refine wl_pf ?_; refine wl_nil (nrm_then ?_); refine cw_false rfl ?_; refine cw_skip (nrm_block (nrm_then ?_)); refine cw_region ?_; refine wl_val rfl (ex_add_i64 rfl rfl (by omega) (by omega)) ?_; refine wl_m ?_; refine wl_nil (nrm_same ?_); refine ⟨l + 1, ?_, ⟨rfl, trivial⟩, ⟨rfl, rfl, rfl, rfl, trivial⟩, hV13, ?_⟩
       · omega
       ·skip
        refine ⟨by omega, fun j hj hjl => ?_⟩
        by_cases e : j < l
        · exact hno j hj e
        · exact .inl (Classical.not_not.1 hs44)
     ·skip
      refine cw_exit (ex_then (ex_then (ex_here (nrm_then ?_)))); refine cw_seq ?_; refine cw_region ?_; refine wl_m ?_; refine wl_m ?_; refine wl_val rfl (ex_nilCheck rfl) ?_; refine wl_val rfl (ex_fieldAddr rfl Try.fld47_1) ?_; refine wl_val rfl (ex_load1 rfl Try.agg39 (cell_nth hB16 rfl)) ?_; refine wl_m ?_; refine wl_bslice (vs := [_]) rfl Try.slice39 rfl rfl rfl rfl fun b18 w19 hO20 hs21 hw22 => ?_; have hA23 := Apart.new (Lt.blk hB16) hs21; have hA24 := Apart.new (Lt.own hO17) hs21; have hG25 := Ge.new hE14 hs21; have hG26 := Ge.new hE15 hs21; have hG27 := Ge.new hV13 hs21; have hE28 := hE14.then hw22; have hE29 := hE15.then hw22; have hE30 := hV13.then hw22; have hB31 := hw22.blk0 hB16; have hO32 := hO17.evo0 hw22; have hszg := (hE28).size; refine wl_append rfl rfl rfl rfl Try.app39_39 hO32 (Src.ofOwn hO20 ⟨by first | rfl | assumption, trivial⟩) (by omega) fun a2 c2 w35 ob2 hO2 hw38 hob39 => ?_; have hA40 := hAJN.app (Lt.blk hB31) hob39; have hA41 := hA24.symm.app (Lt.own hO20) hob39; have hE42 := hE28.step hw38 (fun y hy => .inl (List.mem_cons_of_mem _ hy)); have hB45 := hw38.blk hB31 hAJN.nmem; have hO46 := hO20.evo hw38 hA24.symm.own; have hob2 : ob2 = ob ∨ ∃ g, ob2 = some g ∧ w.heap.size ≤ g := hob39.imp id (fun ⟨g, h1, h2⟩ => ⟨g, h1, Nat.le_trans hszg h2⟩); refine wl_val rfl (ex_nilCheck rfl) ?_; refine wl_val rfl (ex_fieldAddr rfl Try.fld47_1) ?_; refine wl_store1 rfl rfl (by first | rfl | assumption) Try.size39 hB45 rfl fun w47 hB48 hw49 => ?_
      have hE50 := hE42.step hw49 (fun y hy => .inl (by rw [List.mem_singleton.1 hy]; exact List.mem_cons_self ..))
      have hO51 := hO46.evo hw49 hA23.symm.own1; have hO52 := hO2.evo hw49 hA40.symm.own1
      try simp only [List.setIfInBounds_toArray, List.set_cons_zero, List.set_cons_succ, Nat.reduceAdd, Nat.zero_add, Nat.add_zero] at hB48
      refine wl_nil (nrm_then ?_); refine cw_seq ?_; refine cw_region ?_; refine wl_a ?_; refine wl_nil (nrm_then ?_); refine cw_ret (body_ret1 rfl rfl ?_); refine ⟨true, rfl, ?_, hE50, fun _ => ⟨a2, c2, ob2, ⟨?_, ?_, own_new hne hlt hob2⟩, hob2⟩⟩
      · simp only [true_iff]; exact ⟨Classical.not_not.1 hs18, by omega, fun j hj => hok j (by omega), name_new (fun j hj => hno j hj (by omega))⟩
      · simp only [List.length_append, List.length_cons, List.length_nil]; exact hB48
      · rw [List.map_append, List.length_append]; exact hO52
end Go.Proofs.Ytljadkcojnlioaa
