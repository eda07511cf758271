/- The layer, fourth part: bits, conversions, slices made and cut, functions without a body. -/
import Derived.Test.YtgboffefbpligaaFw2
import Derived.Laws.MakeOwn
import Derived.Laws.OwnMore
import Derived.Laws.BytesString
namespace Go.W
set_option linter.unusedSimpArgs false
set_option linter.unusedVariables false

theorem wrapU {k : IntKind} (hk : k.signed = false) (n : Nat) : k.wrap (n : Int) = ((n % 2 ^ k.bits : Nat) : Int) := by
  cases k <;> simp [IntKind.signed] at hk <;> simp [IntKind.wrap, IntKind.signed, IntKind.bits]
theorem wrapUI {k : IntKind} (hk : k.signed = false) (n : Int) : k.wrap n = (((n % 2 ^ k.bits).toNat : Nat) : Int) := by
  cases k <;> simp [IntKind.signed] at hk <;> simp [IntKind.wrap, IntKind.signed, IntKind.bits] <;> omega

/-- 64 bits of an integer. -/
def u64 (n : Int) : Nat := (n % 18446744073709551616).toNat
/-- 64 bits read with a sign. -/
def i64 (n : Int) : Int := if n % 18446744073709551616 < 9223372036854775808 then n % 18446744073709551616 else n % 18446744073709551616 - 18446744073709551616
theorem i64_eq (n : Int) : IntKind.i64.wrap n = i64 n := by
  simp [IntKind.wrap, IntKind.signed, IntKind.bits, i64]
  split <;> split <;> omega
theorem u64_eq (n : Int) : IntKind.u64.wrap n = ((u64 n : Nat) : Int) := by
  simp [IntKind.wrap, IntKind.signed, IntKind.bits, u64]; omega
theorem u64_lt (n : Int) : u64 n < 18446744073709551616 := by unfold u64; omega
theorem i64_rng (n : Int) : -9223372036854775808 ≤ i64 n ∧ i64 n ≤ 9223372036854775807 := by unfold i64; split <;> omega
theorem i64_of {n : Int} (h : -9223372036854775808 ≤ n) (h' : n ≤ 9223372036854775807) : i64 n = n := by unfold i64; split <;> omega
theorem u64_of {n : Nat} (h : n < 18446744073709551616) : u64 n = n := by unfold u64; omega
theorem i64_u64 (n : Int) : i64 (u64 n) = i64 n := by unfold i64 u64; omega
theorem u64_i64 (n : Int) : u64 (i64 n) = u64 n := by unfold i64 u64; split <;> omega

section
variable {P : Program} {σ : Env} {w : World} {dst : Option Nat} {T : TypeId} {pos : String} {after : Array Edge} {g : Option (Nat × Bool)}

theorem ex_shrN {x y : Operand} {t t' : TypeId} {k yk : IntKind} {m n : Nat} {x' z : Int} (hx : σ.ev x = some (.int k x')) (hy : σ.ev y = some (.int yk z)) (hm : x' = ((m : Nat) : Int)) (hz : z = ((n : Nat) : Int)) (hn : n ≤ k.bits) :
    Ex P σ ⟨dst, .binOp .shr t x y t', T, pos, after, g⟩ w (.int k ((m / 2 ^ n : Nat) : Int)) w := fun ρ h => by
  subst hm hz
  have h0 : ¬ ((n : Nat) : Int) < 0 := by omega
  have h2 : ((m : Nat) : Int).fdiv (2 ^ n) = ((m / 2 ^ n : Nat) : Int) := by rw [Int.fdiv_eq_ediv_of_nonneg _ (by exact_mod_cast Nat.zero_le (2 ^ n))]; push_cast; rfl
  simp only [execOp, h x _ hx, h y _ hy]
  simp only [eqGuard, Go.binOp, Op.shift, Sem.run_bind, Sem.run_pure, Result.andThen_ok, if_neg h0, Int.toNat_natCast, Nat.min_eq_left hn, h2]
  simp
theorem ex_shlN {x y : Operand} {t t' : TypeId} {k yk : IntKind} {m n : Nat} {x' z : Int} (hx : σ.ev x = some (.int k x')) (hy : σ.ev y = some (.int yk z)) (hm : x' = ((m : Nat) : Int)) (hz : z = ((n : Nat) : Int)) (hn : n ≤ k.bits) (hk : k.signed = false) :
    Ex P σ ⟨dst, .binOp .shl t x y t', T, pos, after, g⟩ w (.int k ((m * 2 ^ n % 2 ^ k.bits : Nat) : Int)) w := fun ρ h => by
  subst hm hz
  have h0 : ¬ ((n : Nat) : Int) < 0 := by omega
  have h2 : k.wrap (((m : Nat) : Int) * 2 ^ n) = ((m * 2 ^ n % 2 ^ k.bits : Nat) : Int) := by rw [← wrapU hk (m * 2 ^ n)]; push_cast; rfl
  simp only [execOp, h x _ hx, h y _ hy]
  simp only [eqGuard, Go.binOp, Op.shift, Sem.run_bind, Sem.run_pure, Result.andThen_ok, if_neg h0, Int.toNat_natCast, Nat.min_eq_left hn, h2]
  simp
/-- Behind the kind's width all is out. -/
theorem ex_shl0 {x y : Operand} {t t' : TypeId} {k yk : IntKind} {n : Nat} {x' z : Int} (hx : σ.ev x = some (.int k x')) (hy : σ.ev y = some (.int yk z)) (hz : z = ((n : Nat) : Int)) :
    Ex P σ ⟨dst, .binOp .shl t x y t', T, pos, after, g⟩ w (.int k (k.wrap (x' * 2 ^ min n k.bits))) w := fun ρ h => by
  subst hz
  have h0 : ¬ ((n : Nat) : Int) < 0 := by omega
  simp only [execOp, h x _ hx, h y _ hy]
  simp only [eqGuard, Go.binOp, Op.shift, Sem.run_bind, Sem.run_pure, Result.andThen_ok, if_neg h0, Int.toNat_natCast]
  simp
theorem bitsBack {k : IntKind} {m n : Nat} (hk : k.signed = false) (hm : m < 2 ^ k.bits) (hn : n < 2 ^ k.bits) : (BitVec.ofInt k.bits m).toNat = m ∧ (BitVec.ofInt k.bits n).toNat = n := by
  constructor
  · rw [BitVec.ofInt_natCast, BitVec.toNat_ofNat, Nat.mod_eq_of_lt hm]
  · rw [BitVec.ofInt_natCast, BitVec.toNat_ofNat, Nat.mod_eq_of_lt hn]
theorem ex_andN {x y : Operand} {t t' : TypeId} {k : IntKind} {m n : Nat} {x' z : Int} (hx : σ.ev x = some (.int k x')) (hy : σ.ev y = some (.int k z)) (hm : x' = ((m : Nat) : Int)) (hz : z = ((n : Nat) : Int)) (hk : k.signed = false) (h1 : m < 2 ^ k.bits) (h2 : n < 2 ^ k.bits) :
    Ex P σ ⟨dst, .binOp .and t x y t', T, pos, after, g⟩ w (.int k ((m &&& n : Nat) : Int)) w := fun ρ h => by
  subst hm hz
  obtain ⟨e1, e2⟩ := bitsBack hk h1 h2
  simp only [execOp, h x _ hx, h y _ hy]
  have hr := wrapU hk (m &&& n)
  rw [Nat.mod_eq_of_lt (Nat.lt_of_le_of_lt Nat.and_le_left h1)] at hr
  simp only [eqGuard, Go.binOp, Op.intBits, Sem.run_bind, Sem.run_pure, Result.andThen_ok, BitVec.toNat_and, e1, e2, hr]
  simp
theorem ex_orN {x y : Operand} {t t' : TypeId} {k : IntKind} {m n : Nat} {x' z : Int} (hx : σ.ev x = some (.int k x')) (hy : σ.ev y = some (.int k z)) (hm : x' = ((m : Nat) : Int)) (hz : z = ((n : Nat) : Int)) (hk : k.signed = false) (h1 : m < 2 ^ k.bits) (h2 : n < 2 ^ k.bits) :
    Ex P σ ⟨dst, .binOp .or t x y t', T, pos, after, g⟩ w (.int k ((m ||| n : Nat) : Int)) w := fun ρ h => by
  subst hm hz
  obtain ⟨e1, e2⟩ := bitsBack hk h1 h2
  simp only [execOp, h x _ hx, h y _ hy]
  have hr := wrapU hk (m ||| n)
  rw [Nat.mod_eq_of_lt (Nat.or_lt_two_pow h1 h2)] at hr
  simp only [eqGuard, Go.binOp, Op.intBits, Sem.run_bind, Sem.run_pure, Result.andThen_ok, BitVec.toNat_or, e1, e2, hr]
  simp
theorem ex_xorN {x y : Operand} {t t' : TypeId} {k : IntKind} {m n : Nat} {x' z : Int} (hx : σ.ev x = some (.int k x')) (hy : σ.ev y = some (.int k z)) (hm : x' = ((m : Nat) : Int)) (hz : z = ((n : Nat) : Int)) (hk : k.signed = false) (h1 : m < 2 ^ k.bits) (h2 : n < 2 ^ k.bits) :
    Ex P σ ⟨dst, .binOp .xor t x y t', T, pos, after, g⟩ w (.int k ((m ^^^ n : Nat) : Int)) w := fun ρ h => by
  subst hm hz
  obtain ⟨e1, e2⟩ := bitsBack hk h1 h2
  simp only [execOp, h x _ hx, h y _ hy]
  have hr := wrapU hk (m ^^^ n)
  rw [Nat.mod_eq_of_lt (Nat.xor_lt_two_pow h1 h2)] at hr
  simp only [eqGuard, Go.binOp, Op.intBits, Sem.run_bind, Sem.run_pure, Result.andThen_ok, BitVec.toNat_xor, e1, e2, hr]
  simp
theorem ex_neg {x : Operand} {t : TypeId} {k : IntKind} {n : Int} (hx : σ.ev x = some (.int k n)) : Ex P σ ⟨dst, .unOp .neg t x, T, pos, after, g⟩ w (.int k (k.wrap (-n))) w := fun ρ h => by
  simp [execOp, h x _ hx, Op.unary, Op.intArith]

/-! Conversions of numbers. -/
theorem ex_conv {x : Operand} {t t' : TypeId} {k k' : IntKind} {n : Int} (hx : σ.ev x = some (.int k n)) (ht : P.underlying t = some (.int k)) (ht' : P.underlying t' = some (.int k')) :
    Ex P σ ⟨dst, .convert t t' x, T, pos, after, g⟩ w (.int k' (k'.wrap n)) w := fun ρ h => by
  simp [execOp, h x _ hx, convert, run_underlying ht, run_underlying ht', Conv.intToInt]
theorem ex_convF {x : Operand} {t t' : TypeId} {k k' : IntKind} {n : Int} (hx : σ.ev x = some (.int k n)) (ht : P.underlying t = some (.int k)) (ht' : P.underlying t' = some (.int k')) (h1 : k'.min ≤ n) (h2 : n ≤ k'.max) :
    Ex P σ ⟨dst, .convert t t' x, T, pos, after, g⟩ w (.int k' n) w := by
  have := ex_conv (w := w) (dst := dst) (T := T) (pos := pos) (after := after) (g := g) hx ht ht'
  rwa [wrap_of h1 h2] at this
theorem ex_convU {x : Operand} {t t' : TypeId} {k : IntKind} {n : Int} (hx : σ.ev x = some (.int k n)) (ht : P.underlying t = some (.int k)) (ht' : P.underlying t' = some (.int .u64)) :
    Ex P σ ⟨dst, .convert t t' x, T, pos, after, g⟩ w (.int .u64 ((u64 n : Nat) : Int)) w := by
  have := ex_conv (w := w) (dst := dst) (T := T) (pos := pos) (after := after) (g := g) hx ht ht'
  rwa [u64_eq] at this
theorem ex_convI {x : Operand} {t t' : TypeId} {k : IntKind} {n : Int} (hx : σ.ev x = some (.int k n)) (ht : P.underlying t = some (.int k)) (ht' : P.underlying t' = some (.int .i64)) :
    Ex P σ ⟨dst, .convert t t' x, T, pos, after, g⟩ w (.int .i64 (i64 n)) w := by
  have := ex_conv (w := w) (dst := dst) (T := T) (pos := pos) (after := after) (g := g) hx ht ht'
  rwa [i64_eq] at this
theorem ex_addU {x y : Operand} {t t' : TypeId} {m n : Int} (hx : σ.ev x = some (.int .u64 m)) (hy : σ.ev y = some (.int .u64 n)) :
    Ex P σ ⟨dst, .binOp .add t x y t', T, pos, after, g⟩ w (.int .u64 ((u64 (m + n) : Nat) : Int)) w := by
  have := ex_addw (P := P) (w := w) (dst := dst) (T := T) (pos := pos) (after := after) (g := g) (t := t) (t' := t') hx hy
  rwa [u64_eq] at this
theorem ex_subU {x y : Operand} {t t' : TypeId} {m n : Int} (hx : σ.ev x = some (.int .u64 m)) (hy : σ.ev y = some (.int .u64 n)) :
    Ex P σ ⟨dst, .binOp .sub t x y t', T, pos, after, g⟩ w (.int .u64 ((u64 (m - n) : Nat) : Int)) w := by
  have := ex_subw (P := P) (w := w) (dst := dst) (T := T) (pos := pos) (after := after) (g := g) (t := t) (t' := t') hx hy
  rwa [u64_eq] at this
theorem ex_mulU {x y : Operand} {t t' : TypeId} {m n : Int} (hx : σ.ev x = some (.int .u64 m)) (hy : σ.ev y = some (.int .u64 n)) :
    Ex P σ ⟨dst, .binOp .mul t x y t', T, pos, after, g⟩ w (.int .u64 ((u64 (m * n) : Nat) : Int)) w := by
  have := ex_mulw (P := P) (w := w) (dst := dst) (T := T) (pos := pos) (after := after) (g := g) (t := t) (t' := t') hx hy
  rwa [u64_eq] at this
theorem ex_addI {x y : Operand} {t t' : TypeId} {m n : Int} (hx : σ.ev x = some (.int .i64 m)) (hy : σ.ev y = some (.int .i64 n)) :
    Ex P σ ⟨dst, .binOp .add t x y t', T, pos, after, g⟩ w (.int .i64 (i64 (m + n))) w := by
  have := ex_addw (P := P) (w := w) (dst := dst) (T := T) (pos := pos) (after := after) (g := g) (t := t) (t' := t') hx hy
  rwa [i64_eq] at this
theorem ex_subI {x y : Operand} {t t' : TypeId} {m n : Int} (hx : σ.ev x = some (.int .i64 m)) (hy : σ.ev y = some (.int .i64 n)) :
    Ex P σ ⟨dst, .binOp .sub t x y t', T, pos, after, g⟩ w (.int .i64 (i64 (m - n))) w := by
  have := ex_subw (P := P) (w := w) (dst := dst) (T := T) (pos := pos) (after := after) (g := g) (t := t) (t' := t') hx hy
  rwa [i64_eq] at this
/-- Quotient and remainder of what isn't negative. -/
theorem ex_quoN {x y : Operand} {t t' : TypeId} {k : IntKind} {m n : Nat} {x' z : Int} (hx : σ.ev x = some (.int k x')) (hy : σ.ev y = some (.int k z)) (hm : x' = ((m : Nat) : Int)) (hz : z = ((n : Nat) : Int)) (hn : 0 < n) (hmax : (m : Int) ≤ k.max) :
    Ex P σ ⟨dst, .binOp .quo t x y t', T, pos, after, g⟩ w (.int k ((m / n : Nat) : Int)) w := fun ρ h => by
  subst hm hz
  have hmin : k.min ≤ 0 := by cases k <;> simp [IntKind.min, IntKind.signed, IntKind.bits]
  have hle : m / n ≤ m := Nat.div_le_self _ _
  generalize hq : m / n = q at *
  have hr : k.wrap ((q : Nat) : Int) = ((q : Nat) : Int) := wrap_of (by omega) (by omega)
  simp only [execOp, h x _ hx, h y _ hy]
  simp only [eqGuard, Go.binOp, Op.intDiv, Sem.run_bind, Sem.run_pure, Result.andThen_ok]
  have : (Int.tdiv (m : Int) n) = ((q : Nat) : Int) := by rw [Int.tdiv_eq_ediv_of_nonneg (by omega), ← hq]; rfl
  simp [this, hr, show ¬ (n : Nat) = 0 by omega]
theorem ex_remN {x y : Operand} {t t' : TypeId} {k : IntKind} {m n : Nat} {x' z : Int} (hx : σ.ev x = some (.int k x')) (hy : σ.ev y = some (.int k z)) (hm : x' = ((m : Nat) : Int)) (hz : z = ((n : Nat) : Int)) (hn : 0 < n) :
    Ex P σ ⟨dst, .binOp .rem t x y t', T, pos, after, g⟩ w (.int k ((m % n : Nat) : Int)) w := fun ρ h => by
  subst hm hz
  simp only [execOp, h x _ hx, h y _ hy]
  simp only [eqGuard, Go.binOp, Op.intDiv, Sem.run_bind, Sem.run_pure, Result.andThen_ok]
  have : (Int.tmod (m : Int) n) = ((m % n : Nat) : Int) := by rw [Int.tmod_eq_emod_of_nonneg (by omega)]; rfl
  simp [this, show ¬ (n : Nat) = 0 by omega]

/-! Floats. -/
theorem ex_fcmp {bop : BinOp} {x y : Operand} {t t' : TypeId} {k : FloatKind} {m n : Nat} {b : Bool} (hop : bop = .eql ∨ bop = .neq ∨ bop = .lss ∨ bop = .leq ∨ bop = .gtr ∨ bop = .geq) (hx : σ.ev x = some (.float k m)) (hy : σ.ev y = some (.float k n))
    (hb : ∀ w : World, (Op.floatCmp bop k m n).run P w = .ok (.bool b) w) : Ex P σ ⟨dst, .binOp bop t x y t', T, pos, after, g⟩ w (.bool b) w := fun ρ h => by
  simp only [execOp, h x _ hx, h y _ hy]
  rcases hop with rfl | rfl | rfl | rfl | rfl | rfl <;> simp [eqGuard, Go.binOp, hb]
theorem ex_fneq {x y : Operand} {t t' : TypeId} {k : FloatKind} {m n : Nat} (hx : σ.ev x = some (.float k m)) (hy : σ.ev y = some (.float k n)) :
    Ex P σ ⟨dst, .binOp .neq t x y t', T, pos, after, g⟩ w (.bool (k.format.order m n != some .eq)) w := ex_fcmp (.inr (.inl rfl)) hx hy (fun w => by simp [Op.floatCmp])
theorem ex_flss {x y : Operand} {t t' : TypeId} {k : FloatKind} {m n : Nat} (hx : σ.ev x = some (.float k m)) (hy : σ.ev y = some (.float k n)) :
    Ex P σ ⟨dst, .binOp .lss t x y t', T, pos, after, g⟩ w (.bool (k.format.order m n == some .lt)) w := ex_fcmp (.inr (.inr (.inl rfl))) hx hy (fun w => by simp [Op.floatCmp])

/-! Functions without a body. -/
theorem ex_extern {f : FuncId} {fn : Func} {xs : Array Operand} {ats : Array TypeId} {vs : List Value} {v : Value} {e : Array Value → Sem Value} {w' : World} (hf : P.funcs[f]? = some fn) (hn : (fn.name == "runtime.NumGoroutine") = false) (hb : fn.body.isNone = true)
    (hnx : (Extern.findNext fn).isNone = true) (he : Extern.find fn = some e) (hxs : xs.toList.map σ.ev = vs.map some) (hr : (e vs.toArray).run P w = .ok v w') : Ex P σ ⟨dst, .call ⟨.value (.func f), xs, ats⟩, T, pos, after, g⟩ w v w' := fun ρ h => by
  have hargs : xs.map ρ = vs.toArray := by
    apply Array.ext'
    rw [Array.toList_map]
    clear hr
    generalize xs.toList = l at *
    clear xs
    revert vs
    induction l with
    | nil => intro vs hxs; cases vs with | nil => rfl | cons _ _ => simp at hxs
    | cons x l ih =>
      intro vs hxs
      cases vs with
      | nil => simp at hxs
      | cons v vs =>
        simp only [List.map_cons, List.cons.injEq] at hxs
        simp only [List.map_cons, h x v hxs.1]
        exact congrArg _ (ih hxs.2)
  have hn' : ¬ fn.name = "runtime.NumGoroutine" := by simpa using hn
  have hnx' : Extern.findNext fn = none := by simpa using hnx
  have hfun : ρ (.func f) = .func (.func f) #[] #[] := h _ _ rfl
  have hcl : (callFunc f vs.toArray).run P w = .ok (.value v) w' := by
    simp only [callFunc, Sem.run_bind, run_program, Result.andThen_ok, hf, hn, hb, hnx', he, run_mark, Sem.run_pure]
    simp [hr]
  simp only [execOp, resolve, hargs, hfun]
  simp [Deferred.ofValue, invoke, hcl]
end

/-! ### Bytes -/
/-- A row of bytes. -/
def RB : Rel Nat := fun _ _ vs n => vs = [.int .u8 (n : Int)] ∧ n < 256
theorem RB.pers : RB.Pers := fun _ _ _ _ _ _ h => h
theorem RB.fresh : RB.Fresh := fun _ _ _ _ _ _ h => h
theorem RB.one : ∀ X w vs d, RB X w vs d → ∀ u, u ∈ vs → u.oneCell' = true := fun _ _ _ _ h u hu => by
  obtain ⟨rfl, _⟩ := h; simp at hu; subst hu; rfl
def bstr (ds : List Nat) : ByteArray := ⟨(ds.map UInt8.ofNat).toArray⟩
theorem bstr_inj {a b : List Nat} (ha : ∀ x, x ∈ a → x < 256) (hb : ∀ x, x ∈ b → x < 256) : bstr a = bstr b ↔ a = b := by
  constructor
  · intro h
    have h1 : a.map UInt8.ofNat = b.map UInt8.ofNat := by
      have := congrArg (fun x : ByteArray => x.data.toList) h
      simpa [bstr] using this
    clear h
    induction a generalizing b with
    | nil => cases b with | nil => rfl | cons _ _ => simp at h1
    | cons x a ih =>
      cases b with
      | nil => simp at h1
      | cons y b =>
        simp only [List.map_cons, List.cons.injEq] at h1
        have hx := ha x (by simp)
        have hy := hb y (by simp)
        have h2 := congrArg UInt8.toNat h1.1
        simp [UInt8.toNat_ofNat'] at h2
        rw [ih (fun z hz => ha z (List.mem_cons_of_mem _ hz)) (fun z hz => hb z (List.mem_cons_of_mem _ hz)) h1.2]
        congr 1
        omega
  · intro h; rw [h]

section
variable {P : Program} {σ : Env} {w : World} {dst : Option Nat} {T : TypeId} {pos : String} {after : Array Edge} {g : Option (Nat × Bool)}
theorem fold_bstr : ∀ (ds : List Nat) (s : ByteArray), (ds.map (fun n : Nat => (n : Int))).foldl (fun r n => r.push (UInt8.ofNat n.toNat)) s = ⟨s.data ++ (ds.map UInt8.ofNat).toArray⟩
  | [], s => by simp
  | d :: ds, s => by
    simp only [List.map_cons, List.foldl_cons]
    rw [fold_bstr ds]
    simp [ByteArray.push]
/-- string(b). -/
theorem ex_bstr {x : Operand} {t t' e : TypeId} {v : Value} {X : List Nat} {ds : List Nat} (hx : σ.ev x = some v) (hv : RSl 1 RB X w v ds) (ht : P.underlying t = some (.slice e)) (he : P.underlying e = some (.int .u8)) (ht' : P.underlying t' = some .string) :
    Ex P σ ⟨dst, .convert t t' x, T, pos, after, g⟩ w (.string (bstr ds)) w := fun ρ h => by
  obtain ⟨a, c, rfl, hc, hr⟩ := hv
  have hrun : (Conv.bytesToString (.slice a ds.length c)).run P w = .ok (.string (bstr ds)) w := by
    cases a with
    | none =>
      cases ds with
      | nil => simp [Conv.bytesToString, bstr]; rfl
      | cons d ds => obtain ⟨_, _, _, h, _⟩ := hr 0 (by simp); cases h
    | some a =>
      have hl : (loadCells a ds.length).run P w = .ok ((ds.map (fun n : Nat => (n : Int))).map (Value.int .u8)).toArray w := by
        cases hd : ds with
        | nil => simp [loadCells, loadCellsFrom]
        | cons d0 dr =>
          obtain ⟨b, o, _, ha, _⟩ := hr 0 (by simp [hd])
          cases ha
          rw [← hd]
          have := run_loadCellsFrom (P := P) (w := w) b o ds.length 0 #[] (ds.map fun n : Nat => Value.int .u8 (n : Int)) (by simp) (fun j v hj => by
            simp only [List.getElem?_map, Option.map_eq_some_iff] at hj
            obtain ⟨d, hdj, rfl⟩ := hj
            obtain ⟨hlt, hdd⟩ := List.getElem?_eq_some_iff.1 hdj
            obtain ⟨b', o', vs, ha', _, _, hcs, hvs, _⟩ := hr j hlt
            cases ha'
            have := hcs 0 _ (by rw [hvs]; rfl)
            simpa [hdd] using this)
          simpa [loadCells, Function.comp_def] using this
      rw [run_bytesToString w a ds.length c _ hl, fold_bstr]
      simp [bstr]
  simp [execOp, h x _ hx, run_convert_bytes_string w t t' e a ds.length c ht he ht', hrun]

/-- s[l:h]. -/
theorem ex_slice {x : Operand} {lo hi : Option Operand} {t e : TypeId} {sz a len c} {l h : Nat} {lv hv : Option Int} (hx : σ.ev x = some (.slice a len c)) (ht : P.underlying t = some (.slice e)) (hs : sizeB P e = some sz)
    (hlo : (lo.map σ.ev) = lv.map (fun n => some (Value.int .i64 n))) (hhi : (hi.map σ.ev) = hv.map (fun n => some (Value.int .i64 n))) (hl : lv.getD 0 = (l : Nat)) (hh : hv.getD len = (h : Nat)) (hlh : l ≤ h) (hhc : h ≤ c) (hlen : len ≤ c) :
    Ex P σ ⟨dst, .slice t x lo hi none, T, pos, after, g⟩ w (.slice (if c = l then a else a.map (·.add (l * sz))) (h - l) (c - l)) w := fun ρ hρ => by
  obtain ⟨inf, hin, hsz⟩ := Option.map_eq_some_iff.1 hs
  have hL : lo.map ρ = lv.map (fun n => Value.int .i64 n) := by
    cases lo <;> cases lv <;> simp_all
    exact hρ _ _ hlo
  have hH : hi.map ρ = hv.map (fun n => Value.int .i64 n) := by
    cases hi <;> cases hv <;> simp_all
    exact hρ _ _ hhi
  have hb : (Instr.sliceBounds true len c (lo.map ρ) (hi.map ρ) none).run P w = .ok (l, h, c) w := by
    rw [hL, hH]
    cases lv with
    | none =>
      have : l = 0 := by simpa using hl.symm
      subst this
      cases hv with
      | none => have : h = len := by simp at hh; omega
                subst this; simp [Instr.sliceBounds]
      | some n =>
        have : n = (h : Int) := by simpa using hh
        subst this
        simp [Instr.sliceBounds, Instr.sliceBound, asIntOf, hhc]
    | some m =>
      have : m = (l : Int) := by simpa using hl
      subst this
      cases hv with
      | none => have : h = len := by simp at hh; omega
                subst this; simp [Instr.sliceBounds, Instr.sliceBound, asIntOf, hlh]
      | some n =>
        have : n = (h : Int) := by simpa using hh
        subst this
        simp [Instr.sliceBounds, Instr.sliceBound, asIntOf, hhc, hlh]
  simp only [execOp, hρ x _ hx, Instr.sliceAt, run_underlying ht, Sem.run_bind, Result.andThen_ok, Instr.slice, hb]
  simp [sizeOf, typeInfo, hin, hsz, hb]
end

/-! ### Slices made -/
section
variable {P : Program} {N : NN} {R : Post} {σ : Env} {w : World} {ops : Array Oper} {rest : List Oper} {d : Nat} {T : TypeId} {pos : String} {after : Array Edge}
/-- type of the elements, their cells, their bytes, their zero. -/
def makeB (P : Program) (t : TypeId) : Option (TypeId × Nat × Nat × Array Value) :=
  match P.underlying t with
  | some (.slice e) => match P.info? e with
    | some i => match i.zero with
      | some z => if z.cells.size = i.size then some (e, i.size, i.bytes, z.cells) else none
      | none => none
    | none => none
  | _ => none
def zeros (z : Array Value) (n : Nat) : List Value := (List.replicate n z.toList).flatten
theorem zeros_len (z : Array Value) (n : Nat) : (zeros z n).length = n * z.size := by simp [zeros]
theorem madeCells_get {z : Array Value} {n k : Nat} (hz : 0 < z.size) (h : k < n) : (madeCells z n)[k]? = some (z[k % z.size]'(Nat.mod_lt _ hz)) := by
  simp [madeCells, h, Nat.mod_lt _ hz]
theorem zeros_get {z : Array Value} : ∀ {n k : Nat} (hz : 0 < z.size), k < n * z.size → (zeros z n)[k]? = some (z[k % z.size]'(Nat.mod_lt _ hz))
  | 0, k, _, h => by simp at h
  | n + 1, k, hz, h => by
    have e : zeros z (n + 1) = z.toList ++ zeros z n := by simp [zeros, List.replicate_succ]
    rw [e, List.getElem?_append]
    split
    · rename_i hk
      simp at hk
      simp [hk, Nat.mod_eq_of_lt hk]
    · rename_i hk
      simp at hk
      rw [Nat.add_mul] at h
      rw [zeros_get hz (by simp; omega)]
      simp only [Array.length_toList, Option.some.injEq]
      congr 1
      rw [Nat.mod_eq_sub_mod hk]
theorem madeCells_zeros {z : Array Value} {n l : Nat} (hz : 0 < z.size) (hl : l ≤ n) : ((madeCells z (n * z.size)).toList.take (l * z.size)) = zeros z l := by
  have hle : l * z.size ≤ n * z.size := Nat.mul_le_mul_right _ hl
  apply List.ext_getElem?
  intro k
  rw [List.getElem?_take]
  split
  · rename_i hk
    rw [zeros_get hz hk]
    have := madeCells_get (z := z) (n := n * z.size) (k := k) hz (by omega)
    simpa using this
  · rename_i hk
    rw [List.getElem?_eq_none]
    rw [zeros_len]; omega

theorem wl_make {t e : TypeId} {x y : Operand} {kl kc : IntKind} {lv cv : Int} {sz bytes len c : Nat} {z : Array Value} (hd : Nat.blt d N.1 = true) (hx : σ.ev x = some (.int kl lv)) (hy : σ.ev y = some (.int kc cv)) (hf : makeB P t = some (e, sz, bytes, z))
    (hlv : lv = (len : Nat)) (hcv : cv = (c : Nat)) (hlc : len ≤ c) (hz : 0 < z.size) (hb : bytes * c ≤ 140737488355328) (hcm : c ≤ 140737488355328)
    (h : ∀ b w', OwnS w' e sz (some ⟨b, 0, none⟩) len c (zeros z len) (some b) → w.heap.size = b → Evo [] w w' → WL P N ops R rest ((d, .slice (some ⟨b, 0, none⟩) len c) :: σ) w') :
    WL P N ops R (⟨some d, .makeSlice t x y, T, pos, after, none⟩ :: rest) σ w := by
  subst hlv hcv
  simp only [makeB] at hf
  split at hf <;> try cases hf
  rename_i e' ht
  split at hf <;> try cases hf
  rename_i i hi
  split at hf <;> try cases hf
  rename_i z' hz'
  split at hf <;> try cases hf
  rename_i hsz
  have hbb : (i.bytes : Int) * (c : Int) ≤ 281474976710656 := by
    have : ((i.bytes * c : Nat) : Int) ≤ 281474976710656 := by omega
    rwa [Int.natCast_mul] at this
  have hr := run_make (P := P) w t _ i _ ht hi hz' kl kc len c (by omega) (by omega) hbb (by omega)
  simp only [Int.toNat_natCast] at hr
  refine wl_val (w' := w.alloc (.cells (madeCells z'.cells (c * i.size)) e)) hd (fun ρ ha => ?_) (h w.heap.size _ ⟨by rw [zeros_len, hsz], .inr ⟨w.heap.size, c, _, rfl, rfl, heap_alloc_new w _, hlc, by unfold maxLen; omega, size_madeCells _ _, ?_⟩⟩ rfl (evo_alloc w _))
  · simp [execOp, ha x _ hx, ha y _ hy, hr]
  · rw [← hsz]; exact madeCells_zeros hz hlc
end
end Go.W
