/- Slices against nil, runes to strings. -/
import Derived.Test.YtgboffefbpligaaFw9
namespace Go.W
open Go.RowKit
set_option linter.unusedVariables false
set_option linter.unusedSimpArgs false
set_option linter.unusedSectionVars false
section
variable {P : Program} {σ : Env} {w : World} {dst : Option Nat} {T : TypeId} {pos : String} {after : Array Edge} {g : Option (Nat × Bool)}
theorem run_eqSl (n : Nat) {t e : TypeId} {a : Option Addr} {k c : Nat} (ht : P.underlying t = some (.slice e)) : (Op.equalIn (n + 1) t (.slice a k c) (.slice none 0 0)).run P w = .ok a.isNone w := by
  cases a <;> simp [Op.equalIn, run_underlying ht]
/-- s == nil. -/
theorem ex_eqSl {x y : Operand} {t e t' : TypeId} {a : Option Addr} {k c : Nat} (hx : σ.ev x = some (.slice a k c)) (hy : σ.ev y = some (.slice none 0 0)) (ht : P.underlying t = some (.slice e)) :
    Ex P σ ⟨dst, .binOp .eql t x y t', T, pos, after, g⟩ w (.bool a.isNone) w := fun ρ hρ => by
  have h1 : (Op.equal t (.slice a k c) (.slice none 0 0)).run P w = .ok a.isNone w := run_eqSl 9999 ht
  simp [execOp, hρ x _ hx, hρ y _ hy, eqGuard, Go.binOp, h1]
theorem ex_neqSl {x y : Operand} {t e t' : TypeId} {a : Option Addr} {k c : Nat} (hx : σ.ev x = some (.slice a k c)) (hy : σ.ev y = some (.slice none 0 0)) (ht : P.underlying t = some (.slice e)) :
    Ex P σ ⟨dst, .binOp .neq t x y t', T, pos, after, g⟩ w (.bool (!a.isNone)) w := fun ρ hρ => by
  have h1 : (Op.equal t (.slice a k c) (.slice none 0 0)).run P w = .ok a.isNone w := run_eqSl 9999 ht
  simp [execOp, hρ x _ hx, hρ y _ hy, eqGuard, Go.binOp, h1]
/-- string(r). -/
theorem ex_runeStr {x : Operand} {t t' : TypeId} {k : IntKind} {n : Int} (hx : σ.ev x = some (.int k n)) (ht : P.underlying t = some (.int k)) (ht' : P.underlying t' = some .string) :
    Ex P σ ⟨dst, .convert t t' x, T, pos, after, g⟩ w (.string (Utf8.encode n)) w := fun ρ h => by
  simp [execOp, h x _ hx, convert, run_underlying ht, run_underlying ht', Conv.intToString]
theorem ex_indexAddrA {x i : Operand} {t : TypeId} {k : IntKind} {n sz b o len c : Nat} {a : Option Addr} (hx : σ.ev x = some (.slice a len c)) (hi : σ.ev i = some (.int k (n : Nat))) (ha : a = some ⟨b, o, none⟩) (he : elemB P t = some sz) (hlt : n < len) :
    Ex P σ ⟨dst, .indexAddr t x i, T, pos, after, g⟩ w (.pointer (some ⟨b, o + n * sz, none⟩)) w := by
  subst ha; exact ex_indexAddr hx hi he hlt
/-- s[l:]. -/
theorem ex_ssubFrom {x lo : Operand} {t : TypeId} {s : ByteArray} {lv : Int} {l : Nat} (hx : σ.ev x = some (.string s)) (hlo : σ.ev lo = some (.int .i64 lv)) (ht : P.underlying t = some .string) (hl : lv = (l : Int)) (hlh : l ≤ s.size) :
    Ex P σ ⟨dst, .slice t x (some lo) none none, T, pos, after, g⟩ w (.string (s.extract l s.size)) w := fun ρ hρ => by
  subst hl
  have := run_slice_string_l (P := P) w t s ht .i64 (l : Int) (by omega) (by omega)
  simp only [execOp, hρ x _ hx, Option.map_some, Option.map_none, hρ lo _ hlo, Instr.sliceAt, run_underlying ht, Sem.run_bind, Result.andThen_ok, this, Int.toNat_natCast, Sem.run_pure]
/-- s[:h]. -/
theorem ex_ssubTo {x hi : Operand} {t : TypeId} {s : ByteArray} {hv : Int} {h : Nat} (hx : σ.ev x = some (.string s)) (hhi : σ.ev hi = some (.int .i64 hv)) (ht : P.underlying t = some .string) (hh : hv = (h : Int)) (hhc : h ≤ s.size) :
    Ex P σ ⟨dst, .slice t x none (some hi) none, T, pos, after, g⟩ w (.string (s.extract 0 h)) w := fun ρ hρ => by
  subst hh
  have := run_slice_string_h (P := P) w t s ht .i64 (h : Int) (by omega) (by omega)
  simp only [execOp, hρ x _ hx, Option.map_some, Option.map_none, hρ hi _ hhi, Instr.sliceAt, run_underlying ht, Sem.run_bind, Result.andThen_ok, this, Int.toNat_natCast, Sem.run_pure]
end
end Go.W
