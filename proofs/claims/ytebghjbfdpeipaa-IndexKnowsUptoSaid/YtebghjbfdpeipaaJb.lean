/- IndexKnows, plain: strings: less and not less, names of labels, runes. -/
import Derived.Test.YtebghjbfdpeipaaFw9
import Derived.Laws.Cover1
import Derived.Sort.Walk0
namespace Go.W
section
variable {P : Program} {σ : Env} {w : World} {dst : Option Nat} {T : TypeId} {pos : String} {after : Array Edge} {g : Option (Nat × Bool)}
theorem ex_sgeq {x y : Operand} {t t' : TypeId} {a b : ByteArray} (hx : σ.ev x = some (.string a)) (hy : σ.ev y = some (.string b)) : Ex P σ ⟨dst, .binOp .geq t x y t', T, pos, after, g⟩ w (.bool (decide (¬ a.toList < b.toList))) w := fun ρ h => by
  have : (!Op.bytesLess a.toList b.toList) = decide (¬ a.toList < b.toList) := by rw [Go.Proofs.bytesLess_eq, decide_not]
  simp [execOp, h x _ hx, h y _ hy, eqGuard, Go.binOp_string_geq, this]
theorem ex_sleq {x y : Operand} {t t' : TypeId} {a b : ByteArray} (hx : σ.ev x = some (.string a)) (hy : σ.ev y = some (.string b)) : Ex P σ ⟨dst, .binOp .leq t x y t', T, pos, after, g⟩ w (.bool (decide (a.toList < b.toList ∨ a.toList = b.toList))) w := fun ρ h => by
  have : (Op.bytesLess a.toList b.toList || a.toList == b.toList) = decide (a.toList < b.toList ∨ a.toList = b.toList) := by
    rw [Go.Proofs.bytesLess_eq, Bool.eq_iff_iff]; simp
  simp [execOp, h x _ hx, h y _ hy, eqGuard, Go.binOp_string_leq, this]
end
end Go.W
namespace Go.Proofs.Ytebghjbfdpeipaa
open Go.W Go.RowKit
set_option linter.unusedVariables false

theorem toList_inj {a b : ByteArray} (h : a.toList = b.toList) : a = b := by
  rw [Go.ByteArray.toList_eq, Go.ByteArray.toList_eq] at h
  cases a; cases b
  simpa [Array.toList_inj] using h
def letterN (c : Nat) : Prop := (97 ≤ c ∧ c ≤ 122) ∨ (65 ≤ c ∧ c ≤ 90) ∨ c = 95
instance (c : Nat) : Decidable (letterN c) := by unfold letterN; infer_instance
def nameN (c : Nat) : Prop := letterN c ∨ (48 ≤ c ∧ c ≤ 57)
instance (c : Nat) : Decidable (nameN c) := by unfold nameN; infer_instance
def NameEnd (s : ByteArray) (k : Nat) : Prop := k ≤ s.size ∧ (∀ j, j < k → nameN (sb s j)) ∧ (k < s.size → ¬ nameN (sb s k))
def LabelOk (s : ByteArray) : Prop := 0 < s.size ∧ letterN (sb s 0) ∧ ∀ j, j < s.size → nameN (sb s j)
instance (s : ByteArray) : Decidable (LabelOk s) := by unfold LabelOk; infer_instance
theorem label_end {s : ByteArray} {k : Nat} (h : NameEnd s k) : (k = s.size ↔ ∀ j, j < s.size → nameN (sb s j)) := by
  constructor
  · rintro rfl; exact h.2.1
  · intro ha
    by_cases hk : k < s.size
    · exact absurd (ha k hk) (h.2.2 hk)
    · have := h.1; omega
/-- The rune at a place stands there itself. -/
def RepAt (s : ByteArray) (p : Nat) : Prop := p + 3 ≤ s.size ∧ s.extract p (p + 3) = (ByteArray.mk #[239, 191, 189])
instance (s : ByteArray) (p : Nat) : Decidable (RepAt s p) := by unfold RepAt; infer_instance
def utfFrom (s : ByteArray) : Nat → Nat → Bool
  | 0, _ => true
  | f + 1, p => if p < s.size then if (Utf8.decode s p).1 = 65533 ∧ ¬ RepAt s p then false else utfFrom s f (p + (Utf8.decode s p).2) else true
def utfOk (s : ByteArray) : Bool := utfFrom s (s.size + 1) 0
abbrev LB := ByteArray × ByteArray
def lbOk (ls : List LB) : Prop := ∀ i (h : i < ls.length), LabelOk ls[i].1 ∧ ls[i].2 ≠ ByteArray.empty ∧ utfOk ls[i].2 = true ∧ ∀ j (hj : j < ls.length), i = j + 1 → ls[j].1.toList < ls[i].1.toList
def lbOkTo (ls : List LB) (n : Nat) : Prop := ∀ i (h : i < ls.length), i < n → LabelOk ls[i].1 ∧ ls[i].2 ≠ ByteArray.empty ∧ utfOk ls[i].2 = true ∧ ∀ j (hj : j < ls.length), i = j + 1 → ls[j].1.toList < ls[i].1.toList
theorem lbOkTo.succ {ls : List LB} {n : Nat} (h : lbOkTo ls n) (hn : n < ls.length) (h1 : LabelOk ls[n].1) (h2 : ls[n].2 ≠ ByteArray.empty) (h3 : utfOk ls[n].2 = true) (h4 : ∀ j (hj : j < ls.length), n = j + 1 → ls[j].1.toList < ls[n].1.toList) : lbOkTo ls (n + 1) := fun i hi hin => by
  by_cases e : i = n
  · subst e; exact ⟨h1, h2, h3, h4⟩
  · exact h i hi (by omega)
theorem list_lt_trans {a b c : List UInt8} (h1 : a < b) (h2 : b < c) : a < c := List.lt_trans h1 h2
theorem lbOk.rise {ls : List LB} (h : lbOk ls) : ∀ (j i : Nat) (hj : j < ls.length) (hi : i < ls.length), j < i → ls[j].1.toList < ls[i].1.toList := by
  intro j i hj hi hlt
  induction i with
  | zero => omega
  | succ i ih =>
    have h1 := (h (i + 1) hi).2.2.2 i (by omega) rfl
    by_cases e : j = i
    · subst e; exact h1
    · exact list_lt_trans (ih (by omega) (by omega)) h1
theorem lbOk.uniq {ls : List LB} (h : lbOk ls) {j i : Nat} (hj : j < ls.length) (hi : i < ls.length) (he : ls[j].1 = ls[i].1) : j = i := by
  rcases Nat.lt_trichotomy j i with h1 | h1 | h1
  · have := h.rise j i hj hi h1; rw [he] at this; exact absurd this (List.lt_irrefl _)
  · exact h1
  · have := h.rise i j hi hj h1; rw [he] at this; exact absurd this (List.lt_irrefl _)
theorem decode_pos (s : ByteArray) (p : Nat) (h : p < s.size) : 1 ≤ (Utf8.decode s p).2 := by
  by_cases ha : (s[p]'h).toNat < 128
  · rw [decode_ascii s p h ha]; exact Nat.le_refl 1
  · exact (decode_high s p h (by omega)).2
theorem utf_step {s : ByteArray} {f p : Nat} (hp : p < s.size) (h : ¬ ((Utf8.decode s p).1 = 65533 ∧ ¬ RepAt s p)) : utfFrom s (f + 1) p = utfFrom s f (p + (Utf8.decode s p).2) := by
  rw [utfFrom, if_pos hp, if_neg h]
theorem utf_bad {s : ByteArray} {f p : Nat} (hp : p < s.size) (h : (Utf8.decode s p).1 = 65533) (h2 : ¬ RepAt s p) : utfFrom s (f + 1) p = false := by
  rw [utfFrom, if_pos hp, if_pos ⟨h, h2⟩]
theorem utf_end {s : ByteArray} {f p : Nat} (hp : ¬ p < s.size) : utfFrom s f p = true := by
  cases f with
  | zero => rfl
  | succ f => rw [utfFrom, if_neg hp]
/-- A label: its two strings. -/
def RLB : Rel LB := fun _ _ vs d => vs = [.string d.1, .string d.2] ∧ d.1.size ≤ 1000000000 ∧ d.2.size ≤ 1000000000
theorem RLB.pers : RLB.Pers := fun _ _ _ _ _ _ h => h
theorem RLB.fresh : RLB.Fresh := fun _ _ _ _ _ _ h => h
end Go.Proofs.Ytebghjbfdpeipaa
