/- Lists of yes and no, and what a tree matches place by place: plain. -/
import Derived.Test.YtgboffefbpligaaPf
namespace Go.Proofs.Ytgboffefbpligaa
open Go.W Go.RowKit
set_option linter.unusedVariables false
set_option linter.unusedSimpArgs false

open Classical in
/-- Whether p. -/
noncomputable def tf (p : Prop) : Bool := decide p
theorem tf_iff {p : Prop} : tf p = true ↔ p := by unfold tf; simp
theorem tf_no {p : Prop} : tf p = false ↔ ¬ p := by unfold tf; simp
theorem tf_true : tf True = true := tf_iff.2 trivial
theorem tf_false : tf False = false := tf_no.2 id
theorem tf_congr {p q : Prop} (h : p ↔ q) : tf p = tf q := by rw [Bool.eq_iff_iff, tf_iff, tf_iff]; exact h
noncomputable def bl (n : Nat) (f : Nat → Prop) : List Bool := (List.range n).map fun j => tf (f j)
abbrev bvs (l : List Bool) : List Value := l.map Value.bool
theorem bl_len (n : Nat) (f : Nat → Prop) : (bl n f).length = n := by simp [bl]
theorem bvs_len (n : Nat) (f : Nat → Prop) : (bvs (bl n f)).length = n := by simp [bl]
theorem bl_get {n k : Nat} {f : Nat → Prop} (h : k < n) : (bl n f)[k]? = some (tf (f k)) := by simp [bl, h]
theorem bvs_get {n k : Nat} {f : Nat → Prop} (h : k < n) : (bvs (bl n f))[k]? = some (.bool (tf (f k))) := by simp [bl, h]
theorem bl_congr {n : Nat} {f g : Nat → Prop} (h : ∀ j, j < n → (f j ↔ g j)) : bl n f = bl n g := by
  apply List.ext_getElem?
  intro j
  by_cases hj : j < n
  · rw [bl_get hj, bl_get hj, tf_congr (h j hj)]
  · rw [List.getElem?_eq_none (by rw [bl_len]; omega), List.getElem?_eq_none (by rw [bl_len]; omega)]
theorem bvs_set {n k : Nat} {f g : Nat → Prop} {x : Bool} (hk : k < n) (hx : x = true ↔ g k) (h : ∀ j, j ≠ k → (f j ↔ g j)) : (bvs (bl n f)).set k (.bool x) = bvs (bl n g) := by
  apply List.ext_getElem?
  intro j
  rw [List.getElem?_set]
  by_cases hj : j < n
  · rw [bvs_get hj, bvs_get hj]
    by_cases e : k = j
    · subst e
      rw [if_pos rfl, if_pos (by rw [bvs_len]; exact hk)]
      congr 2
      rw [Bool.eq_iff_iff, tf_iff]; exact hx
    · rw [if_neg e, tf_congr (h j (fun h => e h.symm))]
  · rw [if_neg (by omega), List.getElem?_eq_none (by rw [bvs_len]; omega), List.getElem?_eq_none (by rw [bvs_len]; omega)]
theorem bvs_zero (n : Nat) : zeros #[.bool false] n = bvs (bl n (fun _ => False)) := by
  apply List.ext_getElem?
  intro k
  by_cases h : k < n
  · rw [zeros_get (by decide) (by simpa using h), bvs_get h, tf_no.2 (fun h => h)]; simp
  · rw [List.getElem?_eq_none (by rw [zeros_len]; simp; omega), List.getElem?_eq_none (by rw [bvs_len]; omega)]

/-! ### what a tree matches -/
theorem mt_eq (rs : List Int) (x : Rx) (i j : Nat) : Mt rs x i j ↔
    ((x.kind = 1 ∧ i = j) ∨ (x.kind = 2 ∧ j = i + 1 ∧ rs[i]? = some x.r) ∨ (x.kind = 3 ∧ j = i + 1 ∧ ∃ c, rs[i]? = some c ∧ InR c x.ranges) ∨ (x.kind = 4 ∧ Mts rs x.kids i j) ∨ (x.kind = 5 ∧ MtA rs x.kids i j) ∨
    (x.kind = 6 ∧ ∃ c, x.min.toNat ≤ c ∧ (x.max = -1 ∨ c ≤ x.max.toNat) ∧ It (Mts rs x.kids) c i j) ∨ (x.kind = 7 ∧ Mts rs x.kids i j) ∨ (8 ≤ x.kind ∧ i = j ∧ Plc rs x.kind i)) := by
  cases x; rw [Mt]; rfl
theorem mts_one {rs : List Int} {x : Rx} {i j : Nat} : Mts rs [x] i j ↔ Mt rs x i j := by
  rw [Mts]
  constructor
  · rintro ⟨k, h1, h2⟩; rw [Mts] at h2; subst h2; exact h1
  · exact fun h => ⟨j, h, by rw [Mts]⟩
theorem mts_snoc {rs : List Int} {x : Rx} : ∀ {l : List Rx} {i j : Nat}, Mts rs (l ++ [x]) i j ↔ ∃ k, Mts rs l i k ∧ Mt rs x k j
  | [], i, j => by
    rw [List.nil_append, mts_one]
    constructor
    · exact fun h => ⟨i, by rw [Mts], h⟩
    · rintro ⟨k, h1, h2⟩; rw [Mts] at h1; subst h1; exact h2
  | y :: l, i, j => by
    rw [List.cons_append, Mts]
    constructor
    · rintro ⟨m, h1, h2⟩
      obtain ⟨k, h3, h4⟩ := mts_snoc.1 h2
      exact ⟨k, by rw [Mts]; exact ⟨m, h1, h3⟩, h4⟩
    · rintro ⟨k, h1, h2⟩
      rw [Mts] at h1
      obtain ⟨m, h3, h4⟩ := h1
      exact ⟨m, h3, mts_snoc.2 ⟨k, h4, h2⟩⟩
theorem mta_snoc {rs : List Int} {x : Rx} : ∀ {l : List Rx} {i j : Nat}, MtA rs (l ++ [x]) i j ↔ MtA rs l i j ∨ Mt rs x i j
  | [], i, j => by
    have h0 : ¬ MtA rs [] i j := by rw [MtA]; exact id
    rw [List.nil_append, MtA]
    constructor
    · rintro (h | h); exact .inr h; exact (h0 h).elim
    · rintro (h | h); exact (h0 h).elim; exact .inl h
  | y :: l, i, j => by rw [List.cons_append, MtA, MtA, mta_snoc, or_assoc]
theorem it_snoc {R : Nat → Nat → Prop} {c i j : Nat} : It R (c + 1) i j ↔ ∃ k, It R c i k ∧ R k j := by
  rw [It.add]
  constructor
  · rintro ⟨k, h1, m, h2, h3⟩; cases h3; exact ⟨k, h1, h2⟩
  · rintro ⟨k, h1, h2⟩; exact ⟨k, h1, j, h2, rfl⟩
theorem it_le {R : Nat → Nat → Prop} {N : Nat} (hR : ∀ i j, R i j → i ≤ N → j ≤ N) : ∀ {c i j}, It R c i j → i ≤ N → j ≤ N
  | 0, i, j, h, hi => by cases h; exact hi
  | c + 1, i, j, ⟨k, h1, h2⟩, hi => it_le hR h2 (hR _ _ h1 hi)
theorem get_lt {rs : List Int} {i : Nat} {c : Int} (h : rs[i]? = some c) : i < rs.length := (List.getElem?_eq_some_iff.1 h).1
mutual
theorem mt_le (rs : List Int) : ∀ (x : Rx) (i j : Nat), Mt rs x i j → i ≤ rs.length → j ≤ rs.length
  | .mk k r g mn mx lz cp nm ks, i, j, h, hi => by
    rw [Mt] at h
    rcases h with ⟨_, rfl⟩ | ⟨_, rfl, h⟩ | ⟨_, rfl, c, h, _⟩ | ⟨_, h⟩ | ⟨_, h⟩ | ⟨_, c, _, _, h⟩ | ⟨_, h⟩ | ⟨_, rfl, _⟩
    · exact hi
    · exact get_lt h
    · exact get_lt h
    · exact mts_le rs ks i j h hi
    · exact mta_le rs ks i j h hi
    · exact it_le (mts_le rs ks) h hi
    · exact mts_le rs ks i j h hi
    · exact hi
theorem mts_le (rs : List Int) : ∀ (l : List Rx) (i j : Nat), Mts rs l i j → i ≤ rs.length → j ≤ rs.length
  | [], i, j, h, hi => by rw [Mts] at h; subst h; exact hi
  | x :: xs, i, j, h, hi => by
    rw [Mts] at h
    obtain ⟨k, h1, h2⟩ := h
    exact mts_le rs xs k j h2 (mt_le rs x i k h1 hi)
theorem mta_le (rs : List Int) : ∀ (l : List Rx) (i j : Nat), MtA rs l i j → i ≤ rs.length → j ≤ rs.length
  | [], i, j, h, hi => by rw [MtA] at h; exact h.elim
  | x :: xs, i, j, h, hi => by
    rw [MtA] at h
    rcases h with h | h
    · exact mt_le rs x i j h hi
    · exact mta_le rs xs i j h hi
end

/-! ### again and again -/
theorem it_fix {R : Nat → Nat → Prop} {i k : Nat} (h : ∀ j, It R (k + 1) i j ↔ It R k i j) (m : Nat) : ∀ j, It R (k + m) i j ↔ It R k i j := by
  induction m with
  | zero => exact fun j => Iff.rfl
  | succ m ih =>
    intro j
    rw [show k + (m + 1) = (k + m) + 1 from by omega, it_snoc]
    constructor
    · rintro ⟨a, h1, h2⟩; exact (h j).1 (it_snoc.2 ⟨a, (ih a).1 h1, h2⟩)
    · intro h1
      obtain ⟨a, h2, h3⟩ := it_snoc.1 ((h j).2 h1)
      exact ⟨a, (ih a).2 h2, h3⟩
/-- All that is reached in from a to b times. -/
def Btw (R : Nat → Nat → Prop) (a b i j : Nat) : Prop := ∃ c, a ≤ c ∧ c ≤ b ∧ It R c i j
theorem btw_shut {R : Nat → Nat → Prop} {a b i : Nat} (hab : a ≤ b) (h : ∀ j, It R (b + 1) i j → Btw R a b i j) : ∀ c, a ≤ c → ∀ j, It R c i j → Btw R a b i j := by
  intro c
  induction c with
  | zero => intro hc j hj; exact ⟨0, hc, by omega, hj⟩
  | succ c ih =>
    intro hc j hj
    by_cases e : c + 1 ≤ b
    · exact ⟨c + 1, hc, e, hj⟩
    · obtain ⟨k, h1, h2⟩ := it_snoc.1 hj
      obtain ⟨d, h3, h4, h5⟩ := ih (by omega) k h1
      by_cases e2 : d = b
      · subst e2; exact h j (it_snoc.2 ⟨k, h5, h2⟩)
      · exact ⟨d + 1, by omega, by omega, it_snoc.2 ⟨k, h5, h2⟩⟩
theorem btw_succ {R : Nat → Nat → Prop} {a b i j : Nat} (hab : a ≤ b) : Btw R a (b + 1) i j ↔ Btw R a b i j ∨ It R (b + 1) i j := by
  constructor
  · rintro ⟨c, h1, h2, h3⟩
    by_cases e : c = b + 1
    · subst e; exact .inr h3
    · exact .inl ⟨c, h1, by omega, h3⟩
  · rintro (⟨c, h1, h2, h3⟩ | h)
    · exact ⟨c, h1, by omega, h3⟩
    · exact ⟨b + 1, by omega, by omega, h⟩
theorem btw_self {R : Nat → Nat → Prop} {a i j : Nat} : Btw R a a i j ↔ It R a i j := by
  constructor
  · rintro ⟨c, h1, h2, h3⟩
    obtain rfl : c = a := by omega
    exact h3
  · exact fun h => ⟨a, by omega, by omega, h⟩
instance (c : Int) : Decidable (wordI c) := by unfold wordI; infer_instance
end Go.Proofs.Ytgboffefbpligaa
