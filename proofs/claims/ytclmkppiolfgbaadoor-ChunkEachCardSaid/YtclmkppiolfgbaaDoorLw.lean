import Derived.Test.YtclmkppiolfgbaaDoorLv
import Derived.Test.YtclmkppiolfgbaaDoorFw5
namespace Go.Proofs.YtclmkppiolfgbaaDoor
open Go.Proofs
open Go.W
attribute [local irreducible] Decidable.decide
set_option linter.unusedSimpArgs false
set_option linter.unusedVariables false



theorem Tryd.elem47 : elemB Tryd.prog 47 = some 1 := by kernel_rfl
theorem Tryd.elem48 : elemB Tryd.prog 48 = some 1 := by kernel_rfl
theorem own_cell1 {w : World} {e : TypeId} {a : Option Addr} {n c : Nat} {ys : List Value} {ob : Option Nat} (h : OwnS w e 1 a n c ys ob) {k : Nat} {v : Value} (hk : ys[k]? = some v) : ∃ g, ob = some g ∧ a = some ⟨g, 0, none⟩ ∧ w.cell? ⟨g, 0 + k * 1, none⟩ = some v := by
  have hl := h.1
  have hkl := (List.getElem?_eq_some_iff.1 hk).1
  obtain ⟨g, h1, h2, h3⟩ := h.cells (by omega)
  exact ⟨g, h1, h2, by rw [Nat.mul_one]; exact h3 k v hk⟩
theorem inbN {w : World} {e : TypeId} {sz : Nat} {a : Option Addr} {n c j : Nat} {xs : List Value} {ob : Option Nat} {cur : Array Value} (h : OwnS w e sz a n c xs ob) (hs : cur.size = c * sz) (hj : j < n) : 0 + j * sz + sz ≤ cur.size := by
  have h1 := h.le
  have h2 : (j + 1) * sz ≤ c * sz := Nat.mul_le_mul_right _ (by omega)
  rw [Nat.add_mul] at h2; omega
/-- The blocks of several slices. -/
def fobs (M : Nat) (S : Nat → Sl) : List Nat := (List.range M).flatMap fun k => (S k).ob.toList
theorem fobs_mem {M : Nat} {S : Nat → Sl} {y : Nat} : y ∈ fobs M S ↔ ∃ k, k < M ∧ (S k).ob = some y := by
  simp [fobs, List.mem_flatMap]
theorem fobs_nmem {M : Nat} {S : Nat → Sl} {o : Option Nat} (h : ∀ k, k < M → Apart o (S k).ob) : ∀ g, o = some g → g ∉ fobs M S := fun g hg hm => by
  obtain ⟨k, hk, h2⟩ := fobs_mem.1 hm
  exact h k hk g hg h2
theorem fobs_in {M i : Nat} {S : Nat → Sl} (hi : i < M) : ∀ y, y ∈ (S i).ob.toList → y ∈ fobs M S := fun y hy => fobs_mem.2 ⟨i, hi, by simpa using hy⟩
abbrev nilv : Value := .slice none 0 0
def gv (M : Nat) (S : Nat → Sl) (i : Nat) : List Value := (List.range M).map fun k => if k < i then (S k).v else nilv
theorem gv_zero (M : Nat) (S : Nat → Sl) : zeros #[nilv] M = gv M S 0 := by
  simp only [zeros, gv, Nat.not_lt_zero, if_false]
  induction M with
  | zero => rfl
  | succ M ih => rw [List.replicate_succ', List.flatten_append, ih, List.range_succ, List.map_append]; rfl
theorem rmap_set {M i : Nat} {f g : Nat → Value} (h : ∀ k, k ≠ i → g k = f k) : ((List.range M).map f).set i (g i) = (List.range M).map g := by
  apply List.ext_getElem?
  intro k
  rw [List.getElem?_set]
  by_cases hk : k < M
  · by_cases h1 : i = k
    · subst h1; simp [hk]
    · rw [if_neg h1]; simp [hk, h k (fun h2 => h1 h2.symm)]
  · by_cases h1 : i = k
    · subst h1; simp [hk]
    · rw [if_neg h1]; simp [hk]
theorem gv_set (M : Nat) (S : Nat → Sl) (i : Nat) : (gv M S i).set i (S i).v = gv M S (i + 1) := by
  have := rmap_set (M := M) (i := i) (f := fun k => if k < i then (S k).v else nilv) (g := fun k => if k < i + 1 then (S k).v else nilv) (fun k hk => by
    by_cases h1 : k < i
    · simp only [if_pos h1, if_pos (show k < i + 1 by omega)]
    · simp only [if_neg h1, if_neg (show ¬ k < i + 1 by omega)])
  simp only [if_pos (show i < i + 1 by omega)] at this
  exact this
theorem gv_all (M : Nat) (S : Nat → Sl) : gv M S M = (List.range M).map fun k => (S k).v := by
  apply List.map_congr_left
  intro k hk
  rw [if_pos (List.mem_range.1 hk)]
abbrev sv (M : Nat) (S : Nat → Sl) : List Value := (List.range M).map fun k => (S k).v
theorem sv_get {M k : Nat} {S : Nat → Sl} (h : k < M) : (sv M S)[k]? = some (S k).v := by simp [h]
theorem sv_set (M i : Nat) (t : Nat → Sl) (r : Sl) : (sv M t).set i r.v = sv M (fun q => if q = i then r else t q) := by
  have := rmap_set (M := M) (i := i) (f := fun k => (t k).v) (g := fun k => (if k = i then r else t k).v) (fun k hk => by simp only [if_neg hk])
  simp only [if_true] at this
  exact this

/-! ### The marks -/
def xs0 (S : Nat → Sl) (xs mk : Nat → List Value) (i : Nat) : Nat → List Value := fun k => if k < i then rep (S k).n (mk k) else xs k
def xs1 (S : Nat → Sl) (xs mk : Nat → List Value) (sz i j : Nat) : Nat → List Value := fun k => if k < i then rep (S k).n (mk k) else if k = i then rep j (mk i) ++ (xs i).drop (j * sz) else xs k
theorem xs1_self {S : Nat → Sl} {xs mk : Nat → List Value} {sz i j : Nat} : xs1 S xs mk sz i j i = rep j (mk i) ++ (xs i).drop (j * sz) := by
  simp [xs1]
theorem put_rep {m : List Value} {x : List Value} {sz j n : Nat} (hm : m.length = sz) (hx : x.length = n * sz) (hj : j < n) : putAt (rep j m ++ x.drop (j * sz)) (0 + j * sz) m = rep (j + 1) m ++ x.drop ((j + 1) * sz) := by
  have hl : (rep j m).length = j * sz := by rw [rep_len, hm]
  rw [Nat.zero_add, putAt, List.take_left' hl, ← rep_succ, hm, show j * sz + sz = (j + 1) * sz by rw [Nat.add_mul]; omega, List.drop_append, hl, List.drop_drop, List.drop_of_length_le (by rw [hl]; exact Nat.mul_le_mul_right _ (by omega)), List.nil_append]
  congr 2
  have : j * sz ≤ (j + 1) * sz := Nat.mul_le_mul_right _ (by omega)
  omega
theorem fam_start {w : World} {e : TypeId} {sz M i : Nat} {S : Nat → Sl} {xs mk : Nat → List Value} (h : Fam w e sz M S (xs0 S xs mk i)) : Fam w e sz M S (xs1 S xs mk sz i 0) :=
  h.congr (fun _ _ => rfl) fun k _ => by
    unfold xs1 xs0
    by_cases h1 : k < i
    · rw [if_pos h1, if_pos h1]
    · rw [if_neg h1, if_neg h1]
      by_cases h2 : k = i
      · subst h2; simp [rep]
      · rw [if_neg h2]
theorem fam_end {w : World} {e : TypeId} {sz M i j : Nat} {S : Nat → Sl} {xs mk : Nat → List Value} (h : Fam w e sz M S (xs1 S xs mk sz i j)) (hj : j = (S i).n) (hx : (xs i).length = (S i).n * sz) : Fam w e sz M S (xs0 S xs mk (i + 1)) :=
  h.congr (fun _ _ => rfl) fun k _ => by
    unfold xs1 xs0
    by_cases h1 : k < i
    · rw [if_pos h1, if_pos (by omega)]
    · by_cases h2 : k = i
      · subst h2; rw [if_pos (by omega), if_neg h1, if_pos rfl, hj, List.drop_of_length_le (by omega), List.append_nil]
      · rw [if_neg (by omega), if_neg h1, if_neg h2]
theorem fam_all {w : World} {e : TypeId} {sz M : Nat} {S : Nat → Sl} {xs mk : Nat → List Value} (h : Fam w e sz M S (xs0 S xs mk M)) : Fam w e sz M S (fun k => rep (S k).n (mk k)) :=
  h.congr (fun _ _ => rfl) fun k hk => by unfold xs0; rw [if_pos hk]
theorem fam_zero {w : World} {e : TypeId} {sz M : Nat} {S : Nat → Sl} {xs mk : Nat → List Value} (h : Fam w e sz M S xs) : Fam w e sz M S (xs0 S xs mk 0) :=
  h.congr (fun _ _ => rfl) fun k hk => by unfold xs0; rw [if_neg (by omega)]
theorem fam_mark {w w' : World} {e : TypeId} {sz M i j : Nat} {S : Nat → Sl} {xs mk : Nat → List Value} (h : Fam w e sz M S (xs1 S xs mk sz i j)) (hi : i < M) (hj : j < (S i).n) (hx : (xs i).length = (S i).n * sz) (hm : (mk i).length = sz)
    (ho : OwnS w' e sz (S i).a (S i).n (S i).c (putAt (xs1 S xs mk sz i j i) (0 + j * sz) (mk i)) (S i).ob) (he : Evo (S i).ob.toList w w') : Fam w' e sz M S (xs1 S xs mk sz i (j + 1)) :=
  (h.upd hi ho he (.inl rfl)).congr (fun k _ => by by_cases h1 : k = i <;> simp [h1]) fun k _ => by
    by_cases h1 : k = i
    · subst h1
      simp only [if_true]
      rw [xs1_self, xs1_self, put_rep hm hx hj]
    · simp only [if_neg h1, xs1]
theorem pair_start {w : World} {e : TypeId} {sz M : Nat} {S : Nat → Sl} {mk : Nat → List Value} (h : Fam w e sz M S (fun k => rep (S k).n (mk k))) : Pair w e sz M S S mk where
  fam := h
  lt := fun k hk => h.lt hk
  ap := h.ap
  old := fun k hk => .inl ⟨rfl, Nat.le_refl _⟩
  addr := fun k hk => own_addr (h.own k hk)

end Go.Proofs.YtclmkppiolfgbaaDoor
