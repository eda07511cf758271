/- A valid tree's nodes are right; how long its code is. -/
import Derived.Test.YtgboffefbpligaaPa
namespace Go.Proofs.Ytgboffefbpligaa
open Go.W Go.RowKit
set_option linter.unusedVariables false
set_option linter.unusedSimpArgs false

mutual
theorem fine_good : ∀ (x : Rx) (b : Int) (st st' : St), x.fine b st = some st' → Good x
  | .mk k r rs mn mx lz cp nm ks, b, st, st', h => by
    by_cases hc : st.1 + 1 ≤ 8194 ∧ (if (Rx.mk k r rs mn mx lz cp nm ks).kind = 7 then b + 1 else b) ≤ 250 ∧ NodeP (.mk k r rs mn mx lz cp nm ks) ∧ ((Rx.mk k r rs mn mx lz cp nm ks).kind = 7 → GroupOk (Rx.mk k r rs mn mx lz cp nm ks).cap (Rx.mk k r rs mn mx lz cp nm ks).name st.2)
    · rw [fine_yes hc] at h
      refine ⟨hc.2.2.1, fun h7 => ?_, fineKids_good ks _ _ _ _ h⟩
      obtain ⟨h1, h2, -⟩ := hc.2.2.2 h7
      omega
    · rw [fine_no hc] at h; cases h
theorem fineKids_good : ∀ (l : List Rx) (k b : Int) (st st' : St), fineKids l k b st = some st' → ∀ x, x ∈ l → Good x
  | [], _, _, _, _, _, x, hx => by cases hx
  | y :: ys, k, b, st, st', h, x, hx => by
    rw [fineKids] at h
    cases hy : y.fine (b + if Brk y.kind k then 1 else 0) st with
    | none => rw [hy] at h; cases h
    | some s1 =>
      rw [hy] at h
      rcases List.mem_cons.1 hx with e | hx
      · rw [e]; exact fine_good y _ _ _ hy
      · exact fineKids_good ys _ _ _ _ h x hx
end
theorem Rx.Ok.good {x : Rx} (h : x.Ok) : Good x := by obtain ⟨st, h⟩ := h; exact fine_good _ _ _ _ h

theorem eszs_take {l : List Rx} {k : Nat} (h : k < l.length) : eszs (l.take (k + 1)) = eszs (l.take k) + l[k].esz := by
  induction l generalizing k with
  | nil => simp at h
  | cons x xs ih =>
    cases k with
    | zero => simp [eszs]
    | succ k =>
      have := ih (k := k) (by simpa using h)
      simp only [List.take_succ_cons, eszs, List.getElem_cons_succ]
      omega
theorem eszs_one {l : List Rx} (h : l.length = 1) : eszs l = (l[0]'(by omega)).esz := by
  match l, h with
  | [x], _ => simp [eszs]
theorem esz1 {t : Rx} (h : t.kind = 1) : (t.esz : Int) = 0 := by rw [Rx.esz_eq, if_pos h]; rfl
theorem esz4 {t : Rx} (h : t.kind = 4) : (t.esz : Int) = eszs t.kids := by rw [Rx.esz_eq, if_neg (by omega), if_pos h]
theorem esz5 {t : Rx} (h : t.kind = 5) (hg : 1 ≤ t.kids.length) : (t.esz : Int) = eszs t.kids + 2 * ((t.kids.length : Int) - 1) := by rw [Rx.esz_eq, if_neg (by omega), if_neg (by omega), if_pos h]; omega
theorem esz7 {t : Rx} (h : t.kind = 7) : (t.esz : Int) = eszs t.kids + 2 := by rw [Rx.esz_eq, if_neg (by omega), if_neg (by omega), if_neg (by omega), if_neg (by omega), if_pos h]; rfl
theorem esz6a {t : Rx} (h : t.kind = 6) (h0 : 0 ≤ t.min) (hm : t.max = -1) : (t.esz : Int) = t.min * eszs t.kids + eszs t.kids + 2 := by
  rw [Rx.esz_eq, if_neg (by omega), if_neg (by omega), if_neg (by omega), if_pos h, if_pos hm, Int.natCast_add, Int.natCast_add, Int.natCast_mul, Int.toNat_of_nonneg h0]; rfl
theorem esz6b {t : Rx} (h : t.kind = 6) (h0 : 0 ≤ t.min) (hm : t.min ≤ t.max) : (t.esz : Int) = t.min * eszs t.kids + (t.max - t.min) * (eszs t.kids + 1) := by
  rw [Rx.esz_eq, if_neg (by omega), if_neg (by omega), if_neg (by omega), if_pos h, if_neg (by omega), Int.natCast_add, Int.natCast_mul, Int.natCast_mul, Int.toNat_of_nonneg h0, Int.toNat_of_nonneg (by omega), Int.natCast_add]; rfl
theorem esz0 {t : Rx} (h : t.kind ≠ 1 ∧ t.kind ≠ 4 ∧ t.kind ≠ 5 ∧ t.kind ≠ 6 ∧ t.kind ≠ 7) : (t.esz : Int) = 1 := by
  obtain ⟨h1, h2, h3, h4, h5⟩ := h
  rw [Rx.esz_eq, if_neg h1, if_neg h2, if_neg h3, if_neg h4, if_neg h5]; rfl
theorem mul_atl {m k : Int} (hm : 0 ≤ m) (hk : 0 ≤ k) : m * k = 0 ∨ k ≤ m * k := by
  by_cases e : m = 0
  · left; rw [e, Int.zero_mul]
  · right
    have : (m - 1) * k ≥ 0 := Int.mul_nonneg (by omega) hk
    rw [Int.sub_mul, Int.one_mul] at this
    omega
theorem cap_rep1 {m k : Int} (hm : 0 ≤ m) (hk : 0 ≤ k) : min (m * min k 10001 + min k 10001 + 2) 10001 = min (m * k + k + 2) 10001 := by
  by_cases e : k ≤ 10001
  · rw [Int.min_eq_left e]
  · rw [Int.min_eq_right (show (10001 : Int) ≤ k by omega)]
    have h1 := Int.mul_nonneg hm hk
    have h2 := Int.mul_nonneg hm (show (0 : Int) ≤ 10001 by omega)
    omega
theorem cap_rep2 {m d k : Int} (hm : 0 ≤ m) (hd : 0 ≤ d) (hk : 0 ≤ k) : min (m * min k 10001 + d * (min k 10001 + 1)) 10001 = min (m * k + d * (k + 1)) 10001 := by
  by_cases e : k ≤ 10001
  · rw [Int.min_eq_left e]
  · rw [Int.min_eq_right (show (10001 : Int) ≤ k by omega)]
    have h1 := Int.mul_nonneg hm hk
    have h3 := Int.mul_nonneg hd (show (0 : Int) ≤ k + 1 by omega)
    by_cases e1 : m = 0
    · subst e1
      by_cases e2 : d = 0
      · subst e2; simp
      · have h2 := mul_atl hd (show (0 : Int) ≤ k + 1 by omega)
        have h4 : d * (k + 1) ≠ 0 := fun h => by rcases Int.mul_eq_zero.1 h with h | h <;> omega
        omega
    · have h2 := mul_atl hm (show (0 : Int) ≤ k by omega)
      have h4 : m * k ≠ 0 := fun h => by rcases Int.mul_eq_zero.1 h with h | h <;> omega
      omega
theorem mul_bd {m k a b : Int} (hm : 0 ≤ m) (hm2 : m ≤ a) (hk : 0 ≤ k) (hk2 : k ≤ b) : 0 ≤ m * k ∧ m * k ≤ a * b :=
  ⟨Int.mul_nonneg hm hk, Int.mul_le_mul hm2 hk2 hk (by omega)⟩
end Go.Proofs.Ytgboffefbpligaa
