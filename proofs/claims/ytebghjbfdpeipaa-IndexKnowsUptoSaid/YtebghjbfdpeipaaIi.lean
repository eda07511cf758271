/- Plain: the reference's merge; parts of a caller's list. -/
import Derived.Test.YtebghjbfdpeipaaIh
namespace Go.Proofs.Ytebghjbfdpeipaa
open Go.Proofs Go.W
set_option linter.unusedVariables false
set_option linter.unusedSimpArgs false

theorem rz_at {X : List Nat} {w : World} {a : Option Addr} {n c k : Nat} {l : List Int} (h : RSl 1 RZ X w (.slice a n c) l) (hk : k < l.length) : ∃ b o, a = some ⟨b, o, none⟩ ∧ w.cell? ⟨b, o + k * 1, none⟩ = some (iv l[k]) := by
  obtain ⟨a', c', he, hc, h⟩ := h
  cases he
  obtain ⟨b, o, vs, ha, _, _, hcs, rfl⟩ := h k hk
  exact ⟨b, o, ha, hcs 0 _ rfl⟩
theorem rz_n {X : List Nat} {w : World} {a : Option Addr} {n c : Nat} {l : List Int} (h : RSl 1 RZ X w (.slice a n c) l) : n = l.length ∧ l.length ≤ c := by
  obtain ⟨a', c', he, hc, h⟩ := h
  cases he
  exact ⟨rfl, hc⟩
theorem add_at {b o k : Nat} : (⟨b, o, none⟩ : Addr).add k = ⟨b, o + k, none⟩ := by unfold Addr.add; split <;> simp_all
theorem rz_from {X : List Nat} {w : World} {a : Option Addr} {n c i : Nat} {l : List Int} (h : RSl 1 RZ X w (.slice a n c) l) (hi : i ≤ l.length) : RSl 1 RZ X w (.slice (if c = i then a else a.map (·.add (i * 1))) (l.drop i).length (c - i)) (l.drop i) := by
  obtain ⟨a', c', he, hc, h⟩ := h
  cases he
  refine ⟨_, _, rfl, by simp; omega, fun k hk => ?_⟩
  have hk' : i + k < l.length := by simp at hk; omega
  obtain ⟨b, o, vs, ha, hb, hl, hcs, hv⟩ := h (i + k) hk'
  subst ha
  rw [if_neg (by omega)]
  refine ⟨b, o + i * 1, vs, by simp [add_at], hb, hl, ?_, by simpa using hv⟩
  rw [show o + i * 1 + k * 1 = o + (i + k) * 1 by omega]
  exact hcs
theorem rz_to {X : List Nat} {w : World} {a : Option Addr} {n c m : Nat} {l : List Int} (h : RSl 1 RZ X w (.slice a n c) l) (hm : m ≤ l.length) : RSl 1 RZ X w (.slice (if c = 0 then a else a.map (·.add (0 * 1))) m c) (l.take m) := by
  obtain ⟨a', c', he, hc, h⟩ := h
  cases he
  refine ⟨_, _, by rw [List.length_take, Nat.min_eq_left hm], by simp; omega, fun k hk => ?_⟩
  have hk' : k < l.length := by simp at hk; omega
  obtain ⟨b, o, vs, ha, hb, hl, hcs, hv⟩ := h k hk'
  subst ha
  exact ⟨b, o, vs, by split <;> simp [add_at], hb, hl, hcs, by simpa using hv⟩

/-! ### The merge -/
def opt (f : Bool) (x : Int) : List Int := if f then [x] else []
def mg (fa fab fb : Bool) : List Int → List Int → List Int
  | [], [] => []
  | x :: a, [] => opt fa x ++ mg fa fab fb a []
  | [], y :: b => opt fb y ++ mg fa fab fb [] b
  | x :: a, y :: b => if x < y then opt fa x ++ mg fa fab fb a (y :: b) else if y < x then opt fb y ++ mg fa fab fb (x :: a) b else opt fab x ++ mg fa fab fb a b
termination_by a b => a.length + b.length
variable {fa fab fb : Bool}
theorem mem_opt {f : Bool} {x z : Int} : z ∈ opt f x ↔ z = x ∧ f = true := by unfold opt; split <;> simp_all
theorem SR.tail {x : Int} {l : List Int} (h : SR (x :: l)) : SR l := (List.pairwise_cons.1 h).2
theorem SR.hd {x : Int} {l : List Int} (h : SR (x :: l)) : ∀ z, z ∈ l → x < z := (List.pairwise_cons.1 h).1
theorem opt_sr {f : Bool} {x : Int} {l : List Int} (h : SR l) (hx : ∀ z, z ∈ l → x < z) : SR (opt f x ++ l) := by
  unfold opt
  split
  · exact List.pairwise_cons.2 ⟨hx, h⟩
  · exact h
theorem mg_mem : ∀ (n : Nat) (a b : List Int), a.length + b.length ≤ n → SR a → SR b → ∀ z, z ∈ mg fa fab fb a b ↔ (z ∈ a ∧ z ∈ b ∧ fab = true) ∨ (z ∈ a ∧ ¬ z ∈ b ∧ fa = true) ∨ (¬ z ∈ a ∧ z ∈ b ∧ fb = true) := by
  intro n
  induction n with
  | zero => intro a b hn _ _ z; obtain rfl : a = [] := List.length_eq_zero_iff.1 (by omega); obtain rfl : b = [] := List.length_eq_zero_iff.1 (by omega); simp [mg]
  | succ n ih =>
    intro a b hn ha hb z
    match a, b, hn, ha, hb with
    | [], [], hn, _, _ => simp [mg]
    | x :: a, [], hn, ha, hb =>
      rw [mg, List.mem_append, mem_opt, ih a [] (by simp only [List.length_cons, List.length_nil] at hn ⊢; omega) ha.tail hb z]
      have := ha.hd
      simp only [List.mem_cons, List.not_mem_nil]
      grind
    | [], y :: b, hn, ha, hb =>
      rw [mg, List.mem_append, mem_opt, ih [] b (by simp only [List.length_cons, List.length_nil] at hn ⊢; omega) ha hb.tail z]
      have := hb.hd
      simp only [List.mem_cons, List.not_mem_nil]
      grind
    | x :: a, y :: b, hn, ha, hb =>
      have h1 := ha.hd
      have h2 := hb.hd
      rw [mg]
      split
      · rename_i hxy
        rw [List.mem_append, mem_opt, ih a (y :: b) (by simp only [List.length_cons, List.length_nil] at hn ⊢; omega) ha.tail hb z]
        simp only [List.mem_cons]
        have hxb : ¬ (x = y ∨ x ∈ b) := fun h => by rcases h with h | h; { omega }; { have := h2 x h; omega }
        have hxa : ¬ x ∈ a := fun h => by have := h1 x h; omega
        by_cases hz : z = x
        · subst hz; simp [hxb, hxa]
        · simp [hz]
      · split
        · rename_i hxy hyx
          rw [List.mem_append, mem_opt, ih (x :: a) b (by simp only [List.length_cons, List.length_nil] at hn ⊢; omega) ha hb.tail z]
          simp only [List.mem_cons]
          have hya : ¬ (y = x ∨ y ∈ a) := fun h => by rcases h with h | h; { omega }; { have := h1 y h; omega }
          have hyb : ¬ y ∈ b := fun h => by have := h2 y h; omega
          by_cases hz : z = y
          · subst hz; simp [hya, hyb]
          · simp [hz]
        · rename_i hxy hyx
          obtain rfl : x = y := by omega
          rw [List.mem_append, mem_opt, ih a b (by simp only [List.length_cons, List.length_nil] at hn ⊢; omega) ha.tail hb.tail z]
          simp only [List.mem_cons]
          have hxa : ¬ x ∈ a := fun h => by have := h1 x h; omega
          have hxb : ¬ x ∈ b := fun h => by have := h2 x h; omega
          by_cases hz : z = x
          · subst hz; simp [hxa, hxb]
          · simp [hz]
theorem mg_in {a b : List Int} (ha : SR a) (hb : SR b) {z : Int} (h : z ∈ mg fa fab fb a b) : z ∈ a ∨ z ∈ b := by
  rcases (mg_mem _ a b (Nat.le_refl _) ha hb z).1 h with h | h | h
  · exact .inl h.1
  · exact .inl h.1
  · exact .inr h.2.1
theorem mg_sr : ∀ (n : Nat) (a b : List Int), a.length + b.length ≤ n → SR a → SR b → SR (mg fa fab fb a b) := by
  intro n
  induction n with
  | zero => intro a b hn _ _; obtain rfl : a = [] := List.length_eq_zero_iff.1 (by omega); obtain rfl : b = [] := List.length_eq_zero_iff.1 (by omega); rw [mg]; exact List.Pairwise.nil
  | succ n ih =>
    intro a b hn ha hb
    match a, b, hn, ha, hb with
    | [], [], hn, _, _ => rw [mg]; exact List.Pairwise.nil
    | x :: a, [], hn, ha, hb =>
      rw [mg]
      refine opt_sr (ih a [] (by simp only [List.length_cons, List.length_nil] at hn ⊢; omega) ha.tail hb) fun z hz => ?_
      rcases mg_in ha.tail hb hz with h | h
      · exact ha.hd z h
      · simp at h
    | [], y :: b, hn, ha, hb =>
      rw [mg]
      refine opt_sr (ih [] b (by simp only [List.length_cons, List.length_nil] at hn ⊢; omega) ha hb.tail) fun z hz => ?_
      rcases mg_in ha hb.tail hz with h | h
      · simp at h
      · exact hb.hd z h
    | x :: a, y :: b, hn, ha, hb =>
      have h1 := ha.hd
      have h2 := hb.hd
      rw [mg]
      split
      · refine opt_sr (ih a (y :: b) (by simp only [List.length_cons, List.length_nil] at hn ⊢; omega) ha.tail hb) fun z hz => ?_
        rcases mg_in ha.tail hb hz with h | h
        · exact h1 z h
        · rcases List.mem_cons.1 h with h | h
          · omega
          · have := h2 z h; omega
      · split
        · refine opt_sr (ih (x :: a) b (by simp only [List.length_cons, List.length_nil] at hn ⊢; omega) ha hb.tail) fun z hz => ?_
          rcases mg_in ha hb.tail hz with h | h
          · rcases List.mem_cons.1 h with h | h
            · omega
            · have := h1 z h; omega
          · exact h2 z h
        · refine opt_sr (ih a b (by simp only [List.length_cons, List.length_nil] at hn ⊢; omega) ha.tail hb.tail) fun z hz => ?_
          rcases mg_in ha.tail hb.tail hz with h | h
          · exact h1 z h
          · have := h2 z h; omega
theorem opt_len (f : Bool) (x : Int) : (opt f x).length ≤ 1 := by unfold opt; split <;> simp
theorem mg_len : ∀ (n : Nat) (a b : List Int), a.length + b.length ≤ n → (mg fa fab fb a b).length ≤ a.length + b.length := by
  intro n
  induction n with
  | zero => intro a b hn; obtain rfl : a = [] := List.length_eq_zero_iff.1 (by omega); obtain rfl : b = [] := List.length_eq_zero_iff.1 (by omega); rw [mg]; simp
  | succ n ih =>
    intro a b hn
    match a, b, hn with
    | [], [], _ => rw [mg]; simp
    | x :: a, [], hn => have := ih a [] (by simp only [List.length_cons, List.length_nil] at hn ⊢; omega); have := opt_len fa x; rw [mg, List.length_append]; simp only [List.length_cons, List.length_nil] at *; omega
    | [], y :: b, hn => have := ih [] b (by simp only [List.length_cons, List.length_nil] at hn ⊢; omega); have := opt_len fb y; rw [mg, List.length_append]; simp only [List.length_cons, List.length_nil] at *; omega
    | x :: a, y :: b, hn =>
      simp only [List.length_cons] at hn
      rw [mg]
      split
      · have := ih a (y :: b) (by simp only [List.length_cons]; omega); have := opt_len fa x; rw [List.length_append]; simp only [List.length_cons] at *; omega
      · split
        · have := ih (x :: a) b (by simp only [List.length_cons]; omega); have := opt_len fb y; rw [List.length_append]; simp only [List.length_cons] at *; omega
        · have := ih a b (by omega); have := opt_len fab x; rw [List.length_append]; simp only [List.length_cons] at *; omega
theorem mg_a {a b : List Int} (ha : 0 < a.length) (h : b.length = 0 ∨ ∃ hb : 0 < b.length, a[0] < b[0]) : mg fa fab fb a b = opt fa a[0] ++ mg fa fab fb (a.drop 1) b := by
  match a, b, ha, h with
  | x :: a, [], _, _ => rw [mg]; rfl
  | x :: a, y :: b, _, h =>
    rcases h with h | ⟨_, h⟩
    · simp at h
    · rw [mg, if_pos (by simpa using h)]; rfl
theorem mg_b {a b : List Int} (hb : 0 < b.length) (h : a.length = 0 ∨ ∃ ha : 0 < a.length, b[0] < a[0]) : mg fa fab fb a b = opt fb b[0] ++ mg fa fab fb a (b.drop 1) := by
  match a, b, hb, h with
  | [], y :: b, _, _ => rw [mg]; rfl
  | x :: a, y :: b, _, h =>
    rcases h with h | ⟨_, h⟩
    · simp at h
    · have h' : y < x := by simpa using h
      rw [mg, if_neg (by omega), if_pos h']; rfl
theorem mg_ab {a b : List Int} (ha : 0 < a.length) (hb : 0 < b.length) (h1 : ¬ a[0] < b[0]) (h2 : ¬ b[0] < a[0]) : mg fa fab fb a b = opt fab a[0] ++ mg fa fab fb (a.drop 1) (b.drop 1) := by
  match a, b, ha, hb, h1, h2 with
  | x :: a, y :: b, _, _, h1, h2 => rw [mg, if_neg (by simpa using h1), if_neg (by simpa using h2)]; rfl
theorem mg_nil {a b : List Int} (ha : a.length = 0) (hb : b.length = 0) : mg fa fab fb a b = [] := by
  obtain rfl := List.length_eq_zero_iff.1 ha
  obtain rfl := List.length_eq_zero_iff.1 hb
  rw [mg]
theorem sr_step {l : List Int} {k : Nat} (hk : k < l.length) (h0 : 0 < k) (h : SR (l.take k)) (hlt : l[k - 1] < l[k]) : SR (l.take (k + 1)) := by
  rw [List.take_succ_eq_append_getElem hk]
  refine List.pairwise_append.2 ⟨h, List.pairwise_singleton _ _, fun x hx y hy => ?_⟩
  rw [List.mem_singleton.1 hy]
  obtain ⟨j, hj, rfl⟩ := List.getElem_of_mem hx
  simp only [List.length_take] at hj
  simp only [List.getElem_take]
  by_cases e : j = k - 1
  · subst e; exact hlt
  · have h1 := (List.pairwise_iff_getElem.1 h) j (k - 1) (by simp; omega) (by simp; omega) (by omega)
    simp only [List.getElem_take] at h1
    omega
theorem sr_short {l : List Int} {k : Nat} (hk : k ≤ 1) : SR (l.take k) := by
  match l, k, hk with
  | [], _, _ => simp [SR]
  | x :: l, 0, _ => simp [SR]
  | x :: l, 1, _ => simp [SR]
theorem sr_not {l : List Int} {k : Nat} (hk : k < l.length) (h0 : 0 < k) (h : l[k] ≤ l[k - 1]) : ¬ SR l := fun hs => by
  have := (List.pairwise_iff_getElem.1 hs) (k - 1) k (by omega) hk (by omega)
  omega
end Go.Proofs.Ytebghjbfdpeipaa
