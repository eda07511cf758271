/- Plain: a predicate that a call asks; the row of DeleteFunc; the first place. -/
import Derived.Test.YtebghjbfdpeipaaId
import Derived.Test.YtebghjbfdpeipaaFw7
namespace Go.Proofs.Ytebghjbfdpeipaa
open Go.Proofs Go.W
set_option linter.unusedVariables false
set_option linter.unusedSimpArgs false

/-- The function f with what it holds answers p, reading no blocks but K. -/
def Asks (f : FuncId) (cap : List Value) (K : List Nat) (w : World) (p : Int → Bool) : Prop :=
  ∀ X W x, Evo X w W → (∀ k, k ∈ K → k ∉ X) → Calls Try.prog f (.int .i64 x :: cap).toArray W (Ret fun v W' => v = .bool (p x) ∧ Evo [] W W')
theorem Asks.evo {f : FuncId} {cap : List Value} {K : List Nat} {w w' : World} {p : Int → Bool} (h : Asks f cap K w p) (he : Evo [] w w') : Asks f cap K w' p :=
  fun X W x e hk => h X W x ((he.any X).trans e) hk
theorem own_at {w : World} {e : TypeId} {a : Option Addr} {n c k : Nat} {zs : List Int} {ob : Option Nat} (h : OwnS w e 1 a n c (zs.map iv) ob) (hk : k < zs.length) : ∃ gb, ob = some gb ∧ a = some ⟨gb, 0, none⟩ ∧ w.cell? ⟨gb, 0 + k * 1, none⟩ = some (iv zs[k]) := by
  have hn := own_n h
  obtain ⟨g, hg, ha, hc⟩ := h.cells (by omega)
  refine ⟨g, hg, ha, ?_⟩
  have := hc k (iv zs[k]) (by simp [hk])
  rwa [Nat.mul_one]
def fidx (p : Int → Bool) (zs : List Int) : Int := match zs.findIdx? p with | none => -1 | some k => (k : Nat)
theorem fidx_none {p : Int → Bool} {zs : List Int} (h : fidx p zs = -1) : zs.filter (fun x => !p x) = zs := by
  unfold fidx at h
  split at h
  · rename_i h1
    rw [List.findIdx?_eq_none_iff] at h1
    rw [List.filter_eq_self]
    intro x hx; rw [h1 x hx]; rfl
  · omega
theorem fidx_some {p : Int → Bool} {zs : List Int} (h : ¬ fidx p zs = -1) : ∃ k, ∃ hk : k < zs.length, fidx p zs = (k : Nat) ∧ p zs[k] = true ∧ ∀ x, x ∈ zs.take k → p x = false := by
  unfold fidx at h ⊢
  cases h1 : zs.findIdx? p with
  | none => rw [h1] at h; exact absurd rfl h
  | some k =>
    rw [List.findIdx?_eq_some_iff_getElem] at h1
    obtain ⟨hk, h2, h3⟩ := h1
    refine ⟨k, hk, rfl, h2, fun x hx => ?_⟩
    obtain ⟨j, hj, rfl⟩ := List.getElem_of_mem hx
    simp only [List.getElem_take]
    have := h3 j (by simp at hj; omega)
    simpa using this
theorem fidx_at {p : Int → Bool} {zs : List Int} {k : Nat} (hk : k < zs.length) (h1 : p zs[k] = true) (h2 : ∀ x, x ∈ zs.take k → p x = false) : fidx p zs = (k : Nat) := by
  unfold fidx
  have : zs.findIdx? p = some k := by
    rw [List.findIdx?_eq_some_iff_getElem]
    refine ⟨hk, h1, fun j hj => ?_⟩
    rw [h2 zs[j] (by rw [List.mem_take_iff_getElem]; exact ⟨j, by omega, rfl⟩)]
    simp
  rw [this]
theorem fidx_not {p : Int → Bool} {zs : List Int} (h2 : ∀ x, x ∈ zs → p x = false) : fidx p zs = -1 := by
  unfold fidx
  have : zs.findIdx? p = none := by rw [List.findIdx?_eq_none_iff]; exact h2
  rw [this]
theorem fidx_step {p : Int → Bool} {zs : List Int} {k : Nat} (hk : k < zs.length) (h1 : p zs[k] = false) (h2 : ∀ x, x ∈ zs.take k → p x = false) : ∀ x, x ∈ zs.take (k + 1) → p x = false := fun x hx => by
  rw [List.take_succ_eq_append_getElem hk] at hx
  rcases List.mem_append.1 hx with h | h
  · exact h2 x h
  · rw [List.mem_singleton.1 h]; exact h1

/-- What DeleteFunc's row is when j have been looked at and i are kept. -/
structure Del (p : Int → Bool) (zs : List Int) (i j : Nat) (ys : List Int) : Prop where
  lt : i < j
  le : j ≤ zs.length
  len : ys.length = zs.length
  head : ys.take i = (zs.take j).filter (fun x => !p x)
  tail : ys.drop j = zs.drop j
theorem Del.start {p : Int → Bool} {zs : List Int} {k : Nat} (hk : k < zs.length) (h1 : p zs[k] = true) (h2 : ∀ x, x ∈ zs.take k → p x = false) : Del p zs k (k + 1) zs := by
  refine ⟨by omega, by omega, rfl, ?_, rfl⟩
  rw [List.take_succ_eq_append_getElem hk, List.filter_append, List.filter_eq_self.2 (fun x hx => by rw [h2 x hx]; rfl)]
  simp [h1]
theorem Del.get {p : Int → Bool} {zs ys : List Int} {i j : Nat} (h : Del p zs i j ys) (hj : j < zs.length) : ys[j]'(by rw [h.len]; exact hj) = zs[j] := by
  have hl := h.len
  have h1 := congrArg (fun l : List Int => l[0]?) h.tail
  simp only [List.getElem?_drop, Nat.add_zero] at h1
  rw [List.getElem?_eq_getElem (by omega), List.getElem?_eq_getElem hj] at h1
  exact Option.some.inj h1
theorem drop_succ_of {zs ys : List Int} {j : Nat} (h : ys.drop j = zs.drop j) : ys.drop (j + 1) = zs.drop (j + 1) := by
  rw [← List.drop_drop, ← List.drop_drop, h]
theorem Del.skip {p : Int → Bool} {zs ys : List Int} {i j : Nat} (h : Del p zs i j ys) (hj : j < zs.length) (hp : p zs[j] = true) : Del p zs i (j + 1) ys := by
  refine ⟨by have := h.lt; omega, by omega, h.len, ?_, drop_succ_of h.tail⟩
  rw [List.take_succ_eq_append_getElem hj, List.filter_append, h.head]
  simp [hp]
theorem Del.keep {p : Int → Bool} {zs ys : List Int} {i j : Nat} (h : Del p zs i j ys) (hj : j < zs.length) (hp : p zs[j] = false) : Del p zs (i + 1) (j + 1) (ys.set i zs[j]) := by
  have h1 := h.lt
  have h2 := h.len
  refine ⟨by omega, by omega, by simp [h2], ?_, ?_⟩
  · rw [List.take_succ_eq_append_getElem hj, List.filter_append, ← h.head, List.take_succ_eq_append_getElem (by simp; omega), List.take_set_of_le (Nat.le_refl _)]
    simp [hp]
  · rw [List.drop_set_of_lt (by omega)]
    exact drop_succ_of h.tail
theorem Del.done {p : Int → Bool} {zs ys : List Int} {i j : Nat} (h : Del p zs i j ys) (hj : ¬ j < zs.length) : ys.take i = zs.filter (fun x => !p x) ∧ i = (zs.filter (fun x => !p x)).length ∧ i ≤ zs.length := by
  have h1 := h.lt
  have h2 := h.len
  have h3 := h.le
  have h4 := h.head
  rw [List.take_of_length_le (l := zs) (by omega)] at h4
  refine ⟨h4, ?_, by omega⟩
  rw [← h4, List.length_take]
  omega
end Go.Proofs.Ytebghjbfdpeipaa
