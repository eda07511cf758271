/- What a program finds: its moves, the slots of a way, the frames of the search that goes back on its steps. No program's code stands here. -/
import Derived.Test.YtopjnoblhleimaaRc
namespace Go.Proofs.Ytopjnoblhleimaa
open Go.W

/-- What an instruction does at a place. -/
def mvI (c : Inst) (s : ByteArray) (a : Nat) : Mv :=
  if c.op = 1 then .mat
  else if c.op = 2 then .rune (if Inside (nextR s a).1 c.rs then some c.out.toNat else none)
  else if c.op = 3 then .split c.out.toNat c.alt.toNat
  else if c.op = 4 then .save c.arg.toNat c.out.toNat
  else if Stands c.op c.arg s a then .go c.out.toNat else .dead
def mvOf (p : Prg) (s : ByteArray) (a i : Nat) : Mv := match p.insts[i]? with | none => .dead | some c => mvI c s a
theorem mvOf_at {p : Prg} {s : ByteArray} {a i : Nat} (h : i < p.insts.length) : mvOf p s a i = mvI p.insts[i] s a := by simp [mvOf, h]
def nxtOf (s : ByteArray) (a : Nat) : Option Nat := if 0 < (nextR s a).2 then some (a + (nextR s a).2) else none
theorem nxt_up (s : ByteArray) : ∀ a b, nxtOf s a = some b → a < b := fun a b h => by
  unfold nxtOf at h
  split at h
  · cases h; omega
  · cases h
theorem nxt_le (s : ByteArray) : ∀ a b, nxtOf s a = some b → b ≤ s.size := fun a b h => by
  unfold nxtOf at h
  split at h
  · rename_i hp
    cases h
    rcases next_cases s a with h1 | h1
    · rw [h1] at hp; exact absurd hp (by simp)
    · omega
  · cases h
theorem next_w (s : ByteArray) (a : Nat) : (nextR s a).2 = 0 ∨ (1 ≤ (nextR s a).2 ∧ (nextR s a).2 ≤ 4 ∧ a + (nextR s a).2 ≤ s.size) := by
  rcases next_cases s a with h1 | h1
  · left; rw [h1]
  · exact .inr h1.2.2
theorem nxt_some {s : ByteArray} {a : Nat} (h : 0 < (nextR s a).2) : nxtOf s a = some (a + (nextR s a).2) := by unfold nxtOf; rw [if_pos h]
theorem nxt_none {s : ByteArray} {a : Nat} (h : (nextR s a).2 = 0) : nxtOf s a = none := by unfold nxtOf; rw [if_neg (by omega)]
/-- What stands in a slot behind a way. -/
def slotOf (t : Notes) (k : Nat) : Int := match t.find? (fun q => q.1 == k) with | some q => (q.2 : Int) | none => -1
def slotsOf (n : Nat) (t : Notes) : List Int := (List.range n).map (slotOf t)
theorem slotsOf_len (n : Nat) (t : Notes) : (slotsOf n t).length = n := by simp [slotsOf]
theorem slotsOf_nil (n : Nat) : slotsOf n [] = List.replicate n (-1) := by
  apply List.ext_getElem <;> simp [slotsOf, slotOf]
theorem slotsOf_save {n k a : Nat} {t : Notes} : slotsOf n ((k, a) :: t) = (slotsOf n t).set k a := by
  apply List.ext_getElem?
  intro j
  simp only [slotsOf, List.getElem?_map, List.getElem?_set, List.length_map, List.length_range]
  by_cases hj : j < n
  · by_cases hk : k = j
    · subst hk; simp [hj, slotOf]
    · simp [hj, hk, slotOf]
  · by_cases hk : k = j
    · subst hk; simp [hj]
    · simp [hj, hk]
/-- The finding that a way makes. -/
def findOf (n len : Nat) : Option Notes → List Int
  | none => []
  | some t => ((slotsOf n t).set 0 0).set 1 len
abbrev nSlots (p : Prg) : Nat := (2 * (p.groups + 1)).toNat
/-- What a program finds in a text. -/
def RunIs (p : Prg) (s : ByteArray) (l : List Int) : Prop :=
  (¬ SoundP p ∧ l = []) ∨ (SoundP p ∧ ∃ r W', Dr (mvOf p s) (nxtOf s) s.size [(0, p.start.toNat, [])] (fun _ _ => false) r W' ∧ l = findOf (nSlots p) s.size r)
theorem RunIs.uniq {p : Prg} {s : ByteArray} {l l' : List Int} (h : RunIs p s l) (k : RunIs p s l') : l = l' := by
  rcases h with ⟨h1, h2⟩ | ⟨h1, r, W, h2, h3⟩ <;> rcases k with ⟨k1, k2⟩ | ⟨k1, r', W', k2, k3⟩
  · rw [h2, k2]
  · exact absurd k1 h1
  · exact absurd h1 k1
  · rw [h3, k3, h2.uniq k2]

/-- A frame: a point still to be tried, or a slot that gets back its value. -/
inductive Fr where
  | pt (i a : Nat)
  | re (k : Nat) (old : Int)
def Fr.inst : Fr → Int | .pt i _ => i | .re _ _ => -1
def Fr.at' : Fr → Int | .pt _ a => a | .re _ _ => 0
def Fr.slot : Fr → Int | .pt _ _ => 0 | .re k _ => k
def Fr.old : Fr → Int | .pt _ _ => 0 | .re _ o => o
abbrev iv (z : Int) : Value := .int .i64 z
def Fr.row (f : Fr) : List Value := [iv f.inst, iv f.at', iv f.slot, iv f.old]
def frs (fr : List Fr) : List Value := (fr.reverse.map Fr.row).flatten
theorem frs_cons (f : Fr) (fr : List Fr) : frs (f :: fr) = frs fr ++ f.row := by simp [frs]
theorem row_pt {z : Int} {a : Nat} (h : 0 ≤ z) : [iv z, iv a, iv 0, iv 0] = Fr.row (.pt z.toNat a) := by simp [Fr.row, Fr.inst, Fr.at', Fr.slot, Fr.old, Int.toNat_of_nonneg h]
theorem row_re {z o : Int} (h : 0 ≤ z) : [iv (-1), iv 0, iv z, iv o] = Fr.row (.re z.toNat o) := by simp [Fr.row, Fr.inst, Fr.at', Fr.slot, Fr.old, Int.toNat_of_nonneg h]
/-- The frames stand for the points and their ways; sl: the slots now. -/
def WFr (p : Prg) (s : ByteArray) : List Int → List Fr → List (Nat × Nat × Notes) → Prop
  | _, [], g => g = []
  | sl, .pt i a :: fr, g => ∃ t g', g = (a, i, t) :: g' ∧ i < p.insts.length ∧ a ≤ s.size ∧ sl = slotsOf (nSlots p) t ∧ WFr p s sl fr g'
  | sl, .re k old :: fr, g => k < nSlots p ∧ WFr p s (sl.set k old) fr g
theorem WFr.pop_re {p : Prg} {s : ByteArray} {sl : List Int} {f : Fr} {fr : List Fr} {g : List (Nat × Nat × Notes)} (h : WFr p s sl (f :: fr) g) (hi : f.inst < 0) : ∃ k old, f = .re k old ∧ k < nSlots p ∧ WFr p s (sl.set k old) fr g := by
  cases f with
  | pt i a => simp [Fr.inst] at hi; omega
  | re k old => exact ⟨k, old, rfl, h⟩
theorem WFr.pop_pt {p : Prg} {s : ByteArray} {sl : List Int} {f : Fr} {fr : List Fr} {g : List (Nat × Nat × Notes)} (h : WFr p s sl (f :: fr) g) (hi : ¬ f.inst < 0) : ∃ i a t g', f = .pt i a ∧ g = (a, i, t) :: g' ∧ i < p.insts.length ∧ a ≤ s.size ∧ sl = slotsOf (nSlots p) t ∧ WFr p s sl fr g' := by
  cases f with
  | pt i a => obtain ⟨t, g', h1, h2, h3, h4, h5⟩ := h; exact ⟨i, a, t, g', rfl, h1, h2, h3, h4, h5⟩
  | re k old => simp [Fr.inst] at hi
theorem WFr.push {p : Prg} {s : ByteArray} {sl : List Int} {fr : List Fr} {g : List (Nat × Nat × Notes)} {i a : Nat} {t : Notes} (h : WFr p s sl fr g) (hi : i < p.insts.length) (ha : a ≤ s.size) (hs : sl = slotsOf (nSlots p) t) : WFr p s sl (.pt i a :: fr) ((a, i, t) :: g) := ⟨t, g, rfl, hi, ha, hs, h⟩
theorem WFr.save {p : Prg} {s : ByteArray} {sl : List Int} {fr : List Fr} {g : List (Nat × Nat × Notes)} {i a k : Nat} {t : Notes} (h : WFr p s sl fr g) (hi : i < p.insts.length) (ha : a ≤ s.size) (hs : sl = slotsOf (nSlots p) t) (hk : k < nSlots p) :
    WFr p s (sl.set k a) (.pt i a :: .re k (sl.getD k 0) :: fr) ((a, i, (k, a) :: t) :: g) := by
  refine ⟨_, g, rfl, hi, ha, by rw [slotsOf_save, hs], hk, ?_⟩
  have : (sl.set k a).set k (sl.getD k 0) = sl := by
    rw [List.set_set]
    have hk2 : k < sl.length := by rw [hs, slotsOf_len]; exact hk
    apply List.ext_getElem?
    intro j
    rw [List.getElem?_set]
    split
    · rename_i e; subst e; simp [hk2]
    · rfl
  rw [this]; exact h

/-- The marks, place after place. -/
def cellsW (n M : Nat) (W : Wt) : List Value := (List.range M).map fun k => .bool (W (k / n) (k % n))
theorem cellsW_get {n M : Nat} {W : Wt} {a i : Nat} (hi : i < n) (h : a * n + i < M) : (cellsW n M W)[a * n + i]? = some (.bool (W a i)) := by
  have h1 : (a * n + i) / n = a := by rw [Nat.mul_comm, Nat.mul_add_div (by omega), Nat.div_eq_of_lt hi]; rfl
  have h2 : (a * n + i) % n = i := by rw [Nat.mul_comm, Nat.mul_add_mod, Nat.mod_eq_of_lt hi]
  simp [cellsW, h, h1, h2]
theorem cellsW_zero (n M : Nat) : zeros #[.bool false] M = cellsW n M (fun _ _ => false) := by
  simp only [zeros, cellsW]
  induction M with
  | zero => rfl
  | succ M ih =>
    rw [List.range_succ, List.map_append, ← ih, List.replicate_succ', List.flatten_append]
    simp
theorem cellsW_set {n M : Nat} {W : Wt} {a i : Nat} (hi : i < n) : (cellsW n M W).set (a * n + i) (.bool true) = cellsW n M (W.lay a ((W a).add i)) := by
  have h1 : (a * n + i) / n = a := by rw [Nat.mul_comm, Nat.mul_add_div (by omega), Nat.div_eq_of_lt hi]; rfl
  have h2 : (a * n + i) % n = i := by rw [Nat.mul_comm, Nat.mul_add_mod, Nat.mod_eq_of_lt hi]
  apply List.ext_getElem?
  intro j
  simp only [cellsW, List.getElem?_set, List.length_map, List.length_range, List.getElem?_map]
  by_cases hj : j < M
  · by_cases e : a * n + i = j
    · subst e
      simp [hj, h1, h2, Wt.lay, Vis.add]
    · have : ¬ (j / n = a ∧ j % n = i) := fun ⟨e1, e2⟩ => e (by subst e1 e2; rw [Nat.mul_comm]; exact Nat.div_add_mod j n)
      simp only [e, if_false, hj, List.getElem?_range, Option.map_some, Wt.lay, Vis.add]
      by_cases e1 : j / n = a
      · have e2 : ¬ j % n = i := fun e2 => this ⟨e1, e2⟩
        simp [e1, e2, Vis.add]
      · simp [e1]
  · by_cases e : a * n + i = j
    · subst e; simp [hj]
    · simp [hj, e]
/-- How many points are not marked yet. -/
def unt (n M : Nat) (W : Wt) : Nat := (List.range M).countP fun k => !W (k / n) (k % n)
theorem countP_one {f g : Nat → Bool} {k : Nat} (hf : f k = true) (hg : g k = false) (he : ∀ j, j ≠ k → g j = f j) : ∀ {M : Nat}, k < M → (List.range M).countP g + 1 = (List.range M).countP f := by
  intro M
  induction M with
  | zero => intro h; omega
  | succ M ih =>
    intro h
    rw [List.range_succ, List.countP_append, List.countP_append]
    by_cases e : k = M
    · subst e
      have : (List.range k).countP g = (List.range k).countP f := List.countP_congr fun j hj => by rw [he j (by simp at hj; omega)]
      simp [this, hf, hg]
    · have := ih (by omega)
      rw [List.countP_singleton, List.countP_singleton, he M (by omega)]
      omega
theorem unt_mark {n M : Nat} {W : Wt} {a i : Nat} (hi : i < n) (h : a * n + i < M) (hW : W a i = false) : unt n M (W.lay a ((W a).add i)) + 1 = unt n M W := by
  have h1 : (a * n + i) / n = a := by rw [Nat.mul_comm, Nat.mul_add_div (by omega), Nat.div_eq_of_lt hi]; rfl
  have h2 : (a * n + i) % n = i := by rw [Nat.mul_comm, Nat.mul_add_mod, Nat.mod_eq_of_lt hi]
  refine countP_one (k := a * n + i) (by simp [h1, h2, hW]) (by simp [h1, h2, Wt.lay, Vis.add]) (fun j hj => ?_) h
  have : ¬ (j / n = a ∧ j % n = i) := fun ⟨e1, e2⟩ => hj (by subst e1 e2; rw [Nat.mul_comm]; exact (Nat.div_add_mod j n).symm)
  simp only [Wt.lay, Vis.add]
  by_cases e1 : j / n = a
  · have e2 : ¬ j % n = i := fun e2 => this ⟨e1, e2⟩
    simp [e1, e2, Vis.add]
  · simp [e1]
theorem unt_le (n M : Nat) (W : Wt) : unt n M W ≤ M := by
  have := List.countP_le_length (p := fun k => !W (k / n) (k % n)) (l := List.range M)
  simpa [unt] using this
theorem point_lt {n len a i : Nat} (ha : a ≤ len) (hi : i < n) : a * n + i < n * (len + 1) := by
  have : a * n ≤ len * n := Nat.mul_le_mul_right _ ha
  rw [Nat.mul_add, Nat.mul_comm n len]
  omega
end Go.Proofs.Ytopjnoblhleimaa
