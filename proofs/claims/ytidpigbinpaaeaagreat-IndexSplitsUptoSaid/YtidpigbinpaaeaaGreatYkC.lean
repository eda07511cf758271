/- Splits: part 3 of 6 of what the law rests on. -/
import Derived.Test.YtidpigbinpaaeaaGreatYkB
set_option linter.unusedSectionVars false
set_option linter.unusedSimpArgs false
set_option linter.unusedVariables false
namespace Go.Proofs.YtidpigbinpaaeaaGreat
open Go.Lib Go.W
def IsR (n : Int) : Prop := 0 ≤ n ∧ n ≤ 1114111 ∧ (n < 55296 ∨ 57343 < n)
instance (n : Int) : Decidable (IsR n) := by unfold IsR; infer_instance
def vC (m : Nat) : List Nat :=
  if m < 128 then [m] else if m < 2048 then [192 + m / 64, 128 + m % 64] else if m < 65536 then [224 + m / 4096, 128 + m / 64 % 64, 128 + m % 64]
  else [240 + m / 262144, 128 + m / 4096 % 64, 128 + m / 64 % 64, 128 + m % 64]
def jP (n : Int) : List Nat := if IsR n then vC n.toNat else []
theorem OC (n : Int) : ∀ b, b ∈ jP n → b < 256 := by
  unfold jP
  split
  · rename_i h
    unfold IsR at h
    unfold vC
    repeat' split
    all_goals (intro b hb; simp at hb; omega)
  · intro b hb; cases hb
def eB (s : ByteArray) (a w : Nat) : Int :=
  if w = 1 then (sb s a : Int) else if w = 2 then ((sb s a : Int) - 192) * 64 + sb s (a + 1) - 128
  else if w = 3 then (((sb s a : Int) - 224) * 64 + sb s (a + 1) - 128) * 64 + sb s (a + 2) - 128
  else ((((sb s a : Int) - 240) * 64 + sb s (a + 1) - 128) * 64 + sb s (a + 2) - 128) * 64 + sb s (a + 3) - 128
def iY (s : ByteArray) (a w : Nat) : List Nat := (List.range w).map fun k => sb s (a + k)
theorem DN (s : ByteArray) (a w : Nat) : ∀ b, b ∈ iY s a w → b < 256 := by
  intro b hb
  simp only [iY, List.mem_map] at hb
  obtain ⟨k, _, rfl⟩ := hb
  exact jN _ _
theorem vF (s : ByteArray) (a w : Nat) (h : a + w ≤ s.size) : s.extract a (a + w) = qJ (iY s a w) := by
  apply ByteArray.ext
  apply Array.ext
  · have e1 : (s.extract a (a + w)).data.size = w := by have := s.size_extract (b := a) (e := a + w); rw [ByteArray.size] at this; omega
    rw [e1]; simp [qJ, iY]
  · intro i h1 h2
    simp only [qJ, iY, List.map_map, List.getElem_toArray, List.getElem_map, List.getElem_range, Function.comp_def, ByteArray.data_extract, Array.getElem_extract]
    have h3 : a + i < s.size := by simp [qJ, iY] at h2; omega
    apply UInt8.toNat_inj.1
    have := jN s (a + i)
    rw [UInt8.toNat_ofNat_of_lt' (by simpa using this), tH s _ h3]
    rfl
def Hit (s : ByteArray) (a w : Nat) : Prop := jP (eB s a w) = iY s a w
theorem JD {s : ByteArray} {a w : Nat} (h : Hit s a w) : (jP (eB s a w)).length = w := by rw [h]; simp [iY]
theorem hit_eq {s : ByteArray} {a w : Nat} (h : a + w ≤ s.size) : Hit s a w ↔ s.extract a (a + w) = qJ (jP (eB s a w)) := by
  rw [vF s a w h, PV (DN s a w) (OC _)]
  exact ⟨fun h => h.symm, fun h => h.symm⟩
section
variable {b0 b1 b2 b3 : Nat}
theorem form1 (h0 : b0 < 256) : jP (b0 : Int) = [b0] ↔ b0 < 128 := by
  unfold jP vC
  constructor
  · intro h
    repeat' split at h
    all_goals simp at h
    all_goals omega
  · intro h
    rw [if_pos (by unfold IsR; omega), if_pos (by omega)]; simp
theorem form2 (h0 : b0 < 256) (h1 : b1 < 256) : jP (((b0 : Int) - 192) * 64 + b1 - 128) = [b0, b1] ↔ (b0 / 32 = 6 ∧ b1 / 64 = 2 ∧ 128 ≤ b0 % 32 * 64 + b1 % 64) := by
  unfold jP vC
  constructor
  · intro h
    repeat' split at h
    all_goals simp at h
    all_goals unfold IsR at *
    all_goals omega
  · intro h
    rw [if_pos (by unfold IsR; omega), if_neg (by omega), if_pos (by omega)]; simp; omega
theorem form3 (h0 : b0 < 256) (h1 : b1 < 256) (h2 : b2 < 256) : jP ((((b0 : Int) - 224) * 64 + b1 - 128) * 64 + b2 - 128) = [b0, b1, b2] ↔
    (b0 / 16 = 14 ∧ b1 / 64 = 2 ∧ b2 / 64 = 2 ∧ 2048 ≤ b0 % 16 * 4096 + b1 % 64 * 64 + b2 % 64 ∧ (b0 % 16 * 4096 + b1 % 64 * 64 + b2 % 64 < 55296 ∨ 57343 < b0 % 16 * 4096 + b1 % 64 * 64 + b2 % 64)) := by
  unfold jP vC
  constructor
  · intro h
    repeat' split at h
    all_goals simp at h
    all_goals unfold IsR at *
    all_goals omega
  · intro h
    rw [if_pos (by unfold IsR; omega), if_neg (by omega), if_neg (by omega), if_pos (by omega)]; simp; omega
theorem form4 (h0 : b0 < 256) (h1 : b1 < 256) (h2 : b2 < 256) (h3 : b3 < 256) : jP (((((b0 : Int) - 240) * 64 + b1 - 128) * 64 + b2 - 128) * 64 + b3 - 128) = [b0, b1, b2, b3] ↔
    (b0 / 8 = 30 ∧ b1 / 64 = 2 ∧ b2 / 64 = 2 ∧ b3 / 64 = 2 ∧ 65536 ≤ b0 % 8 * 262144 + b1 % 64 * 4096 + b2 % 64 * 64 + b3 % 64 ∧ b0 % 8 * 262144 + b1 % 64 * 4096 + b2 % 64 * 64 + b3 % 64 ≤ 1114111) := by
  unfold jP vC
  constructor
  · intro h
    repeat' split at h
    all_goals simp at h
    all_goals unfold IsR at *
    all_goals omega
  · intro h
    rw [if_pos (by unfold IsR; omega), if_neg (by omega), if_neg (by omega), if_neg (by omega)]; simp; omega
end
theorem hit1 (s : ByteArray) (a : Nat) : Hit s a 1 ↔ sb s a < 128 := by
  have := form1 (jN s a)
  simpa [Hit, eB, iY] using this
theorem hit2 (s : ByteArray) (a : Nat) : Hit s a 2 ↔ (sb s a / 32 = 6 ∧ sb s (a + 1) / 64 = 2 ∧ 128 ≤ sb s a % 32 * 64 + sb s (a + 1) % 64) := by
  have := form2 (jN s a) (jN s (a + 1))
  simpa [Hit, eB, iY, List.range_succ] using this
theorem hit3 (s : ByteArray) (a : Nat) : Hit s a 3 ↔ (sb s a / 16 = 14 ∧ sb s (a + 1) / 64 = 2 ∧ sb s (a + 2) / 64 = 2 ∧ 2048 ≤ sb s a % 16 * 4096 + sb s (a + 1) % 64 * 64 + sb s (a + 2) % 64 ∧ (sb s a % 16 * 4096 + sb s (a + 1) % 64 * 64 + sb s (a + 2) % 64 < 55296 ∨ 57343 < sb s a % 16 * 4096 + sb s (a + 1) % 64 * 64 + sb s (a + 2) % 64)) := by
  have := form3 (jN s a) (jN s (a + 1)) (jN s (a + 2))
  simpa [Hit, eB, iY, List.range_succ] using this
theorem hit4 (s : ByteArray) (a : Nat) : Hit s a 4 ↔ (sb s a / 8 = 30 ∧ sb s (a + 1) / 64 = 2 ∧ sb s (a + 2) / 64 = 2 ∧ sb s (a + 3) / 64 = 2 ∧ 65536 ≤ sb s a % 8 * 262144 + sb s (a + 1) % 64 * 4096 + sb s (a + 2) % 64 * 64 + sb s (a + 3) % 64 ∧ sb s a % 8 * 262144 + sb s (a + 1) % 64 * 4096 + sb s (a + 2) % 64 * 64 + sb s (a + 3) % 64 ≤ 1114111) := by
  have := form4 (jN s a) (jN s (a + 1)) (jN s (a + 2)) (jN s (a + 3))
  simpa [Hit, eB, iY, List.range_succ] using this
theorem yM (s : ByteArray) (i : Nat) : Utf8.decode s i = decodeN (s.size - i) (sb s i) (sb s (i + 1)) (sb s (i + 2)) (sb s (i + 3)) := decode_at s i
theorem fR (s : ByteArray) (a : Nat) (ha : a < s.size) :
    (∃ w, 1 ≤ w ∧ w ≤ 4 ∧ a + w ≤ s.size ∧ Hit s a w ∧ Utf8.decode s a = ((eB s a w).toNat, w) ∧ 0 ≤ eB s a w ∧ (eB s a w ≤ 1114111) ∧ ∀ w', Hit s a w' → 1 ≤ w' → w' ≤ 4 → w' = w) ∨
    ((∀ w, 1 ≤ w → w ≤ 4 → a + w ≤ s.size → ¬ Hit s a w) ∧ Utf8.decode s a = (65533, 1)) := by
  have h0 := jN s a
  have h1 := jN s (a + 1)
  have h2 := jN s (a + 2)
  have h3 := jN s (a + 3)
  have k1 := hit1 s a
  have k2 := hit2 s a
  have k3 := hit3 s a
  have k4 := hit4 s a
  have all : ∀ {p : Nat → Prop}, p 1 → p 2 → p 3 → p 4 → ∀ w, 1 ≤ w → w ≤ 4 → p w := by
    intro p p1 p2 p3 p4 w hw hw'
    have : w = 1 ∨ w = 2 ∨ w = 3 ∨ w = 4 := by omega
    rcases this with rfl | rfl | rfl | rfl <;> assumption
  rw [yM]
  unfold decodeN
  split
  · rename_i c
    exact .inl ⟨1, by omega, by omega, by omega, k1.2 c, by simp [eB], by simp [eB], by simp [eB]; omega, fun w' hw h1 h4 => by revert hw; revert w'; exact fun w' h1 h4 => all (p := fun w' => Hit s a w' → w' = 1) (fun _ => rfl) (fun h => by have := k2.1 h; omega) (fun h => by have := k3.1 h; omega) (fun h => by have := k4.1 h; omega) w' h1 h4⟩
  · rename_i c1
    split
    · rename_i c2
      split
      · rename_i c3
        exact .inl ⟨2, by omega, by omega, by omega, k2.2 ⟨c2.1, c2.2.2, c3⟩, by simp [eB]; omega, by simp [eB]; omega, by simp [eB]; omega, fun w' hw h1 h4 => by revert hw; revert w'; exact fun w' h1 h4 => all (p := fun w' => Hit s a w' → w' = 2) (fun h => by have := k1.1 h; omega) (fun h => rfl) (fun h => by have := k3.1 h; omega) (fun h => by have := k4.1 h; omega) w' h1 h4⟩
      · rename_i c3
        exact .inr ⟨all (p := fun w => a + w ≤ s.size → ¬ Hit s a w) (fun _ h => by have := k1.1 h; omega) (fun _ h => by have := k2.1 h; omega) (fun _ h => by have := k3.1 h; omega) (fun _ h => by have := k4.1 h; omega), rfl⟩
    · rename_i c2
      split
      · rename_i c4
        split
        · rename_i c3
          exact .inl ⟨3, by omega, by omega, by omega, k3.2 (by omega), by simp [eB]; omega, by simp [eB]; omega, by simp [eB]; omega, fun w' hw h1 h4 => by revert hw; revert w'; exact fun w' h1 h4 => all (p := fun w' => Hit s a w' → w' = 3) (fun h => by have := k1.1 h; omega) (fun h => by have := k2.1 h; omega) (fun h => rfl) (fun h => by have := k4.1 h; omega) w' h1 h4⟩
        · rename_i c3
          exact .inr ⟨all (p := fun w => a + w ≤ s.size → ¬ Hit s a w) (fun _ h => by have := k1.1 h; omega) (fun _ h => by have := k2.1 h; omega) (fun _ h => by have := k3.1 h; omega) (fun _ h => by have := k4.1 h; omega), rfl⟩
      · rename_i c4
        split
        · rename_i c5
          split
          · rename_i c3
            exact .inl ⟨4, by omega, by omega, by omega, k4.2 (by omega), by simp [eB]; omega, by simp [eB]; omega, by simp [eB]; omega, fun w' hw h1 h4 => by revert hw; revert w'; exact fun w' h1 h4 => all (p := fun w' => Hit s a w' → w' = 4) (fun h => by have := k1.1 h; omega) (fun h => by have := k2.1 h; omega) (fun h => by have := k3.1 h; omega) (fun h => rfl) w' h1 h4⟩
          · rename_i c3
            exact .inr ⟨all (p := fun w => a + w ≤ s.size → ¬ Hit s a w) (fun _ h => by have := k1.1 h; omega) (fun _ h => by have := k2.1 h; omega) (fun _ h => by have := k3.1 h; omega) (fun _ h => by have := k4.1 h; omega), rfl⟩
        · rename_i c5
          exact .inr ⟨all (p := fun w => a + w ≤ s.size → ¬ Hit s a w) (fun _ h => by have := k1.1 h; omega) (fun _ h => by have := k2.1 h; omega) (fun _ h => by have := k3.1 h; omega) (fun _ h => by have := k4.1 h; omega), rfl⟩
theorem tQ {s : ByteArray} {a w : Nat} (hw : 1 ≤ w) (hw4 : w ≤ 4) (hs : a + w ≤ s.size) (h : Hit s a w) : bQ s a = (eB s a w, w) ∧ 0 ≤ eB s a w ∧ eB s a w ≤ 1114111 := by
  rcases fR s a (by omega) with ⟨w', h1, h2, h3, h4, h5, h6, h7, h8⟩ | ⟨h1, _⟩
  · have : w = w' := h8 w h hw hw4
    subst this
    have hne : ¬ (((eB s a w).toNat, w).1 = 65533 ∧ ((eB s a w).toNat, w).2 = 1) := fun ⟨e1, e2⟩ => by
      simp only at e1 e2
      subst e2
      have := (hit1 s a).1 h
      simp [eB] at e1
      omega
    refine ⟨?_, h6, h7⟩
    unfold bQ
    rw [h5, if_pos ⟨by omega, hne⟩]
    simp only [Int.toNat_of_nonneg h6]
  · exact absurd h (h1 w hw hw4 hs)
theorem uQ {s : ByteArray} {a : Nat} (h : ∀ w, 1 ≤ w → w ≤ 4 → a + w ≤ s.size → ¬ Hit s a w) : bQ s a = (-1, 0) := by
  unfold bQ
  by_cases ha : a < s.size
  · rcases fR s a ha with ⟨w', h1, h2, h3, h4, _⟩ | ⟨_, h2⟩
    · exact absurd h4 (h w' h1 h2 h3)
    · rw [h2]; simp
  · rw [if_neg (by omega)]
theorem tP {s : ByteArray} {a : Nat} (h : s.size ≤ a) : bQ s a = (-1, 0) := uQ fun w h1 h2 h3 => by omega
theorem mP (s : ByteArray) (a : Nat) : bQ s a = (-1, 0) ∨ (0 ≤ (bQ s a).1 ∧ (bQ s a).1 ≤ 1114111 ∧ 1 ≤ (bQ s a).2 ∧ (bQ s a).2 ≤ 4 ∧ a + (bQ s a).2 ≤ s.size) := by
  by_cases ha : a < s.size
  · rcases fR s a ha with ⟨w', h1, h2, h3, h4, h5, h6, h7, _⟩ | ⟨h1, h2⟩
    · right
      rw [(tQ h1 h2 h3 h4).1]
      exact ⟨h6, h7, h1, h2, h3⟩
    · exact .inl (uQ h1)
  · exact .inl (tP (by omega))
theorem dO {s : ByteArray} {a b k : Nat} (hb : b ≤ s.size) (hk : a + k < b) : sb (s.extract a b) k = sb s (a + k) := by
  rw [tH _ _ (by simp; omega), tH _ _ (by omega)]
  simp only [ByteArray.getElem_extract]
theorem PE {n m b0 b1 b2 b3 c1 c2 c3 : Nat} (h : m = min n 4) (h1 : 1 < n → c1 = b1) (h2 : 2 < n → c2 = b2) (h3 : 3 < n → c3 = b3) : decodeN m b0 c1 c2 c3 = decodeN n b0 b1 b2 b3 := by
  have e1 : (1 < m) = (1 < n) := propext (by omega)
  have e2 : (2 < m) = (2 < n) := propext (by omega)
  have e3 : (3 < m) = (3 < n) := propext (by omega)
  unfold decodeN
  simp only [e1, e2, e3]
  by_cases k1 : 1 < n <;> by_cases k2 : 2 < n <;> by_cases k3 : 3 < n <;> simp only [k1, k2, k3, h1, h2, h3, true_and, and_true, false_and, and_false, if_false, ↓reduceIte]
theorem TR (s : ByteArray) (a : Nat) (ha : a < s.size) : Utf8.decode (s.extract a (min s.size (a + 4))) 0 = Utf8.decode s a := by
  rw [yM, yM]
  simp only [Nat.zero_add]
  have hsz : (s.extract a (min s.size (a + 4))).size = min (s.size - a) 4 := by simp; omega
  have hb : min s.size (a + 4) ≤ s.size := by omega
  have h0 : sb (s.extract a (min s.size (a + 4))) 0 = sb s a := by rw [dO hb (by omega)]; rfl
  rw [h0]
  refine PE (by omega) (fun h => ?_) (fun h => ?_) (fun h => ?_) <;> rw [dO hb (by omega)]
theorem PD (s : ByteArray) (a : Nat) (h : (Utf8.decode s a).1 = 65533) (ha : a < s.size) : (Utf8.decode s a).2 = 1 ∨ (Utf8.decode s a).2 = 3 := by
  rcases fR s a ha with ⟨w, h1, h2, h3, h4, h5, h6, h7, _⟩ | ⟨_, h2⟩
  · rw [h5] at h ⊢
    simp only at h ⊢
    have hh := h4
    unfold Hit at hh
    have e : eB s a w = 65533 := by omega
    rw [e] at hh
    have := congrArg List.length hh
    simp [iY, jP, IsR, vC] at this
    omega
  · rw [h2]; exact .inl rfl
theorem tX (s : ByteArray) (a : Nat) (h : (Utf8.decode s a).1 = 65533) (ha : a < s.size) : (Utf8.decode s a).2 = 3 ↔ (a + 3 ≤ s.size ∧ s.extract a (a + 3) = qJ [239, 191, 189]) := by
  constructor
  · intro h3
    rcases fR s a ha with ⟨w, h1, h2, hs, h4, h5, h6, h7, _⟩ | ⟨_, h2⟩
    · rw [h5] at h h3
      simp only at h h3
      subst h3
      refine ⟨hs, ?_⟩
      rw [(hit_eq hs).1 h4]
      have e : eB s a 3 = 65533 := by omega
      rw [e]; rfl
    · rw [h2] at h3; cases h3
  · rintro ⟨hs, he⟩
    have hg : iY s a 3 = [239, 191, 189] := by
      rw [vF s a 3 hs] at he
      exact (PV (DN s a 3) (by intro b hb; simp at hb; omega)).1 he
    simp [iY, List.range_succ] at hg
    have k3 := (hit3 s a).2 (by omega)
    have := (tQ (by omega) (by omega) hs k3)
    rcases fR s a ha with ⟨w, h1, h2, hs, h4, h5, h6, h7, h8⟩ | ⟨hn, h2⟩
    · rw [h5]; exact (h8 3 k3 (by omega) (by omega)).symm
    · exact absurd k3 (hn 3 (by omega) (by omega) hs)
theorem JQ (s : ByteArray) (a : Nat) (ha : a < s.size) (h : ¬ ((Utf8.decode s a).1 = 65533 ∧ (Utf8.decode s a).2 = 1)) :
    (Utf8.decode s a).2 = if (Utf8.decode s a).1 < 128 then 1 else if (Utf8.decode s a).1 < 2048 then 2 else if (Utf8.decode s a).1 < 65536 then 3 else 4 := by
  rcases fR s a ha with ⟨w, h1, h2, h3, h4, h5, h6, h7, _⟩ | ⟨_, h2⟩
  · rw [h5]
    have hl := JD h4
    unfold jP vC at hl
    simp only
    repeat' split at hl
    all_goals simp at hl
    all_goals subst hl
    all_goals (repeat' split)
    all_goals omega
  · rw [h2] at h; exact absurd ⟨rfl, rfl⟩ h
end Go.Proofs.YtidpigbinpaaeaaGreat
namespace Go.Proofs.YtidpigbinpaaeaaGreat
open Go.RowKit Go.W
def dJ (s : ByteArray) : Nat → Nat
  | 0 => 0
  | k + 1 => dJ s k + (bQ s (dJ s k)).2
def runeK (s : ByteArray) (k : Nat) : Int := (bQ s (dJ s k)).1
def Utf (s : ByteArray) (N : Nat) : Prop := dJ s N = s.size ∧ ∀ k, k < N → 0 < (bQ s (dJ s k)).2
def iD (s : ByteArray) (N : Nat) : List Int := (List.range N).map (runeK s)
theorem vP (s : ByteArray) (N : Nat) : (iD s N).length = N := by simp [iD]
theorem mN {s : ByteArray} {N k : Nat} (h : k < N) : (iD s N)[k]? = some (runeK s k) := by simp [iD, h]
theorem wH (s : ByteArray) (k : Nat) : dJ s k ≤ s.size := by
  induction k with
  | zero => exact Nat.zero_le _
  | succ k ih =>
    rw [dJ]
    rcases mP s (dJ s k) with h | h
    · rw [h]; exact ih
    · exact h.2.2.2.2
theorem yD (s : ByteArray) {a b : Nat} (h : a ≤ b) : dJ s a ≤ dJ s b := by
  induction h with
  | refl => exact Nat.le_refl _
  | step _ ih => rw [dJ]; omega
theorem AL {s : ByteArray} {N a b : Nat} (h : ∀ k, k < N → 0 < (bQ s (dJ s k)).2) (hab : a < b) (hb : b ≤ N) : dJ s a < dJ s b := by
  have h1 := h a (by omega)
  have h2 : dJ s (a + 1) ≤ dJ s b := yD s hab
  rw [dJ] at h2
  omega
theorem rB {s : ByteArray} {a : Nat} (h : 0 < (bQ s a).2) : a + (bQ s a).2 ≤ s.size ∧ ((bQ s a).1 < 128 → (bQ s a).2 = 1 ∧ (sb s a : Int) = (bQ s a).1) ∧
    (128 ≤ (bQ s a).1 → 128 ≤ sb s a ∧ 128 ≤ sb s (a + (bQ s a).2 - 1)) ∧ 0 ≤ (bQ s a).1 := by
  by_cases ha : a < s.size
  · rcases fR s a ha with ⟨w, h1, h2, h3, hh, -, h4, h5, -⟩ | ⟨h1, -⟩
    · rw [(tQ h1 h2 h3 hh).1]
      refine ⟨h3, ?_, ?_, h4⟩
      all_goals
        have e : w = 1 ∨ w = 2 ∨ w = 3 ∨ w = 4 := by omega
        rcases e with rfl | rfl | rfl | rfl
        · have := (hit1 s a).1 hh
          intro hg
          rw [show eB s a 1 = (sb s a : Int) from by simp [eB]] at hg ⊢
          dsimp only
          omega
        · have := (hit2 s a).1 hh
          intro hg
          simp only [eB, if_true, show (2 : Nat) ≠ 1 from by decide, if_false, show a + 2 - 1 = a + 1 from by omega] at hg ⊢
          omega
        · have := (hit3 s a).1 hh
          intro hg
          simp only [eB, if_true, show (3 : Nat) ≠ 1 from by decide, show (3 : Nat) ≠ 2 from by decide, if_false, show a + 3 - 1 = a + 2 from by omega] at hg ⊢
          omega
        · have := (hit4 s a).1 hh
          intro hg
          simp only [eB, if_true, show (4 : Nat) ≠ 1 from by decide, show (4 : Nat) ≠ 2 from by decide, show (4 : Nat) ≠ 3 from by decide, if_false, show a + 4 - 1 = a + 3 from by omega] at hg ⊢
          omega
    · rw [uQ h1] at h; cases h
  · rw [tP (by omega)] at h; cases h
def vG (s : ByteArray) (j : Int) : Prop := 0 ≤ j ∧ j < s.size ∧ gC (sb s j.toNat)
instance (s : ByteArray) (j : Int) : Decidable (vG s j) := by unfold vG; infer_instance
def vM (s : ByteArray) (c : In) (i : Nat) : Prop := c.op = 3 ∨ c.op = 4 ∨ c.op = 10 ∨ (c.op = 5 ∧ i = 0) ∨ (c.op = 6 ∧ i = s.size) ∨ (c.op = 7 ∧ (i = 0 ∨ sb s (i - 1) = 10)) ∨ (c.op = 8 ∧ (i = s.size ∨ sb s i = 10)) ∨
  (c.op = 9 ∧ (¬ (vG s ((i : Int) - 1) ↔ vG s i) ↔ c.arg = 0))
def EpsB (l : List In) (s : ByteArray) (i p q : Nat) : Prop := ∃ c, l[p]? = some c ∧ vM s c i ∧ ((q : Int) = c.out ∨ (c.op = 3 ∧ (q : Int) = c.alt))
def EatB (l : List In) (s : ByteArray) (i p q : Nat) : Prop := ∃ c, l[p]? = some c ∧ c.op = 2 ∧ (q : Int) = c.out ∧ 0 < (bQ s i).2 ∧ InR (bQ s i).1 c.rs
theorem MS {s : ByteArray} {a : Nat} (h : 0 < (bQ s a).2) : (sb s a = 10 ↔ (bQ s a).1 = 10) ∧ (sb s (a + (bQ s a).2 - 1) = 10 ↔ (bQ s a).1 = 10) := by
  obtain ⟨h1, h2, h3, h4⟩ := rB h
  by_cases e : (bQ s a).1 < 128
  · obtain ⟨h5, h6⟩ := h2 e
    rw [h5, Nat.add_sub_cancel]; omega
  · have := h3 (by omega); omega
theorem FQ {s : ByteArray} {a : Nat} (h : 0 < (bQ s a).2) : (gC (sb s a) ↔ AW (bQ s a).1) ∧ (gC (sb s (a + (bQ s a).2 - 1)) ↔ AW (bQ s a).1) := by
  obtain ⟨h1, h2, h3, h4⟩ := rB h
  unfold gC AW
  by_cases e : (bQ s a).1 < 128
  · obtain ⟨h5, h6⟩ := h2 e
    rw [h5, Nat.add_sub_cancel]; omega
  · have := h3 (by omega); omega
theorem bef_iff {s : ByteArray} {N k : Nat} (hU : Utf s N) (hk : k ≤ N) : vG s ((dJ s k : Nat) - 1) ↔ Bef (iD s N) k := by
  unfold vG Bef
  cases k with
  | zero => simp [dJ]
  | succ k =>
    have hw := hU.2 k (by omega)
    have h1 := wH s (k + 1)
    rw [Nat.add_sub_cancel, mN (by omega)]
    rw [dJ] at h1 ⊢
    rw [show (((dJ s k + (bQ s (dJ s k)).2 : Nat) : Int) - 1).toNat = dJ s k + (bQ s (dJ s k)).2 - 1 from by omega, (FQ hw).2]
    constructor
    · exact fun h => ⟨by omega, _, rfl, h.2.2⟩
    · rintro ⟨-, c, hc, h⟩
      cases hc
      exact ⟨by omega, by omega, h⟩
theorem IR {s : ByteArray} {N k : Nat} (hU : Utf s N) (hk : k ≤ N) : dJ s k = s.size ↔ k = N := by
  constructor
  · intro h
    by_cases e : k = N
    · exact e
    · have := AL hU.2 (show k < N by omega) (Nat.le_refl _)
      rw [hU.1] at this; omega
  · rintro rfl; exact hU.1
theorem off_zero {s : ByteArray} {N k : Nat} (hU : Utf s N) (hk : k ≤ N) : dJ s k = 0 ↔ k = 0 := by
  constructor
  · intro h
    by_cases e : k = 0
    · exact e
    · have := AL hU.2 (show 0 < k by omega) hk
      omega
  · rintro rfl; rfl
theorem aft_iff {s : ByteArray} {N k : Nat} (hU : Utf s N) (hk : k ≤ N) : vG s (dJ s k : Nat) ↔ Aft (iD s N) k := by
  unfold vG Aft
  by_cases e : k = N
  · have h1 := (IR hU hk).2 e
    constructor
    · intro h; omega
    · rintro ⟨c, hc, -⟩
      rw [List.getElem?_eq_none (by rw [vP]; omega)] at hc; cases hc
  · have hw := hU.2 k (by omega)
    have h1 := (rB hw).1
    rw [mN (by omega), Int.toNat_natCast, (FQ hw).1]
    constructor
    · exact fun h => ⟨_, rfl, h.2.2⟩
    · rintro ⟨c, hc, h⟩
      cases hc
      exact ⟨by omega, by omega, h⟩
theorem OB {s : ByteArray} {N k : Nat} (hU : Utf s N) (hk : k ≤ N) (c : In) : vM s c (dJ s k) ↔ kM (iD s N) c k := by
  have e1 := off_zero hU hk
  have e2 := IR hU hk
  have e3 := bef_iff hU hk
  have e4 := aft_iff hU hk
  have e5 : k = 0 ∨ (sb s (dJ s k - 1) = 10 ↔ (iD s N)[k - 1]? = some 10) := by
    cases k with
    | zero => exact .inl rfl
    | succ k =>
      right
      rw [Nat.add_sub_cancel, mN (by omega), dJ, (MS (hU.2 k (by omega))).2, Option.some.injEq]
      rfl
  have e6 : k = N ∨ (sb s (dJ s k) = 10 ↔ (iD s N)[k]? = some 10) := by
    by_cases e : k = N
    · exact .inl e
    · right
      rw [mN (by omega), (MS (hU.2 k (by omega))).1, Option.some.injEq]
      rfl
  unfold vM kM Plc
  rw [vP]
  by_cases h3 : c.op = 3
  · simp [h3]
  by_cases h4 : c.op = 4
  · simp [h4]
  by_cases h10 : c.op = 10
  · simp [h10]
  by_cases h5 : c.op = 5
  · simp [h5, e1]
  by_cases h6 : c.op = 6
  · simp [h6, e2]
  by_cases h7 : c.op = 7
  · simp [h7, e1]
    rcases e5 with e5 | e5
    · simp [e5]
    · rw [e5]
  by_cases h8 : c.op = 8
  · simp [h8, e2]
    rcases e6 with e6 | e6
    · simp [e6]
    · rw [e6]
  by_cases h9 : c.op = 9
  · rw [e3, e4]
    by_cases ha : c.arg = 0
    · simp [h9, ha]
    · simp [h9, ha]
  · have n1 : ¬ (5 ≤ c.op ∧ c.op ≤ 8) := by clear e1 e2 e3 e4 e5 e6; omega
    simp only [h3, h4, h10, h5, h6, h7, h8, h9, false_and, false_or, or_false]
    exact iff_of_false id (fun ⟨a, b, _⟩ => n1 ⟨a, b⟩)
inductive WB (l : List In) (s : ByteArray) : Nat → Nat → Prop
  | init : WB l s 0 0
  | eps {p q k : Nat} : WB l s p k → EpsB l s (dJ s k) p q → WB l s q k
  | eat {p q k : Nat} : WB l s p k → EatB l s (dJ s k) p q → WB l s q (k + 1)
def nX (c : In) : Prop := c.op ≠ 1 ∧ 0 ≤ c.out ∧ 0 ≤ c.alt ∧ c.rs.length ≤ 1048576
structure ProgOk (x : Rx) (l : List In) (n : Nat) : Prop where
  len : l.length = n + 1
  last : l[n]? = some ⟨1, 0, 0, 0, []⟩
  ops : ∀ p c, p < n → l[p]? = some c → nX c
  blk : Blk l x 0 n
  good : Good x
section
variable {x : Rx} {l : List In} {n : Nat}
theorem ProgOk.leads (h : ProgOk x l n) (rs : List Int) : Leads l rs 0 n (Mt rs x) := uW h.good 0 n h.blk
theorem ProgOk.stuck (h : ProgOk x l n) {rs : List Int} {i q j : Nat} : ¬ EA l rs n i q j := fun hs => by
  rcases tE h.last hs with ⟨-, hg, -⟩ | ⟨-, h2, -⟩
  · unfold kM at hg; simp at hg
  · cases h2
theorem WI {s : ByteArray} {N k p q : Nat} (hU : Utf s N) (hk : k ≤ N) : EpsB l s (dJ s k) p q ↔ Eps l (iD s N) k p q := by
  unfold EpsB Eps
  constructor
  · rintro ⟨c, h1, h2, h3⟩; exact ⟨c, h1, (OB hU hk c).1 h2, h3⟩
  · rintro ⟨c, h1, h2, h3⟩; exact ⟨c, h1, (OB hU hk c).2 h2, h3⟩
theorem WJ {s : ByteArray} {N k p q : Nat} (hU : Utf s N) (hk : k ≤ N) : EatB l s (dJ s k) p q ↔ Eat l (iD s N) k p q := by
  unfold EatB Eat
  constructor
  · rintro ⟨c, h1, h2, h3, h4, h5⟩
    have : k < N := by
      by_cases e : k = N
      · have := (rB h4).1
        have h6 := (IR hU hk).2 e
        omega
      · omega
    exact ⟨c, h1, h2, h3, _, mN this, h5⟩
  · rintro ⟨c, h1, h2, h3, r, h4, h5⟩
    have hk' : k < N := by
      by_cases e : k < N
      · exact e
      · rw [List.getElem?_eq_none (by rw [vP]; omega)] at h4; cases h4
    rw [mN hk'] at h4
    cases h4
    exact ⟨c, h1, h2, h3, hU.2 k hk', h5⟩
theorem wb_way {s : ByteArray} {N : Nat} (hP : ProgOk x l n) (hU : Utf s N) {p k : Nat} (h : WB l s p k) : k ≤ N → p ≤ n ∧ Way l (iD s N) 0 n p k 0 0 := by
  have hL := hP.leads (iD s N)
  induction h with
  | init => exact fun _ => ⟨by omega, .nil⟩
  | eps hw he ih =>
    rename_i p q k
    intro hk
    obtain ⟨h1, h2⟩ := ih hk
    have hs : EA l (iD s N) p k q k := .inl ⟨rfl, (WI hU hk).1 he⟩
    have hp : p < n := by
      by_cases e : p = n
      · subst e; exact (hP.stuck hs).elim
      · omega
    exact ⟨(hL.cl _ _ _ _ (by omega) hp hs).2, h2.trans (.cons (by omega) hp hs .nil)⟩
  | eat hw he ih =>
    rename_i p q k
    intro hk
    obtain ⟨h1, h2⟩ := ih (by omega)
    have hs : EA l (iD s N) p k q (k + 1) := .inr ⟨rfl, (WJ hU (by omega)).1 he⟩
    have hp : p < n := by
      by_cases e : p = n
      · subst e; exact (hP.stuck hs).elim
      · omega
    exact ⟨(hL.cl _ _ _ _ (by omega) hp hs).2, h2.trans (.cons (by omega) hp hs .nil)⟩
theorem way_le {rs : List Int} {a b q j p i : Nat} (h : Way l rs a b q j p i) : i ≤ j := by
  induction h with
  | nil => exact Nat.le_refl _
  | cons _ _ hs _ ih => rcases hs with ⟨rfl, -⟩ | ⟨rfl, -⟩ <;> omega
theorem way_wb {s : ByteArray} {N : Nat} (hU : Utf s N) {q j p i : Nat} (h : Way l (iD s N) 0 n q j p i) : j ≤ N → WB l s p i → WB l s q j := by
  induction h with
  | nil => exact fun _ h => h
  | cons ha hb hs hw ih =>
    rename_i p i p' i'
    intro hj hp
    refine ih hj ?_
    have hle : i' ≤ j := way_le hw
    rcases hs with ⟨rfl, he⟩ | ⟨rfl, he⟩
    · exact .eps hp ((WI hU (by omega)).2 he)
    · exact .eat hp ((WJ hU (by omega)).2 he)
theorem FL {s : ByteArray} {N : Nat} (hP : ProgOk x l n) (hU : Utf s N) : (∃ p c, WB l s p N ∧ l[p]? = some c ∧ c.op = 1) ↔ Mt (iD s N) x 0 N := by
  rw [← (hP.leads _).way]
  constructor
  · rintro ⟨p, c, h1, h2, h3⟩
    obtain ⟨h4, h5⟩ := wb_way hP hU h1 (Nat.le_refl _)
    by_cases e : p = n
    · subst e; exact h5
    · exact ((hP.ops p c (by omega) h2).1 h3).elim
  · exact fun h => ⟨n, _, way_wb hU h (Nat.le_refl _) .init, hP.last, rfl⟩
end
section
variable {l : List In} {s : ByteArray} {i : Nat} {init ls out : List Nat} {k : Nat}
end
end Go.Proofs.YtidpigbinpaaeaaGreat
namespace Go.W
open Go.RowKit
section
variable {P : Program} {σ : Env} {w : World} {dst : Option Nat} {T : TypeId} {pos : String} {after : Array Edge} {g : Option (Nat × Bool)}
theorem run_eqSl (n : Nat) {t e : TypeId} {a : Option Addr} {k c : Nat} (ht : P.underlying t = some (.slice e)) : (Op.equalIn (n + 1) t (.slice a k c) (.slice none 0 0)).run P w = .ok a.isNone w := by
  cases a <;> simp [Op.equalIn, run_underlying ht]
theorem WC {x y : Operand} {t e t' : TypeId} {a : Option Addr} {k c : Nat} (hx : σ.ev x = some (.slice a k c)) (hy : σ.ev y = some (.slice none 0 0)) (ht : P.underlying t = some (.slice e)) :
    Ex P σ ⟨dst, .binOp .eql t x y t', T, pos, after, g⟩ w (.bool a.isNone) w := fun ρ hρ => by
  have h1 : (Op.equal t (.slice a k c) (.slice none 0 0)).run P w = .ok a.isNone w := run_eqSl 9999 ht
  simp [execOp, hρ x _ hx, hρ y _ hy, eqGuard, Go.binOp, h1]
theorem fK {x i : Operand} {t : TypeId} {k : IntKind} {n sz b o len c : Nat} {a : Option Addr} (hx : σ.ev x = some (.slice a len c)) (hi : σ.ev i = some (.int k (n : Nat))) (ha : a = some ⟨b, o, none⟩) (he : mA P t = some sz) (hlt : n < len) :
    Ex P σ ⟨dst, .indexAddr t x i, T, pos, after, g⟩ w (.pointer (some ⟨b, o + n * sz, none⟩)) w := by
  subst ha; exact bX hx hi he hlt
theorem jU {x lo : Operand} {t : TypeId} {s : ByteArray} {lv : Int} {l : Nat} (hx : σ.ev x = some (.string s)) (hlo : σ.ev lo = some (.int .i64 lv)) (ht : P.underlying t = some .string) (hl : lv = (l : Int)) (hlh : l ≤ s.size) :
    Ex P σ ⟨dst, .slice t x (some lo) none none, T, pos, after, g⟩ w (.string (s.extract l s.size)) w := fun ρ hρ => by
  subst hl
  have := run_slice_string_l (P := P) w t s ht .i64 (l : Int) (by omega) (by omega)
  simp only [execOp, hρ x _ hx, Option.map_some, Option.map_none, hρ lo _ hlo, Instr.sliceAt, run_underlying ht, Sem.run_bind, Result.andThen_ok, this, Int.toNat_natCast, Sem.run_pure]
theorem ZC {x hi : Operand} {t : TypeId} {s : ByteArray} {hv : Int} {h : Nat} (hx : σ.ev x = some (.string s)) (hhi : σ.ev hi = some (.int .i64 hv)) (ht : P.underlying t = some .string) (hh : hv = (h : Int)) (hhc : h ≤ s.size) :
    Ex P σ ⟨dst, .slice t x none (some hi) none, T, pos, after, g⟩ w (.string (s.extract 0 h)) w := fun ρ hρ => by
  subst hh
  have := run_slice_string_h (P := P) w t s ht .i64 (h : Int) (by omega) (by omega)
  simp only [execOp, hρ x _ hx, Option.map_some, Option.map_none, hρ hi _ hhi, Instr.sliceAt, run_underlying ht, Sem.run_bind, Result.andThen_ok, this, Int.toNat_natCast, Sem.run_pure]
end
end Go.W
namespace Go.Proofs.YtidpigbinpaaeaaGreat
open Go.RowKit Go.W
attribute [local irreducible] Decidable.decide
theorem dZ : iN Tryz.prog 120 = some false := by kernel_rfl
theorem qE : iN Tryz.prog 123 = some true := by kernel_rfl
theorem fB : AA Tryz.prog 68 68 = some (135, 2, 8) := by kernel_rfl
theorem nV : AA Tryz.prog 120 120 = some (123, 5, 56) := by kernel_rfl
theorem kD : mA Tryz.prog 120 = some 5 := by kernel_rfl
theorem gA : dA Tryz.prog 123 1 = some 1 := by kernel_rfl
theorem qP : dA Tryz.prog 123 2 = some 2 := by kernel_rfl
theorem sE : eQ Tryz.prog 120 = some 1 := by kernel_rfl
theorem jZ : eQ Tryz.prog 123 = some 5 := by kernel_rfl
theorem fZ : lS Tryz.prog 68 = some (135, 2) := by kernel_rfl
theorem qL : lS Tryz.prog 120 = some (123, 5) := by kernel_rfl
structure CdAt (w : World) (cb : Nat) (es : List Iv) (a : Option Addr) (c : Nat) (ob : Option Nat) (Z : List Nat) : Prop where
  blk : w.heap[cb]? = some (.cells #[.slice a es.length c] 120 (0, 0))
  own : OwnS w 123 5 a es.length c (qI es) ob
  ne : ∀ g, ob = some g → g ≠ cb
  rs : ∀ e, e ∈ es → RSl 2 RRg (cb :: (ob.toList ++ Z)) w e.2 e.1.rs
theorem CdAt.lt {w : World} {cb : Nat} {es : List Iv} {a : Option Addr} {c : Nat} {ob : Option Nat} {Z : List Nat} (h : CdAt w cb es a c ob Z) : ∀ y, y ∈ cb :: ob.toList → y < w.heap.size := fun y hy => by
  rcases List.mem_cons.1 hy with e | e
  · rw [e]; exact dK h.blk
  · have : ob = some y := by simpa using e
    subst this; exact h.own.lt
theorem eA {w : World} {cb : Nat} {ob ob' : Option Nat} (h : ob' = ob ∨ ∃ g, ob' = some g ∧ w.heap.size ≤ g) : ∀ y, y ∈ cb :: ob'.toList → y ∈ cb :: ob.toList ∨ w.heap.size ≤ y := fun y hy => by
  rcases List.mem_cons.1 hy with e | e
  · left; simp [e]
  · have e' : ob' = some y := by simpa using e
    rcases h with rfl | ⟨g, h1, h2⟩
    · left; simp [e']
    · rw [e'] at h1; cases h1; exact .inr h2
theorem IW {w : World} {cb : Nat} {ob ob' : Option Nat} {Z : List Nat} (h : ob' = ob ∨ ∃ g, ob' = some g ∧ w.heap.size ≤ g) : ∀ y, y ∈ cb :: (ob'.toList ++ Z) → y ∈ cb :: (ob.toList ++ Z) ∨ w.heap.size ≤ y := fun y hy => by
  rw [← List.cons_append] at hy
  rcases List.mem_append.1 hy with e | e
  · exact (eA h y e).imp (fun h => by rw [← List.cons_append]; exact List.mem_append_left _ h) id
  · left; rw [← List.cons_append]; exact List.mem_append_right _ e
theorem eC {X : List Nat} {w w1 : World} {o o1 o2 : Option Nat} (h1 : o1 = o ∨ ∃ g, o1 = some g ∧ w.heap.size ≤ g) (he : Evo X w w1) (h2 : o2 = o1 ∨ ∃ g, o2 = some g ∧ w1.heap.size ≤ g) : o2 = o ∨ ∃ g, o2 = some g ∧ w.heap.size ≤ g := by
  rcases h2 with rfl | ⟨g, h3, h4⟩
  · exact h1
  · exact .inr ⟨g, h3, Nat.le_trans he.size h4⟩
theorem qY {X Y : List Nat} {w w' : World} {v : Value} {l : List (Int × Int)} (h : RSl 2 RRg X w v l) (he : Evo X w w') (hy : ∀ y, y ∈ Y → y ∈ X ∨ w.heap.size ≤ y) : RSl 2 RRg Y w' v l := by
  have h1 : RSl 2 RRg (Y ++ X) w v l := RSl.fresh (by decide) RRg.fresh (fun y hm => by rcases List.mem_append.1 hm with h | h; exact hy y h; exact .inl h) h
  have h2 := RSl.evo RRg.pers (he.mono (fun b hb => by simp [hb])) h1
  obtain ⟨a, c, hv, hc, h3⟩ := h2
  exact ⟨a, c, hv, hc, fun k hk => by obtain ⟨b, o, vs, ha, hb, hl, hcs, hr⟩ := h3 k hk; exact ⟨b, o, vs, ha, fun hm => hb (by simp [hm]), hl, hcs, hr⟩⟩
theorem RRg.one : ∀ X w vs d, RRg X w vs d → ∀ u, u ∈ vs → u.oneCell' = true := fun _ _ _ _ h u hu => by
  subst h; simp at hu; rcases hu with rfl | rfl <;> rfl
theorem CH {α : Type} (f g : α → α) (l : List α) (k : Nat) : (l.modify k f).modify k g = l.modify k (fun e => g (f e)) := by
  apply List.ext_getElem?
  intro i
  rw [List.getElem?_modify, List.getElem?_modify, List.getElem?_modify]
  cases l[i]? with
  | none => rfl
  | some v => by_cases e : k = i <;> simp [e]
def RA (w w' : World) (cb : Nat) (ob : Option Nat) (es : List Iv) (Z : List Nat) : Prop := ∃ a c ob', CdAt w' cb es a c ob' Z ∧ (ob' = ob ∨ ∃ g, ob' = some g ∧ w.heap.size ≤ g)
theorem CdAt.evo {w w' : World} {cb : Nat} {es : List Iv} {a : Option Addr} {c : Nat} {ob : Option Nat} {Y Z Z' : List Nat} (h : CdAt w cb es a c ob Z) (he : Evo Y w w') (h1 : cb ∉ Y) (h2 : ∀ g, ob = some g → g ∉ Y) (hY : ∀ y, y ∈ Y → y ∈ Z) (hZ : ∀ z, z ∈ Z' → z ∈ Z ∨ w.heap.size ≤ z) : CdAt w' cb es a c ob Z' :=
  ⟨he.blk h.blk h1, h.own.evo he h2, h.ne, fun e hm => qY (h.rs e hm) (he.mono (fun b hb => List.mem_cons_of_mem _ (List.mem_append_right _ (hY b hb)))) (fun y hy => by
    rw [← List.cons_append] at hy
    rcases List.mem_append.1 hy with e | e
    · left; rw [← List.cons_append]; exact List.mem_append_left _ e
    · exact (hZ y e).imp (fun h => by rw [← List.cons_append]; exact List.mem_append_right _ h) id)⟩
theorem CdAt.evo0 {w w' : World} {cb : Nat} {es : List Iv} {a : Option Addr} {c : Nat} {ob : Option Nat} {Z : List Nat} (h : CdAt w cb es a c ob Z) (he : Evo [] w w') : CdAt w' cb es a c ob Z := h.evo he (by simp) (by simp) (by simp) (fun z hz => .inl hz)
theorem lC {w : World} {cb : Nat} {es : List Iv} {a : Option Addr} {c : Nat} {ob : Option Nat} {op o al arg : Int} {vr : Value} {rs : List (Int × Int)} {Z : List Nat} (hC : CdAt w cb es a c ob Z) (hr : RSl 2 RRg (cb :: (ob.toList ++ Z)) w vr rs) (hl : es.length ≤ 1000000) :
    Calls Tryz.prog 81 #[.pointer (some ⟨cb, 0, none⟩), .agg #[iv op, iv o, iv al, iv arg, vr]] w (Ret fun v w' => v = iv (es.length : Nat) ∧ Evo (cb :: ob.toList) w w' ∧ RA w w' cb ob (es ++ [(⟨op, (es.length : Nat) + 1, al, arg, rs⟩, vr)]) Z) := by
  have a9 := hC; obtain ⟨hB, hO, hne, hrs⟩ := hC
  have hAJN : Apart (some cb) ob := fun g h1 h2 => by cases h1; exact hne cb h2 rfl
  have hone := hr.one
  have hmZ : ∀ b, b ∈ cb :: ob.toList → b ∈ cb :: (ob.toList ++ Z) := fun b hb => by rw [← List.cons_append]; exact List.mem_append_left _ hb
  have hcell := hr.cell; refine aT (N := 22) Tryz.func81 rfl rfl rfl ?_; refine csr (fT rfl rfl fun b1 w2 b4 U O => ?_); have a5 := Apart.new (Lt.own hO) U; refine wan (csr (aB (aC (aG rfl) (aC (aQ rfl dZ (aV (O.blk0 hB) rfl)) (aC (bD rfl Tryz.underlying120 rfl) ?_))))); refine wan (csr (aB ?_)); refine aC (aK rfl rfl (by omega) (by omega)) ?_; refine aC (aD rfl gA) ?_; refine bE rfl rfl (by first | rfl | assumption) bZ b4 rfl fun b7 V I => ?_
  try simp only [cG, Nat.reduceAdd] at V
  refine wnn (aI ?_); refine eX (fun w0 w' => Evo ob.toList w0 w') (by kernel_rfl) (fun E H => ?_); have J := H.blk0 (I.blk (O.blk0 hB) (Apart.new (Lt.blk hB) U).nmem1); refine aet 0 rfl (fun _ hS => aY rfl) (Evo.refl ob.toList E) ?_; refine aet 1 rfl (fun _ hS => aY rfl) (Evo.refl ob.toList E) ?_; refine aet 2 rfl (fun _ hS => aG rfl) (Evo.refl ob.toList E) ?_; refine aet 3 rfl (fun _ hS => aQ rfl dZ (aV (hS.blk J (hAJN.nmem)) rfl)) (Evo.refl ob.toList E) ?_; refine aet 4 rfl (fun _ hS => bT rfl qE jZ (hS.blk (H.blk0 V) (a5.symm.nmem)) rfl) (Evo.refl ob.toList E) ?_; refine bS [5] (by kernel_rfl) rfl ⟨?_, trivial⟩; refine bY rfl ?_; refine bL (vs := [_]) rfl qL rfl rfl rfl rfl fun b8 b9 a6 b6 A => ?_; have W := ((((Evo.refl (cb :: ob.toList) w).then O).step I (Ge.new (Evo.refl (cb :: ob.toList) w) U).mem1).then H).then A; have a0 := (Evo.refl ob.toList E).then A; refine aP (bN (.inl a0) ?_); refine bS [6] (by kernel_rfl) rfl ⟨?_, trivial⟩; refine bY rfl ?_; have hszg := (W).size
  refine cT rfl rfl rfl rfl nV ((((hO.evo0 O).evo I a5.own1).evo0 H).evo0 A) (Src.ofOwn a6 ⟨by first | rfl | assumption, by first | rfl | assumption, by first | rfl | assumption, by first | rfl | assumption, by first | rfl | assumption, trivial⟩) (by omega) fun a2 c2 c0 ob2 b5 L hob45 => ?_; have a7 := W.step L (fun y hy => .inl (List.mem_cons_of_mem _ hy)); have a1 := a0.step L (fun y hy => .inl hy); have hob2 : ob2 = ob ∨ ∃ g, ob2 = some g ∧ w.heap.size ≤ g := hob45.imp id (fun ⟨g, h1, h2⟩ => ⟨g, h1, Nat.le_trans hszg h2⟩); refine aP (bN (.inl a1) ?_); refine aet 7 rfl (fun _ hS => aG rfl) a1 ?_; refine bS [8] (by kernel_rfl) rfl ⟨?_, trivial⟩; refine bY rfl ?_; refine bE rfl rfl (by first | rfl | assumption) sE (L.blk (A.blk0 J) hAJN.nmem) rfl fun c1 a3 a4 => ?_
  have M := a7.step a4 (fun y hy => .inl (by rw [List.mem_singleton.1 hy]; exact List.mem_cons_self ..))
  have a8 := b5.evo a4 (hAJN.app (Lt.blk (A.blk0 J)) hob45).symm.own1
  try simp only [cG, Nat.reduceAdd] at a3
  refine aP (bN (.inr (by kernel_rfl)) ?_); refine cV (by kernel_rfl) (aA ?_); refine csr (aB (wan (aH (br1 ?_)))); refine ⟨rfl, M, a2, c2, ob2, ⟨?_, ?_, IK hne (dK a9.blk) hob2, fun e he => ?_⟩, hob2⟩
  · rw [List.length_append]; exact a3
  · rw [List.length_append, tU]; exact a8
  · rcases List.mem_append.1 he with he | he
    · exact qY (hrs e he) ((M).mono hmZ) (IW hob2)
    · rw [List.mem_singleton] at he; subst he; exact qY hr ((M).mono hmZ) (IW hob2)
theorem turn_ok {w : World} {es : List Iv} {a : Option Addr} {c k : Nat} {ob : Option Nat} {i o : Int} {z : Bool} (hO : OwnS w 123 5 a es.length c (qI es) ob) (hk : k < es.length) :
    Calls Tryz.prog 100 #[.slice a es.length c, .int .i64 (k : Nat), .int .i64 i, .int .i64 o, .bool z] w (Ret fun v w' => v = .tuple #[] ∧ Evo ob.toList w w' ∧ OwnS w' 123 5 a es.length c (qI (es.modify k (fun e => (⟨e.1.op, if z then o else i, if z then i else o, e.1.arg, e.1.rs⟩, e.2)))) ob) := by
  obtain ⟨g0, hg0, rfl, -⟩ := hO.cells (by omega)
  have hsame : ∀ (f g : Iv → Iv), (∀ e, f e = g e) → es.modify k f = es.modify k g := fun f g h => by rw [show f = g from funext h]
  refine aT (N := 23) Tryz.func100 rfl rfl rfl ?_; refine aI (csr (aB (wnn (dW rfl (fun E => ?_) (fun E => ?_)))))
  ·refine aF (aB (aB (bR (wan (aF (aB (aB (aB (aB (aB (aB (aC (bX (n := k) rfl rfl kD hk) ?_)))))))))))); refine aC (aD rfl gA) ?_
   obtain ⟨g10, cur1, hg2, hx3, hcu4, hcs5, -⟩ := hO.at (by omega)
   cases hx3; refine gS rfl rfl (rfl) bZ hcu4 (hO.inb hcs5 (k := k) (j := 1) (by omega) (by omega) (by omega)) fun w6 a3 M => ?_; replace M := lF hg2 M; have L := hO.set' hg2 hcu4 a3; have V := (Evo.refl ob.toList w).step M (fun y hy => .inl hy); rw [show 0 + k * 5 + 1 = k * 5 + 1 from by omega, pX hk] at L; refine aC (bX (n := k) rfl rfl kD hk) ?_; refine aC (aD rfl qP) ?_
   obtain ⟨g21, cur12, hg13, hx14, hcu15, hcs16, -⟩ := L.at (by omega)
   cases hx14; refine gS rfl rfl (rfl) bZ hcu15 (L.inb hcs16 (k := k) (j := 2) (by omega) (by omega) (by omega)) fun a4 W H => ?_; replace H := lF hg13 H; have O := L.set' hg13 hcu15 W
   rw [show 0 + k * 5 + 2 = k * 5 + 2 from by omega, zG (by rw [List.length_modify]; exact hk)] at O
   refine aP (eF rfl ?_); refine ⟨rfl, (V.step H (fun y hy => .inl hy)), ?_⟩; have h := O; rw [CH] at h; subst E; exact h
  refine aL (aA (aF (aB (aB (aB (aB (aB (aB (aC (bX (n := k) rfl rfl kD hk) ?_))))))))); refine aC (aD rfl gA) ?_
  obtain ⟨g32, cur23, hg24, hx25, hcu26, hcs27, -⟩ := hO.at (by omega)
  cases hx25; refine gS rfl rfl (rfl) bZ hcu26 (hO.inb hcs27 (k := k) (j := 1) (by omega) (by omega) (by omega)) fun a5 a0 I => ?_; replace I := lF hg24 I; have A := hO.set' hg24 hcu26 a0; have a1 := (Evo.refl ob.toList w).step I (fun y hy => .inl hy); rw [show 0 + k * 5 + 1 = k * 5 + 1 from by omega, pX hk] at A; refine aC (bX (n := k) rfl rfl kD hk) ?_; refine aC (aD rfl qP) ?_
  obtain ⟨g43, cur34, hg35, hx36, hcu37, hcs38, -⟩ := A.at (by omega)
  cases hx36; refine gS rfl rfl (rfl) bZ hcu37 (A.inb hcs38 (k := k) (j := 2) (by omega) (by omega) (by omega)) fun a6 a2 J => ?_; replace J := lF hg35 J; have U := A.set' hg35 hcu37 a2
  rw [show 0 + k * 5 + 2 = k * 5 + 2 from by omega, zG (by rw [List.length_modify]; exact hk)] at U
  refine aP (eF rfl ?_); refine ⟨rfl, (a1.step J (fun y hy => .inl hy)), ?_⟩; have h := U; rw [CH] at h; subst E; exact h
theorem TX {X Y : List Nat} {w : World} {v : Value} {l : List (Int × Int)} (hs : RSl 2 RRg Y w v l) (hX : ∀ b, b ∈ X → b < w.heap.size) (hl : l.length ≤ 1048576) :
    Calls Tryz.prog 82 #[v] w (Ret fun v' w' => RSl 2 RRg X w' v' l ∧ Evo [] w w') := by
  have L := hs; obtain ⟨sa, sc, rfl, hlc, e1⟩ := hs; refine aT (N := 8) Tryz.func82 rfl rfl rfl ?_; refine csr (wan (aI (csr (aB (aC (WC rfl rfl Tryz.underlying68) ?_))))); refine wnn (dW rfl (fun E => ?_) (fun E => ?_))
  ·refine csr (wan (aH (aE (br1 ?_))))
   have h0 : l = [] := by
      cases l with
      | nil => rfl
      | cons x xs => obtain ⟨b, o, vs, ha, -⟩ := e1 0 (by simp); subst ha; cases E
   subst h0; exact ⟨⟨none, 0, rfl, Nat.le_refl _, fun k hk => by cases hk⟩, (Evo.refl [] w)⟩
  refine aL (aA (csr (bL (vs := []) rfl fZ rfl rfl rfl rfl fun b1 w2 M O U => ?_))); have H := Ge.new (Evo.refl [] w) O; have A := (Evo.refl [] w).then U; refine aB ?_; obtain ⟨rows, hrow, hsrc⟩ := L.rows (P := Tryz.prog) ((A).any _) RRg.one; refine cT rfl rfl rfl rfl fB M hsrc (by omega) fun a2 c2 V ob2 I J hob14 => ?_; refine wan (aH (br1 ?_)); refine ⟨?_, (A.step J H.mem)⟩; have hge := (H.app A hob14)
  exact RSl.ofOwn (rows := rows) I ⟨hrow.1, fun k hk hk' => hrow.2 k hk hk'⟩ (by omega) (fun g hg hm => by have := hge g hg; have := hX g hm; omega)
end Go.Proofs.YtidpigbinpaaeaaGreat
namespace Go.Proofs.YtidpigbinpaaeaaGreat
open Go.RowKit Go.W
theorem qK (l : List In) (x : Rx) (a b : Nat) : Blk l x a b ↔
    (x.kind = 1 → b = a) ∧
    (x.kind = 2 → b = a + 1 ∧ l[a]? = some ⟨2, (a : Int) + 1, 0, 0, [(x.r, x.r)]⟩) ∧
    (x.kind = 3 → b = a + 1 ∧ l[a]? = some (if x.ranges = [] then ⟨11, 0, 0, 0, []⟩ else ⟨2, (a : Int) + 1, 0, 0, x.ranges⟩)) ∧
    (x.kind = 4 → kE l x.kids a b) ∧
    (x.kind = 5 → tB l x.kids a b) ∧
    (x.kind = 6 → ∃ m, Rep (kE l x.kids) x.min.toNat a m ∧ (x.max = -1 → ∃ m', l[m]? = some (In.sp x.lazy (m + 1) b) ∧ kE l x.kids (m + 1) m' ∧ l[m']? = some ⟨10, (m : Int), 0, 0, []⟩ ∧ b = m' + 1) ∧
      (x.max ≠ -1 → Opt l x.lazy (kE l x.kids) b (x.max - x.min).toNat m)) ∧
    (x.kind = 7 → ∃ m, l[a]? = some ⟨4, (a : Int) + 1, 0, 2 * x.cap, []⟩ ∧ kE l x.kids (a + 1) m ∧ l[m]? = some ⟨4, (m : Int) + 1, 0, 2 * x.cap + 1, []⟩ ∧ b = m + 1) ∧
    (8 ≤ x.kind → b = a + 1 ∧ l[a]? = some (lU x.kind a)) := by
  cases x; rw [Blk]; rfl
theorem HR {l : List In} {x : Rx} {b m : Nat} (hb : Blk l x m b) : ∀ {ks : List Rx} {a : Nat}, kE l ks a m → kE l (ks ++ [x]) a b
  | [], a, h => by rw [kE] at h; subst h; exact tY.2 hb
  | k :: ks, a, h => by
    rw [kE] at h
    obtain ⟨m', h1, h2⟩ := h
    rw [List.cons_append, kE]
    exact ⟨m', h1, HR hb h2⟩
def CatC (ks : List Rx) (a : Nat) (k : List In) : Prop := ∀ l, Has l a k → kE l ks a (a + k.length)
theorem CatC.nil (a : Nat) : CatC [] a [] := fun l _ => by rw [kE]; rfl
theorem CatC.snoc {ks : List Rx} {x : Rx} {a : Nat} {k kx : List In} (h : CatC ks a k) (hx : gR x (a + k.length) kx) : CatC (ks ++ [x]) a (k ++ kx) := fun l hl => by
  rw [List.length_append, ← Nat.add_assoc]
  exact HR (hx l hl.right) (h l hl.left)
section
variable {x y : Rx} {a : Nat} {k kx : List In}
theorem PK (h : x.kind = 1) : gR x a [] := fun l hl => (qK l x a _).2 ⟨fun _ => rfl, fun _ => by omega, fun _ => by omega, fun _ => by omega, fun _ => by omega, fun _ => by omega, fun _ => by omega, fun _ => by omega⟩
theorem ZG (h : x.kind = 2) : gR x a [⟨2, (a : Int) + 1, 0, 0, [(x.r, x.r)]⟩] := fun l hl => (qK l x a _).2 ⟨fun _ => by omega, fun _ => ⟨rfl, hl.one⟩, fun _ => by omega, fun _ => by omega, fun _ => by omega, fun _ => by omega, fun _ => by omega, fun _ => by omega⟩
theorem TW (h : x.kind = 3) (hr : x.ranges = []) : gR x a [⟨11, 0, 0, 0, []⟩] := fun l hl => (qK l x a _).2 ⟨fun _ => by omega, fun _ => by omega, fun _ => ⟨rfl, by rw [if_pos hr]; exact hl.one⟩, fun _ => by omega, fun _ => by omega, fun _ => by omega, fun _ => by omega, fun _ => by omega⟩
theorem PM (h : x.kind = 3) (hr : x.ranges ≠ []) : gR x a [⟨2, (a : Int) + 1, 0, 0, x.ranges⟩] := fun l hl => (qK l x a _).2 ⟨fun _ => by omega, fun _ => by omega, fun _ => ⟨rfl, by rw [if_neg hr]; exact hl.one⟩, fun _ => by omega, fun _ => by omega, fun _ => by omega, fun _ => by omega, fun _ => by omega⟩
theorem ZI (h : x.kind = 4) (hk : CatC x.kids a k) : gR x a k := fun l hl => (qK l x a _).2 ⟨fun _ => by omega, fun _ => by omega, fun _ => by omega, fun _ => hk l hl, fun _ => by omega, fun _ => by omega, fun _ => by omega, fun _ => by omega⟩
theorem ZJ (h : x.kind = 5) (hk : ∀ l, Has l a k → tB l x.kids a (a + k.length)) : gR x a k := fun l hl => (qK l x a _).2 ⟨fun _ => by omega, fun _ => by omega, fun _ => by omega, fun _ => by omega, fun _ => hk l hl, fun _ => by omega, fun _ => by omega, fun _ => by omega⟩
theorem mU (h : 8 ≤ x.kind) : gR x a [lU x.kind a] := fun l hl => (qK l x a _).2 ⟨fun _ => by omega, fun _ => by omega, fun _ => by omega, fun _ => by omega, fun _ => by omega, fun _ => by omega, fun _ => by omega, fun _ => ⟨rfl, hl.one⟩⟩
theorem ZH (h : x.kind = 7) (hk : x.kids = [y]) (hc : gR y (a + 1) k) : gR x a ([⟨4, (a : Int) + 1, 0, 2 * x.cap, []⟩] ++ (k ++ [⟨4, ((a + 1 + k.length : Nat) : Int) + 1, 0, 2 * x.cap + 1, []⟩])) := fun l hl =>
  (qK l x a _).2 ⟨fun _ => by omega, fun _ => by omega, fun _ => by omega, fun _ => by omega, fun _ => by omega, fun _ => by omega, fun _ => ⟨a + 1 + k.length, hl.left.one, by rw [hk]; exact tY.2 (hc l hl.right.left), hl.right.right.one, by simp only [List.length_append, List.length_cons, List.length_nil]; omega⟩, fun _ => by omega⟩
theorem TV (h : x.kind = 6) (hk : x.kids = [y]) (hm : x.max = -1) (hr : RepC [y] x.min.toNat a k) (hc : gR y (a + k.length + 1) kx) :
    gR x a (k ++ ([In.sp x.lazy (a + k.length + 1) (a + k.length + 1 + kx.length + 1)] ++ (kx ++ [⟨10, ((a + k.length : Nat) : Int), 0, 0, []⟩]))) := fun l hl => by
  have hlen : a + (k ++ ([In.sp x.lazy (a + k.length + 1) (a + k.length + 1 + kx.length + 1)] ++ (kx ++ [(⟨10, ((a + k.length : Nat) : Int), 0, 0, []⟩ : In)]))).length = a + k.length + 1 + kx.length + 1 := by simp only [List.length_append, List.length_cons, List.length_nil]; omega
  rw [hlen]
  refine (qK l x a _).2 ⟨fun _ => by omega, fun _ => by omega, fun _ => by omega, fun _ => by omega, fun _ => by omega, fun _ => ⟨a + k.length, by rw [hk]; exact hr l hl.left, fun _ => ⟨a + k.length + 1 + kx.length, hl.right.left.one, by rw [hk]; exact tY.2 (hc l hl.right.right.left), hl.right.right.right.one, rfl⟩, fun h => (h hm).elim⟩, fun _ => by omega, fun _ => by omega⟩
theorem ZF {js : List Nat} {kp : List In} {r : Nat} (h : x.kind = 6) (hk : x.kids = [y]) (hm : x.max ≠ -1) (hr : RepC [y] x.min.toNat a k) (hrn : r = (x.max - x.min).toNat) (ho : OptPre x.lazy y r (a + k.length) kx js) (hkp : kp.length = kx.length)
    (hp : ∀ l, Has l (a + k.length) kp → Pat l (a + k.length) kx js (turnTo x.lazy (a + k.length + kx.length))) : gR x a (k ++ kp) := fun l hl => by
  subst hrn
  rw [List.length_append, hkp, ← Nat.add_assoc]
  refine (qK l x a _).2 ⟨fun _ => by omega, fun _ => by omega, fun _ => by omega, fun _ => by omega, fun _ => by omega, fun _ => ⟨a + k.length, by rw [hk]; exact hr l hl.left, fun h => (hm h).elim, fun _ => ?_⟩, fun _ => by omega, fun _ => by omega⟩
  rw [hk]
  exact ho.blk l _ (hp l hl.right) 0 rfl
end
end Go.Proofs.YtidpigbinpaaeaaGreat
namespace Go.Proofs.YtidpigbinpaaeaaGreat
open Go.RowKit Go.W
attribute [local irreducible] Decidable.decide
theorem vK : AA Tryz.prog 37 37 = some (3, 1, 8) := by kernel_rfl
theorem dF : Build Tryz.prog 123 #[(0, 1), (1, 1), (2, 1), (3, 1), (4, 1)] #[.int .i64 0, .int .i64 0, .int .i64 0, .int .i64 0, .slice none 0 0] := ⟨_, .agg #[.int .i64 0, .int .i64 0, .int .i64 0, .int .i64 0, .slice none 0 0], Tryz.underlying123, by kernel_rfl, rfl, fun w => by kernel_rfl⟩
theorem qD : mA Tryz.prog 37 = some 1 := by kernel_rfl
theorem iU : cX Tryz.prog 55 := ⟨_, Tryz.func55, by kernel_rfl, by kernel_rfl⟩
theorem eM : cX Tryz.prog 81 := ⟨_, Tryz.func81, by kernel_rfl, by kernel_rfl⟩
theorem sP : cX Tryz.prog 100 := ⟨_, Tryz.func100, by kernel_rfl, by kernel_rfl⟩
theorem wV : lS Tryz.prog 37 = some (3, 1) := by kernel_rfl
theorem CdAt.mod {w w' : World} {cb : Nat} {es : List Iv} {a : Option Addr} {c k : Nat} {ob : Option Nat} {Z : List Nat} {f : Iv → Iv} (h : CdAt w cb es a c ob Z) (he : Evo ob.toList w w') (ho : OwnS w' 123 5 a es.length c (qI (es.modify k f)) ob) (hf : ∀ e, (f e).2 = e.2 ∧ (f e).1.rs = e.1.rs) : CdAt w' cb (es.modify k f) a c ob Z := by
  refine ⟨?_, by rw [List.length_modify]; exact ho, h.ne, fun e hm => ?_⟩
  · rw [List.length_modify]
    exact he.blk h.blk (fun hm => h.ne cb (by simpa using hm) rfl)
  · obtain ⟨i, hi, rfl⟩ := List.getElem_of_mem hm
    rw [List.getElem_modify]
    have hi' : i < es.length := by simpa using hi
    have h1 := qY (h.rs es[i] (List.getElem_mem hi')) (he.mono (fun b hb => List.mem_cons_of_mem _ (List.mem_append_left _ hb))) (fun y hy => .inl hy)
    split
    · rw [(hf _).1, (hf _).2]; exact h1
    · exact h1
theorem MO {w : World} {cb : Nat} {es : List Iv} {a : Option Addr} {c k : Nat} {ob : Option Nat} {Z : List Nat} {i o : Int} {z : Bool} (h : CdAt w cb es a c ob Z) (hk : k < es.length) :
    Calls Tryz.prog 100 #[.slice a es.length c, .int .i64 (k : Nat), .int .i64 i, .int .i64 o, .bool z] w (Ret fun v w' => v = .tuple #[] ∧ Evo ob.toList w w' ∧ CdAt w' cb (es.modify k (fun e => (⟨e.1.op, if z then o else i, if z then i else o, e.1.arg, e.1.rs⟩, e.2))) a c ob Z) :=
  (turn_ok h.own hk).mono fun e w' ⟨v, h1, h2, h3, h4⟩ => ⟨v, h1, h2, h3, h.mod h3 h4 (fun _ => ⟨rfl, rfl⟩)⟩
theorem yE {jb : Nat} {o ob : Option Nat} (h1 : Apart o (some jb)) (h2 : Apart o ob) : ∀ g, o = some g → g ∉ jb :: ob.toList := fun g hg => by subst hg; exact pB h1 h2
theorem addr0 {b o c sz : Nat} : (if c = 0 then (some (⟨b, o, none⟩ : Addr)) else (some (⟨b, o, none⟩ : Addr)).map (·.add (0 * sz))) = some ⟨b, o, none⟩ := by
  split
  · rfl
  · simp [Addr.add]
theorem VK {A B : List Iv} {x y : Iv} {f : Iv → Iv} {k : Nat} (hk : k = A.length) : (((A ++ [x]) ++ B) ++ [y]).modify k f = A ++ ([f x] ++ (B ++ [y])) := by
  subst hk
  rw [List.append_assoc, List.append_assoc]
  induction A with
  | nil => simp [List.modify]
  | cons a A ih => rw [List.cons_append, List.length_cons, mR, ih]; rfl
theorem SQ (o al : Int) (ho : 0 ≤ o) (ha : 0 ≤ al) : nX ⟨3, o, al, 0, []⟩ := ⟨by simp, ho, ha, Nat.zero_le _⟩
theorem VF (z : Bool) (a b : Nat) : nX (In.sp z a b) := by unfold In.sp; split <;> exact ⟨by simp, Int.natCast_nonneg _, Int.natCast_nonneg _, Nat.zero_le _⟩
theorem YG (n : Nat) : nX ⟨10, (n : Int) + 1, 0, 0, []⟩ := ⟨by simp, by show (0 : Int) ≤ (n : Int) + 1; omega, Int.le_refl _, Nat.zero_le _⟩
theorem gZ {A B : List Iv} (hA : ∀ e, e ∈ A → nX e.1) (hB : ∀ e, e ∈ B → nX e.1) : ∀ e, e ∈ A ++ B → nX e.1 := fun e he => by rcases List.mem_append.1 he with h | h; exact hA e h; exact hB e h
theorem gI {x : Iv} (h : nX x.1) : ∀ e, e ∈ [x] → nX e.1 := fun e he => by rw [List.mem_singleton] at he; subst he; exact h
theorem CB {f : Nat → Iv → Iv} {new new' : List Iv} {js : List Nat} {n : Nat} (h : ∀ e, e ∈ new → nX e.1) (hl : new'.length = new.length) (hg : ∀ i (h : i < new.length), new'[i]? = some (if n + i ∈ js then f (n + i) new[i] else new[i])) (hf : ∀ p e, nX e.1 → nX (f p e).1) : ∀ e, e ∈ new' → nX e.1 := fun e he => by
  obtain ⟨i, hi, rfl⟩ := List.getElem_of_mem he
  have h1 := hg i (by omega)
  rw [List.getElem?_eq_getElem hi, Option.some.injEq] at h1
  rw [h1]
  have h2 := h _ (List.getElem_mem (show i < new.length by omega))
  split
  · exact hf _ _ h2
  · exact h2
theorem RP {es : List Iv} {k n : Nat} (h : es.length = n) : es.modify k (Iv.setOut (es.length : Nat)) = es.modify k (Iv.outTo n k) := by subst h; rfl
theorem CdAt.cast {w : World} {cb : Nat} {es es' : List Iv} {a : Option Addr} {c : Nat} {ob : Option Nat} {Z : List Nat} (h : CdAt w cb es a c ob Z) (e : es = es') : CdAt w cb es' a c ob Z := e ▸ h
theorem NF {w : World} {e : TypeId} {a : Option Addr} {n c : Nat} {ys : List Nat} {ob : Option Nat} (h : OwnS w e 1 a n c (ys.map fun p => iv (p : Nat)) ob) (h0 : 0 < n) : ∃ g, a = some ⟨g, 0, none⟩ ∧ ∀ k (hk : k < ys.length), w.cell? ⟨g, 0 + k * 1, none⟩ = some (iv (ys[k] : Nat)) := by
  obtain ⟨g, hg, ha, hc⟩ := h.cells h0
  refine ⟨g, ha, fun k hk => ?_⟩
  rw [Nat.mul_one]
  exact hc k _ (by simp [hk])
theorem JO {l : List Rx} {j : Nat} (h : j < l.length) : iE (l.take j) + l[j].esz ≤ iE l := by
  rw [← uV h]
  have : ∀ (l : List Rx) (k : Nat), iE (l.take k) ≤ iE l := by
    intro l
    induction l with
    | nil => intro k; simp
    | cons x xs ih =>
      intro k
      cases k with
      | zero => rw [List.take_zero, iE]; exact Nat.zero_le _
      | succ k => rw [List.take_succ_cons, iE, iE]; have := ih k; omega
  exact this l (j + 1)
structure ChG where
  j : Nat
  new : List Iv
  pa : Option Addr
  pc : Nat
  po : Option Nat
  js : List Nat
  ja : Option Addr
  jc : Nat
  jo : Option Nat
structure ChI (w wr : World) (cb : Nat) (es : List Iv) (ob : Option Nat) (Z : List Nat) (ks : List Rx) (x : ChG) : Prop where
  j : x.j + 1 ≤ ks.length
  cd : CdAt wr cb (es ++ x.new) x.pa x.pc x.po (x.jo.toList ++ Z)
  po : x.po = ob ∨ ∃ g, x.po = some g ∧ w.heap.size ≤ g
  pre : AltPre (ks.take x.j) es.length (x.new.map (·.1)) x.js
  len : x.new.length ≤ iE (ks.take x.j) + 2 * x.j
  jl : x.js.length = x.j
  nice : ∀ e, e ∈ x.new → nX e.1
  jo : OwnS wr 3 1 x.ja x.j x.jc (x.js.map fun p => iv (p : Nat)) x.jo
  ap1 : Apart (some cb) x.jo
  ap2 : Apart x.po x.jo
  ge : Ge w x.jo
theorem VM {w1 wb : World} {jo jo2 : Option Nat} {Z : List Nat} {X : List Nat} (he : Evo X w1 wb) (h : jo2 = jo ∨ ∃ g, jo2 = some g ∧ wb.heap.size ≤ g) : ∀ z, z ∈ jo2.toList ++ Z → z ∈ jo.toList ++ Z ∨ w1.heap.size ≤ z := fun z hz => by
  rcases List.mem_append.1 hz with h1 | h1
  · rcases h with rfl | ⟨g, h2, h3⟩
    · left; exact List.mem_append_left _ h1
    · right; have := he.size; rw [h2] at h1; simp at h1; omega
  · left; exact List.mem_append_right _ h1
theorem ltZ {w w1 : World} {X : List Nat} {o : Option Nat} {Z : List Nat} (hZ : ∀ z, z ∈ Z → z < w.heap.size) (he : Evo X w w1) (ho : Lt w1 o) : ∀ z, z ∈ o.toList ++ Z → z < w1.heap.size := fun z hz => by
  rcases List.mem_append.1 hz with h | h
  · exact ho z (by simpa using h)
  · exact Nat.lt_of_lt_of_le (hZ z h) he.size
set_option maxHeartbeats 4000000 in
theorem PN {n : Nat} (ih : ∀ {w : World} {cb : Nat} {es : List Iv} {a : Option Addr} {c : Nat} {ob : Option Nat} {Z : List Nat} {vs : List Value} {t : Rx} (hC : CdAt w cb es a c ob Z) (hx : RRx n (cb :: ob.toList) w vs t) (hg : Good t) (hl : es.length + t.esz ≤ 100000) (hZ : ∀ z, z ∈ Z → z < w.heap.size), Calls Tryz.prog 55 #[.pointer (some ⟨cb, 0, none⟩), .agg vs.toArray] w (Ret fun v w' => v = .tuple #[] ∧ Evo (cb :: ob.toList) w w' ∧ ∃ new, RA w w' cb ob (es ++ new) Z ∧ gR t es.length (new.map (·.1)) ∧ new.length ≤ t.esz ∧ ∀ e, e ∈ new → nX e.1)) {w : World} {cb : Nat} {es : List Iv} {a : Option Addr} {c : Nat} {ob : Option Nat} {Z : List Nat} {vk : Value} {ks : List Rx} (hC : CdAt w cb es a c ob Z) (hk : RSl 9 (RRx n) (cb :: ob.toList) w vk ks) (hkl : 2 ≤ ks.length) (hkb : ks.length ≤ 140737488351232) (hg : ∀ k, k ∈ ks → Good k) (hl : es.length + (iE ks + 2 * (ks.length - 1)) ≤ 100000) (hZ : ∀ z, z ∈ Z → z < w.heap.size) : Calls Tryz.prog 83 #[.pointer (some ⟨cb, 0, none⟩), vk] w (Ret fun v w' => v = .tuple #[] ∧ Evo (cb :: ob.toList) w w' ∧ ∃ new, RA w w' cb ob (es ++ new) Z ∧ (∀ l, Has l es.length (new.map (·.1)) → tB l ks es.length (es.length + new.length)) ∧ new.length ≤ iE ks + 2 * (ks.length - 1) ∧ ∀ e, e ∈ new → nX e.1) := by
  have hXlt := hC.lt; obtain ⟨ka, kc, rfl, hkc, e1⟩ := hk; obtain ⟨bk, ok, vk0, rfl, -⟩ := id (e1 0 (by omega)); refine aT (N := 69) Tryz.func83 rfl rfl rfl ?_; refine csr (wan (aI (csr (aB (aB (aC (bD rfl Tryz.underlying69 rfl) ?_)))))); refine aC (dG rfl rfl (by omega) (by omega)) ?_; refine aC (TN (h := ks.length - 1) rfl rfl Tryz.underlying69 aU (by omega) (by omega) hkc) ?_; rw [addr0]; refine aC (bD rfl Tryz.underlying69 rfl) ?_; refine aB (wnn (bC ?_))
  refine cN (α := ChG) (⟨0, [], a, c, ob, [], none, 0, none⟩) (fun x => [(16, .int .i64 (x.j : Nat)), (4, .slice x.ja x.j x.jc)]) [(0, _), (1, _), (14, _), (15, _)] (fun x wr => Evo (cb :: ob.toList) w wr ∧ (ChI w wr cb es ob Z ks x)) (fun x => ks.length - x.j) ⟨rfl, rfl, trivial⟩ ⟨rfl, rfl, rfl, rfl, trivial⟩ ⟨(Evo.refl (cb :: ob.toList) w), ⟨by show 0 + 1 ≤ _; omega, by rw [List.append_nil]; exact hC.evo0 (Evo.refl [] w), .inl rfl, AltPre.nil _, Nat.zero_le _, rfl, (fun _ h => by cases h), OwnS.nil _ _ _, Apart.nil _, Apart.nil _, Ge.nil _⟩⟩ ?_
  rintro ⟨j, new, pa, pc, po, js, ja, jc, jo⟩ wr1 ⟨L, ⟨hj, hcd, hq, hpre, hlen, hjl, hnice, hjo, hap1, hap2, hge⟩⟩; show CW _ _ _ _ [(16, .int .i64 (j : Nat)), (4, .slice ja j jc), (0, _), (1, _), (14, _), (15, _)] _
  try dsimp only at hj hcd hq hpre hlen hjl hnice hjo hap1 hap2 hge
  have a9 := Evo.refl ([]) wr1
  have hAJN : Apart (some cb) po := fun g h1 h2 => by cases h1; exact hcd.ne cb h2 rfl
  refine csr (aC (cP rfl rfl) ?_); refine wnn (aI (bA rfl (fun d6 => ?_) (fun d6 => ?_)))
  ·have hj' : j < ks.length := by omega
   obtain ⟨_, _, vs1, ha1, hb1, hvl1, b4, hrk⟩ := e1 j hj'; cases ha1; obtain ⟨m1, ra1, rc1, ka1, kc1, rfl, rfl, -⟩ := id hrk.get; have hek := JO hj'; have hsn : (es ++ new).length = es.length + new.length := List.length_append; refine aL (aA (aI (bC (csr ?_)))); refine aC (bX (n := j) rfl rfl dN (by omega)) ?_; refine aC (cY rfl bV aU (vs := [_, _, _, _, _, _, _, _, _]) rfl (b4.evo L hb1)) ?_; refine cF rfl eJ fun b6 w4 e3 O b5 => ?_; have e4 := O; have d3 := Apart.new (Lt.blk hcd.blk) O; have d4 := Apart.new (Lt.own hcd.own) O; refine aZ rfl rfl aU e3 rfl rfl ⟨by first | rfl | assumption, by first | rfl | assumption, by first | rfl | assumption, by first | rfl | assumption, by first | rfl | assumption, by first | rfl | assumption, by first | rfl | assumption, by first | rfl | assumption, by first | rfl | assumption, trivial⟩ fun f8 W a0 => ?_; have b7 := (L.then b5).step a0 (Ge.new L O).mem1; have b8 := (hjo.evo0 b5).evo a0 (Apart.new (Lt.own hjo) O).own1
   try simp only [cG, Nat.reduceAdd] at W
   refine wnn (csr (aB (aC (cA (vs := [(0, _)]) dF rfl (cells := [_, _, _, _, _]) rfl) ?_)))
   refine aJ (vs := [_, _]) eM rfl (lC (rs := []) (hcd.evo0 ((a9.then b5).step a0 (Ge.new a9 O).mem1)) nJ (by rw [List.length_append]; omega)) rfl ?_
   rintro _ e5 ⟨rfl, a1, hto1⟩; have hlt_JS_1 := (Lt.own b8); have hlt_b6_1 := (Lt.blk W); have hev_1 := b7; have U := b7.step a1 (eA hq); have a2 := b8.evo a1 (yE hap1.symm hap2.symm); have a3 := a1.blk W (pB d3.symm d4.symm); obtain ⟨pa_1, pc_1, po_1, hC_1, hp_1⟩ := hto1; have hq_1 := eC hq hev_1 hp_1; have hA_JS_1 := fW hap2.symm hlt_JS_1 hp_1; have hA_b6_1 := fW d4.symm hlt_b6_1 hp_1
   have hAJN_1 : Apart (some cb) po_1 := fun g h1 h2 => by cases h1; exact hC_1.ne cb h2 rfl
   refine wan (csr (aB (aC (bT rfl bV aU a3 rfl) ?_)))
   refine aJ (vs := [_, _]) iU rfl (ih (t := ks[j]) (hC_1.evo (Evo.refl jo.toList e5) hap1.nmem hA_JS_1.symm.own (fun y hy => List.mem_append_left _ hy) (fun z hz => .inl hz)) (RRx.step hrk U (eA hq_1) hXlt) (hg _ (List.getElem_mem hj')) (by have := hek; simp only [List.length_append, List.length_cons, List.length_nil]; omega) (ltZ hZ U (Lt.own a2))) rfl ?_
   rintro _ e6 ⟨-, a4, kx, hto2, hkx, hkl, hkn⟩; have hlt_JS_2 := (Lt.own a2); have hlt_b6_2 := (Lt.blk a3); have hev_2 := U; have b9 := U.step a4 (eA hq_1); have c0 := a2.evo a4 (yE hap1.symm hA_JS_1); obtain ⟨pa_2, pc_2, po_2, hC_2, hp_2⟩ := hto2; have hq_2 := eC hq_1 hev_2 hp_2; have hA_JS_2 := fW hA_JS_1 hlt_JS_2 hp_2
   have hAJN_2 : Apart (some cb) po_2 := fun g h1 h2 => by cases h1; exact hC_2.ne cb h2 rfl
   refine wnn (csr (aB (aB (aC (cA (vs := [(0, _)]) dF rfl (cells := [_, _, _, _, _]) rfl) ?_))))
   refine aJ (vs := [_, _]) eM rfl (lC (rs := []) (hC_2.evo (Evo.refl jo.toList e6) hap1.nmem hA_JS_2.symm.own (fun y hy => List.mem_append_left _ hy) (fun z hz => .inl hz)) nJ (by have := hek; simp only [List.length_append, List.length_cons, List.length_nil]; omega)) rfl ?_
   rintro _ e7 ⟨rfl, c1, hto3⟩; have hlt_JS_3 := (Lt.own c0); have hlt_b6_3 := (Lt.blk (a4.blk a3 (pB d3.symm hA_b6_1))); have hev_3 := b9; obtain ⟨pa_3, pc_3, po_3, hC_3, hp_3⟩ := hto3; have hq_3 := eC hq_2 hev_3 hp_3; have hA_JS_3 := fW hA_JS_2 hlt_JS_3 hp_3
   have hAJN_3 : Apart (some cb) po_3 := fun g h1 h2 => by cases h1; exact hC_3.ne cb h2 rfl
   refine bL (vs := [_]) rfl wV rfl rfl rfl rfl fun f9 g0 d7 f6 J => ?_; have a5 := (b9.step c1 (eA hq_2)).then J; have c2 := (Evo.refl jo.toList e7).then J; have hev4 := a5; have hcd4 := c2; have hge4 := hge; refine cT rfl rfl rfl rfl vK ((c0.evo c1 (yE hap1.symm hA_JS_2)).evo0 J) (Src.ofOwn d7 ⟨by first | rfl | assumption, trivial⟩) (by omega) fun ja2 jc2 g1 jo2 e8 a6 hob67 => ?_; have c3 := hA_JS_3.symm.app (Lt.own (hC_3.own.evo0 J)) hob67; have hjo2 := hob67; refine wan ?_; refine eX (fun w0 w' => Evo po_3.toList w0 w') (by kernel_rfl) (fun E V => ?_); have d8 := (c2.step a6 (fun y hy => .inl hy)).then V; have c4 := V.blk0 (a6.blk (J.blk0 hC_3.blk) hap1.nmem); refine aet 0 rfl (fun _ hS => aY rfl) (Evo.refl po_3.toList E) ?_; refine aet 1 rfl (fun _ hS => aG rfl) (Evo.refl po_3.toList E) ?_; refine aet 2 rfl (fun _ hS => aQ rfl dZ (aV (hS.blk c4 (hAJN_3.nmem)) rfl)) (Evo.refl po_3.toList E) ?_; refine aet 3 rfl (fun _ hS => aY rfl) (Evo.refl po_3.toList E) ?_; refine aet 4 rfl (fun _ hS => aY rfl) (Evo.refl po_3.toList E) ?_; refine aet 5 rfl (fun _ hS => aK rfl rfl (by omega) (by omega)) (Evo.refl po_3.toList E) ?_
   refine aet 6 rfl (fun _ hS => aY rfl) (Evo.refl po_3.toList E) ?_; refine aet 7 rfl (fun _ hS => aG rfl) (Evo.refl po_3.toList E) ?_; refine aet 8 rfl (fun _ hS => aQ rfl dZ (aV (hS.blk c4 (hAJN_3.nmem)) rfl)) (Evo.refl po_3.toList E) ?_; refine aet 9 rfl (fun _ hS => bD rfl Tryz.underlying120 rfl) (Evo.refl po_3.toList E) ?_; refine bS [10] (by kernel_rfl) rfl ⟨?_, trivial⟩; refine bY rfl ?_; have e9 := hC_3.evo d8 hap1.nmem hA_JS_3.symm.own (fun y hy => List.mem_append_left _ hy) (VM hcd4 hjo2)
   refine aJ (vs := [_, _, _, _, _]) sP rfl (MO (k := (es ++ new).length) (e9.evo0 (Evo.refl [] E)) (by simp only [List.length_append, List.length_cons, List.length_nil]; omega)) rfl ?_
   rintro _ g2 ⟨rfl, a7, hT_5⟩; have d9 := ((a5.step a6 hge.mem).then V).step a7 (fun y hy => eA hq_3 y (List.mem_cons_of_mem _ hy)); have e0 := (e8.evo0 V).evo a7 (c3.symm.own); refine aP (bN (.inl ((Evo.refl po_3.toList E).step a7 (fun y hy => .inl hy))) ?_); refine cV (by kernel_rfl) (aO (aA ?_)); refine aF ?_; refine aC (aK rfl rfl (by omega) (by omega)) ?_; refine aB (aP (aW ?_)); refine ⟨⟨j + 1, new ++ ([(In.sp false (es.length + new.length + 1) (es.length + new.length + 1 + kx.length + 1), .slice none 0 0)] ++ (kx ++ [(⟨10, ((es.length + new.length + 1 + kx.length : Nat) : Int) + 1, 0, 0, []⟩, .slice none 0 0)])), pa_3, pc_3, po_3, js ++ [es.length + new.length + 1 + kx.length], ja2, jc2, jo2⟩, ?_, ⟨rfl, rfl, trivial⟩, ⟨rfl, rfl, rfl, rfl, trivial⟩, d9, ?_⟩
   · (try dsimp only); omega
   try dsimp only
   have hkx' : gR ks[j] (es.length + new.length + 1) (kx.map (·.1)) := by have h := hkx; rwa [List.length_append, List.length_append] at h
   have hs := hpre.snoc (x := ks[j]) (kx := kx.map (·.1)) (o := ((es.length + new.length + 1 + kx.length : Nat) : Int) + 1) (m' := es.length + new.length + 1 + kx.length) (by rw [List.length_map]; exact hkx') (by rw [List.length_map, List.length_map])
   rw [List.length_map] at hs; have hT := hT_5; rw [VK rfl] at hT
   refine ⟨by show j + 1 + 1 ≤ _; omega, hT.cast ?_, hq_3, ?_, ?_, ?_, ?_, ?_, (hap1.app (Lt.blk (J.blk0 hC_3.blk)) hob67), c3, (hge.app a5 hob67)⟩
   · rw [List.append_assoc]; refine congrArg (es ++ ·) (congrArg (new ++ ·) ?_)
     simp only [In.sp, List.length_append, List.length_cons, List.length_nil, List.singleton_append, Bool.false_eq_true, if_false]; push_cast; simp [Int.add_assoc, Nat.add_assoc]
   · show AltPre (ks.take (j + 1)) _ _ _
     rw [List.take_add_one, List.getElem?_eq_getElem hj']; rw [List.map_append, List.map_append, List.map_append]; exact hs
   · show _ ≤ iE (ks.take (j + 1)) + 2 * (j + 1)
     rw [uV hj']; simp only [List.length_append, List.length_cons, List.length_nil]; omega
   · show (js ++ [_]).length = j + 1; rw [List.length_append, hjl]; rfl
   · exact gZ hnice (gZ (gI (VF _ _ _)) (gZ hkn (gI (YG _))))
   · have h : OwnS _ 3 1 ja2 (j + 1) jc2 (js.map (fun p => iv (p : Nat)) ++ [iv (((((es ++ new) ++ [_]) ++ kx).length : Nat))]) jo2 := e0
     simp only [List.length_append, List.length_cons, List.length_nil, Nat.zero_add] at h
     show OwnS _ 3 1 ja2 (j + 1) jc2 ((js ++ [_]).map _) jo2; rw [List.map_append]; exact h
  obtain rfl : j = ks.length - 1 := by omega
  have hj' : ks.length - 1 < ks.length := by omega
  obtain ⟨_, _, vs1, ha1, hb1, hvl1, b4, hrk⟩ := e1 (ks.length - 1) hj'; cases ha1; obtain ⟨m1, ra1, rc1, ka1, kc1, rfl, rfl, -⟩ := id hrk.get; have hek := JO hj'; have hsn : (es ++ new).length = es.length + new.length := List.length_append; refine cJ (bH (bH (cI (aA ?_)))); refine csr (aB (aB (aB (aC (bD rfl Tryz.underlying69 rfl) ?_)))); refine aC (dG rfl rfl (by omega) (by omega)) ?_; refine aC (eW (n := ks.length - 1) rfl rfl (by omega) dN (by omega)) ?_; refine aC (cY rfl bV aU (vs := [_, _, _, _, _, _, _, _, _]) rfl (b4.evo L hb1)) ?_
  refine aJ (vs := [_, _]) iU rfl (ih (t := ks[ks.length - 1]) (hcd.evo0 a9) (RRx.step hrk L (eA hq) hXlt) (hg _ (List.getElem_mem hj')) (by have := hek; simp only [List.length_append]; omega) (ltZ hZ L (Lt.own hjo))) rfl ?_
  rintro _ f0 ⟨-, c5, kx, hto7, hkx, hkl, hkn⟩; have hlt_JS_7 := (Lt.own hjo); have hev_7 := L; obtain ⟨pa_7, pc_7, po_7, hC_7, hp_7⟩ := hto7; have hq_7 := eC hq hev_7 hp_7; have hA_JS_7 := fW hap2.symm hlt_JS_7 hp_7
  have hAJN_7 : Apart (some cb) po_7 := fun g h1 h2 => by cases h1; exact hC_7.ne cb h2 rfl
  refine wnn (csr (aB (aC (bD rfl Tryz.underlying37 rfl) ?_))); refine aB (wnn (bC ?_))
  refine cN (α := Nat) (0) (fun i => [(54, .int .i64 (i : Nat))]) [(0, _), (52, _), (53, _)] (fun i wr => Evo (cb :: ob.toList) w wr ∧ (i ≤ js.length ∧ CdAt wr cb (oU (Iv.outTo (es.length + new.length + kx.length)) (js.take i) (es ++ (new ++ kx))) pa_7 pc_7 po_7 (jo.toList ++ Z) ∧ OwnS wr 3 1 ja (ks.length - 1) jc (js.map fun p => iv (p : Nat)) jo)) (fun i => js.length - i) ⟨rfl, trivial⟩ ⟨rfl, rfl, rfl, trivial⟩ ⟨(L.step c5 (eA hq)), ⟨Nat.zero_le _, by rw [List.take_zero, ← List.append_assoc]; exact hC_7.evo0 (Evo.refl [] f0), (hjo.evo c5 (yE hap1.symm hap2.symm))⟩⟩ ?_
  rintro i wr98 ⟨c6, ⟨hi, hcd2, hjo2⟩⟩; show CW _ _ _ _ [(54, _), (0, _), (52, _), (53, _)] _
  have hpl : (oU (Iv.outTo (es.length + new.length + kx.length)) (js.take i) (es ++ (new ++ kx))).length = es.length + new.length + kx.length := by rw [rP]; simp only [List.length_append]; omega
  refine csr (aC (cP rfl rfl) ?_); refine wnn (aI (bA rfl (fun e2 => ?_) (fun e2 => ?_)))
  ·have hi' : i < js.length := by omega
   have hat := hpre.at' js[i] (List.getElem_mem hi')
   rw [List.length_map] at hat; obtain ⟨gJ, haJ, hcJ⟩ := NF hjo2 (by omega); refine aL (aA (aI (bC (csr ?_))))
   refine aC (bX (n := i) (by rw [haJ]; rfl) rfl qD (by omega)) ?_
   refine aC (aQ rfl aX (hcJ i hi')) (wan ?_); refine eX (fun w0 w' => Evo po_7.toList w0 w') (by kernel_rfl) (fun A H => ?_); have M := hcd2.own.evo0 H; refine aet 0 rfl (fun _ hS => aY rfl) (Evo.refl po_7.toList A) ?_; refine aet 1 rfl (fun _ hS => aG rfl) (Evo.refl po_7.toList A) ?_; refine aet 2 rfl (fun _ hS => aQ rfl dZ (aV (hS.blk (H.blk0 hcd2.blk) (hAJN_7.nmem)) rfl)) (Evo.refl po_7.toList A) ?_; refine aet 3 rfl (fun _ hS => aY rfl) (Evo.refl po_7.toList A) ?_; refine aet 4 rfl (fun _ hS => aY rfl) (Evo.refl po_7.toList A) ?_; refine aet 5 rfl (fun _ hS => aG rfl) (Evo.refl po_7.toList A) ?_; refine aet 6 rfl (fun _ hS => aQ rfl dZ (aV (hS.blk (H.blk0 hcd2.blk) (hAJN_7.nmem)) rfl)) (Evo.refl po_7.toList A) ?_; refine aet 7 rfl (fun _ hS => bD rfl Tryz.underlying120 rfl) (Evo.refl po_7.toList A) ?_; obtain ⟨gN, -, rfl, -⟩ := M.cells (by omega)
   have hjp : js[i] < (oU (Iv.outTo (es.length + new.length + kx.length)) (js.take i) (es ++ (new ++ kx))).length := by omega
   refine aet 8 rfl (fun _ hS => bX (n := js[i]) rfl rfl kD hjp) (Evo.refl po_7.toList A) ?_; refine aet 9 rfl (fun _ hS => aD rfl gA) (Evo.refl po_7.toList A) ?_; refine bS [10] (by kernel_rfl) rfl ⟨?_, trivial⟩; refine bY rfl ?_
   obtain ⟨g117, cur108, hg109, hx110, hcu111, hcs112, -⟩ := M.at (by omega)
   cases hx110; refine gS rfl rfl (rfl) bZ hcu111 (M.inb hcs112 (k := js[i]) (j := 1) (by omega) (by omega) (by omega)) fun f7 c8 I => ?_; replace I := lF hg109 I; have a8 := M.set' hg109 hcu111 c8; have c9 := (c6.then H).step I (fun y hy => eA hq_7 y (List.mem_cons_of_mem _ hy)); have d0 := ((Evo.refl (po_7.toList) wr98).then H).step I (fun y hy => .inl hy)
   rw [show 0 + js[i] * 5 + 1 = js[i] * 5 + 1 from by omega, pX (by rw [hpl]; omega), RP hpl] at a8
   refine aP (bN (.inl ((Evo.refl po_7.toList A).step I (fun y hy => .inl hy))) ?_); refine cV (by kernel_rfl) (aO (aA ?_)); refine aF ?_; refine aC (aK rfl rfl (by omega) (by omega)) ?_; refine aB (aP (aW ?_)); refine ⟨i + 1, ?_, ⟨rfl, trivial⟩, ⟨rfl, rfl, rfl, trivial⟩, c9, ?_⟩
   · omega
   refine ⟨by omega, ?_, ((hjo2.evo0 H).evo I hA_JS_7.own)⟩; rw [List.take_add_one, List.getElem?_eq_getElem hi']; have := hcd2.mod d0 a8 (fun _ => ⟨rfl, rfl⟩); rw [show (js.take i ++ (some js[i]).toList) = js.take i ++ [js[i]] from rfl, BO]; exact this
  refine cJ (bH (bH (cI (eF rfl ?_)))); have hiE : js.take i = js := List.take_of_length_le (by omega); rw [hiE] at hcd2; have hatJ : ∀ p, p ∈ js → es.length ≤ p := fun p hp => (hpre.at' p hp).1; obtain ⟨new', f5, c7, d5⟩ := BN (f := Iv.outTo (es.length + new.length + kx.length)) (fun _ _ => rfl) (new := new ++ kx) hatJ; rw [f5] at hcd2
  have hnl : new'.length = new.length + kx.length := by rw [c7, List.length_append]
  have hkx' : gR ks[ks.length - 1] (es.length + new.length) (kx.map (·.1)) := by have h := hkx; rwa [List.length_append] at h
  have hks : ks = ks.take (ks.length - 1) ++ [ks[ks.length - 1]] := by rw [List.take_append_getElem, List.take_of_length_le (by omega)]
  refine ⟨rfl, c6, new', ⟨_, _, _, hcd2.evo (Evo.refl [] _) (by simp) (by simp) (by simp) (fun z hz => .inl (List.mem_append_right _ hz)), hq_7⟩, fun l hl => ?_, by omega, CB (gZ hnice hkn) c7 d5 (fun p e h => ⟨h.1, Int.natCast_nonneg _, h.2.2⟩)⟩; have hp := pat_of (g := outTo (es.length + new.length + kx.length)) (fun _ _ => rfl) c7 d5 hl; rw [List.map_append] at hp
  have hd := hpre.done (x := ks[ks.length - 1]) (kx := kx.map (·.1)) (l := l) (by rw [List.length_map]; exact hkx') (by rw [List.length_map, List.length_map]; exact hp)
  rw [List.length_map, List.length_map, ← hks] at hd
  rw [hnl, ← Nat.add_assoc]; exact hd
structure RpG where
  k : Nat
  new : List Iv
  pa : Option Addr
  pc : Nat
  po : Option Nat
structure RpI (w wr : World) (cb : Nat) (es : List Iv) (ob : Option Nat) (Z : List Nat) (y : Rx) (b3 : Nat) (cs : Array Value) (k : Nat) (x : RpG) : Prop where
  cd : CdAt wr cb (es ++ x.new) x.pa x.pc x.po Z
  po : x.po = ob ∨ ∃ g, x.po = some g ∧ w.heap.size ≤ g
  pre : RepC [y] k es.length (x.new.map (·.1))
  len : x.new.length ≤ k * y.esz
  nice : ∀ e, e ∈ x.new → nX e.1
  bx : wr.heap[b3]? = some (.cells cs 71 (0, 0))
  a1 : Apart (some b3) (some cb)
  a2 : Apart (some b3) x.po
structure RkqG where
  j : Nat
  new2 : List Iv
  pa : Option Addr
  pc : Nat
  po : Option Nat
  js : List Nat
  ja : Option Addr
  jc : Nat
  jo : Option Nat
structure RkqI (w wr : World) (cb : Nat) (es new : List Iv) (ob : Option Nat) (Z : List Nat) (z : Bool) (y : Rx) (b3 : Nat) (cs : Array Value) (r : Nat) (x : RkqG) : Prop where
  j : x.j ≤ r
  cd : CdAt wr cb (es ++ (new ++ x.new2)) x.pa x.pc x.po (x.jo.toList ++ Z)
  po : x.po = ob ∨ ∃ g, x.po = some g ∧ w.heap.size ≤ g
  pre : OptPre z y x.j (es.length + new.length) (x.new2.map (·.1)) x.js
  len : x.new2.length ≤ x.j * (y.esz + 1)
  jl : x.js.length = x.j
  nice : ∀ e, e ∈ x.new2 → nX e.1
  jo : OwnS wr 3 1 x.ja x.j x.jc (x.js.map fun p => iv (p : Nat)) x.jo
  ap1 : Apart (some cb) x.jo
  ap2 : Apart x.po x.jo
  ge : Ge w x.jo
  bx : wr.heap[b3]? = some (.cells cs 71 (0, 0))
  a1 : Apart (some b3) (some cb)
  a2 : Apart (some b3) x.po
  a3 : Apart (some b3) x.jo
theorem FN {l : List Rx} (h : l.length = 1) : l = [l[0]] := by
  apply List.ext_getElem
  · simp [h]
  · intro i h1 h2
    have : i = 0 := by omega
    subst this
    rfl
theorem MN {w : World} {cb : Nat} {es : List Iv} {a : Option Addr} {c k m : Nat} {ob : Option Nat} {Z : List Nat} {i o : Int} {z : Bool} (h : CdAt w cb es a c ob Z) (hm : m = es.length) (hk : k < es.length) :
    Calls Tryz.prog 100 #[.slice a m c, .int .i64 (k : Nat), .int .i64 i, .int .i64 o, .bool z] w (Ret fun v w' => v = .tuple #[] ∧ Evo ob.toList w w' ∧ CdAt w' cb (es.modify k (fun e => (⟨e.1.op, if z then o else i, if z then i else o, e.1.arg, e.1.rs⟩, e.2))) a c ob Z) := by
  subst hm; exact MO h hk
theorem turn_len {es : List Iv} {k n : Nat} {z : Bool} (h : es.length = n) : es.modify k (fun e => (⟨e.1.op, if z then ((es.length : Nat) : Int) else (k : Int) + 1, if z then (k : Int) + 1 else ((es.length : Nat) : Int), e.1.arg, e.1.rs⟩, e.2)) = es.modify k (Iv.turnTo z n k) := by subst h; rfl
theorem mod_last {A : List Iv} {y : Iv} {f : Iv → Iv} {k : Nat} (hk : k = A.length) : (A ++ [y]).modify k f = A ++ [f y] := by
  subst hk
  induction A with
  | nil => simp [List.modify]
  | cons a A ih => rw [List.cons_append, List.length_cons, mR, ih]; rfl
theorem zC {k m e : Nat} (h : k < m) : k * e + e ≤ m * e := by rw [← Nat.succ_mul]; exact Nat.mul_le_mul_right _ h
set_option maxHeartbeats 8000000 in
theorem MW {n : Nat} (ih : ∀ {w : World} {cb : Nat} {es : List Iv} {a : Option Addr} {c : Nat} {ob : Option Nat} {Z : List Nat} {vs : List Value} {t : Rx} (hC : CdAt w cb es a c ob Z) (hx : RRx n (cb :: ob.toList) w vs t) (hg : Good t) (hl : es.length + t.esz ≤ 100000) (hZ : ∀ z, z ∈ Z → z < w.heap.size), Calls Tryz.prog 55 #[.pointer (some ⟨cb, 0, none⟩), .agg vs.toArray] w (Ret fun v w' => v = .tuple #[] ∧ Evo (cb :: ob.toList) w w' ∧ ∃ new, RA w w' cb ob (es ++ new) Z ∧ gR t es.length (new.map (·.1)) ∧ new.length ≤ t.esz ∧ ∀ e, e ∈ new → nX e.1)) {w : World} {cb : Nat} {es : List Iv} {a : Option Addr} {c : Nat} {ob : Option Nat} {Z : List Nat} {vs : List Value} {t : Rx} (hC : CdAt w cb es a c ob Z) (hx : RRx (n + 1) (cb :: ob.toList) w vs t) (hg : Good t) (hl : es.length + t.esz ≤ 100000) (hZ : ∀ z, z ∈ Z → z < w.heap.size) (h6 : t.kind = 6) : Calls Tryz.prog 84 #[.pointer (some ⟨cb, 0, none⟩), .agg vs.toArray] w (Ret fun v w' => v = .tuple #[] ∧ Evo (cb :: ob.toList) w w' ∧ ∃ new, RA w w' cb ob (es ++ new) Z ∧ gR t es.length (new.map (·.1)) ∧ new.length ≤ t.esz ∧ ∀ e, e ∈ new → nX e.1) := by
  have hXlt := hC.lt; have hx0 := hx; obtain ⟨m, ra, rc, ka, kc, hm, rfl, hrg, hk, bl1, bl2, bl3⟩ := hx.get
  obtain rfl : m = n := by omega
  obtain ⟨_, _, hke, hkc, e1⟩ := hk; cases hke; have hn := (oN t).1 hg.node
  have hkl : t.kids.length = 1 := by have := hn.rep4 h6; omega
  have hj' : 0 < t.kids.length := by omega
  have hky : t.kids = [t.kids[0]] := FN hkl; obtain ⟨bk, ok, vs1, rfl, hb1, hvl1, a7, hrk⟩ := e1 0 hj'; obtain ⟨m1, ra1, rc1, ka1, kc1, rfl, rfl, -⟩ := id hrk.get; have he1 := OW hkl; have hr1 := hn.rep1 h6; have hr2 := hn.rep2 h6; have hr3 := hn.rep3 h6
  have hrs : t.esz = (if t.max = -1 then t.min.toNat * t.kids[0].esz + t.kids[0].esz + 2 else t.min.toNat * t.kids[0].esz + (t.max - t.min).toNat * (t.kids[0].esz + 1)) := by
    rw [Rx.esz_eq, if_neg (by omega), if_neg (by omega), if_neg (by omega), if_pos h6, he1]
  refine aT (N := 106) Tryz.func84 rfl rfl rfl ?_; refine csr (fT rfl rfl fun b3 w1 d7 a8 d8 => ?_); have f7 := a8; have f8 := Apart.new (Lt.blk hC.blk) a8; have f9 := Apart.new (Lt.own hC.own) a8; refine wnn (aI (mB (α := RpG) (fun x => []) [(0, _), (3, _)] (fun x wr => Evo (cb :: ob.toList) w wr ∧ (RpI w wr cb es ob Z t.kids[0] b3 #[iv t.kind, .int .i32 t.r, .slice ra t.ranges.length rc, iv t.min, iv t.max, .bool t.lazy, iv t.cap, .string t.name, .slice (some ⟨bk, ok, none⟩) t.kids.length kc] t.min.toNat x)) ⟨rfl, rfl, trivial⟩ ?_ ?_))
  ·refine csr (wfl rfl eE rfl aX d7 rfl (aB (wnn (bC ?_))))
   refine cN (α := RpG) (⟨0, [], a, c, ob⟩) (fun x => [(12, .int .i64 (x.k : Nat))]) [(0, _), (3, _), (11, _)] (fun x wr => Evo (cb :: ob.toList) w wr ∧ (x.k ≤ t.min.toNat ∧ RpI w wr cb es ob Z t.kids[0] b3 #[iv t.kind, .int .i32 t.r, .slice ra t.ranges.length rc, iv t.min, iv t.max, .bool t.lazy, iv t.cap, .string t.name, .slice (some ⟨bk, ok, none⟩) t.kids.length kc] x.k x)) (fun x => t.min.toNat - x.k) ⟨rfl, trivial⟩ ⟨rfl, rfl, rfl, trivial⟩ ⟨((Evo.refl (cb :: ob.toList) w).then d8), ⟨Nat.zero_le _, by rw [List.append_nil]; exact hC.evo0 ((Evo.refl [] w).then d8), .inl rfl, RepC.nil _ _, Nat.zero_le _, (fun _ h => by cases h), d7, f8.symm, f9.symm⟩⟩ ?_
   rintro ⟨k, new, pa, pc, po⟩ wr13 ⟨I, ⟨hk, hcd, hq, hpre, hlen, hnice, hb3, ha1, ha2⟩⟩; show CW _ _ _ _ [(12, .int .i64 (k : Nat)), (0, _), (3, _), (11, _)] _
   try dsimp only at hk hcd hq hpre hlen hnice hb3 ha1 ha2
   have hAJN : Apart (some cb) po := fun g h1 h2 => by cases h1; exact hcd.ne cb h2 rfl
   refine csr (aC (cP rfl rfl) ?_); refine wnn (aI (bA rfl (fun e3 => ?_) (fun e3 => ?_)))
   ·have hkm : k < t.min.toNat := by omega
    have hms := zC (e := t.kids[0].esz) hkm
    have hsz : es.length + t.min.toNat * t.kids[0].esz ≤ 100000 := by split at hrs <;> omega
    refine aL (aA (aI (bC (csr (aB (aC (aG rfl) (aC (aQ rfl dZ (aV hcd.blk rfl)) (aC (bD rfl Tryz.underlying120 rfl) ?_)))))))); refine wan (csr (aB (wfl rfl eO rfl gG hb3 rfl ?_))); refine aC (eW (n := 0) rfl rfl rfl dN (by omega)) ?_; refine aC (cY rfl bV aU (vs := [_, _, _, _, _, _, _, _, _]) rfl (a7.evo I hb1)) ?_; have hZw : ∀ z, z ∈ Z → z < (wr13).heap.size := fun z hz => Nat.lt_of_lt_of_le (hZ z hz) (I).size
    refine aJ (vs := [_, _]) iU rfl (ih (t := t.kids[0]) (hcd.evo0 (Evo.refl [] wr13)) (RRx.step hrk I (eA hq) hXlt) (hg.kid _ (List.getElem_mem hj')) (by simp only [List.length_append]; omega) hZw) rfl ?_
    rintro _ d9 ⟨-, a9, kx1, hto1, hkx1, hkl1, hkn1⟩; have hlt_b3_1 := (Lt.blk hb3); have hev_1 := I; have b4 := I.step a9 (eA hq); have b5 := a9.blk hb3 (pB ha1 ha2); obtain ⟨pa_1, pc_1, po_1, hC_1, hp_1⟩ := hto1; have hq_1 := eC hq hev_1 hp_1; have hA_b3_1 := fW ha2 hlt_b3_1 hp_1
    have hAJN_1 : Apart (some cb) po_1 := fun g h1 h2 => by cases h1; exact hC_1.ne cb h2 rfl
    refine wnn (csr (aB (aC (aG rfl) (aC (aQ rfl dZ (aV hC_1.blk rfl)) (aC (bD rfl Tryz.underlying120 rfl) ?_))))); refine aB (wel ?_); refine wnn (bA rfl (fun b6 => ?_) (fun b6 => ?_))
    ·refine cJ (uT rfl (bH (bH (cI (aW ?_))))); refine ⟨⟨k, new ++ kx1, pa_1, pc_1, po_1⟩, trivial, ⟨rfl, rfl, trivial⟩, b4, ?_⟩
     obtain rfl : kx1 = [] := List.length_eq_zero_iff.1 (by simp only [List.length_append] at b6; omega)
     have hx' : gR t.kids[0] (es.length + (new.map (·.1)).length) [] := by rw [List.length_map]; have h := hkx1; rwa [List.length_append] at h
     have hs := hpre.stop hx' (t.min.toNat - k); rw [show k + (t.min.toNat - k) = t.min.toNat from by omega] at hs
     refine ⟨(hC_1.evo0 (Evo.refl [] d9)).cast (by simp), hq_1, by rw [List.append_nil]; exact hs, ?_, by rw [List.append_nil]; exact hnice, b5, ha1, hA_b3_1⟩
     rw [List.append_nil]; show new.length ≤ _; omega
    refine aL (aO (aA (aF ?_))); refine aC (aK rfl rfl (by omega) (by omega)) ?_; refine aB (aP (aW ?_)); refine ⟨⟨k + 1, new ++ kx1, pa_1, pc_1, po_1⟩, ?_, ⟨rfl, trivial⟩, ⟨rfl, rfl, rfl, trivial⟩, b4, ?_⟩
    · (try dsimp only); omega
    try dsimp only
    have hx' : gR t.kids[0] (es.length + (new.map (·.1)).length) (kx1.map (·.1)) := by rw [List.length_map]; have h := hkx1; rwa [List.length_append] at h
    refine ⟨by omega, (hC_1.evo0 (Evo.refl [] d9)).cast (List.append_assoc ..), hq_1, ?_, ?_, gZ hnice hkn1, b5, ha1, hA_b3_1⟩
    · rw [List.map_append]; exact hpre.snoc hx'
    · rw [List.length_append, Nat.succ_mul]; omega
   refine cJ (bH (bH (cI (aW ?_)))); refine ⟨⟨k, new, pa, pc, po⟩, trivial, ⟨rfl, rfl, trivial⟩, I, ?_⟩
   obtain rfl : k = t.min.toNat := by omega
   exact ⟨hcd.evo0 (Evo.refl [] wr13), hq, hpre, hlen, hnice, hb3, ha1, ha2⟩
  rintro ⟨k, new, pa, pc, po⟩ e0 ⟨a0, ⟨hcd, hq, hpre, hlen, hnice, hb3, ha1, ha2⟩⟩; refine aA ?_; show CW _ _ _ _ [(0, _), (3, _)] _
  try dsimp only at hcd hq hpre hlen hnice hb3 ha1 ha2
  have hAJN : Apart (some cb) po := fun g h1 h2 => by cases h1; exact hcd.ne cb h2 rfl
  refine aI (csr (wfl rfl fD rfl aX hb3 rfl (aC (cP rfl rfl) ?_))); refine wnn (bA rfl (fun e4 => ?_) (fun e4 => ?_))
  ·have hmx : t.max = -1 := by omega
   rw [if_pos hmx] at hrs; have hsn : (es ++ new).length = es.length + new.length := List.length_append; refine csr (aB (aC (cA (vs := [(0, _)]) dF rfl (cells := [_, _, _, _, _]) rfl) ?_))
   refine aJ (vs := [_, _]) eM rfl (lC (rs := []) (hcd.evo0 (Evo.refl [] e0)) nJ (by simp only [List.length_append]; omega)) rfl ?_
   rintro _ e2 ⟨rfl, b7, hto1⟩; have hlt_b3_1 := (Lt.blk hb3); have hev_1 := a0; have O := a0.step b7 (eA hq); have a1 := b7.blk hb3 (pB ha1 ha2); obtain ⟨pa_1, pc_1, po_1, hC_1, hp_1⟩ := hto1; have hq_1 := eC hq hev_1 hp_1; have hA_b3_1 := fW ha2 hlt_b3_1 hp_1
   have hAJN_1 : Apart (some cb) po_1 := fun g h1 h2 => by cases h1; exact hC_1.ne cb h2 rfl
   refine wan (csr (aB (wfl rfl eO rfl gG a1 rfl ?_))); refine aC (eW (n := 0) rfl rfl rfl dN (by omega)) ?_; refine aC (cY rfl bV aU (vs := [_, _, _, _, _, _, _, _, _]) rfl (a7.evo O hb1)) ?_; have hZw : ∀ z, z ∈ Z → z < (e2).heap.size := fun z hz => Nat.lt_of_lt_of_le (hZ z hz) (O).size
   refine aJ (vs := [_, _]) iU rfl (ih (t := t.kids[0]) (hC_1.evo0 (Evo.refl [] e2)) (RRx.step hrk O (eA hq_1) hXlt) (hg.kid _ (List.getElem_mem hj')) (by simp only [List.length_append, List.length_cons, List.length_nil]; omega) hZw) rfl ?_
   rintro _ g0 ⟨-, b8, kx2, hto2, hkx2, hkl2, hkn2⟩; have hlt_b3_2 := (Lt.blk a1); have hev_2 := O; have b9 := O.step b8 (eA hq_1); have c0 := b8.blk a1 (pB ha1 hA_b3_1); obtain ⟨pa_2, pc_2, po_2, hC_2, hp_2⟩ := hto2; have hq_2 := eC hq_1 hev_2 hp_2; have hA_b3_2 := fW hA_b3_1 hlt_b3_2 hp_2
   have hAJN_2 : Apart (some cb) po_2 := fun g h1 h2 => by cases h1; exact hC_2.ne cb h2 rfl
   refine wnn (csr (aB (aC (cA (vs := [(0, _)]) dF rfl (cells := [_, _, _, _, _]) rfl) ?_)))
   refine aJ (vs := [_, _]) eM rfl (lC (rs := []) (hC_2.evo0 (Evo.refl [] g0)) nJ (by simp only [List.length_append, List.length_cons, List.length_nil]; omega)) rfl ?_
   rintro _ g1 ⟨rfl, c1, hto3⟩; have hlt_b3_3 := (Lt.blk c0); have hev_3 := b9; obtain ⟨pa_3, pc_3, po_3, hC_3, hp_3⟩ := hto3; have hq_3 := eC hq_2 hev_3 hp_3; have hA_b3_3 := fW hA_b3_2 hlt_b3_3 hp_3
   have hAJN_3 : Apart (some cb) po_3 := fun g h1 h2 => by cases h1; exact hC_3.ne cb h2 rfl
   refine wan (csr (aB (aC (aG rfl) (aC (aQ rfl dZ (aV hC_3.blk rfl)) (aB (aB ?_))))))
   obtain ⟨gN, -, rfl, -⟩ := hC_3.own.cells (by simp only [List.length_append, List.length_cons, List.length_nil]; omega)
   have hjp : (es ++ new ++ [((⟨3, ((es ++ new).length : Nat) + 1, 0, 0, []⟩ : In), Value.slice none 0 0)] ++ kx2).length < (es ++ new ++ [((⟨3, ((es ++ new).length : Nat) + 1, 0, 0, []⟩ : In), Value.slice none 0 0)] ++ kx2 ++ [((⟨10, ((es ++ new ++ [((⟨3, ((es ++ new).length : Nat) + 1, 0, 0, []⟩ : In), Value.slice none 0 0)] ++ kx2).length : Nat) + 1, 0, 0, []⟩ : In), Value.slice none 0 0)]).length := by simp only [List.length_append, List.length_cons, List.length_nil]; omega
   refine aC (bX (n := (es ++ new ++ [((⟨3, ((es ++ new).length : Nat) + 1, 0, 0, []⟩ : In), Value.slice none 0 0)] ++ kx2).length) rfl rfl kD hjp) ?_; refine aC (aD rfl gA) ?_; have hcd9 := (Evo.refl [] g1)
   obtain ⟨g42, cur33, hg34, hx35, hcu36, hcs37, -⟩ := hC_3.own.at (by omega)
   cases hx35; refine gS rfl rfl (rfl) bZ hcu36 (hC_3.own.inb hcs37 (k := (es ++ new ++ [((⟨3, ((es ++ new).length : Nat) + 1, 0, 0, []⟩ : In), Value.slice none 0 0)] ++ kx2).length) (j := 1) (by omega) (by omega) (by omega)) fun g2 e5 J => ?_; replace J := lF hg34 J; have c2 := hC_3.own.set' hg34 hcu36 e5; have e6 := (b9.step c1 (eA hq_2)).step J (fun y hy => eA hq_3 y (List.mem_cons_of_mem _ hy)); rw [show 0 + (es ++ new ++ [((⟨3, ((es ++ new).length : Nat) + 1, 0, 0, []⟩ : In), Value.slice none 0 0)] ++ kx2).length * 5 + 1 = (es ++ new ++ [((⟨3, ((es ++ new).length : Nat) + 1, 0, 0, []⟩ : In), Value.slice none 0 0)] ++ kx2).length * 5 + 1 from by omega, pX hjp] at c2; have hC_9 := hC_3.evo0 hcd9; have hC_8 := hC_9.mod J c2 (fun _ => ⟨rfl, rfl⟩); refine wnn (aI ?_); refine eX (fun w0 w' => Evo po_3.toList w0 w') (by kernel_rfl) (fun E V => ?_); have c3 := V.blk0 (J.blk hC_3.blk hAJN_3.nmem); refine aet 0 rfl (fun _ hS => aY rfl) (Evo.refl po_3.toList E) ?_; refine aet 1 rfl (fun _ hS => aG rfl) (Evo.refl po_3.toList E) ?_; refine aet 2 rfl (fun _ hS => aQ rfl dZ (aV (hS.blk c3 (hAJN_3.nmem)) rfl)) (Evo.refl po_3.toList E) ?_; refine aet 3 rfl (fun _ hS => aY rfl) (Evo.refl po_3.toList E) ?_; refine aet 4 rfl (fun _ hS => aY rfl) (Evo.refl po_3.toList E) ?_
   refine aet 5 rfl (fun _ hS => aK rfl rfl (by omega) (by omega)) (Evo.refl po_3.toList E) ?_; refine aet 6 rfl (fun _ hS => aY rfl) (Evo.refl po_3.toList E) ?_; refine aet 7 rfl (fun _ hS => aG rfl) (Evo.refl po_3.toList E) ?_; refine aet 8 rfl (fun _ hS => aQ rfl dZ (aV (hS.blk c3 (hAJN_3.nmem)) rfl)) (Evo.refl po_3.toList E) ?_; refine aet 9 rfl (fun _ hS => bD rfl Tryz.underlying120 rfl) (Evo.refl po_3.toList E) ?_; refine aet 10 rfl (fun _ hS => aD rfl mI) (Evo.refl po_3.toList E) ?_; refine aet 11 rfl (fun _ hS => aQ rfl gD (aV (hS.blk (V.blk0 (J.blk (c1.blk c0 (pB ha1 hA_b3_2)) hA_b3_3.nmem)) (hA_b3_3.nmem)) rfl)) (Evo.refl po_3.toList E) ?_; refine bS [12] (by kernel_rfl) rfl ⟨?_, trivial⟩; refine bY rfl ?_
   refine aJ (vs := [_, _, _, _, _]) sP rfl (MN (k := (es ++ new).length) (hC_8.evo0 ((Evo.refl [] g2).then V)) (by rw [List.length_modify]) (by rw [List.length_modify]; simp only [List.length_append, List.length_cons, List.length_nil]; omega)) rfl ?_
   rintro _ g3 ⟨rfl, c4, hT_4⟩; have e7 := (e6.then V).step c4 (fun y hy => eA hq_3 y (List.mem_cons_of_mem _ hy)); refine aP (bN (.inl ((Evo.refl po_3.toList E).step c4 (fun y hy => .inl hy))) ?_); refine cV (by kernel_rfl) (aA ?_); refine aH (aE (HQ rfl ?_))
   have hx' : gR t.kids[0] (es.length + new.length + 1) (kx2.map (·.1)) := by have h := hkx2; rwa [List.length_append, List.length_append] at h
   have hT := hT_4.evo0 (Evo.refl [] g3); rw [mod_last rfl, VK rfl] at hT; refine ⟨rfl, e7, new ++ ([(In.sp t.lazy (es.length + new.length + 1) (es.length + new.length + 1 + kx2.length + 1), .slice none 0 0)] ++ (kx2 ++ [(⟨10, ((es.length + new.length : Nat) : Int), 0, 0, []⟩, .slice none 0 0)])), ⟨_, _, _, hT.cast ?_, hq_3⟩, ?_, ?_, ?_⟩
   · rw [List.append_assoc]; refine congrArg (es ++ ·) (congrArg (new ++ ·) ?_)
     cases t.lazy <;> (simp only [Iv.setOut, In.sp, List.length_append, List.length_cons, List.length_nil, List.singleton_append, Bool.false_eq_true, if_false, if_true]; push_cast; simp [Int.add_assoc, Nat.add_assoc])
   · rw [List.map_append, List.map_append, List.map_append]
     have h := TV (a := es.length) (k := new.map (·.1)) (kx := kx2.map (·.1)) h6 hky hmx hpre (by rw [List.length_map]; exact hx')
     rw [List.length_map, List.length_map] at h; exact h
   · simp only [List.length_append, List.length_cons, List.length_nil]; omega
   · exact gZ hnice (gZ (gI (VF _ _ _)) (gZ hkn2 (gI ⟨by simp, Int.natCast_nonneg _, Int.le_refl _, Nat.zero_le _⟩)))
  have hmx : ¬ t.max = -1 := by omega
  rw [if_neg hmx] at hrs; have hpre0 := hpre; obtain ⟨r, hr⟩ : ∃ r, r = (t.max - t.min).toNat := ⟨_, rfl⟩; rw [← hr] at hrs; refine aL (aA (csr (wan (aI (csr (wfl rfl fD rfl aX hb3 rfl (wfl rfl eE rfl aX hb3 rfl ?_))))))); refine aC (dG rfl rfl (by omega) (by omega)) ?_; refine aB (wnn (bC ?_))
  refine cN (α := RkqG) (⟨0, [], pa, pc, po, [], none, 0, none⟩) (fun x => [(71, .int .i64 (x.j : Nat)), (7, .slice x.ja x.j x.jc)]) [(0, _), (3, _), (70, _)] (fun x wr => Evo (cb :: ob.toList) w wr ∧ (RkqI w wr cb es new ob Z t.lazy t.kids[0] b3 #[iv t.kind, .int .i32 t.r, .slice ra t.ranges.length rc, iv t.min, iv t.max, .bool t.lazy, iv t.cap, .string t.name, .slice (some ⟨bk, ok, none⟩) t.kids.length kc] r x)) (fun x => r - x.j) ⟨rfl, rfl, trivial⟩ ⟨rfl, rfl, rfl, trivial⟩ ⟨a0, ⟨Nat.zero_le _, by rw [List.append_nil]; exact hcd.evo0 (Evo.refl [] e0), hq, OptPre.nil _ _ _, Nat.zero_le _, rfl, (fun _ h => by cases h), OwnS.nil _ _ _, Apart.nil _, Apart.nil _, Ge.nil _, hb3, ha1, ha2, Apart.nil _⟩⟩ ?_
  rintro ⟨j, new2, pa, pc, po, js, ja, jc, jo⟩ wr60 ⟨a2, ⟨hj, hcd, hq, hpre, hlen2, hjl, hnice2, hjo, hap1, hap2, hge, hb3, ha1, ha2, ha3⟩⟩; show CW _ _ _ _ [(71, .int .i64 (j : Nat)), (7, .slice ja j jc), (0, _), (3, _), (70, _)] _
  try dsimp only at hj hcd hq hpre hlen2 hjl hnice2 hjo hap1 hap2 hge hb3 ha1 ha2 ha3
  have hAJN : Apart (some cb) po := fun g h1 h2 => by cases h1; exact hcd.ne cb h2 rfl
  refine csr (aC (cP rfl rfl) ?_); refine wnn (aI (bA rfl (fun e8 => ?_) (fun e8 => ?_)))
  ·have hjr : j < r := by omega
   have hms := zC (e := t.kids[0].esz + 1) hjr; refine aL (aA (aI (bC (csr (aB (aB (aC (cA (vs := [(0, _)]) dF rfl (cells := [_, _, _, _, _]) rfl) ?_)))))))
   refine aJ (vs := [_, _]) eM rfl (lC (rs := []) (hcd.evo0 (Evo.refl [] wr60)) nJ (by simp only [List.length_append]; omega)) rfl ?_
   rintro _ g4 ⟨rfl, a3, hto5⟩; have hlt_b3_5 := (Lt.blk hb3); have hlt_JS_5 := (Lt.own hjo); have hev_5 := a2; obtain ⟨pa_5, pc_5, po_5, hC_5, hp_5⟩ := hto5; have hq_5 := eC hq hev_5 hp_5; have hA_b3_5 := fW ha2 hlt_b3_5 hp_5; have hA_JS_5 := fW hap2.symm hlt_JS_5 hp_5
   have hAJN_5 : Apart (some cb) po_5 := fun g h1 h2 => by cases h1; exact hC_5.ne cb h2 rfl
   refine bL (vs := [_]) rfl wV rfl rfl rfl rfl fun h0 h3 e9 g8 L => ?_; have c5 := (a2.step a3 (eA hq)).then L; have c6 := (Evo.refl jo.toList g4).then L; have c7 := L.blk0 (a3.blk hb3 (pB ha1 ha2)); have hcd4 := c6; refine cT rfl rfl rfl rfl vK ((hjo.evo a3 (yE hap1.symm hap2.symm)).evo0 L) (Src.ofOwn e9 ⟨by first | rfl | assumption, trivial⟩) (by omega) fun ja2 jc2 g5 jo2 c8 a4 hob90 => ?_; have c9 := hap1.app (Lt.blk (L.blk0 hC_5.blk)) hob90; have d0 := hA_JS_5.symm.app (Lt.own (hC_5.own.evo0 L)) hob90; have U := c5.step a4 hge.mem; have f0 := c6.step a4 (fun y hy => .inl hy); have a5 := a4.blk c7 ha3.nmem; have hjo2 := hob90; have g6 := hC_5.evo f0 hap1.nmem hA_JS_5.symm.own (fun y hy => List.mem_append_left _ hy) (VM hcd4 hjo2); refine wan (aF (aB (wfl rfl eO rfl gG a5 rfl ?_))); refine aC (eW (n := 0) rfl rfl rfl dN (by omega)) ?_; refine aC (cY rfl bV aU (vs := [_, _, _, _, _, _, _, _, _]) rfl (a7.evo U hb1)) ?_
   refine aJ (vs := [_, _]) iU rfl (ih (t := t.kids[0]) (g6.evo0 (Evo.refl [] g5)) (RRx.step hrk U (eA hq_5) hXlt) (hg.kid _ (List.getElem_mem hj')) (by simp only [List.length_append, List.length_cons, List.length_nil]; omega) (ltZ hZ U (Lt.own c8))) rfl ?_
   rintro _ g9 ⟨-, W, kx6, hto6, hkx6, hkl6, hkn6⟩; have hlt_b3_6 := (Lt.blk a5); have hlt_jo2_6 := (Lt.own c8); have hev_6 := U; have d5 := c8.evo W (yE c9.symm d0.symm); obtain ⟨pa_6, pc_6, po_6, hC_6, hp_6⟩ := hto6; have hq_6 := eC hq_5 hev_6 hp_6; have hA_b3_6 := fW hA_b3_5 hlt_b3_6 hp_6; have hA_jo2_6 := fW d0.symm hlt_jo2_6 hp_6
   have hAJN_6 : Apart (some cb) po_6 := fun g h1 h2 => by cases h1; exact hC_6.ne cb h2 rfl
   refine aP (aO (aA (aF ?_))); refine aC (aK rfl rfl (by omega) (by omega)) ?_; refine aB (aP (aW ?_)); refine ⟨⟨j + 1, new2 ++ ([(⟨3, ((es ++ (new ++ new2)).length : Nat) + 1, 0, 0, []⟩, .slice none 0 0)] ++ kx6), pa_6, pc_6, po_6, js ++ [(es ++ (new ++ new2)).length], ja2, jc2, jo2⟩, ?_, ⟨rfl, rfl, trivial⟩, ⟨rfl, rfl, rfl, trivial⟩, (U.step W (eA hq_5)), ?_⟩
   · (try dsimp only); omega
   try dsimp only
   have hm : (es ++ (new ++ new2)).length = es.length + new.length + (new2.map (·.1)).length := by simp only [List.length_append, List.length_map]; omega
   have hx' : gR t.kids[0] ((es ++ (new ++ new2)).length + 1) (kx6.map (·.1)) := by have h := hkx6; rwa [List.length_append] at h
   have hs := hpre.snoc (o := ((es ++ (new ++ new2)).length : Nat) + 1) (al := 0) hm hx'
   refine ⟨by show j + 1 ≤ r; omega, hC_6.cast (by simp), hq_6, ?_, ?_, ?_, gZ hnice2 (gZ (gI (SQ _ _ (by omega) (Int.le_refl _))) hkn6), ?_, c9, hA_jo2_6.symm, (hge.app c5 hob90), (W.blk a5 (pB ha1 hA_b3_5)), ha1, hA_b3_6, (ha3.app (Lt.blk c7) hob90)⟩
   · show OptPre _ _ (j + 1) _ _ _; rw [List.map_append, List.map_append]; exact hs
   · show _ ≤ (j + 1) * (t.kids[0].esz + 1); rw [Nat.succ_mul]; simp only [List.length_append, List.length_cons, List.length_nil]; omega
   · show (js ++ [_]).length = j + 1; rw [List.length_append, hjl]; rfl
   · have h : OwnS _ 3 1 ja2 (j + 1) jc2 (js.map (fun p => iv (p : Nat)) ++ [iv ((es ++ (new ++ new2)).length : Nat)]) jo2 := d5
     show OwnS _ 3 1 ja2 (j + 1) jc2 ((js ++ [_]).map _) jo2; rw [List.map_append]; exact h
  have hjr : j = r := by omega
  subst hjr; refine cJ (bH (bH (cI (aA ?_)))); refine csr (aB (aC (bD rfl Tryz.underlying37 rfl) ?_)); refine aB (wnn (bC ?_))
  refine cN (α := Nat) (0) (fun i => [(88, .int .i64 (i : Nat))]) [(0, _), (3, _), (86, _), (87, _)] (fun i wr => Evo (cb :: ob.toList) w wr ∧ (i ≤ js.length ∧ CdAt wr cb (oU (Iv.turnTo t.lazy (es.length + new.length + new2.length)) (js.take i) (es ++ (new ++ new2))) pa pc po (jo.toList ++ Z) ∧ OwnS wr 3 1 ja j jc (js.map fun p => iv (p : Nat)) jo ∧ wr.heap[b3]? = some (.cells #[iv t.kind, .int .i32 t.r, .slice ra t.ranges.length rc, iv t.min, iv t.max, .bool t.lazy, iv t.cap, .string t.name, .slice (some ⟨bk, ok, none⟩) t.kids.length kc] 71 (0, 0)))) (fun i => js.length - i) ⟨rfl, trivial⟩ ⟨rfl, rfl, rfl, rfl, trivial⟩ ⟨a2, ⟨Nat.zero_le _, by rw [List.take_zero]; exact hcd.evo0 (Evo.refl [] wr60), hjo, hb3⟩⟩ ?_
  rintro i wr107 ⟨a6, ⟨hi, hcd2, hjo2, hb32⟩⟩; show CW _ _ _ _ [(88, _), (0, _), (3, _), (86, _), (87, _)] _
  have hpl : (oU (Iv.turnTo t.lazy (es.length + new.length + new2.length)) (js.take i) (es ++ (new ++ new2))).length = es.length + new.length + new2.length := by rw [rP]; simp only [List.length_append]; omega
  refine csr (aC (cP rfl rfl) ?_); refine wnn (aI (bA rfl (fun f5 => ?_) (fun f5 => ?_)))
  ·have hi' : i < js.length := by omega
   have hat := hpre.at' js[i] (List.getElem_mem hi')
   rw [List.length_map] at hat; obtain ⟨gJ, haJ, hcJ⟩ := NF hjo2 (by omega); refine aL (aA (aI (bC (csr ?_))))
   refine aC (bX (n := i) (by rw [haJ]; rfl) rfl qD (by omega)) ?_
   refine aC (aQ rfl aX (hcJ i hi')) (wan ?_); refine eX (fun w0 w' => Evo po.toList w0 w') (by kernel_rfl) (fun A H => ?_); refine aet 0 rfl (fun _ hS => aY rfl) (Evo.refl po.toList A) ?_; refine aet 1 rfl (fun _ hS => aG rfl) (Evo.refl po.toList A) ?_; refine aet 2 rfl (fun _ hS => aQ rfl dZ (aV (hS.blk (H.blk0 hcd2.blk) (hAJN.nmem)) rfl)) (Evo.refl po.toList A) ?_; refine aet 3 rfl (fun _ hS => aY rfl) (Evo.refl po.toList A) ?_; refine aet 4 rfl (fun _ hS => aY rfl) (Evo.refl po.toList A) ?_; refine aet 5 rfl (fun _ hS => aK rfl rfl (by omega) (by omega)) (Evo.refl po.toList A) ?_; refine aet 6 rfl (fun _ hS => aY rfl) (Evo.refl po.toList A) ?_; refine aet 7 rfl (fun _ hS => aG rfl) (Evo.refl po.toList A) ?_; refine aet 8 rfl (fun _ hS => aQ rfl dZ (aV (hS.blk (H.blk0 hcd2.blk) (hAJN.nmem)) rfl)) (Evo.refl po.toList A) ?_; refine aet 9 rfl (fun _ hS => bD rfl Tryz.underlying120 rfl) (Evo.refl po.toList A) ?_
   refine aet 10 rfl (fun _ hS => aD rfl mI) (Evo.refl po.toList A) ?_; refine aet 11 rfl (fun _ hS => aQ rfl gD (aV (hS.blk (H.blk0 hb32) (ha2.nmem)) rfl)) (Evo.refl po.toList A) ?_; refine bS [12] (by kernel_rfl) rfl ⟨?_, trivial⟩; refine bY rfl ?_
   refine aJ (vs := [_, _, _, _, _]) sP rfl (MN (k := js[i]) (hcd2.evo0 ((Evo.refl [] wr107).then H)) (rfl) (by rw [hpl]; omega)) rfl ?_
   rintro _ f6 ⟨rfl, M, hT_7⟩; have d6 := (a6.then H).step M (fun y hy => eA hq y (List.mem_cons_of_mem _ hy)); refine aP (bN (.inl ((Evo.refl po.toList A).step M (fun y hy => .inl hy))) ?_); refine cV (by kernel_rfl) (aO (aA ?_)); refine aF ?_; refine aC (aK rfl rfl (by omega) (by omega)) ?_; refine aB (aP (aW ?_)); refine ⟨i + 1, ?_, ⟨rfl, trivial⟩, ⟨rfl, rfl, rfl, rfl, trivial⟩, d6, ?_⟩
   · omega
   refine ⟨by omega, ?_, ((hjo2.evo0 H).evo M (hap2.symm.own)), (M.blk (H.blk0 hb32) (ha2.nmem))⟩; rw [List.take_add_one, List.getElem?_eq_getElem hi']; have h := hT_7.evo0 (Evo.refl [] f6); rw [turn_len hpl] at h; rw [show (js.take i ++ (some js[i]).toList) = js.take i ++ [js[i]] from rfl, BO]; exact h
  refine cJ (bH (bH (cI (eF rfl ?_)))); have hiE : js.take i = js := List.take_of_length_le (by omega); rw [hiE] at hcd2
  have hatJ : ∀ p, p ∈ js → (es ++ new).length ≤ p := fun p hp => by have := (hpre.at' p hp).1; rw [List.length_append]; exact this
  rw [← List.append_assoc] at hcd2; obtain ⟨new', g7, d3, d4⟩ := BN (f := Iv.turnTo t.lazy (es.length + new.length + new2.length)) (fun p e => rfl) (new := new2) hatJ; rw [g7, List.append_assoc] at hcd2; rw [List.length_append] at d4
  refine ⟨rfl, a6, new ++ new', ⟨_, _, _, hcd2.evo (Evo.refl [] _) (by simp) (by simp) (by simp) (fun z hz => .inl (List.mem_append_right _ hz)), hq⟩, ?_, ?_, gZ hnice (CB hnice2 d3 d4 (fun p e h => ⟨h.1, by show (0 : Int) ≤ (if t.lazy then _ else _); split <;> omega, by show (0 : Int) ≤ (if t.lazy then _ else _); split <;> omega, h.2.2.2⟩))⟩
  · rw [List.map_append]
    refine ZF (a := es.length) (k := new.map (·.1)) (kp := new'.map (·.1)) (kx := new2.map (·.1)) (js := js) (r := j) h6 hky hmx hpre0 hr (by rw [List.length_map]; exact hpre) (by rw [List.length_map, List.length_map]; exact d3) (fun l hl => ?_)
    rw [List.length_map] at hl ⊢; rw [List.length_map]; exact pat_of (g := turnTo t.lazy (es.length + new.length + new2.length)) (fun _ _ => rfl) d3 d4 hl
  · simp only [List.length_append]; omega
theorem QQ : cX Tryz.prog 79 := ⟨_, Tryz.func79, by kernel_rfl, by kernel_rfl⟩
theorem zP : cX Tryz.prog 80 := ⟨_, Tryz.func80, by kernel_rfl, by kernel_rfl⟩
theorem WO {E s e : Int} (he : e = E + 2) (hs : s = min E 10001) : min (s + 2) 10001 = min e 10001 := by subst he hs; omega
theorem jO (a b : Int) : (if b < a then b else a) = min a b := by omega
theorem step_cap {a b : Nat} {s r : Int} (hs : s = min (a : Int) 10001) (hr : r = min (b : Int) 10001) : min (s + r) 10001 = min (((a + b : Nat) : Int)) 10001 := by subst hs hr; omega
set_option maxHeartbeats 4000000 in
theorem XK {n : Nat} (ih : ∀ {X : List Nat} {w : World} {vs : List Value} {t : Rx} (hx : RRx n X w vs t) (hg : Good t), Calls Tryz.prog 80 #[.agg vs.toArray] w (Ret fun v w' => v = .int .i64 (min (t.esz : Int) 10001) ∧ Evo [] w w')) {X : List Nat} {w : World} {vs : List Value} {t : Rx} (hx : RRx (n + 1) X w vs t) (hg : Good t) : Calls Tryz.prog 80 #[.agg vs.toArray] w (Ret fun v w' => v = .int .i64 (min (t.esz : Int) 10001) ∧ Evo [] w w') := by
  have hx0 := hx; obtain ⟨m, ra, rc, ka, kc, hm, rfl, hrg, hk, bl1, bl2, bl3⟩ := hx.get
  obtain rfl : m = n := by omega
  obtain ⟨_, _, hke, hkc, e1⟩ := hk; cases hke; have hn := (oN t).1 hg.node; refine aT (N := 64) Tryz.func80 rfl rfl rfl ?_; refine csr (fT rfl rfl fun b1 w2 a0 a9 a7 => ?_); refine wan (csr (wan (aI (csr (wfl rfl eO rfl gG a0 rfl (aC (bD rfl Tryz.underlying69 rfl) ?_)))))); refine aB (wnn (bC ?_))
  refine cN (α := Nat × Int) ((0, 0)) (fun x => [(3, .int .i64 x.2), (9, .int .i64 (x.1 : Nat))]) [(1, _), (2, _), (7, _), (8, _)] (fun x wr => Evo [] w2 wr ∧ (x.1 ≤ t.kids.length ∧ x.2 = min (iE (t.kids.take x.1) : Int) 10001)) (fun x => t.kids.length - x.1) ⟨rfl, rfl, trivial⟩ ⟨rfl, rfl, rfl, rfl, trivial⟩ ⟨Evo.refl _ _, ⟨Nat.zero_le _, by simp only [List.take_zero]; rfl⟩⟩ ?_
  rintro ⟨j, s⟩ wr8 ⟨O, ⟨hj, hs⟩⟩; show CW _ _ _ _ [(3, .int .i64 s), (9, .int .i64 (j : Nat)), (1, _), (2, _), (7, _), (8, _)] _
  try dsimp only at hj hs
  have A := ((Evo.refl [] w).then a7).then O; have E := O.blk0 a0; refine csr (aC (cP rfl rfl) ?_); refine wnn (aI (bA rfl (fun a3 => ?_) (fun a3 => ?_)))
  ·have hj' : j < t.kids.length := by omega
   obtain ⟨b1, o1, vs1, ha1, hb1, hvl1, a8, hrk⟩ := e1 j hj'; obtain ⟨m1, ra1, rc1, ka1, kc1, rfl, rfl, -⟩ := id hrk.get; refine aL (aA (aI (bC (csr ?_))))
   refine aC (bX (n := j) (by rw [ha1]; rfl) rfl dN (by omega)) ?_
   refine aC (cY rfl bV aU (vs := [_, _, _, _, _, _, _, _, _]) rfl (a8.evo A (by simp))) ?_; refine cF rfl eJ fun b4 b5 a4 U V => ?_; refine aZ rfl rfl aU a4 rfl rfl ⟨by first | rfl | assumption, by first | rfl | assumption, by first | rfl | assumption, by first | rfl | assumption, by first | rfl | assumption, by first | rfl | assumption, by first | rfl | assumption, by first | rfl | assumption, by first | rfl | assumption, trivial⟩ fun b6 a5 W => ?_; refine wnn (aF (aB (aC (bT rfl bV aU a5 rfl) ?_))); refine aJ (vs := [_]) zP rfl (ih (RRx.pers _ _ _ _ _ _ (((A.then V).step W (Ge.new A U).mem1).mono (fun b hb => by cases hb)) hrk) (hg.kid _ (List.getElem_mem hj'))) rfl ?_; rintro _ b7 ⟨rfl, a6⟩; refine aC (aK rfl rfl (by omega) (by omega)) ?_; refine aC (jM rfl rfl) ?_; refine bR (aP (aO (aA (aF ?_)))); refine aC (aK rfl rfl (by omega) (by omega)) ?_; refine aB (aP (aW ?_)); refine ⟨(j + 1, if 10001 < s + min (t.kids[j].esz : Int) 10001 then 10001 else s + min (t.kids[j].esz : Int) 10001), ?_, ⟨rfl, rfl, trivial⟩, ⟨rfl, rfl, rfl, rfl, trivial⟩, (((O.then V).step W (Ge.new O U).mem1).then a6), ?_⟩
   · (try dsimp only); omega
   try dsimp only
   exact ⟨by omega, by rw [uV hj', jO]; exact step_cap hs rfl⟩
  have hall : s = min (iE t.kids : Int) 10001 := by rw [hs, List.take_of_length_le (by omega)]
  have a1 : 0 ≤ s := by omega
  have a2 : s ≤ 10001 := by omega
  refine cJ (bH (bH (cI (aA ?_)))); refine aI (csr (wfl rfl jA rfl aX E rfl (wnn (bC (aI (csr (wel ?_))))))); refine wan (bA rfl (fun H => ?_) (fun H => ?_))
  ·refine aL (aA (bA rfl (fun H => ?_) (fun H => ?_)))
   ·refine aL (aO (aA (csr (aB (aC (jM rfl rfl) ?_))))); refine wan (aH (br1 ?_)); refine ⟨congrArg (Value.int .i64) ?_, A⟩; rw [jO]
    first | (rw [esz1 (by omega), hall]; have hk0 : t.kids = [] := hg.node.leaf (by unfold uK; omega); rw [hk0]; rfl) | (rw [esz4 (by omega), hall]; omega)
   refine csr (wel ?_); refine wan (bA rfl (fun I => ?_) (fun I => ?_))
   ·have h52 := hn.two (by omega); refine aF (aB (wfl rfl eO rfl gG E rfl (aC (bD rfl Tryz.underlying69 rfl) ?_))); refine aC (dG rfl rfl (by omega) (by omega)) ?_; refine aC (fQ rfl rfl (by omega) (by omega)) ?_; refine aC (aK rfl rfl (by omega) (by omega)) ?_; refine bR (aP (aO (aA (csr (aB (aC (jM rfl rfl) ?_)))))); refine wan (aH (br1 ?_)); refine ⟨congrArg (Value.int .i64) ?_, A⟩; rw [jO]
    rw [esz5 (by omega) (by omega), hall]; omega
   refine csr (wel ?_); refine wan (bA rfl (fun J => ?_) (fun J => ?_))
   ·refine aF (aB ?_); refine aC (aK rfl rfl (by omega) (by omega)) ?_; refine bR (aP (aO (aA (csr (aB (aC (jM rfl rfl) ?_)))))); refine wan (aH (br1 ?_)); refine ⟨congrArg (Value.int .i64) ?_, A⟩; rw [jO]; exact WO (esz7 (by omega)) hall
   refine csr (wel ?_); refine wan (bA rfl (fun L => ?_) (fun L => ?_))
   ·have h6 := hn.rep1 (by omega); have h62 := hn.rep2 (by omega); have h63 := hn.rep3 (by omega); have hmu := IU h6 h62 a1 a2; refine csr (wfl rfl fD rfl aX E rfl (aC (cP rfl rfl) ?_)); refine wnn (bA rfl (fun M => ?_) (fun M => ?_))
    ·refine aF (wfl rfl eE rfl aX E rfl (aB ?_)); refine aC (fQ rfl rfl (by omega) (by omega)) ?_; refine aB ?_; refine aC (aK rfl rfl (by omega) (by omega)) ?_; refine aC (aK rfl rfl (by omega) (by omega)) ?_; refine bR (aP (aO (aA (csr (aB (aC (jM rfl rfl) ?_)))))); refine wan (aH (br1 ?_)); refine ⟨congrArg (Value.int .i64) ?_, A⟩; rw [jO]
     rw [esz6a (by omega) h6 (by omega), hall]; exact PP h6 (Int.natCast_nonneg _)
    have hmv := IU (show 0 ≤ t.max - t.min by omega) (show t.max - t.min ≤ 1000 by omega) (show 0 ≤ s + 1 by omega) (show s + 1 ≤ 10002 by omega); refine aF (wfl rfl eE rfl aX E rfl (aB ?_)); refine aC (fQ rfl rfl (by omega) (by omega)) ?_; refine wfl rfl fD rfl aX E rfl (wfl rfl eE rfl aX E rfl ?_); refine aC (dG rfl rfl (by omega) (by omega)) ?_; refine aB ?_; refine aC (aK rfl rfl (by omega) (by omega)) ?_; refine aC (fQ rfl rfl (by omega) (by omega)) ?_; refine aC (aK rfl rfl (by omega) (by omega)) ?_; refine bR (aP (aO (aA (csr (aB (aC (jM rfl rfl) ?_)))))); refine wan (aH (br1 ?_)); refine ⟨congrArg (Value.int .i64) ?_, A⟩; rw [jO]
    rw [esz6b (by omega) h6 (by omega), hall]; exact PO h6 (by omega) (Int.natCast_nonneg _)
   refine aF (bR (aP (aO (aA (csr (aB (aC (jM rfl rfl) ?_))))))); refine wan (aH (br1 ?_)); refine ⟨congrArg (Value.int .i64) ?_, A⟩; rw [jO]; rw [CZ (by omega)]
  refine aF (wel ?_); refine wan (bA rfl (fun H => ?_) (fun H => ?_))
  ·refine aL (aO (aA (csr (aB (aC (jM rfl rfl) ?_))))); refine wan (aH (br1 ?_)); refine ⟨congrArg (Value.int .i64) ?_, A⟩; rw [jO]
   first | (rw [esz1 (by omega), hall]; have hk0 : t.kids = [] := hg.node.leaf (by unfold uK; omega); rw [hk0]; rfl) | (rw [esz4 (by omega), hall]; omega)
  refine csr (wel ?_); refine wan (bA rfl (fun I => ?_) (fun I => ?_))
  ·have h52 := hn.two (by omega); refine aF (aB (wfl rfl eO rfl gG E rfl (aC (bD rfl Tryz.underlying69 rfl) ?_))); refine aC (dG rfl rfl (by omega) (by omega)) ?_; refine aC (fQ rfl rfl (by omega) (by omega)) ?_; refine aC (aK rfl rfl (by omega) (by omega)) ?_; refine bR (aP (aO (aA (csr (aB (aC (jM rfl rfl) ?_)))))); refine wan (aH (br1 ?_)); refine ⟨congrArg (Value.int .i64) ?_, A⟩; rw [jO]
   rw [esz5 (by omega) (by omega), hall]; omega
  refine csr (wel ?_); refine wan (bA rfl (fun J => ?_) (fun J => ?_))
  ·refine aF (aB ?_); refine aC (aK rfl rfl (by omega) (by omega)) ?_; refine bR (aP (aO (aA (csr (aB (aC (jM rfl rfl) ?_)))))); refine wan (aH (br1 ?_)); refine ⟨congrArg (Value.int .i64) ?_, A⟩; rw [jO]; exact WO (esz7 (by omega)) hall
  refine csr (wel ?_); refine wan (bA rfl (fun L => ?_) (fun L => ?_))
  ·have h6 := hn.rep1 (by omega); have h62 := hn.rep2 (by omega); have h63 := hn.rep3 (by omega); have hmu := IU h6 h62 a1 a2; refine csr (wfl rfl fD rfl aX E rfl (aC (cP rfl rfl) ?_)); refine wnn (bA rfl (fun M => ?_) (fun M => ?_))
   ·refine aF (wfl rfl eE rfl aX E rfl (aB ?_)); refine aC (fQ rfl rfl (by omega) (by omega)) ?_; refine aB ?_; refine aC (aK rfl rfl (by omega) (by omega)) ?_; refine aC (aK rfl rfl (by omega) (by omega)) ?_; refine bR (aP (aO (aA (csr (aB (aC (jM rfl rfl) ?_)))))); refine wan (aH (br1 ?_)); refine ⟨congrArg (Value.int .i64) ?_, A⟩; rw [jO]
    rw [esz6a (by omega) h6 (by omega), hall]; exact PP h6 (Int.natCast_nonneg _)
   have hmv := IU (show 0 ≤ t.max - t.min by omega) (show t.max - t.min ≤ 1000 by omega) (show 0 ≤ s + 1 by omega) (show s + 1 ≤ 10002 by omega); refine aF (wfl rfl eE rfl aX E rfl (aB ?_)); refine aC (fQ rfl rfl (by omega) (by omega)) ?_; refine wfl rfl fD rfl aX E rfl (wfl rfl eE rfl aX E rfl ?_); refine aC (dG rfl rfl (by omega) (by omega)) ?_; refine aB ?_; refine aC (aK rfl rfl (by omega) (by omega)) ?_; refine aC (fQ rfl rfl (by omega) (by omega)) ?_; refine aC (aK rfl rfl (by omega) (by omega)) ?_; refine bR (aP (aO (aA (csr (aB (aC (jM rfl rfl) ?_)))))); refine wan (aH (br1 ?_)); refine ⟨congrArg (Value.int .i64) ?_, A⟩; rw [jO]
   rw [esz6b (by omega) h6 (by omega), hall]; exact PO h6 (by omega) (Int.natCast_nonneg _)
  refine aF (bR (aP (aO (aA (csr (aB (aC (jM rfl rfl) ?_))))))); refine wan (aH (br1 ?_)); refine ⟨congrArg (Value.int .i64) ?_, A⟩; rw [jO]; rw [CZ (by omega)]
theorem UL : ∀ {n : Nat} {X : List Nat} {w : World} {vs : List Value} {t : Rx} (hx : RRx n X w vs t) (hg : Good t), Calls Tryz.prog 80 #[.agg vs.toArray] w (Ret fun v w' => v = .int .i64 (min (t.esz : Int) 10001) ∧ Evo [] w w')
  | 0, X, w, vs, t, hx, hg => hx.elim
  | n + 1, X, w, vs, t, hx, hg => XK (n := n) (fun hx hg => UL hx hg) hx hg
def SizeIs (t : Rx) (r : Int) : Prop := (t.Ok → r = min ((t.esz : Int) + 1) 10001) ∧ (¬ t.Ok → r = 0)
theorem cap_one (e : Int) : min (min e 10001 + 1) 10001 = min (e + 1) 10001 := by omega
theorem Size_ok {n : Nat} {w : World} {vs : List Value} {t : Rx} (hx : RRx n [] w vs t) : Calls Tryz.prog 54 #[.agg vs.toArray] w (Ret fun v w' => ∃ r, v = .int .i64 r ∧ SizeIs t r ∧ Evo [] w w') := by
  have hx0 := hx; obtain ⟨m, ra, rc, ka, kc, hm, rfl, hrg, hk, bl1, bl2, bl3⟩ := hx.get; refine aT (N := 10) Tryz.func54 rfl rfl rfl ?_; refine csr (fT rfl rfl fun b1 w2 H O M => ?_); have I := (Evo.refl [] w).then M; refine wan (aI (csr (aC (bT rfl bV aU H rfl) (aJ (vs := [_]) QQ rfl (valid_ok (RRx.pers _ _ _ _ _ _ I hx0)) rfl ?_)))); rintro _ w8 ⟨r, rfl, hr, J⟩; have A := I.then J; refine aC (fP rfl) ?_; refine wnn (dW rfl (fun E => ?_) (fun E => ?_))
  ·refine csr (wan (aH (aE (br1 ?_))))
   exact ⟨0, rfl, ⟨fun h => (by rw [hr.2 h] at E; cases E), fun _ => rfl⟩, A⟩
  have hok : t.Ok := hr.1 (by simpa using E); refine aL (aA (csr (aC (bT rfl bV aU (J.blk0 H) rfl) (aJ (vs := [_]) zP rfl (UL (RRx.pers _ _ _ _ _ _ A hx0) hok.good) rfl ?_)))); rintro _ U ⟨rfl, L⟩; refine aC (aK rfl rfl (by omega) (by omega)) ?_; refine aC (jM rfl rfl) ?_; refine wan (aH (br1 ?_))
  exact ⟨_, rfl, ⟨fun _ => by rw [jO]; exact cap_one _, fun h => (h hok).elim⟩, (A.then L)⟩
theorem mW : iN Tryz.prog 76 = some true := by kernel_rfl
theorem sS : Build Tryz.prog 76 #[(0, 1), (1, 1), (2, 1), (3, 1)] #[.slice none 0 0, .int .i64 0, .int .i64 0, .slice none 0 0] := ⟨_, .agg #[.slice none 0 0, .int .i64 0, .int .i64 0, .slice none 0 0], Tryz.underlying76, by kernel_rfl, rfl, fun w => by kernel_rfl⟩
theorem jK : Build Tryz.prog 135 #[(0, 1), (1, 1)] #[.int .i32 0, .int .i32 0] := ⟨_, .agg #[.int .i32 0, .int .i32 0], Tryz.underlying135, by kernel_rfl, rfl, fun w => by kernel_rfl⟩
theorem QS : cX Tryz.prog 54 := ⟨_, Tryz.func54, by kernel_rfl, by kernel_rfl⟩
theorem QR : cX Tryz.prog 56 := ⟨_, Tryz.func56, by kernel_rfl, by kernel_rfl⟩
theorem uH : cX Tryz.prog 82 := ⟨_, Tryz.func82, by kernel_rfl, by kernel_rfl⟩
theorem QP : cX Tryz.prog 83 := ⟨_, Tryz.func83, by kernel_rfl, by kernel_rfl⟩
theorem QO : cX Tryz.prog 84 := ⟨_, Tryz.func84, by kernel_rfl, by kernel_rfl⟩
theorem gO : eQ Tryz.prog 76 = some 4 := by kernel_rfl
theorem zK : kF Tryz.prog 76 = some #[.slice none 0 0, .int .i64 0, .int .i64 0, .slice none 0 0] := by kernel_rfl
theorem KC : kF Tryz.prog 120 = some #[.slice none 0 0] := by kernel_rfl
structure CtI (w wr : World) (cb : Nat) (es : List Iv) (ob : Option Nat) (Z : List Nat) (ks : List Rx) (x : RpG) : Prop where
  j : x.k ≤ ks.length
  cd : CdAt wr cb (es ++ x.new) x.pa x.pc x.po Z
  po : x.po = ob ∨ ∃ g, x.po = some g ∧ w.heap.size ≤ g
  pre : CatC (ks.take x.k) es.length (x.new.map (·.1))
  len : x.new.length ≤ iE (ks.take x.k)
  nice : ∀ e, e ∈ x.new → nX e.1
theorem RangesOk.low {l : List (Int × Int)} (h : RangesOk l) : ∀ i (hi : i < l.length), 2 * (i : Int) ≤ l[i].1
  | 0, hi => by have := (h.1 0 hi).1; omega
  | i + 1, hi => by
    have h1 := h.low i (by omega)
    have h2 := h.1 i (by omega)
    have h3 := (h.1 (i + 1) hi).2.2.2 i (by omega) rfl
    omega
theorem RangesOk.len {l : List (Int × Int)} (h : RangesOk l) : l.length ≤ 1048576 := by
  by_cases e : l.length = 0
  · omega
  · have h1 := h.low (l.length - 1) (by omega)
    have h2 := h.1 (l.length - 1) (by omega)
    omega
theorem rows_rr (X : List Nat) (w : World) (a b : Int) : RowsOk 2 RRg X w [[.int .i32 a, .int .i32 b]] [(a, b)] := by
  refine ⟨rfl, fun k hk hk' => ?_⟩
  simp at hk
  subst hk
  exact ⟨rfl, rfl⟩
theorem VN {w w1 : World} {cb : Nat} {es : List Iv} {a : Option Addr} {c : Nat} {ob : Option Nat} {Z X : List Nat} (h : CdAt w cb es a c ob Z) (hZ : ∀ z, z ∈ Z → z < w.heap.size) (he : Evo X w w1) : ∀ z, z ∈ cb :: (ob.toList ++ Z) → z < w1.heap.size := fun z hz => by
  rw [← List.cons_append] at hz
  rcases List.mem_append.1 hz with h1 | h1
  · exact Nat.lt_of_lt_of_le (h.lt z h1) he.size
  · exact Nat.lt_of_lt_of_le (hZ z h1) he.size
set_option maxHeartbeats 8000000 in
theorem ZK {n : Nat} (ih : ∀ {w : World} {cb : Nat} {es : List Iv} {a : Option Addr} {c : Nat} {ob : Option Nat} {Z : List Nat} {vs : List Value} {t : Rx} (hC : CdAt w cb es a c ob Z) (hx : RRx n (cb :: ob.toList) w vs t) (hg : Good t) (hl : es.length + t.esz ≤ 100000) (hZ : ∀ z, z ∈ Z → z < w.heap.size), Calls Tryz.prog 55 #[.pointer (some ⟨cb, 0, none⟩), .agg vs.toArray] w (Ret fun v w' => v = .tuple #[] ∧ Evo (cb :: ob.toList) w w' ∧ ∃ new, RA w w' cb ob (es ++ new) Z ∧ gR t es.length (new.map (·.1)) ∧ new.length ≤ t.esz ∧ ∀ e, e ∈ new → nX e.1)) {w : World} {cb : Nat} {es : List Iv} {a : Option Addr} {c : Nat} {ob : Option Nat} {Z : List Nat} {vs : List Value} {t : Rx} (hC : CdAt w cb es a c ob Z) (hx : RRx (n + 1) (cb :: ob.toList) w vs t) (hg : Good t) (hl : es.length + t.esz ≤ 100000) (hZ : ∀ z, z ∈ Z → z < w.heap.size) : Calls Tryz.prog 55 #[.pointer (some ⟨cb, 0, none⟩), .agg vs.toArray] w (Ret fun v w' => v = .tuple #[] ∧ Evo (cb :: ob.toList) w w' ∧ ∃ new, RA w w' cb ob (es ++ new) Z ∧ gR t es.length (new.map (·.1)) ∧ new.length ≤ t.esz ∧ ∀ e, e ∈ new → nX e.1) := by
  have hXlt := hC.lt; have hx0 := hx; obtain ⟨m, ra, rc, ka, kc, hm, rfl, hrg, hk, bl1, bl2, bl3⟩ := hx.get
  obtain rfl : m = n := by omega
  have hk0 := hk; obtain ⟨_, _, hke, hkc, e1⟩ := hk; cases hke; have hn := (oN t).1 hg.node; have hcap := hg.capb
  have a5 : Apart (some cb) ob := fun g h1 h2 => by cases h1; exact hC.ne cb h2 rfl
  have hmZ : ∀ b, b ∈ cb :: ob.toList → b ∈ cb :: (ob.toList ++ Z) := fun b hb => by rw [← List.cons_append]; exact List.mem_append_left _ hb
  refine aT (N := 114) Tryz.func55 rfl rfl rfl ?_; refine csr (fT rfl rfl fun b3 w1 E b4 a0 => ?_); have i8 := b4; have f0 := Apart.new (Lt.blk hC.blk) b4; have I := Apart.new (Lt.own hC.own) b4; have A := (Evo.refl (cb :: ob.toList) w).then a0; have H := (Evo.refl [] w).then a0; refine wnn (csr (wfl rfl jA rfl aX E rfl (wnn (bC (csr (wel ?_)))))); refine wan (bA rfl (fun i9 => ?_) (fun i9 => ?_))
  ·have hk2 : t.kind = 2 := by omega
   refine aF (aB (wfl rfl kC rfl cL E rfl (wfl rfl kC rfl cL E rfl (aC (cA (vs := [(0, _), (1, _)]) jK rfl (cells := [_, _]) rfl) ?_)))); have hev16 := A; refine bL (vs := [_]) rfl fZ rfl rfl rfl rfl fun j0 j7 b6 f5 L => ?_; refine aC (cA (vs := [(0, _), (4, _)]) dF rfl (cells := [_, _, _, _, _]) rfl) ?_; have hsl := b6
   have hslx : ∀ g, some j0 = some g → g ∉ cb :: (ob.toList ++ Z) := fun g hg hm => by have h1 := VN hC hZ (Evo.refl [] w) _ hm; have h2 := (Ge.new A f5) g hg; omega
   refine aJ (vs := [_, _]) eM rfl (lC (rs := [(t.r, t.r)]) (hC.evo0 (H.then L)) (RSl.ofOwn (rows := [[.int .i32 t.r, .int .i32 t.r]]) hsl (rows_rr _ _ _ _) rfl hslx) (by omega)) rfl ?_; rintro _ j1 ⟨rfl, f6, hto1⟩; have hlt_b3_1 := (Lt.blk (L.blk0 E)); have hlt_b13_1 := (Lt.own b6); have hev_1 := (A.then L); have f7 := (A.then L).step f6 (eA (.inl rfl)); obtain ⟨pa_1, pc_1, po_1, hC_1, hp_1⟩ := hto1; have hq_1 := eC (.inl rfl) hev_1 hp_1; have hA_b3_1 := fW I.symm hlt_b3_1 hp_1
   have hAJN_1 : Apart (some cb) po_1 := fun g h1 h2 => by cases h1; exact hC_1.ne cb h2 rfl
   refine aP (aO (eF rfl ?_))
   refine ⟨rfl, f7, [(⟨2, (es.length : Nat) + 1, 0, 0, [(t.r, t.r)]⟩, _)], ⟨_, _, _, hC_1.evo0 (Evo.refl [] j1), hq_1⟩, ZG (by omega), by have := CZ (t := t) (by omega); show 1 ≤ t.esz; omega, gI ⟨by simp, by show (0 : Int) ≤ (es.length : Nat) + 1; omega, Int.le_refl _, by show 1 ≤ 1048576; decide⟩⟩
  refine csr (wel ?_); refine wan (bA rfl (fun f8 => ?_) (fun f8 => ?_))
  ·refine aI (csr (wfl rfl mJ rfl pI E rfl (aC (bD rfl Tryz.underlying68 rfl) ?_))); refine wel ?_; refine wnn (bA rfl (fun a1 => ?_) (fun a1 => ?_))
   ·refine csr (aB (aB (aC (aG rfl) (aC (aQ rfl dZ (aV (a0.blk0 hC.blk) rfl)) (aC (cA (vs := [(0, _)]) dF rfl (cells := [_, _, _, _, _]) rfl) ?_))))); refine bL (vs := [_]) rfl qL rfl rfl rfl rfl fun j8 j9 f9 j6 M => ?_; have b7 := M.blk0 (a0.blk0 hC.blk); have hszg := ((A.then M)).size; refine cT rfl rfl rfl rfl nV ((hC.own.evo0 a0).evo0 M) (Src.ofOwn f9 ⟨by first | rfl | assumption, by first | rfl | assumption, by first | rfl | assumption, by first | rfl | assumption, by first | rfl | assumption, trivial⟩) (by omega) fun a2 c2 k0 ob2 j2 b8 hob54 => ?_; have g0 := (A.then M).step b8 (fun y hy => .inl (List.mem_cons_of_mem _ hy)); have hob2 : ob2 = ob ∨ ∃ g, ob2 = some g ∧ w.heap.size ≤ g := hob54.imp id (fun ⟨g, h1, h2⟩ => ⟨g, h1, Nat.le_trans hszg h2⟩); refine aC (aG rfl) ?_; refine bE rfl rfl (by first | rfl | assumption) sE (b8.blk b7 a5.nmem) rfl fun k1 b9 c0 => ?_
    have c1 := g0.step c0 (fun y hy => .inl (by rw [List.mem_singleton.1 hy]; exact List.mem_cons_self ..))
    have g1 := j2.evo c0 (a5.app (Lt.blk b7) hob54).symm.own1
    try simp only [cG, Nat.reduceAdd] at b9
    refine wnn (aH (aE (aM (HQ rfl ?_))))
    refine ⟨rfl, c1, [(⟨11, 0, 0, 0, []⟩, .slice none 0 0)], ⟨a2, c2, ob2, ⟨?_, ?_, IK hC.ne (dK hC.blk) hob2, fun e he => ?_⟩, hob2⟩, TW (by omega) (List.length_eq_zero_iff.1 (by omega)), by have := CZ (t := t) (by omega); show 1 ≤ t.esz; omega, gI ⟨by simp, Int.le_refl _, Int.le_refl _, Nat.zero_le _⟩⟩
    · rw [List.length_append]; exact b9
    · rw [List.length_append, tU]; exact g1
    · rcases List.mem_append.1 he with he | he
      · exact qY (hC.rs e he) ((c1).mono hmZ) (IW hob2)
      · rw [List.mem_singleton] at he; subst he; exact nJ
   refine aL (aA (aF (aB (wfl rfl mJ rfl pI E rfl ?_)))); refine aJ (vs := [_]) uH rfl (TX (RSl.evo RRg.pers ((H).any _) hrg) (VN hC hZ A) (hg.node.cls (by omega)).len) rfl ?_; rintro vr k2 ⟨hrc, O⟩; obtain ⟨va, vc, rfl, -⟩ := id hrc; refine aC (cA (vs := [(0, _), (4, _)]) dF rfl (cells := [_, _, _, _, _]) rfl) ?_; refine aJ (vs := [_, _]) eM rfl (lC (rs := t.ranges) (hC.evo0 (H.then O)) hrc (by omega)) rfl ?_; rintro _ j3 ⟨rfl, g2, hto1⟩; have hlt_b3_1 := (Lt.blk (O.blk0 E)); have hev_1 := (A.then O); have g3 := (A.then O).step g2 (eA (.inl rfl)); obtain ⟨pa_1, pc_1, po_1, hC_1, hp_1⟩ := hto1; have hq_1 := eC (.inl rfl) hev_1 hp_1; have hA_b3_1 := fW I.symm hlt_b3_1 hp_1
   have hAJN_1 : Apart (some cb) po_1 := fun g h1 h2 => by cases h1; exact hC_1.ne cb h2 rfl
   refine aP (aO (eF rfl ?_))
   refine ⟨rfl, g3, [(⟨2, (es.length : Nat) + 1, 0, 0, t.ranges⟩, _)], ⟨_, _, _, hC_1.evo0 (Evo.refl [] j3), hq_1⟩, PM (by omega) (fun h => by rw [h] at a1; simp at a1), by have := CZ (t := t) (by omega); show 1 ≤ t.esz; omega, gI ⟨by simp, by show (0 : Int) ≤ (es.length : Nat) + 1; omega, Int.le_refl _, (hg.node.cls (by omega)).len⟩⟩
  refine csr (wel ?_); refine wan (bA rfl (fun g4 => ?_) (fun g4 => ?_))
  ·have he4 := esz4 (t := t) (by omega); refine csr (wfl rfl eO rfl gG E rfl (aC (bD rfl Tryz.underlying69 rfl) ?_)); refine aB (wnn (bC ?_))
   refine cN (α := RpG) (⟨0, [], a, c, ob⟩) (fun x => [(44, .int .i64 (x.k : Nat))]) [(0, _), (42, _), (43, _)] (fun x wr => Evo (cb :: ob.toList) w wr ∧ (CtI w wr cb es ob Z t.kids x)) (fun x => t.kids.length - x.k) ⟨rfl, trivial⟩ ⟨rfl, rfl, rfl, trivial⟩ ⟨A, ⟨Nat.zero_le _, by rw [List.append_nil]; exact hC.evo0 H, .inl rfl, CatC.nil _, Nat.zero_le _, (fun _ h => by cases h)⟩⟩ ?_
   rintro ⟨k, new, pa, pc, po⟩ wr81 ⟨U, ⟨hj, hcd, hq, hpre, hlen, hnice⟩⟩; show CW _ _ _ _ [(44, .int .i64 (k : Nat)), (0, _), (42, _), (43, _)] _
   try dsimp only at hj hcd hq hpre hlen hnice
   have hAJN : Apart (some cb) po := fun g h1 h2 => by cases h1; exact hcd.ne cb h2 rfl
   refine csr (aC (cP rfl rfl) ?_); refine wnn (aI (bA rfl (fun g5 => ?_) (fun g5 => ?_)))
   ·have hj' : k < t.kids.length := by omega
    obtain ⟨b1, o1, vs1, ha1, hb1, hvl1, c3, hrk⟩ := e1 k hj'; obtain ⟨m1, ra1, rc1, ka1, kc1, rfl, rfl, -⟩ := id hrk.get; have hek := JO hj'; refine aL (aA (aI (bC (csr ?_))))
    refine aC (bX (n := k) (by rw [ha1]; rfl) rfl dN (by omega)) ?_
    refine aC (cY rfl bV aU (vs := [_, _, _, _, _, _, _, _, _]) rfl (c3.evo U hb1)) ?_; refine cF rfl eJ fun b5 k3 g6 a3 c4 => ?_; have j4 := a3; refine aZ rfl rfl aU g6 rfl rfl ⟨by first | rfl | assumption, by first | rfl | assumption, by first | rfl | assumption, by first | rfl | assumption, by first | rfl | assumption, by first | rfl | assumption, by first | rfl | assumption, by first | rfl | assumption, by first | rfl | assumption, trivial⟩ fun j5 a4 c5 => ?_; have V := (U.then c4).step c5 (Ge.new U a3).mem1
    try simp only [cG, Nat.reduceAdd] at a4
    refine wnn (aF (aB (aC (bT rfl bV aU a4 rfl) ?_))); have hZw : ∀ z, z ∈ Z → z < (j5).heap.size := fun z hz => Nat.lt_of_lt_of_le (hZ z hz) (V).size
    refine aJ (vs := [_, _]) iU rfl (ih (t := t.kids[k]) (hcd.evo0 (((Evo.refl [] wr81).then c4).step c5 (Ge.new (Evo.refl [] wr81) a3).mem1)) (RRx.step hrk V (eA hq) hXlt) (hg.kid _ (List.getElem_mem hj')) (by simp only [List.length_append, List.length_cons, List.length_nil]; omega) hZw) rfl ?_
    rintro _ g7 ⟨-, c7, kx1, hto1, hkx1, hkl1, hkn1⟩; have hlt_b5_1 := (Lt.blk a4); have hev_1 := V; obtain ⟨pa_1, pc_1, po_1, hC_1, hp_1⟩ := hto1; have hq_1 := eC hq hev_1 hp_1
    have hAJN_1 : Apart (some cb) po_1 := fun g h1 h2 => by cases h1; exact hC_1.ne cb h2 rfl
    refine aP (aO (aA (aF ?_))); refine aC (aK rfl rfl (by omega) (by omega)) ?_; refine aB (aP (aW ?_)); refine ⟨⟨k + 1, new ++ kx1, pa_1, pc_1, po_1⟩, ?_, ⟨rfl, trivial⟩, ⟨rfl, rfl, rfl, trivial⟩, (V.step c7 (eA hq)), ?_⟩
    · (try dsimp only); omega
    try dsimp only
    have hx' : gR t.kids[k] (es.length + (new.map (·.1)).length) (kx1.map (·.1)) := by rw [List.length_map]; have h := hkx1; rwa [List.length_append] at h
    refine ⟨by show k + 1 ≤ _; omega, (hC_1.evo0 (Evo.refl [] g7)).cast (List.append_assoc ..), hq_1, ?_, ?_, gZ hnice hkn1⟩
    · show CatC (t.kids.take (k + 1)) _ _; rw [List.take_add_one, List.getElem?_eq_getElem hj', List.map_append]; exact hpre.snoc hx'
    · show _ ≤ iE (t.kids.take (k + 1)); rw [uV hj', List.length_append]; omega
   refine cJ (bH (bH (cI (aO (eF rfl ?_))))); have hall : t.kids.take k = t.kids := List.take_of_length_le (by omega); rw [hall] at hpre hlen; exact ⟨rfl, U, new, ⟨_, _, _, hcd.evo0 (Evo.refl [] wr81), hq⟩, ZI (by omega) hpre, by omega, hnice⟩
  refine csr (wel ?_); refine wan (bA rfl (fun g8 => ?_) (fun g8 => ?_))
  ·refine aF (aB (wfl rfl eO rfl gG E rfl ?_)); have hZw : ∀ z, z ∈ Z → z < (w1).heap.size := fun z hz => Nat.lt_of_lt_of_le (hZ z hz) (A).size
   refine aJ (vs := [_, _]) QP rfl (PN ih (hC.evo0 H) (RSl.evo (RRx.pers _) A hk0) (by have := hn.two (by omega); omega) bl3 (fun k hk => hg.kid k hk) (by have h2 := hn.two (by omega); have := esz5 (t := t) (by omega) (by omega); omega) hZw) rfl ?_
   rintro _ g9 ⟨-, c8, kx1, hto1, hkx1, hkl1, hkn1⟩; have hlt_b3_1 := (Lt.blk E); have hev_1 := A; have c9 := A.step c8 (eA (.inl rfl)); obtain ⟨pa_1, pc_1, po_1, hC_1, hp_1⟩ := hto1; have hq_1 := eC (.inl rfl) hev_1 hp_1; have hA_b3_1 := fW I.symm hlt_b3_1 hp_1
   have hAJN_1 : Apart (some cb) po_1 := fun g h1 h2 => by cases h1; exact hC_1.ne cb h2 rfl
   refine aP (aO (eF rfl ?_))
   exact ⟨rfl, c9, kx1, ⟨_, _, _, hC_1.evo0 (Evo.refl [] g9), hq_1⟩, ZJ (by omega) (by intro l hl; rw [List.length_map]; exact hkx1 l hl), by have := esz5 (t := t) (by omega) (by have := hn.two (by omega); omega); have := hn.two (by omega); omega, hkn1⟩
  refine csr (wel ?_); refine wan (bA rfl (fun h0 => ?_) (fun h0 => ?_))
  ·refine aF (aB (aC (bT rfl bV aU E rfl) ?_)); have hZw : ∀ z, z ∈ Z → z < (w1).heap.size := fun z hz => Nat.lt_of_lt_of_le (hZ z hz) (A).size; refine aJ (vs := [_, _]) QO rfl (MW ih (hC.evo0 H) (RRx.pers _ _ _ _ _ _ A hx0) hg hl hZw (by omega)) rfl ?_; rintro _ h3 ⟨-, d0, kx1, hto1, hkx1, hkl1, hkn1⟩; have hlt_b3_1 := (Lt.blk E); have hev_1 := A; have d3 := A.step d0 (eA (.inl rfl)); obtain ⟨pa_1, pc_1, po_1, hC_1, hp_1⟩ := hto1; have hq_1 := eC (.inl rfl) hev_1 hp_1; have hA_b3_1 := fW I.symm hlt_b3_1 hp_1
   have hAJN_1 : Apart (some cb) po_1 := fun g h1 h2 => by cases h1; exact hC_1.ne cb h2 rfl
   refine aP (aO (eF rfl ?_)); exact ⟨rfl, d3, kx1, ⟨_, _, _, hC_1.evo0 (Evo.refl [] h3), hq_1⟩, hkx1, hkl1, hkn1⟩
  refine csr (wel ?_); refine wan (bA rfl (fun h4 => ?_) (fun h4 => ?_))
  ·have hkl : t.kids.length = 1 := by have := hn.grp (by omega); omega
   have hky := FN hkl; have he1 := OW hkl; have he7 := esz7 (t := t) (by omega); have hcp := hcap (by omega)
   have hj' : 0 < t.kids.length := by omega
   obtain ⟨b1, o1, vs1, ha1, hb1, hvl1, c3, hrk⟩ := e1 0 hj'; obtain ⟨m1, ra1, rc1, ka1, kc1, rfl, rfl, -⟩ := id hrk.get; refine csr (aB (wfl rfl mH rfl aX E rfl ?_)); refine aC (fQ rfl rfl (by omega) (by omega)) ?_; refine aC (cA (vs := [(0, _), (3, _)]) dF rfl (cells := [_, _, _, _, _]) rfl) ?_; refine aJ (vs := [_, _]) eM rfl (lC (rs := []) (hC.evo0 H) nJ (by omega)) rfl ?_; rintro _ c6 ⟨rfl, a6, hto1⟩; have hlt_b3_1 := (Lt.blk E); have hev_1 := A; have J := A.step a6 (eA (.inl rfl)); have W := a6.blk E (pB f0.symm I.symm); obtain ⟨pa_1, pc_1, po_1, hC_1, hp_1⟩ := hto1; have hq_1 := eC (.inl rfl) hev_1 hp_1; have hA_b3_1 := fW I.symm hlt_b3_1 hp_1
   have hAJN_1 : Apart (some cb) po_1 := fun g h1 h2 => by cases h1; exact hC_1.ne cb h2 rfl
   refine wnn (csr (aB (wfl rfl eO rfl gG W rfl ?_)))
   refine aC (eW (n := 0) (by rw [ha1]; rfl) rfl rfl dN (by omega)) ?_
   refine aC (cY rfl bV aU (vs := [_, _, _, _, _, _, _, _, _]) rfl (c3.evo J hb1)) ?_; have hZw : ∀ z, z ∈ Z → z < (c6).heap.size := fun z hz => Nat.lt_of_lt_of_le (hZ z hz) (J).size
   refine aJ (vs := [_, _]) iU rfl (ih (t := t.kids[0]) (hC_1.evo0 (Evo.refl [] c6)) (RRx.step hrk J (eA hq_1) hXlt) (hg.kid _ (List.getElem_mem hj')) (by simp only [List.length_append, List.length_cons, List.length_nil]; omega) hZw) rfl ?_
   rintro _ h5 ⟨-, a7, kx2, hto2, hkx2, hkl2, hkn2⟩; have hlt_b3_2 := (Lt.blk W); have hev_2 := J; have a8 := J.step a7 (eA hq_1); have a9 := a7.blk W (pB f0.symm hA_b3_1); obtain ⟨pa_2, pc_2, po_2, hC_2, hp_2⟩ := hto2; have hq_2 := eC hq_1 hev_2 hp_2
   have hAJN_2 : Apart (some cb) po_2 := fun g h1 h2 => by cases h1; exact hC_2.ne cb h2 rfl
   refine wnn (aF (aB (wfl rfl mH rfl aX a9 rfl ?_))); refine aC (fQ rfl rfl (by omega) (by omega)) ?_; refine aC (aK rfl rfl (by omega) (by omega)) ?_; refine aC (cA (vs := [(0, _), (3, _)]) dF rfl (cells := [_, _, _, _, _]) rfl) ?_
   refine aJ (vs := [_, _]) eM rfl (lC (rs := []) (hC_2.evo0 (Evo.refl [] h5)) nJ (by simp only [List.length_append, List.length_cons, List.length_nil]; omega)) rfl ?_
   rintro _ h6 ⟨rfl, d4, hto3⟩; have hlt_b3_3 := (Lt.blk a9); have hev_3 := a8; obtain ⟨pa_3, pc_3, po_3, hC_3, hp_3⟩ := hto3; have hq_3 := eC hq_2 hev_3 hp_3
   have hAJN_3 : Apart (some cb) po_3 := fun g h1 h2 => by cases h1; exact hC_3.ne cb h2 rfl
   refine aP (aO (eF rfl ?_)); refine ⟨rfl, (a8.step d4 (eA hq_2)), [(⟨4, (es.length : Nat) + 1, 0, 2 * t.cap, []⟩, .slice none 0 0)] ++ (kx2 ++ [(⟨4, ((es.length + 1 + kx2.length : Nat) : Int) + 1, 0, 2 * t.cap + 1, []⟩, .slice none 0 0)]), ⟨_, _, _, (hC_3.evo0 (Evo.refl [] h6)).cast ?_, hq_3⟩, ?_, ?_, ?_⟩
   · simp [List.append_assoc] <;> omega
   · have h := ZH (a := es.length) (k := kx2.map (·.1)) (by omega) hky (by have h := hkx2; rwa [List.length_append] at h)
     rw [List.length_map] at h
     rw [List.map_append, List.map_append]; exact h
   · simp only [List.length_append, List.length_cons, List.length_nil]; omega
   · exact gZ (gI ⟨by simp, by show (0 : Int) ≤ (es.length : Nat) + 1; omega, Int.le_refl _, Nat.zero_le _⟩) (gZ hkn2 (gI ⟨by simp, by show (0 : Int) ≤ ((es.length + 1 + kx2.length : Nat) : Int) + 1; omega, Int.le_refl _, Nat.zero_le _⟩))
  refine csr (wel ?_); refine wan (bA rfl (fun h7 => ?_) (fun h7 => ?_))
  ·refine aF (aB (aC (cA (vs := [(0, _)]) dF rfl (cells := [_, _, _, _, _]) rfl) ?_)); refine aJ (vs := [_, _]) eM rfl (lC (rs := []) (hC.evo0 H) nJ (by omega)) rfl ?_; rintro _ h8 ⟨rfl, d5, hto1⟩; have hlt_b3_1 := (Lt.blk E); have hev_1 := A; have d6 := A.step d5 (eA (.inl rfl)); obtain ⟨pa_1, pc_1, po_1, hC_1, hp_1⟩ := hto1; have hq_1 := eC (.inl rfl) hev_1 hp_1; have hA_b3_1 := fW I.symm hlt_b3_1 hp_1
   have hAJN_1 : Apart (some cb) po_1 := fun g h1 h2 => by cases h1; exact hC_1.ne cb h2 rfl
   refine aP (aO (eF rfl ?_))
   refine ⟨rfl, d6, [(⟨5, (es.length : Nat) + 1, 0, 0, []⟩, .slice none 0 0)], ⟨_, _, _, hC_1.evo0 (Evo.refl [] h8), hq_1⟩, ?_, by have := CZ (t := t) (by omega); show 1 ≤ t.esz; omega, gI ⟨by simp, by show (0 : Int) ≤ (es.length : Nat) + 1; omega, Int.le_refl _, Nat.zero_le _⟩⟩
   have h := mU (x := t) (a := es.length) (by omega)
   have e : lU t.kind es.length = ⟨5, (es.length : Int) + 1, 0, 0, []⟩ := by rw [show t.kind = 8 from by omega]; rfl
   rw [e] at h; exact h
  refine csr (wel ?_); refine wan (bA rfl (fun h9 => ?_) (fun h9 => ?_))
  ·refine aF (aB (aC (cA (vs := [(0, _)]) dF rfl (cells := [_, _, _, _, _]) rfl) ?_)); refine aJ (vs := [_, _]) eM rfl (lC (rs := []) (hC.evo0 H) nJ (by omega)) rfl ?_; rintro _ i1 ⟨rfl, d7, hto1⟩; have hlt_b3_1 := (Lt.blk E); have hev_1 := A; have d8 := A.step d7 (eA (.inl rfl)); obtain ⟨pa_1, pc_1, po_1, hC_1, hp_1⟩ := hto1; have hq_1 := eC (.inl rfl) hev_1 hp_1; have hA_b3_1 := fW I.symm hlt_b3_1 hp_1
   have hAJN_1 : Apart (some cb) po_1 := fun g h1 h2 => by cases h1; exact hC_1.ne cb h2 rfl
   refine aP (aO (eF rfl ?_))
   refine ⟨rfl, d8, [(⟨6, (es.length : Nat) + 1, 0, 0, []⟩, .slice none 0 0)], ⟨_, _, _, hC_1.evo0 (Evo.refl [] i1), hq_1⟩, ?_, by have := CZ (t := t) (by omega); show 1 ≤ t.esz; omega, gI ⟨by simp, by show (0 : Int) ≤ (es.length : Nat) + 1; omega, Int.le_refl _, Nat.zero_le _⟩⟩
   have h := mU (x := t) (a := es.length) (by omega)
   have e : lU t.kind es.length = ⟨6, (es.length : Int) + 1, 0, 0, []⟩ := by rw [show t.kind = 9 from by omega]; rfl
   rw [e] at h; exact h
  refine csr (wel ?_); refine wan (bA rfl (fun i2 => ?_) (fun i2 => ?_))
  ·refine aF (aB (aC (cA (vs := [(0, _)]) dF rfl (cells := [_, _, _, _, _]) rfl) ?_)); refine aJ (vs := [_, _]) eM rfl (lC (rs := []) (hC.evo0 H) nJ (by omega)) rfl ?_; rintro _ i3 ⟨rfl, d9, hto1⟩; have hlt_b3_1 := (Lt.blk E); have hev_1 := A; have e0 := A.step d9 (eA (.inl rfl)); obtain ⟨pa_1, pc_1, po_1, hC_1, hp_1⟩ := hto1; have hq_1 := eC (.inl rfl) hev_1 hp_1; have hA_b3_1 := fW I.symm hlt_b3_1 hp_1
   have hAJN_1 : Apart (some cb) po_1 := fun g h1 h2 => by cases h1; exact hC_1.ne cb h2 rfl
   refine aP (aO (eF rfl ?_))
   refine ⟨rfl, e0, [(⟨7, (es.length : Nat) + 1, 0, 0, []⟩, .slice none 0 0)], ⟨_, _, _, hC_1.evo0 (Evo.refl [] i3), hq_1⟩, ?_, by have := CZ (t := t) (by omega); show 1 ≤ t.esz; omega, gI ⟨by simp, by show (0 : Int) ≤ (es.length : Nat) + 1; omega, Int.le_refl _, Nat.zero_le _⟩⟩
   have h := mU (x := t) (a := es.length) (by omega)
   have e : lU t.kind es.length = ⟨7, (es.length : Int) + 1, 0, 0, []⟩ := by rw [show t.kind = 10 from by omega]; rfl
   rw [e] at h; exact h
  refine csr (wel ?_); refine wan (bA rfl (fun i4 => ?_) (fun i4 => ?_))
  ·refine aF (aB (aC (cA (vs := [(0, _)]) dF rfl (cells := [_, _, _, _, _]) rfl) ?_)); refine aJ (vs := [_, _]) eM rfl (lC (rs := []) (hC.evo0 H) nJ (by omega)) rfl ?_; rintro _ i5 ⟨rfl, e2, hto1⟩; have hlt_b3_1 := (Lt.blk E); have hev_1 := A; have e3 := A.step e2 (eA (.inl rfl)); obtain ⟨pa_1, pc_1, po_1, hC_1, hp_1⟩ := hto1; have hq_1 := eC (.inl rfl) hev_1 hp_1; have hA_b3_1 := fW I.symm hlt_b3_1 hp_1
   have hAJN_1 : Apart (some cb) po_1 := fun g h1 h2 => by cases h1; exact hC_1.ne cb h2 rfl
   refine aP (aO (eF rfl ?_))
   refine ⟨rfl, e3, [(⟨8, (es.length : Nat) + 1, 0, 0, []⟩, .slice none 0 0)], ⟨_, _, _, hC_1.evo0 (Evo.refl [] i5), hq_1⟩, ?_, by have := CZ (t := t) (by omega); show 1 ≤ t.esz; omega, gI ⟨by simp, by show (0 : Int) ≤ (es.length : Nat) + 1; omega, Int.le_refl _, Nat.zero_le _⟩⟩
   have h := mU (x := t) (a := es.length) (by omega)
   have e : lU t.kind es.length = ⟨8, (es.length : Int) + 1, 0, 0, []⟩ := by rw [show t.kind = 11 from by omega]; rfl
   rw [e] at h; exact h
  refine csr (wel ?_); refine wan (bA rfl (fun e4 => ?_) (fun e4 => ?_))
  ·refine aF (aB (aC (cA (vs := [(0, _)]) dF rfl (cells := [_, _, _, _, _]) rfl) ?_)); refine aJ (vs := [_, _]) eM rfl (lC (rs := []) (hC.evo0 H) nJ (by omega)) rfl ?_; rintro _ i6 ⟨rfl, e5, hto1⟩; have hlt_b3_1 := (Lt.blk E); have hev_1 := A; have e6 := A.step e5 (eA (.inl rfl)); obtain ⟨pa_1, pc_1, po_1, hC_1, hp_1⟩ := hto1; have hq_1 := eC (.inl rfl) hev_1 hp_1; have hA_b3_1 := fW I.symm hlt_b3_1 hp_1
   have hAJN_1 : Apart (some cb) po_1 := fun g h1 h2 => by cases h1; exact hC_1.ne cb h2 rfl
   refine aP (aO (eF rfl ?_))
   refine ⟨rfl, e6, [(⟨9, (es.length : Nat) + 1, 0, 0, []⟩, .slice none 0 0)], ⟨_, _, _, hC_1.evo0 (Evo.refl [] i6), hq_1⟩, ?_, by have := CZ (t := t) (by omega); show 1 ≤ t.esz; omega, gI ⟨by simp, by show (0 : Int) ≤ (es.length : Nat) + 1; omega, Int.le_refl _, Nat.zero_le _⟩⟩
   have h := mU (x := t) (a := es.length) (by omega)
   have e : lU t.kind es.length = ⟨9, (es.length : Int) + 1, 0, 0, []⟩ := by rw [show t.kind = 12 from by omega]; rfl
   rw [e] at h; exact h
  refine csr (wel ?_); refine wan (bA rfl (fun e7 => ?_) (fun e7 => ?_))
  ·refine aF (aB (aC (cA (vs := [(0, _), (3, _)]) dF rfl (cells := [_, _, _, _, _]) rfl) ?_)); refine aJ (vs := [_, _]) eM rfl (lC (rs := []) (hC.evo0 H) nJ (by omega)) rfl ?_; rintro _ i7 ⟨rfl, e8, hto1⟩; have hlt_b3_1 := (Lt.blk E); have hev_1 := A; have e9 := A.step e8 (eA (.inl rfl)); obtain ⟨pa_1, pc_1, po_1, hC_1, hp_1⟩ := hto1; have hq_1 := eC (.inl rfl) hev_1 hp_1; have hA_b3_1 := fW I.symm hlt_b3_1 hp_1
   have hAJN_1 : Apart (some cb) po_1 := fun g h1 h2 => by cases h1; exact hC_1.ne cb h2 rfl
   refine aP (aO (eF rfl ?_))
   refine ⟨rfl, e9, [(⟨9, (es.length : Nat) + 1, 0, 1, []⟩, .slice none 0 0)], ⟨_, _, _, hC_1.evo0 (Evo.refl [] i7), hq_1⟩, ?_, by have := CZ (t := t) (by omega); show 1 ≤ t.esz; omega, gI ⟨by simp, by show (0 : Int) ≤ (es.length : Nat) + 1; omega, Int.le_refl _, Nat.zero_le _⟩⟩
   have h := mU (x := t) (a := es.length) (by omega)
   have e : lU t.kind es.length = ⟨9, (es.length : Int) + 1, 0, 1, []⟩ := by rw [show t.kind = 13 from by omega]; rfl
   rw [e] at h; exact h
  refine aL (aO (eF rfl ?_))
  have h1 := hn.kind1; have h2 := hn.kind2
  exact ⟨rfl, A, [], ⟨a, c, ob, (by rw [List.append_nil]; exact hC.evo0 H), .inl rfl⟩, PK (by omega), Nat.zero_le _, fun _ h => by cases h⟩
theorem WK : ∀ {n : Nat} {w : World} {cb : Nat} {es : List Iv} {a : Option Addr} {c : Nat} {ob : Option Nat} {Z : List Nat} {vs : List Value} {t : Rx} (hC : CdAt w cb es a c ob Z) (hx : RRx n (cb :: ob.toList) w vs t) (hg : Good t) (hl : es.length + t.esz ≤ 100000) (hZ : ∀ z, z ∈ Z → z < w.heap.size), Calls Tryz.prog 55 #[.pointer (some ⟨cb, 0, none⟩), .agg vs.toArray] w (Ret fun v w' => v = .tuple #[] ∧ Evo (cb :: ob.toList) w w' ∧ ∃ new, RA w w' cb ob (es ++ new) Z ∧ gR t es.length (new.map (·.1)) ∧ new.length ≤ t.esz ∧ ∀ e, e ∈ new → nX e.1)
  | 0, w, cb, es, a, c, ob, Z, vs, t, hC, hx, hg, hl, hZ => hx.elim
  | n + 1, w, cb, es, a, c, ob, Z, vs, t, hC, hx, hg, hl, hZ => ZK (n := n) (fun hC hx hg hl hZ => WK hC hx hg hl hZ) hC hx hg hl hZ
def RIn : Rel In := fun X w vs c => ∃ vr, vs = [iv c.op, iv c.out, iv c.alt, iv c.arg, vr] ∧ RSl 2 RRg X w vr c.rs ∧ c.rs.length ≤ 1048576
theorem RIn.pers : RIn.Pers := fun _ _ _ _ _ he ⟨v, h1, h2, h3⟩ => ⟨v, h1, RSl.evo RRg.pers he h2, h3⟩
theorem RIn.fresh : RIn.Fresh := fun _ _ _ _ _ hy ⟨v, h1, h2, h3⟩ => ⟨v, h1, RSl.fresh (by decide) RRg.fresh hy h2, h3⟩
theorem YU (es : List Iv) : (es.map Iv.cells).flatten = qI es := by unfold qI; rw [List.flatMap_def]
theorem prog_of {X : List Nat} {w : World} {es : List Iv} {a : Option Addr} {n c : Nat} {ob : Option Nat} (h1 : OwnS w 123 5 a n c (qI es) ob) (hx : ∀ g, ob = some g → g ∉ X) (hr : ∀ e, e ∈ es → RSl 2 RRg X w e.2 e.1.rs) (hn : ∀ e, e ∈ es → e.1.rs.length ≤ 1048576) : RSl 5 RIn X w (.slice a n c) (es.map (·.1)) := by
  have hl := h1.length
  rw [OL] at hl
  rw [← YU] at h1
  refine RSl.ofOwn (rows := es.map Iv.cells) h1 ⟨by simp, fun k hk hk' => ?_⟩ (by rw [List.length_map]; omega) hx
  have hk2 : k < es.length := by simpa using hk
  simp only [List.getElem_map]
  exact ⟨rfl, _, rfl, hr _ (List.getElem_mem hk2), hn _ (List.getElem_mem hk2)⟩
theorem XW {t : Rx} {new : List Iv} (hg : Good t) (hc : gR t ([] : List Iv).length (new.map (·.1))) (hn : ∀ e, e ∈ new → nX e.1) {v : Value} : ProgOk t ((new ++ [((⟨1, 0, 0, 0, []⟩ : In), v)]).map (·.1)) new.length := by
  have e : (new ++ [((⟨1, 0, 0, 0, []⟩ : In), v)]).map (·.1) = new.map (·.1) ++ [⟨1, 0, 0, 0, []⟩] := by simp
  rw [e]
  refine ⟨by simp, by simp, fun p c hp hl => ?_, ?_, hg⟩
  · rw [List.getElem?_append_left (by simpa using hp)] at hl
    obtain ⟨x, hx, rfl⟩ := List.mem_map.1 (List.mem_of_getElem? hl)
    exact hn x hx
  · have := hc (new.map (·.1) ++ [⟨1, 0, 0, 0, []⟩]) (fun i hi => by rw [List.length_nil, Nat.zero_add, List.getElem?_append_left hi, List.getElem?_eq_getElem hi])
    rwa [List.length_nil, Nat.zero_add, List.length_map] at this
theorem CdAt.new {w : World} {cb : Nat} {Z : List Nat} (h : w.heap[cb]? = some (.cells #[.slice none 0 0] 120 (0, 0))) : CdAt w cb [] none 0 none Z := ⟨h, OwnS.nil _ _ _, fun g hg => (by cases hg), fun e he => (by cases he)⟩
theorem SizeIs.zero {t : Rx} {r : Int} (h : SizeIs t r) (h0 : r = 0) : ¬ t.Ok := fun hk => by have := h.1 hk; omega
theorem SizeIs.big {t : Rx} {r : Int} (h : SizeIs t r) (hk : t.Ok) (h0 : 10000 < r) : 10000 < t.esz + 1 := by have := h.1 hk; omega
theorem SizeIs.fits {t : Rx} {r : Int} (h : SizeIs t r) (hk : t.Ok) (h0 : ¬ 10000 < r) : t.esz + 1 ≤ 10000 := by have := h.1 hk; omega
theorem size_lim {t : Rx} (h : t.esz + 1 ≤ 10000) : ([] : List Iv).length + t.esz ≤ 100000 := by rw [List.length_nil]; omega
theorem size_lt {t : Rx} (h : t.esz + 1 ≤ 10000) : t.esz ≤ 9999 := by omega
def Shp (ps : List Value) : Prop := ∃ a n c g nm, ps = [.slice a n c, iv 0, g, nm] ∧ g.oneCell' = true ∧ nm.oneCell' = true
end Go.Proofs.YtidpigbinpaaeaaGreat
namespace Go.W
open Go.RowKit
section
variable {P : Program} {N : NN} {R : gX} {σ : Env} {w w' : World} {ops : Array Oper} {rest : List Oper} {n d : Nat} {op : Op} {T : TypeId} {pos : String} {after : Array Edge}
end
abbrev pan (v : Value) : List PanicEntry := [{ v := v, recovered := false }]
def RetP (Φ : Value → World → Prop) (Ψ : Value → World → Prop) : Ending → World → Prop
  | .returned v, w => Φ v w
  | .panicked c, w => ∃ v, c = pan v ∧ Ψ v w
  | .outgrown, _ => False
theorem RetP.of {Φ Ψ : Value → World → Prop} {e : Ending} {w : World} (h : Ret Φ e w) : RetP Φ Ψ e w := by obtain ⟨v, rfl, h⟩ := h; exact h
section
variable {P : Program} {N : NN} {R : gX} {σ : Env} {w : World} {ops : Array Oper} {rest : List Oper} {T : TypeId} {pos : String} {after : Array Edge} {d : Nat}
theorem args_eq {σ : Env} {a : Act} {xs : Array Operand} {vs : List Value} (hag : MI σ a.eval) (hxs : xs.toList.map σ.ev = vs.map some) : xs.map a.eval = vs.toArray := by
  apply Array.ext'
  rw [Array.toList_map]
  generalize xs.toList = l at *
  clear xs
  revert vs
  induction l with
  | nil => intro vs hxs; cases vs with | nil => rfl | cons _ _ => simp at hxs
  | cons x l ih =>
    intro vs hxs
    cases vs with
    | nil => simp at hxs
    | cons v vs =>
      simp only [List.map_cons, List.cons.injEq] at hxs
      simp only [List.map_cons, hag x v hxs.1]
      exact congrArg _ (ih hxs.2)
theorem wl_callP {dst : Option Nat} {f : FuncId} {xs : Array Operand} {ats : Array TypeId} {vs : List Value} {Φ Ψ : Value → World → Prop} (hgo : cX P f) (hxs : xs.toList.map σ.ev = vs.map some)
    (hc : Calls P f vs.toArray w (RetP Φ Ψ)) (hd : ∀ k, dst = some k → Nat.blt k N.1 = true) (hp : ∀ v w', Ψ v w' → R (.panic (pan v)) N σ w')
    (h : ∀ v w', Φ v w' → WL P N ops R rest (match dst with | some k => (k, v) :: σ | none => σ) w') :
    WL P N ops R (⟨dst, .call ⟨.value (.func f), xs, ats⟩, T, pos, after, none⟩ :: rest) σ w := fun a ha => wpList_plain rfl fun K hK => by
  have hargs := args_eq ha.agrees hxs
  obtain ⟨fn, hf, hn, hbd⟩ := hgo
  unfold Oper.wp
  have hrun : (execOp a.eval ⟨dst, .call ⟨.value (.func f), xs, ats⟩, T, pos, after, none⟩).run P w = .ok (.enter f vs.toArray) w := by
    have hn' : ¬ fn.name = "runtime.NumGoroutine" := by simpa using hn
    have hb' : ¬ fn.body = none := by intro hh; simp [hh] at hbd
    simp only [execOp, resolve, hargs]
    simp [Act.eval, Deferred.ofValue, invoke, callFunc, hf, hn', hb']
  rw [hrun]
  show Calls P f vs.toArray w _
  refine hc.mono ?_
  intro e w' he
  cases e with
  | returned v =>
    cases dst with
    | none => exact hK _ _ (h v w' he a ha)
    | some k => exact hK _ _ (h v w' he _ (ha.put (of_decide_eq_true (by simpa using hd k rfl)) v))
  | panicked c => obtain ⟨v, rfl, hΨ⟩ := he; exact ⟨N, σ, ha, hp v w' hΨ⟩
  | outgrown => exact he.elim
theorem cE {f : FuncId} {xs : Array Operand} {ats : Array TypeId} {vs : List Value} {Φ Ψ : Value → World → Prop} (hgo : cX P f) (hxs : xs.toList.map σ.ev = vs.map some)
    (hc : Calls P f vs.toArray w (RetP Φ Ψ)) (hd : Nat.blt d N.1 = true) (hp : ∀ v w', Ψ v w' → R (.panic (pan v)) N σ w') (h : ∀ v w', Φ v w' → WL P N ops R rest ((d, v) :: σ) w') :
    WL P N ops R (⟨some d, .call ⟨.value (.func f), xs, ats⟩, T, pos, after, none⟩ :: rest) σ w := wl_callP hgo hxs hc (fun k hk => by cases hk; exact hd) hp h
theorem ZV {dst : Option Nat} {x : Operand} {t : TypeId} {v : Value} (hx : σ.ev x = some (.iface t v)) (h : R (.panic (pan (.iface t v))) N σ w) : WL P N ops R (⟨dst, .panic x, T, pos, after, none⟩ :: rest) σ w :=
  fun a ha => wpList_plain rfl fun K hK => by
    unfold Oper.wp
    have hrun : (execOp a.eval ⟨dst, .panic x, T, pos, after, none⟩).run P w = .halt (.panic (.iface t v)) w := by
      simp only [execOp, ha.agrees x _ hx]
      rfl
    rw [hrun]
    exact ⟨N, σ, ha, h⟩
theorem ex_iface {dst : Option Nat} {g : Option (Nat × Bool)} {x : Operand} {t : TypeId} {v : Value} (hx : σ.ev x = some v) (ht : ∀ w, (Instr.makeInterface t v).run P w = .ok (.iface t v) w) : Ex P σ ⟨dst, .makeInterface t x, T, pos, after, g⟩ w (.iface t v) w := fun ρ h => by
  simp [execOp, h x _ hx, ht]
abbrev dfr (f : FuncId) (cap : Array Value) : Deferred := { target := .fn (.func f) cap, args := #[] }
theorem ZX {x : Operand} {ats : Array TypeId} {f : FuncId} {cap : Array Value} (hx : σ.ev x = some (.func (.func f) #[] cap)) (h : WL P (N.1, dfr f cap :: N.2) ops R rest σ w) :
    WL P N ops R (⟨none, .defer ⟨.value x, #[], ats⟩, T, pos, after, none⟩ :: rest) σ w := fun a ha => wpList_plain rfl fun K hK => by
  unfold Oper.wp
  have hrun : (execOp a.eval ⟨none, .defer ⟨.value x, #[], ats⟩, T, pos, after, none⟩).run P w = .ok (.defer (dfr f cap)) w := by
    simp only [execOp, resolve, ha.agrees x _ hx]
    simp [Deferred.ofValue]
  rw [hrun]
  exact hK _ _ (h _ ⟨ha.1, by show dfr f cap :: a.defers = _; rw [ha.2.1], ha.2.2⟩)
end
section
variable {P : Program} {σ : Env} {w : World}
theorem cH {fn : Func} {Φ Ψ : Value → World → Prop} {N : NN} (h : pH P fn (Ret Φ) .ret N σ w) : pH P fn (RetP Φ Ψ) .ret N σ w :=
  ⟨h.1, fun a ha => by obtain ⟨v, h1, h2⟩ := h.2 a ha; exact ⟨v, h1, RetP.of h2⟩⟩
theorem body_pan {n : Nat} {fn : Func} {Φ Ψ : Value → World → Prop} {v : Value} (h : Ψ v w) : pH P fn (RetP Φ Ψ) (.panic (pan v)) (n, []) σ w := ⟨rfl, v, rfl, h⟩
def bodyRD (P : Program) (fn : Func) (E : Ending → World → Prop) : gX
  | .normal, N, σ, w => ∀ a, Fits N σ a → Leaves P fn a.tmps E N.2 .returning w
  | .ret, N, σ, w => ∀ a, Fits N σ a → Leaves P fn a.tmps E N.2 .returning w
  | .panic chain, N, σ, w => ∀ a, Fits N σ a → Leaves P fn a.tmps E N.2 (.panicking chain) w
  | .outgrown, _, _, w => E .outgrown w
  | .exit _, _, _, _ => False
  | .goto _, _, _, _ => False
theorem JU {f : FuncId} {fn : Func} {c : Code} {args : List Value} {E : Ending → World → Prop} {N : Nat}
    (hf : P.funcs[f]? = some fn) (hb : fn.body = some c) (hN : fn.ntmps = N) (hle' : Nat.ble args.length N = true)
    (h : CW P (N, []) c (bodyRD P fn E) (oV 0 args) w) : Calls P f args.toArray w E := by
  have hle : args.length ≤ N := Nat.le_of_ble_eq_true hle'; refine calls_of_wp_defers hf hb (wp_mono (h _ ⟨?_, rfl, ?_⟩) ?_)
  · simp [hN]; omega
  · intro t v hv
    obtain ⟨_, h2⟩ := rQ args 0 t v hv; simp only [Nat.sub_zero] at h2; have hlt : t < args.length := (List.getElem?_eq_some_iff.1 h2).1
    have h3 : args[t] = v := by rw [List.getElem?_eq_getElem hlt] at h2; exact Option.some.inj h2
    simp [Array.getElem?_append, hlt, h3]
  · intro e a' w' hq
    cases e with
    | normal => obtain ⟨N', σ', hf', hk⟩ := hq; show Leaves _ _ _ _ _ _ _; rw [hf'.2.1]; exact hk a' hf'
    | ret => obtain ⟨N', σ', hf', hk⟩ := hq; show Leaves _ _ _ _ _ _ _; rw [hf'.2.1]; exact hk a' hf'
    | panic ch => obtain ⟨N', σ', hf', hk⟩ := hq; show Leaves _ _ _ _ _ _ _; rw [hf'.2.1]; exact hk a' hf'
    | outgrown => obtain ⟨_, hk⟩ := hq; exact hk
    | exit i => obtain ⟨_, _, _, hk⟩ := hq; exact hk
    | goto l => obtain ⟨_, _, _, hk⟩ := hq; exact hk
theorem TA {fn : Func} {tmps : Array Value} {E : Ending → World → Prop} {f : FuncId} {g : Func} {cap : Array Value} {u : FrameMode} (hg : P.funcs[f]? = some g) (hn : (g.name == "runtime.NumGoroutine") = false) (hb : g.body.isNone = false) (hu : u ≠ .run)
    (h : CallsD P f cap u w fun e u' w' => match e with
      | .returned _ => Leaves P fn tmps E [] (settle u') w'
      | .panicked chain => Leaves P fn tmps E [] (raised u' chain) w'
      | .outgrown => E .outgrown w') : Leaves P fn tmps E [dfr f cap] u w := by
  refine leaves_cons hu ?_ (h.mono ?_)
  · have hn' : ¬ g.name = "runtime.NumGoroutine" := by simpa using hn
    have hb' : ¬ g.body = none := by intro hh; simp [hh] at hb
    simp [invoke, callFunc, hg, hn', hb']
  · intro e u' w' he
    cases e <;> exact he
end
section
variable {P : Program} {σ : Env} {w : World} {dst : Option Nat} {T : TypeId} {pos : String} {after : Array Edge} {g : Option (Nat × Bool)}
theorem eI {x i : Operand} {t : TypeId} {k : IntKind} {z : Int} {n sz b o len c : Nat} {a : Option Addr} (hx : σ.ev x = some (.slice a len c)) (hi : σ.ev i = some (.int k z)) (ha : a = some ⟨b, o, none⟩) (hz : z = n) (he : mA P t = some sz) (hlt : n < len) :
    Ex P σ ⟨dst, .indexAddr t x i, T, pos, after, g⟩ w (.pointer (some ⟨b, o + n * sz, none⟩)) w := by subst ha; exact eW hx hi hz he hlt
theorem qX {t : TypeId} {m : Nat} (hs : eQ P t = some m) (w : World) : (sizeOf t).run P w = .ok m w := by
  simp only [eQ] at hs
  cases hi : P.info? t with
  | none => rw [hi] at hs; cases hs
  | some i => rw [hi] at hs; simp at hs; subst hs; simp [sizeOf, typeInfo, hi, go_sem]
theorem XP {t : TypeId} {cs : Array Value} {off m : Nat} (w : World) (ht : iN P t = some true) (hs : eQ P t = some m) : (part t cs off).run P w = .ok (.agg (cs.extract off (off + m))) w := by
  simp [part, oM ht, qX hs]
theorem WF {x i : Operand} {t e : TypeId} {k : IntKind} {z : Int} {n len sz : Nat} {cs : Array Value} {v : Value} (hx : σ.ev x = some (.agg cs)) (hi : σ.ev i = some (.int k z)) (ht : P.underlying t = some (.array len e)) (hz : z = (n : Int)) (hn : n < len) (hs : eQ P e = some sz)
    (hp : ∀ w, (part e cs (n * sz)).run P w = .ok v w) : Ex P σ ⟨dst, .index t x i, T, pos, after, g⟩ w v w := fun ρ h => by
  subst hz
  have hc : 0 ≤ (n : Int) ∧ (n : Int) < len := ⟨by omega, by omega⟩
  have hp' := hp w
  simp [qX hs, go_sem] at hp'
  simp [execOp, h x _ hx, h i _ hi, Instr.index, run_underlying ht, asIntOf, hc, hn, qX hs, go_sem]
  rw [hp']; rfl
theorem mT {x i : Operand} {t e : TypeId} {k : IntKind} {z : Int} {n len sz b o : Nat} (hx : σ.ev x = some (.pointer (some ⟨b, o, none⟩))) (hi : σ.ev i = some (.int k z)) (ht : P.underlying t = some (.array len e)) (hz : z = (n : Int)) (hn : n < len) (hs : eQ P e = some sz) :
    Ex P σ ⟨dst, .indexAddr t x i, T, pos, after, g⟩ w (.pointer (some ⟨b, o + n * sz, none⟩)) w := fun ρ h => by
  subst hz
  have hc : 0 ≤ (n : Int) ∧ (n : Int) < len := ⟨by omega, by omega⟩
  simp [execOp, h x _ hx, h i _ hi, Instr.indexAt, run_underlying ht, Instr.sureAddr, asIntOf, hc, hn, qX hs, Addr.add, go_sem]
theorem uU {t e : TypeId} {len sz : Nat} {parts : Array (Nat × Operand)} {vs : List (Nat × Value)} {zero cells : Array Value} (ht : P.underlying t = some (.array len e)) (hz : kF P t = some zero) (hs : eQ P e = some sz)
    (hp : parts.toList.map (fun p => (p.1, σ.ev p.2)) = vs.map (fun q => (q.1, some q.2))) (hf : Instr.fill (fun i => some (i * sz, sz)) zero vs = some cells) : Ex P σ ⟨dst, .build t parts, T, pos, after, g⟩ w (.agg cells) w := fun ρ ha => by
  obtain ⟨z, hz1, hz2⟩ := Option.map_eq_some_iff.1 hz
  obtain ⟨i, hi, hz'⟩ := Option.bind_eq_some_iff.1 hz1
  have hparts : (parts.map fun p => (p.1, ρ p.2)).toList = vs := by
    rw [Array.toList_map]
    clear hf
    revert hp
    generalize parts.toList = l
    intro hp
    induction l generalizing vs with
    | nil => cases vs with | nil => rfl | cons _ _ => simp at hp
    | cons p l ih =>
      cases vs with
      | nil => simp at hp
      | cons q vs =>
        simp only [List.map_cons, List.cons.injEq, Prod.mk.injEq] at hp
        obtain ⟨⟨h1, h2⟩, h3⟩ := hp
        rw [List.map_cons, ih h3, h1, ha _ _ h2]
  have hzero : (zeroValue t).run P w = .ok z w := by simp [zeroValue, typeInfo, hi, hz', go_sem]
  subst hz2
  rw [Array.toList_map] at hparts
  simp only [execOp, Instr.build, hzero, Sem.run_bind, Result.andThen_ok, run_underlying ht, qX hs, Array.toList_map, hparts, hf, Sem.run_pure]
theorem JI {x lo : Operand} {t : TypeId} {s r : ByteArray} {lv : Int} {l : Nat} (hx : σ.ev x = some (.string s)) (hlo : σ.ev lo = some (.int .i64 lv)) (ht : P.underlying t = some .string) (hl : lv = (l : Int)) (hlh : l ≤ s.size) (hr : s.extract l s.size = r) :
    Ex P σ ⟨dst, .slice t x (some lo) none none, T, pos, after, g⟩ w (.string r) w := by subst hr; exact jU hx hlo ht hl hlh
theorem tV {x lo hi : Operand} {t : TypeId} {s r : ByteArray} {lv hv : Int} {l h : Nat} (hx : σ.ev x = some (.string s)) (hlo : σ.ev lo = some (.int .i64 lv)) (hhi : σ.ev hi = some (.int .i64 hv)) (ht : P.underlying t = some .string) (hl : lv = (l : Int)) (hh : hv = (h : Int)) (hlh : l ≤ h) (hhc : h ≤ s.size) (hr : s.extract l h = r) :
    Ex P σ ⟨dst, .slice t x (some lo) (some hi) none, T, pos, after, g⟩ w (.string r) w := by subst hr; exact AP hx hlo hhi ht hl hh hlh hhc
theorem jD {x i : Operand} {t : TypeId} {k : IntKind} {s : ByteArray} {z : Int} {n m : Nat} (hx : σ.ev x = some (.string s)) (hi : σ.ev i = some (.int k z)) (ht : P.underlying t = some .string) (hz : z = (n : Int)) (hn : n < s.size) (hr : sb s n = m) :
    Ex P σ ⟨dst, .index t x i, T, pos, after, g⟩ w (.int .u8 (m : Nat)) w := by subst hr; exact eD hx hi ht hz hn
theorem JN {x y : Operand} {t t' : TypeId} {m n r : Int} (hx : σ.ev x = some (.int .i64 m)) (hy : σ.ev y = some (.int .i64 n)) (hr : m + n = r) (h1 : -9223372036854775808 ≤ r) (h2 : r ≤ 9223372036854775807) :
    Ex P σ ⟨dst, .binOp .add t x y t', T, pos, after, g⟩ w (.int .i64 r) w := by subst hr; exact aK hx hy h1 h2
end
section
variable {P : Program} {N : NN} {R : gX} {σ : Env} {w : World} {ops : Array Oper} {rest : List Oper} {T : TypeId} {pos : String} {after : Array Edge}
theorem qU {t U : TypeId} {x y : Operand} {b : Nat} {f1 f2 f3 f4 v0 v1 g1 g2 g3 g4 v6 v7 : Value} (hx : σ.ev x = some (.pointer (some ⟨b, 2, none⟩))) (hy : σ.ev y = some (.agg #[f1, f2, f3, f4])) (hs : eQ P t = some 4)
    (h1 : AllOne [f1, f2, f3, f4]) (hb : w.heap[b]? = some (.cells #[v0, v1, g1, g2, g3, g4, v6, v7] U (0, 0)))
    (h : ∀ w', w'.heap[b]? = some (.cells #[v0, v1, f1, f2, f3, f4, v6, v7] U (0, 0)) → Evo [b] w w' → WL P N ops R rest σ w') :
    WL P N ops R (⟨none, .store t x y, T, pos, after, none⟩ :: rest) σ w := by
  refine mM (v := .agg #[f1, f2, f3, f4]) hx hy hs rfl (fun u hu => h1.mem u hu) hb (by show 2 + 4 ≤ 8; omega) ?_
  intro w' hb' he
  exact h w' hb' he
end
end Go.W
namespace Go.W
section
variable {P : Program} {σ : Env} {w : World} {dst : Option Nat} {T : TypeId} {pos : String} {after : Array Edge} {g : Option (Nat × Bool)}
theorem ex_binC {op : BinOp} {xt yt : TypeId} {x y : Operand} {a b r : Value} (hx : σ.ev x = some a) (hy : σ.ev y = some b) (h : ∀ w, (do eqGuard op xt x y a b; binOp op xt a b : Sem Value).run P w = .ok r w) : Ex P σ ⟨dst, .binOp op xt x y yt, T, pos, after, g⟩ w r w := fun ρ ha => by
  have h1 := h w
  simp only [Sem.run_bind] at h1
  simp only [execOp, ha _ _ hx, ha _ _ hy, Sem.run_bind, h1, Result.andThen_ok, Sem.run_pure]
end
end Go.W
namespace Go.Proofs.YtidpigbinpaaeaaGreat
open Go.RowKit Go.W
attribute [local irreducible] Decidable.decide
theorem orb192 : ∀ x, x < 32 → 192 ||| x = 192 + x := by decide
theorem orb224 : ∀ x, x < 16 → 224 ||| x = 224 + x := by decide
theorem orb240 : ∀ x, x < 8 → 240 ||| x = 240 + x := by decide
theorem r2 {m : Nat} (h : m < 2048) : 192 ||| (m / 2 ^ 6 % 256) = 192 + m / 64 := by
  rw [show (2 : Nat) ^ 6 = 64 from rfl, Nat.mod_eq_of_lt (show m / 64 < 256 by omega), orb192 _ (by omega)]
theorem r3 {m : Nat} (h : m < 65536) : 224 ||| (m / 2 ^ 12 % 256) = 224 + m / 4096 := by
  rw [show (2 : Nat) ^ 12 = 4096 from rfl, Nat.mod_eq_of_lt (show m / 4096 < 256 by omega), orb224 _ (by omega)]
theorem r4 {m : Nat} (h : m ≤ 1114111) : 240 ||| (m / 2 ^ 18 % 256) = 240 + m / 262144 := by
  rw [show (2 : Nat) ^ 18 = 262144 from rfl, Nat.mod_eq_of_lt (show m / 262144 < 256 by omega), orb240 _ (by omega)]
section
variable {P : Program} {σ : Env} {w : World} {dst : Option Nat} {T : TypeId} {pos : String} {after : Array Edge} {g : Option (Nat × Bool)}
end
def hx (d : Nat) : Nat := if d < 10 then 48 + d else 87 + d
theorem FE : Build Tryz.prog 110 #[(0, 1)] #[.int .i64 0] := ⟨_, .agg #[.int .i64 0], Tryz.underlying110, by kernel_rfl, rfl, fun w => by kernel_rfl⟩
abbrev flt (e : Int) : Value := .iface 110 (.agg #[iv e])
theorem eG {w : World} (e : Int) : Calls Tryz.prog 53 #[iv e] w (RetP (fun _ _ => False) (fun v w' => v = flt e ∧ Evo [] w w')) := by
  refine aT (N := 5) Tryz.func53 rfl rfl rfl ?_; refine aF (aB (fH rfl (cA (vs := [(0, _)]) FE rfl (cells := [_]) rfl) ?_)); refine fH rfl (ex_iface rfl (fun w => by kernel_rfl)) ?_; refine ZV rfl ?_; exact body_pan ⟨rfl, (Evo.refl [] w)⟩
end Go.Proofs.YtidpigbinpaaeaaGreat
namespace Go.Proofs.YtidpigbinpaaeaaGreat
open Go.RowKit Go.W
def jC : Int → List (Int × Int) → Prop
  | _, [] => True
  | b, g :: l => b ≤ g.1 ∧ g.1 ≤ g.2 ∧ g.2 ≤ 1114111 ∧ jC (g.2 + 2) l
abbrev uZ (l : List (Int × Int)) : Prop := jC 0 l
theorem fF {c : Int} {g : Int × Int} {l : List (Int × Int)} : InR c (g :: l) ↔ (g.1 ≤ c ∧ c ≤ g.2) ∨ InR c l := by
  constructor
  · rintro ⟨x, hx, h⟩
    cases hx with
    | head => exact .inl h
    | tail _ hx => exact .inr ⟨x, hx, h⟩
  · rintro (h | ⟨x, hx, h⟩)
    · exact ⟨g, List.mem_cons_self .., h⟩
    · exact ⟨x, List.mem_cons_of_mem _ hx, h⟩
theorem kR (c : Int) : ¬ InR c [] := by rintro ⟨g, h, -⟩; cases h
theorem oC {c : Int} {l m : List (Int × Int)} : InR c (l ++ m) ↔ InR c l ∨ InR c m := by
  constructor
  · rintro ⟨x, hx, h⟩
    rcases List.mem_append.1 hx with hx | hx
    · exact .inl ⟨x, hx, h⟩
    · exact .inr ⟨x, hx, h⟩
  · rintro (⟨x, hx, h⟩ | ⟨x, hx, h⟩)
    · exact ⟨x, List.mem_append_left _ hx, h⟩
    · exact ⟨x, List.mem_append_right _ hx, h⟩
theorem lW {c : Int} {g : Int × Int} : InR c [g] ↔ g.1 ≤ c ∧ c ≤ g.2 := by
  rw [fF]
  exact ⟨fun h => h.elim id (fun h => (kR c h).elim), .inl⟩
theorem NY {c : Int} {l m : List (Int × Int)} (h : l.Perm m) : InR c l ↔ InR c m := by
  constructor
  · rintro ⟨x, hx, h2⟩; exact ⟨x, h.mem_iff.1 hx, h2⟩
  · rintro ⟨x, hx, h2⟩; exact ⟨x, h.mem_iff.2 hx, h2⟩
theorem nA : ∀ {l : List (Int × Int)} {b c : Int}, jC b l → InR c l → b ≤ c ∧ c ≤ 1114111
  | [], b, c, _, h => (kR c h).elim
  | g :: l, b, c, hc, h => by
    rw [jC] at hc
    rcases fF.1 h with h | h
    · omega
    · have := nA hc.2.2.2 h; omega
theorem JS : ∀ {l : List (Int × Int)} {a b : Int}, jC b l → a ≤ b → jC a l
  | [], a, b, _, _ => trivial
  | g :: l, a, b, h, hab => by
    rw [jC] at h ⊢
    exact ⟨by omega, h.2⟩
theorem HN : ∀ {l m : List (Int × Int)} {b : Int}, jC b l → jC b m → (∀ c, InR c l ↔ InR c m) → l = m
  | [], [], b, _, _, _ => rfl
  | [], h :: m, b, hl, hm, he => by
    rw [jC] at hm
    exact (kR h.1 ((he h.1).2 (fF.2 (.inl ⟨Int.le_refl _, hm.2.1⟩)))).elim
  | g :: l, [], b, hl, hm, he => by
    rw [jC] at hl
    exact (kR g.1 ((he g.1).1 (fF.2 (.inl ⟨Int.le_refl _, hl.2.1⟩)))).elim
  | g :: l, h :: m, b, hl, hm, he => by
    rw [jC] at hl hm
    have h1 := (he g.1).1 (fF.2 (.inl ⟨Int.le_refl _, hl.2.1⟩))
    have h2 := (he h.1).2 (fF.2 (.inl ⟨Int.le_refl _, hm.2.1⟩))
    have e1 : g.1 = h.1 := by
      rcases fF.1 h1 with h1 | h1 <;> rcases fF.1 h2 with h2 | h2
      · omega
      · have := nA hl.2.2.2 h2; omega
      · have := nA hm.2.2.2 h1; omega
      · have := nA hl.2.2.2 h2; have := nA hm.2.2.2 h1; omega
    have e2 : g.2 = h.2 := by
      rcases Int.lt_trichotomy g.2 h.2 with c | c | c
      · have h3 := (he (g.2 + 1)).2 (fF.2 (.inl (by omega)))
        rcases fF.1 h3 with h3 | h3
        · omega
        · have := nA hl.2.2.2 h3; omega
      · exact c
      · have h3 := (he (h.2 + 1)).1 (fF.2 (.inl (by omega)))
        rcases fF.1 h3 with h3 | h3
        · omega
        · have := nA hm.2.2.2 h3; omega
    have e : g = h := Prod.ext e1 e2
    subst e
    have : l = m := HN hl.2.2.2 hm.2.2.2 fun c => by
      constructor
      · intro hc
        have h3 := nA hl.2.2.2 hc
        rcases fF.1 ((he c).1 (fF.2 (.inr hc))) with h4 | h4
        · omega
        · exact h4
      · intro hc
        have h3 := nA hm.2.2.2 hc
        rcases fF.1 ((he c).2 (fF.2 (.inr hc))) with h4 | h4
        · omega
        · exact h4
    rw [this]
theorem yP : ∀ {l : List (Int × Int)} {b : Int} {x : Int × Int}, jC b l → b ≤ x.1 → x.1 ≤ x.2 → x.2 ≤ 1114111 → (∀ g, g ∈ l → g.2 + 1 < x.1) → jC b (l ++ [x])
  | [], b, x, _, h1, h2, h3, _ => by show jC b [x]; rw [jC]; exact ⟨h1, h2, h3, trivial⟩
  | g :: l, b, x, h, h1, h2, h3, h4 => by
    rw [jC] at h
    show jC b (g :: (l ++ [x]))
    rw [jC]
    have := h4 g (List.mem_cons_self ..)
    exact ⟨h.1, h.2.1, h.2.2.1, yP h.2.2.2 (by omega) h2 h3 (fun y hy => h4 y (List.mem_cons_of_mem _ hy))⟩
theorem yQ : ∀ {l : List (Int × Int)} {b : Int} {x : Int × Int}, jC b (l ++ [x]) → jC b l ∧ b ≤ x.1 ∧ x.1 ≤ x.2 ∧ x.2 ≤ 1114111 ∧ ∀ g, g ∈ l → g.2 + 1 < x.1
  | [], b, x, h => by
    have h' : jC b [x] := h
    rw [jC] at h'
    exact ⟨trivial, h'.1, h'.2.1, h'.2.2.1, fun g hg => by cases hg⟩
  | g :: l, b, x, h => by
    have h' : jC b (g :: (l ++ [x])) := h
    rw [jC] at h'
    obtain ⟨h1, h2, h3, h4, h5⟩ := yQ h'.2.2.2
    refine ⟨by rw [jC]; exact ⟨h'.1, h'.2.1, h'.2.2.1, h1⟩, by omega, h3, h4, fun y hy => ?_⟩
    cases hy with
    | head => omega
    | tail _ hy => exact h5 y hy
theorem PQ {out : List (Int × Int)} {g x : Int × Int} (h : uZ (out ++ [g])) (h1 : g.1 ≤ x.1) (h2 : x.1 ≤ x.2) (h3 : x.2 ≤ 1114111) :
    (x.1 ≤ g.2 + 1 → uZ (out ++ [(g.1, max g.2 x.2)]) ∧ ∀ c, InR c (out ++ [(g.1, max g.2 x.2)]) ↔ InR c (out ++ [g]) ∨ (x.1 ≤ c ∧ c ≤ x.2)) ∧
    (¬ x.1 ≤ g.2 + 1 → uZ (out ++ [g] ++ [x]) ∧ ∀ c, InR c (out ++ [g] ++ [x]) ↔ InR c (out ++ [g]) ∨ (x.1 ≤ c ∧ c ≤ x.2)) := by
  obtain ⟨i1, i2, i3, i4, i5⟩ := yQ h
  refine ⟨fun hx => ⟨yP i1 i2 (by show g.1 ≤ max g.2 x.2; omega) (by show max g.2 x.2 ≤ _; omega) i5, fun c => ?_⟩, fun hx => ⟨yP h (by omega) h2 h3 (fun y hy => ?_), fun c => ?_⟩⟩
  · rw [oC, oC, lW, lW]
    show _ ∨ (g.1 ≤ c ∧ c ≤ max g.2 x.2) ↔ _
    constructor
    · rintro (h | h)
      · exact .inl (.inl h)
      · by_cases hc : c ≤ g.2
        · exact .inl (.inr ⟨h.1, hc⟩)
        · exact .inr (by omega)
    · rintro ((h | h) | h)
      · exact .inl h
      · exact .inr (by omega)
      · exact .inr (by omega)
  · rcases List.mem_append.1 hy with hy | hy
    · have := i5 y hy; omega
    · rw [List.mem_singleton.1 hy]; omega
  · rw [oC, lW]
noncomputable def kI (S : Int → Prop) : List (Int × Int) := open Classical in if h : ∃ l, uZ l ∧ ∀ c, InR c l ↔ S c then Classical.choose h else []
theorem DK {S : Int → Prop} {l : List (Int × Int)} (h : uZ l) (h2 : ∀ c, InR c l ↔ S c) : kI S = l := by
  have hx : ∃ l, uZ l ∧ ∀ c, InR c l ↔ S c := ⟨l, h, h2⟩
  unfold kI
  rw [dif_pos hx]
  have h3 := Classical.choose_spec hx
  exact HN h3.1 h fun c => (h3.2 c).trans (h2 c).symm
theorem canR_one {a b : Int} (h0 : 0 ≤ a) (h1 : a ≤ b) (h2 : b ≤ 1114111) : uZ [(a, b)] := by
  show jC 0 [(a, b)]
  rw [jC]; exact ⟨h0, h1, h2, trivial⟩
def tS : Int → List (Int × Int) → List (Int × Int)
  | b, [] => if b ≤ 1114111 then [(b, 1114111)] else []
  | b, g :: l => (if b < g.1 then [(b, g.1 - 1)] else []) ++ tS (g.2 + 1) l
theorem JF : ∀ {l : List (Int × Int)} {b d : Int}, 0 ≤ b → d ≤ b → jC b l → jC d (tS b l) ∧ ∀ c, InR c (tS b l) ↔ b ≤ c ∧ c ≤ 1114111 ∧ ¬ InR c l
  | [], b, d, h0, hd, _ => by
    rw [tS]
    by_cases h : b ≤ 1114111
    · rw [if_pos h]
      refine ⟨by rw [jC]; exact ⟨hd, h, Int.le_refl _, trivial⟩, fun c => ?_⟩
      rw [lW]
      exact ⟨fun h => ⟨h.1, h.2, kR c⟩, fun h => ⟨h.1, h.2.1⟩⟩
    · rw [if_neg h]
      exact ⟨trivial, fun c => ⟨fun h => (kR c h).elim, fun h => by omega⟩⟩
  | g :: l, b, d, h0, hd, hc => by
    rw [jC] at hc
    rw [tS]
    by_cases h : b < g.1
    · rw [if_pos h]
      obtain ⟨i1, i2⟩ := JF (b := g.2 + 1) (d := g.1 + 1) (by omega) (by omega) (JS hc.2.2.2 (by omega))
      refine ⟨?_, fun c => ?_⟩
      · show jC d ((b, g.1 - 1) :: tS (g.2 + 1) l)
        rw [jC]; exact ⟨hd, by show b ≤ g.1 - 1; omega, by show g.1 - 1 ≤ _; omega, by show jC (g.1 - 1 + 2) _; rw [show g.1 - 1 + 2 = g.1 + 1 by omega]; exact i1⟩
      · rw [oC, lW, i2, fF]
        show (b ≤ c ∧ c ≤ g.1 - 1) ∨ _ ↔ _
        constructor
        · rintro (h3 | h3)
          · exact ⟨h3.1, by omega, fun h4 => by rcases h4 with h4 | h4; omega; (have := nA hc.2.2.2 h4; omega)⟩
          · exact ⟨by omega, h3.2.1, fun h4 => by rcases h4 with h4 | h4; omega; exact h3.2.2 h4⟩
        · rintro ⟨h3, h4, h5⟩
          by_cases h6 : c ≤ g.1 - 1
          · exact .inl ⟨h3, h6⟩
          · refine .inr ⟨?_, h4, fun h7 => h5 (.inr h7)⟩
            by_cases h8 : c ≤ g.2
            · exact (h5 (.inl ⟨by omega, h8⟩)).elim
            · omega
    · rw [if_neg h, List.nil_append]
      obtain ⟨i1, i2⟩ := JF (b := g.2 + 1) (d := d) (by omega) (by omega) (JS hc.2.2.2 (by omega))
      refine ⟨i1, fun c => ?_⟩
      rw [i2, fF]
      constructor
      · rintro ⟨h3, h4, h5⟩
        exact ⟨by omega, h4, fun h6 => by rcases h6 with h6 | h6; omega; exact h5 h6⟩
      · rintro ⟨h3, h4, h5⟩
        refine ⟨?_, h4, fun h6 => h5 (.inr h6)⟩
        by_cases h8 : c ≤ g.2
        · exact (h5 (.inl ⟨by omega, h8⟩)).elim
        · omega
structure Fl where
  fold : Bool
  lines : Bool
  dots : Bool
  lazy : Bool
structure PS where
  pos : Nat
  now : Fl
  opn : Nat
  names : List ByteArray
abbrev PX (α : Type) := Except Int (α × PS)
abbrev emp : ByteArray := ByteArray.mk #[]
def rxK (k : Int) : Rx := .mk k 0 [] 0 0 false 0 emp []
def yX (c : Int) : Rx := .mk 2 c [] 0 0 false 0 emp []
def wF (l : List (Int × Int)) : Rx := .mk 3 0 l 0 0 false 0 emp []
def BI (k : Int) (l : List Rx) : Rx := .mk k 0 [] 0 0 false 0 emp l
def pO (lo hi : Int) (z : Bool) (x : Rx) : Rx := .mk 6 0 [] lo hi z 0 emp [x]
def yY (n : Int) (nm : ByteArray) (x : Rx) : Rx := .mk 7 0 [] 0 0 false n nm [x]
def tL (k : Int) : List Rx → Rx
  | [] => rxK 1
  | [x] => x
  | l => BI k l
noncomputable def kQ (S : Int → Prop) : Rx := match kI S with
  | [(a, b)] => if a = b then yX a else wF [(a, b)]
  | l => wF l
def pW (S : Int → Prop) : Int → Prop := fun c => S c ∨ (97 ≤ c ∧ c ≤ 122 ∧ S (c - 32)) ∨ (65 ≤ c ∧ c ≤ 90 ∧ S (c + 32))
def yF (S : Int → Prop) : Int → Prop := fun c => 0 ≤ c ∧ c ≤ 1114111 ∧ ¬ S c
noncomputable def rD (f : Fl) (c : Int) : Rx := kQ (if f.fold = true then pW (fun x => x = c) else fun x => x = c)
def isB (s : ByteArray) (i b : Nat) : Prop := i < s.size ∧ sb s i = b
instance (s : ByteArray) (i b : Nat) : Decidable (isB s i b) := by unfold isB; infer_instance
def digN (c : Nat) : Prop := 48 ≤ c ∧ c ≤ 57
instance (c : Nat) : Decidable (digN c) := by unfold digN; infer_instance
def iQ (s : ByteArray) : Nat → Nat → Int → Int × Nat
  | 0, i, n => (n, i)
  | f + 1, i, n => if i < s.size ∧ digN (sb s i) then iQ s f (i + 1) (min (n * 10 + ((sb s i : Int) - 48)) 1001) else (n, i)
def oW (r : ByteArray) : Int × Int × Nat :=
  if sb r 0 = 42 then (0, -1, 1) else if sb r 0 = 43 then (1, -1, 1) else if sb r 0 = 63 then (0, 1, 1) else if sb r 0 ≠ 123 then (0, 0, 0)
  else if 1 < (iQ r r.size 1 0).2 ∧ isB r (iQ r r.size 1 0).2 44 then
    if isB r (iQ r r.size ((iQ r r.size 1 0).2 + 1) 0).2 125 then
      ((iQ r r.size 1 0).1, (if (iQ r r.size ((iQ r r.size 1 0).2 + 1) 0).2 = (iQ r r.size 1 0).2 + 1 then -1 else (iQ r r.size ((iQ r r.size 1 0).2 + 1) 0).1), (iQ r r.size ((iQ r r.size 1 0).2 + 1) 0).2 + 1)
    else (0, 0, 0)
  else if (iQ r r.size 1 0).2 = 1 ∨ ¬ isB r (iQ r r.size 1 0).2 125 then (0, 0, 0)
  else ((iQ r r.size 1 0).1, (iQ r r.size 1 0).1, (iQ r r.size 1 0).2 + 1)
def qH (c : Nat) : Option Nat := if 48 ≤ c ∧ c ≤ 57 then some (c - 48) else if 97 ≤ c ∧ c ≤ 102 then some (c - 97 + 10) else if 65 ≤ c ∧ c ≤ 70 then some (c - 65 + 10) else none
def gH (s : ByteArray) (i : Nat) : Except Int (Nat × Nat) := if i < s.size then (match qH (sb s i) with | some d => .ok (d, i + 1) | none => .error 83) else .error 83
def nK (s : ByteArray) : Nat → Nat → Nat → Except Int (Nat × Nat)
  | 0, n, i => .error 83
  | f + 1, n, i => if isB s i 125 then .ok (n, i + 1) else match gH s i with
    | .error e => .error e
    | .ok (d, j) => if 1114111 < n * 16 + d then .error 83 else nK s f (n * 16 + d) j
def rR (s : ByteArray) (i : Nat) : Except Int (Nat × Nat) :=
  if isB s i 123 then (match gH s (i + 1) with | .error e => .error e | .ok (d, j) => nK s (s.size + 1 - j) d j)
  else match gH s i with
    | .error e => .error e
    | .ok (a, j) => match gH s j with | .error e => .error e | .ok (b, k) => .ok (a * 16 + b, k)
def zZ (c : Nat) : Option Nat := if c = 97 then some 7 else if c = 102 then some 12 else if c = 116 then some 9 else if c = 110 then some 10 else if c = 114 then some 13 else if c = 118 then some 11 else none
def pJ (s : ByteArray) (i : Nat) : Except Int (Nat × Nat) :=
  if s.size ≤ i + 1 then .error 83 else match zZ (sb s (i + 1)) with
    | some v => .ok (v, i + 2)
    | none => if sb s (i + 1) = 120 then rR s (i + 2) else if 128 ≤ sb s (i + 1) ∨ (gC (sb s (i + 1)) ∧ sb s (i + 1) ≠ 95) then .error 83 else .ok (sb s (i + 1), i + 2)
def rs (l : List (Int × Int)) : Int → Prop := fun c => InR c l
def zY (c : Nat) : Option (Int → Prop) :=
  if c = 100 then some (rs [(48, 57)]) else if c = 115 then some (rs [(9, 10), (12, 13), (32, 32)]) else if c = 119 then some (rs [(48, 57), (65, 90), (95, 95), (97, 122)])
  else if c = 68 then some (yF (rs [(48, 57)])) else if c = 83 then some (yF (rs [(9, 10), (12, 13), (32, 32)])) else if c = 87 then some (yF (rs [(48, 57), (65, 90), (95, 95), (97, 122)])) else none
def asc (l : List Nat) : ByteArray := qJ l
def iR (n : ByteArray) : Option (Int → Prop) :=
  if n = asc [97, 108, 110, 117, 109] then some (rs [(48, 57), (65, 90), (97, 122)])
  else if n = asc [97, 108, 112, 104, 97] then some (rs [(65, 90), (97, 122)])
  else if n = asc [97, 115, 99, 105, 105] then some (rs [(0, 127)])
  else if n = asc [98, 108, 97, 110, 107] then some (rs [(9, 9), (32, 32)])
  else if n = asc [99, 110, 116, 114, 108] then some (rs [(0, 31), (127, 127)])
  else if n = asc [100, 105, 103, 105, 116] then some (rs [(48, 57)])
  else if n = asc [103, 114, 97, 112, 104] then some (rs [(33, 126)])
  else if n = asc [108, 111, 119, 101, 114] then some (rs [(97, 122)])
  else if n = asc [112, 114, 105, 110, 116] then some (rs [(32, 126)])
  else if n = asc [112, 117, 110, 99, 116] then some (rs [(33, 47), (58, 64), (91, 96), (123, 126)])
  else if n = asc [115, 112, 97, 99, 101] then some (rs [(9, 13), (32, 32)])
  else if n = asc [117, 112, 112, 101, 114] then some (rs [(65, 90)])
  else if n = asc [119, 111, 114, 100] then some (rs [(48, 57), (65, 90), (95, 95), (97, 122)])
  else if n = asc [120, 100, 105, 103, 105, 116] then some (rs [(48, 57), (65, 70), (97, 102)]) else none
def mO (s : ByteArray) (i : Nat) : Except Int (Int × Nat) :=
  if sb s i = 92 then (match pJ s i with | .ok (v, j) => .ok ((v : Int), j) | .error e => .error e) else .ok ((bQ s i).1, i + (bQ s i).2)
def kO (s : ByteArray) (a b : Nat) : Nat → Nat → Option Nat
  | 0, _ => none
  | f + 1, j => if j + 1 < s.size ∧ sb s j = a ∧ sb s (j + 1) = b then some j else kO s a b f (j + 1)
def unS (S T : Int → Prop) : Int → Prop := fun c => S c ∨ T c
def rgS (lo hi : Int) : Int → Prop := fun c => lo ≤ c ∧ c ≤ hi
abbrev PR := Except Int ((Int → Prop) × Nat)
noncomputable def iK (s : ByteArray) (i : Nat) : PR := match mO s i with
  | .error e => .error e
  | .ok (lo, j) => if isB s j 45 ∧ j + 1 < s.size ∧ sb s (j + 1) ≠ 93 then
      (match mO s (j + 1) with | .error e => .error e | .ok (hi, k) => if hi < lo then .error 81 else .ok (rgS lo hi, k))
    else .ok (rgS lo lo, j)
noncomputable def lE (s : ByteArray) (i : Nat) : PR :=
  if i + 1 < s.size ∧ sb s i = 92 then (match zY (sb s (i + 1)) with | some S => .ok (S, i + 2) | none => iK s i) else iK s i
noncomputable def jS (s : ByteArray) (i : Nat) : PR :=
  if isB s i 91 ∧ isB s (i + 1) 58 then
    (match kO s 58 93 s.size (i + 2) with
    | none => lE s i
    | some j =>
      if i + 2 < j ∧ sb s (i + 2) = 94 then (match iR (s.extract (i + 3) j) with | none => .error 81 | some S => .ok (yF S, j + 2))
      else (match iR (s.extract (i + 2) j) with | none => .error 81 | some S => .ok (S, j + 2)))
  else lE s i
noncomputable def gE (s : ByteArray) : Nat → Bool → (Int → Prop) → Nat → PR
  | 0, _, _, _ => .error 81
  | f + 1, fst, S, i => if s.size ≤ i then .error 81 else if fst = false ∧ sb s i = 93 then .ok (S, i + 1) else match jS s i with
    | .error e => .error e
    | .ok (T, j) => gE s f false (unS S T) j
noncomputable def lT (s : ByteArray) (fl : Fl) (i : Nat) : Except Int (Rx × Nat) :=
  match gE s (s.size + 1) true (fun _ => False) (if isB s i 94 then i + 1 else i) with
  | .error e => .error e
  | .ok (S, j) => .ok (kQ (if isB s i 94 then yF (if fl.fold = true then pW S else S) else if fl.fold = true then pW S else S), j)
structure Opn where
  size : Nat
  name : ByteArray
  thn : Fl
  capt : Bool
  sett : Bool
  err : Int
def gY (s : ByteArray) : Nat → Nat → Nat
  | 0, j => j
  | f + 1, j => if j < s.size ∧ gC (sb s j) then gY s f (j + 1) else j
def oY (s : ByteArray) (i h : Nat) (fl : Fl) : Opn :=
  if gY s s.size (i + h) = i + h ∨ ¬ isB s (gY s s.size (i + h)) 62 then ⟨0, emp, fl, false, false, 85⟩
  else ⟨gY s s.size (i + h) + 1 - i, s.extract (i + h) (gY s s.size (i + h)), fl, true, false, 0⟩
def gV (s : ByteArray) (i : Nat) : Nat → Nat → Bool → Int → Bool → Fl → Opn
  | 0, _, _, _, _, fl => ⟨0, emp, fl, false, false, 84⟩
  | f + 1, j, b, n, m, fl =>
    if s.size ≤ j then ⟨0, emp, fl, false, false, 84⟩
    else if sb s j = 105 then gV s i f (j + 1) b (n + 1) m { fl with fold := b }
    else if sb s j = 109 then gV s i f (j + 1) b (n + 1) m { fl with lines := b }
    else if sb s j = 115 then gV s i f (j + 1) b (n + 1) m { fl with dots := b }
    else if sb s j = 85 then gV s i f (j + 1) b (n + 1) m { fl with lazy := b }
    else if sb s j = 45 then (if m = true then ⟨0, emp, fl, false, false, 84⟩ else gV s i f (j + 1) false 0 true fl)
    else if sb s j = 58 ∨ sb s j = 41 then ⟨j + 1 - i, emp, fl, false, decide (sb s j = 41), if n = 0 then 84 else 0⟩
    else ⟨0, emp, fl, false, false, 84⟩
def fN (s : ByteArray) (i : Nat) (fl : Fl) : Opn :=
  if ¬ (isB s i 40 ∧ isB s (i + 1) 63) then ⟨1, emp, fl, true, false, 0⟩
  else if isB s (i + 2) 80 ∧ isB s (i + 3) 60 then oY s i 4 fl
  else if isB s (i + 2) 60 then oY s i 3 fl
  else if isB s (i + 2) 58 then ⟨3, emp, fl, false, false, 0⟩
  else gV s i s.size (i + 2) true 0 false fl
abbrev PL := PX (List Rx)
open Classical in
noncomputable def sZ (s : ByteArray) (ex : PS → PX Rx) (st : PS) : PL :=
  let o := fN s st.pos st.now
  if o.err = 0 ∧ o.sett = true then .ok ([], { st with pos := st.pos + o.size, now := o.thn })
  else if st.opn = 250 then .error 3
  else if o.err ≠ 0 then .error o.err
  else if o.capt = true ∧ (st.names.length = 100 ∨ (o.name ≠ emp ∧ o.name ∈ st.names)) then .error 85
  else match ex ⟨st.pos + o.size, o.thn, st.opn + 1, if o.capt = true then st.names ++ [o.name] else st.names⟩ with
    | .error e => .error e
    | .ok (x, st2) => if isB s st2.pos 41 then
        .ok ([if o.capt = true then yY ((st.names.length : Int) + 1) o.name x else x], { st2 with pos := st2.pos + 1, opn := st2.opn - 1, now := st.now })
      else .error 80
noncomputable def lD (s : ByteArray) (fl : Fl) (e : Nat) : Nat → List Rx → Nat → List Rx × Nat
  | 0, l, i => (l, i)
  | f + 1, l, i => if i < e then lD s fl e f (l ++ [rD fl (bQ s i).1]) (i + (bQ s i).2) else (l, i)
noncomputable def oX (s : ByteArray) (st : PS) : PL := match kO s 92 69 s.size (st.pos + 2) with
  | some e => .ok ((lD s st.now e s.size [] (st.pos + 2)).1, { st with pos := (lD s st.now e s.size [] (st.pos + 2)).2 + 2 })
  | none => .ok ((lD s st.now s.size s.size [] (st.pos + 2)).1, { st with pos := (lD s st.now s.size s.size [] (st.pos + 2)).2 })
noncomputable def fV (s : ByteArray) (st : PS) : PL :=
  if s.size ≤ st.pos + 1 then .error 83
  else if sb s (st.pos + 1) = 65 then .ok ([rxK 8], { st with pos := st.pos + 2 })
  else if sb s (st.pos + 1) = 122 then .ok ([rxK 9], { st with pos := st.pos + 2 })
  else if sb s (st.pos + 1) = 98 then .ok ([rxK 12], { st with pos := st.pos + 2 })
  else if sb s (st.pos + 1) = 66 then .ok ([rxK 13], { st with pos := st.pos + 2 })
  else if sb s (st.pos + 1) = 81 then oX s st
  else match zY (sb s (st.pos + 1)) with
    | some S => .ok ([kQ S], { st with pos := st.pos + 2 })
    | none => match pJ s st.pos with
      | .error e => .error e
      | .ok (v, j) => .ok ([rD st.now v], { st with pos := j })
noncomputable def kJ (s : ByteArray) (st : PS) : PL :=
  .ok ([if (bQ s st.pos).1 = 46 then (if st.now.dots = true then kQ (rs [(0, 1114111)]) else kQ (rs [(0, 9), (11, 1114111)]))
    else if (bQ s st.pos).1 = 94 then rxK (if st.now.lines = true then 10 else 8)
    else if (bQ s st.pos).1 = 36 then rxK (if st.now.lines = true then 11 else 9)
    else rD st.now (bQ s st.pos).1], { st with pos := st.pos + (bQ s st.pos).2 })
noncomputable def fX (s : ByteArray) (ex : PS → PX Rx) (st : PS) : PL :=
  if sb s st.pos = 40 then sZ s ex st
  else if sb s st.pos = 91 then (match lT s st.now (st.pos + 1) with | .error e => .error e | .ok (x, j) => .ok ([x], { st with pos := j }))
  else if sb s st.pos = 92 then fV s st
  else kJ s st
noncomputable def kP (s : ByteArray) (ex : PS → PX Rx) : Nat → List Rx → Bool → PS → PX Rx
  | 0, l, ah, st => .ok (tL 4 l, st)
  | f + 1, l, ah, st =>
    if s.size ≤ st.pos ∨ sb s st.pos = 124 ∨ sb s st.pos = 41 then .ok (tL 4 l, st)
    else
      let r := oW (s.extract st.pos s.size)
      if r.2.2 = 0 then (match fX s ex st with
        | .error e => .error e
        | .ok (g, st2) => kP s ex f (l ++ g) (decide (0 < g.length)) st2)
      else if ah = false ∨ 1000 < r.1 ∨ 1000 < r.2.1 ∨ (0 ≤ r.2.1 ∧ r.2.1 < r.1) then .error 82
      else if isB s (st.pos + r.2.2) 63 then kP s ex f (l.dropLast ++ [pO r.1 r.2.1 (!st.now.lazy) (l.getLastD (rxK 1))]) false { st with pos := st.pos + r.2.2 + 1 }
      else kP s ex f (l.dropLast ++ [pO r.1 r.2.1 st.now.lazy (l.getLastD (rxK 1))]) false { st with pos := st.pos + r.2.2 }
noncomputable def nY (s : ByteArray) (ex : PS → PX Rx) : Nat → List Rx → PS → PX Rx
  | 0, l, st => .ok (tL 5 l, st)
  | f + 1, l, st => if isB s st.pos 124 then (match kP s ex (s.size + 1) [] false { st with pos := st.pos + 1 } with
      | .error e => .error e
      | .ok (x, st2) => nY s ex f (l ++ [x]) st2)
    else .ok (tL 5 l, st)
noncomputable def pR (s : ByteArray) (ex : PS → PX Rx) (st : PS) : PX Rx := match kP s ex (s.size + 1) [] false st with
  | .error e => .error e
  | .ok (x, st2) => nY s ex (s.size + 1) [x] st2
noncomputable def BU (s : ByteArray) : Nat → PS → PX Rx
  | 0 => fun st => pR s (fun _ => .error 3) st
  | n + 1 => fun st => pR s (BU s n) st
noncomputable def fM (s : ByteArray) : Except Int Rx := open Classical in
  if 4096 < s.size then .error 1 else if ¬ ∃ N, Utf s N then .error 4
  else match BU s 250 ⟨0, ⟨false, false, false, false⟩, 0, []⟩ with
    | .error e => .error e
    | .ok (x, st) => if st.pos < s.size then .error 80 else .ok x
end Go.Proofs.YtidpigbinpaaeaaGreat
namespace Go.Proofs.YtidpigbinpaaeaaGreat
open Go.RowKit Go.W
attribute [local irreducible] Decidable.decide
theorem cS : dA Tryz.prog 116 0 = some 0 := by kernel_rfl
theorem bB : dA Tryz.prog 116 1 = some 1 := by kernel_rfl
abbrev rdc (s : ByteArray) (st : PS) (a : Option Addr) (c : Nat) : Array Value := #[.string s, iv (st.pos : Nat), .bool st.now.fold, .bool st.now.lines, .bool st.now.dots, .bool st.now.lazy, iv (st.opn : Nat), .slice a st.names.length c]
structure RdAt (w : World) (b : Nat) (s : ByteArray) (st : PS) (a : Option Addr) (c : Nat) (ob : Option Nat) : Prop where
  blk : w.heap[b]? = some (.cells (rdc s st a c) 116 (0, 0))
  own : OwnS w 9 1 a st.names.length c (st.names.map sv) ob
  ne : ∀ g, ob = some g → g ≠ b
theorem RdAt.ap {w : World} {b : Nat} {s : ByteArray} {st : PS} {a : Option Addr} {c : Nat} {ob : Option Nat} (h : RdAt w b s st a c ob) : Apart (some b) ob := fun g h1 h2 => by cases h1; exact h.ne b h2 rfl
def adv (st : PS) (n : Nat) : PS := { st with pos := st.pos + n }
theorem oA {w : World} {b : Nat} {s : ByteArray} {st : PS} {a : Option Addr} {c : Nat} {ob : Option Nat} (hR : RdAt w b s st a c ob) (hs : s.size ≤ 1000000) (ch : Nat) (hc : ch < 256) :
    Calls Tryz.prog 77 #[.pointer (some ⟨b, 0, none⟩), .int .u8 (ch : Nat)] w (Ret fun v w' => v = .bool (decide (isB s st.pos ch)) ∧ Evo [b] w w' ∧ RdAt w' b s (if isB s st.pos ch then adv st 1 else st) a c ob) := by
  have hap := hR.ap; refine aT (N := 35) Tryz.func77 rfl rfl rfl ?_; refine csr (wan (aI (aI ?_))); refine eP (by kernel_rfl) (by kernel_rfl) ?_; refine bJ (fun _ A => aY rfl) ?_; refine bJ (fun _ A => aG rfl) ?_; refine bJ (fun _ A => aD rfl bB) ?_; refine bJ (fun _ A => aQ rfl aX (aV (A.blk0 hR.blk) rfl)) ?_; refine bJ (fun _ A => aY rfl) ?_; refine bJ (fun _ A => aG rfl) ?_; refine bJ (fun _ A => aD rfl cS) ?_; refine bJ (fun _ A => aQ rfl cZ (aV (A.blk0 hR.blk) rfl)) ?_; refine bJ (fun _ A => cD rfl Tryz.underlying9 rfl) ?_; refine bJ (fun _ A => cP rfl rfl) ?_; refine bJ (fun _ A => aY rfl) ?_; refine kN (t := 15) rfl (fun E => ?_) (fun E => ?_)
  ·have hlt : st.pos < s.size := by omega
   refine qlg ?_; refine bJ (fun _ A => aY rfl) ?_; refine qlg ?_; refine bJ (fun _ A => aG rfl) ?_; refine qlg ?_; refine bJ (fun _ A => aD rfl cS) ?_; refine qlg ?_; refine bJ (fun _ A => aQ rfl cZ (aV (A.blk0 hR.blk) rfl)) ?_; refine qlg ?_; refine bJ (fun _ A => aY rfl) ?_; refine qlg ?_; refine bJ (fun _ A => aG rfl) ?_; refine qlg ?_; refine bJ (fun _ A => aD rfl bB) ?_; refine qlg ?_; refine bJ (fun _ A => aQ rfl aX (aV (A.blk0 hR.blk) rfl)) ?_; refine qlg ?_; refine bJ (fun _ A => eD (n := st.pos) rfl rfl Tryz.underlying9 rfl hlt) ?_; refine qlg ?_; refine bJ (fun _ A => aY rfl) ?_; refine qlg ?_; refine bJ (fun _ A => lZ rfl rfl) ?_; refine bJ (fun _ A => dX rfl rfl) ?_; refine eV (fun a0 A => aA ?_); have J := (Evo.refl [b] w).then A; have I := A.blk0 hR.blk; have L := hR.own.evo0 A; refine bA rfl (fun H => ?_) (fun H => ?_)
   ·refine csr (aB (aC (aG rfl) (wfl rfl bB rfl aX I rfl ?_))); refine aC (aK rfl rfl (by omega) (by omega)) ?_; refine aC (aG rfl) (aC (aD rfl bB) ?_); refine bE rfl rfl (by first | rfl | assumption) bZ I rfl fun w6 M O => ?_; have U := L.evo O hap.symm.own1
    try simp only [cG, Nat.reduceAdd] at M
    refine wnn (csr (wan (aH (aE (br1 ?_))))); have hb : isB s st.pos ch := ⟨hlt, by omega⟩; refine ⟨congrArg Value.bool (decide_eq_true hb).symm, (J.step O (fun y hy => .inl hy)), ?_⟩
    rw [if_pos hb]; exact ⟨M, U, hR.ne⟩
   refine aL (aA (csr (wan (aH (br1 ?_)))))
   have hb : ¬ isB s st.pos ch := fun h => by first | exact E (by have := h.1; omega) | exact H (by have := h.2; omega)
   refine ⟨congrArg Value.bool (decide_eq_false hb).symm, J, ?_⟩
   rw [if_neg hb]; exact ⟨I, L, hR.ne⟩
  refine qln ?_; refine qln ?_; refine qln ?_; refine qln ?_; refine qln ?_; refine qln ?_; refine qln ?_; refine qln ?_; refine qln ?_; refine qln ?_; refine qln ?_; refine bJ (fun _ A => eU rfl rfl) ?_; refine eV (fun a0 A => aA ?_); have V := A.blk0 hR.blk; have W := hR.own.evo0 A; refine cM rfl ?_; refine aL (aA (csr (wan (aH (br1 ?_)))))
  have hb : ¬ isB s st.pos ch := fun h => by first | exact E (by have := h.1; omega) | exact H (by have := h.2; omega)
  refine ⟨congrArg Value.bool (decide_eq_false hb).symm, ((Evo.refl [b] w).then A), ?_⟩
  rw [if_neg hb]; exact ⟨V, W, hR.ne⟩
theorem cO : cX Tryz.prog 53 := ⟨_, Tryz.func53, by kernel_rfl, by kernel_rfl⟩
theorem uY {r : Int} (h0 : -2147483648 ≤ r) (h1 : r ≤ 2147483647) : IntKind.i64.min ≤ r ∧ r ≤ IntKind.i64.max := by
  constructor <;> simp [IntKind.min, IntKind.max, IntKind.signed, IntKind.bits] <;> omega
theorem hexd_no {s : ByteArray} {i : Nat} (h : ¬ i < s.size) : gH s i = .error 83 := by unfold gH; rw [if_neg h]
theorem pD {s : ByteArray} {i d : Nat} (h : i < s.size) (hd : qH (sb s i) = some d) : gH s i = .ok (d, i + 1) := by unfold gH; rw [if_pos h, hd]
theorem lN {s : ByteArray} {i : Nat} (h : i < s.size) (hd : qH (sb s i) = none) : gH s i = .error 83 := by unfold gH; rw [if_pos h, hd]
theorem vW {z : Int} {d : Nat} (h : z = d) : Value.int .i64 z = iv (d : Nat) := by rw [h]
theorem pU {w : World} {b : Nat} {s : ByteArray} {st : PS} {a : Option Addr} {c : Nat} {ob : Option Nat} (hR : RdAt w b s st a c ob) (hs : s.size ≤ 1000000) :
    Calls Tryz.prog 170 #[.pointer (some ⟨b, 0, none⟩)] w (RetP (fun v w' => ∃ d, gH s st.pos = .ok (d, st.pos + 1) ∧ v = iv (d : Nat) ∧ Evo [b] w w' ∧ RdAt w' b s (adv st 1) a c ob) (fun v w' => gH s st.pos = .error 83 ∧ v = flt 83 ∧ Evo [b] w w')) := by
  have hap := hR.ap; have hb9 := jN s st.pos; refine aT (N := 63) Tryz.func170 rfl rfl rfl ?_; refine csr (wan (aI (aI ?_))); refine eP (by kernel_rfl) (by kernel_rfl) ?_; refine bJ (fun _ H => aY rfl) ?_; refine bJ (fun _ H => aG rfl) ?_; refine bJ (fun _ H => aD rfl bB) ?_; refine bJ (fun _ H => aQ rfl aX (aV (H.blk0 hR.blk) rfl)) ?_; refine bJ (fun _ H => aY rfl) ?_; refine bJ (fun _ H => aG rfl) ?_; refine bJ (fun _ H => aD rfl cS) ?_; refine bJ (fun _ H => aQ rfl cZ (aV (H.blk0 hR.blk) rfl)) ?_; refine bJ (fun _ H => cD rfl Tryz.underlying9 rfl) ?_; refine bJ (fun _ H => cP rfl rfl) ?_; refine eV (fun a4 H => aA ?_); have a0 := (Evo.refl [b] w).then H; have V := H.blk0 hR.blk; refine bA rfl (fun a1 => ?_) (fun a1 => ?_)
  ·have hlt : st.pos < s.size := by omega
   refine aI ?_; refine eP (by kernel_rfl) (by kernel_rfl) ?_; refine bJ (fun _ E => aY rfl) ?_; refine bJ (fun _ E => aG rfl) ?_; refine bJ (fun _ E => aD rfl cS) ?_; refine bJ (fun _ E => aQ rfl cZ (aV (E.blk0 V) rfl)) ?_; refine bJ (fun _ E => aY rfl) ?_; refine bJ (fun _ E => aG rfl) ?_; refine bJ (fun _ E => aD rfl bB) ?_; refine bJ (fun _ E => aQ rfl aX (aV (E.blk0 V) rfl)) ?_; refine bJ (fun _ E => eD (n := st.pos) rfl rfl Tryz.underlying9 rfl hlt) ?_; refine bJ (fun _ E => dU rfl) ?_; refine eV (fun a5 E => aA ?_); refine csr (aB (aC (aG rfl) (wfl rfl bB rfl aX (E.blk0 V) rfl ?_))); refine aC (aK rfl rfl (by omega) (by omega)) ?_; refine aC (aG rfl) (aC (aD rfl bB) ?_); refine bE rfl rfl (by first | rfl | assumption) bZ (E.blk0 V) rfl fun a6 I W => ?_; have A := (a0.then E).step W (fun y hy => .inl hy); have J := ((hR.own.evo0 H).evo0 E).evo W hap.symm.own1
   try simp only [cG, Nat.reduceAdd] at I
   refine wnn (bC (csr (aB (aC (dV rfl rfl) ?_)))); refine aB (bF (t := 33) rfl (fun a2 => ?_) (fun a2 => ?_))
   ·refine aS (aB (aS (aC (eH rfl rfl) ?_))); refine bW (wan (bA rfl (fun a3 => ?_) (fun a3 => ?_)))
    ·refine csr (aB ?_); refine aC (lO rfl rfl (by omega) (by omega)) ?_; refine aC (iM rfl Tryz.underlying5 Tryz.underlying3 (uY (by omega) (by omega)).1 (uY (by omega) (by omega)).2) ?_; refine wan (aH (aM (aE (cH (br1 ?_)))))
     exact ⟨_, pD hlt (by unfold qH; rw [if_pos (by omega)]), vW (by omega), A, I, J, hR.ne⟩
    refine csr (aB (aC (dV rfl rfl) ?_)); refine aB (bF (t := 43) rfl (fun O => ?_) (fun O => ?_))
    ·refine aS (aB (aS (aC (eH rfl rfl) ?_))); refine bW (wan (bA rfl (fun U => ?_) (fun U => ?_)))
     ·refine csr (aB ?_); refine aC (lO rfl rfl (by omega) (by omega)) ?_; refine aC (iM rfl Tryz.underlying5 Tryz.underlying3 (uY (by omega) (by omega)).1 (uY (by omega) (by omega)).2) ?_; refine aC (aK rfl rfl (by omega) (by omega)) ?_; refine wan (aH (aM (aE (cH (br1 ?_)))))
      exact ⟨_, pD hlt (by unfold qH; rw [if_neg (by omega), if_pos (by omega)]), vW (by omega), A, I, J, hR.ne⟩
     refine csr (aB (aC (dV rfl rfl) ?_)); refine aB (bF (t := 54) rfl (fun L => ?_) (fun L => ?_))
     ·refine aS (aB (aS (aC (eH rfl rfl) ?_))); refine bW (wan (bA rfl (fun M => ?_) (fun M => ?_)))
      ·refine csr (aB ?_); refine aC (lO rfl rfl (by omega) (by omega)) ?_; refine aC (iM rfl Tryz.underlying5 Tryz.underlying3 (uY (by omega) (by omega)).1 (uY (by omega) (by omega)).2) ?_; refine aC (aK rfl rfl (by omega) (by omega)) ?_; refine wan (aH (aM (aE (cH (br1 ?_)))))
       exact ⟨_, pD hlt (by unfold qH; rw [if_neg (by omega), if_neg (by omega), if_pos (by omega)]), vW (by omega), A, I, J, hR.ne⟩
      refine aL (aO (aA (csr (cE (vs := [_]) cO rfl (eG 83) rfl ?_ ?_))))
      ·intro pv wp hpp; obtain ⟨rfl, hpe⟩ := hpp
       exact And.intro rfl ⟨_, rfl, lN hlt (by unfold qH; rw [if_neg (by omega), if_neg (by omega), if_neg (by omega)]), rfl, (A).then hpe⟩
      intro _ _ hF; exact hF.elim
     refine aN (aN (bM (wan (cM rfl ?_)))); refine aL (aO (aA (csr (cE (vs := [_]) cO rfl (eG 83) rfl ?_ ?_))))
     ·intro pv wp hpp; obtain ⟨rfl, hpe⟩ := hpp
      exact And.intro rfl ⟨_, rfl, lN hlt (by unfold qH; rw [if_neg (by omega), if_neg (by omega), if_neg (by omega)]), rfl, (A).then hpe⟩
     intro _ _ hF; exact hF.elim
    refine aN (aN (bM (wan (cM rfl ?_)))); refine csr (aB (aC (dV rfl rfl) ?_)); refine aB (bF (t := 54) rfl (fun L => ?_) (fun L => ?_))
    ·refine aS (aB (aS (aC (eH rfl rfl) ?_))); refine bW (wan (bA rfl (fun M => ?_) (fun M => ?_)))
     ·refine csr (aB ?_); refine aC (lO rfl rfl (by omega) (by omega)) ?_; refine aC (iM rfl Tryz.underlying5 Tryz.underlying3 (uY (by omega) (by omega)).1 (uY (by omega) (by omega)).2) ?_; refine aC (aK rfl rfl (by omega) (by omega)) ?_; refine wan (aH (aM (aE (cH (br1 ?_)))))
      exact ⟨_, pD hlt (by unfold qH; rw [if_neg (by omega), if_neg (by omega), if_pos (by omega)]), vW (by omega), A, I, J, hR.ne⟩
     refine aL (aO (aA (csr (cE (vs := [_]) cO rfl (eG 83) rfl ?_ ?_))))
     ·intro pv wp hpp; obtain ⟨rfl, hpe⟩ := hpp
      exact And.intro rfl ⟨_, rfl, lN hlt (by unfold qH; rw [if_neg (by omega), if_neg (by omega), if_neg (by omega)]), rfl, (A).then hpe⟩
     intro _ _ hF; exact hF.elim
    refine aN (aN (bM (wan (cM rfl ?_)))); refine aL (aO (aA (csr (cE (vs := [_]) cO rfl (eG 83) rfl ?_ ?_))))
    ·intro pv wp hpp; obtain ⟨rfl, hpe⟩ := hpp
     exact And.intro rfl ⟨_, rfl, lN hlt (by unfold qH; rw [if_neg (by omega), if_neg (by omega), if_neg (by omega)]), rfl, (A).then hpe⟩
    intro _ _ hF; exact hF.elim
   refine aN (aN (bM (wan (cM rfl ?_)))); refine csr (aB (aC (dV rfl rfl) ?_)); refine aB (bF (t := 43) rfl (fun O => ?_) (fun O => ?_))
   ·refine aS (aB (aS (aC (eH rfl rfl) ?_))); refine bW (wan (bA rfl (fun U => ?_) (fun U => ?_)))
    ·refine csr (aB ?_); refine aC (lO rfl rfl (by omega) (by omega)) ?_; refine aC (iM rfl Tryz.underlying5 Tryz.underlying3 (uY (by omega) (by omega)).1 (uY (by omega) (by omega)).2) ?_; refine aC (aK rfl rfl (by omega) (by omega)) ?_; refine wan (aH (aM (aE (cH (br1 ?_)))))
     exact ⟨_, pD hlt (by unfold qH; rw [if_neg (by omega), if_pos (by omega)]), vW (by omega), A, I, J, hR.ne⟩
    refine csr (aB (aC (dV rfl rfl) ?_)); refine aB (bF (t := 54) rfl (fun L => ?_) (fun L => ?_))
    ·refine aS (aB (aS (aC (eH rfl rfl) ?_))); refine bW (wan (bA rfl (fun M => ?_) (fun M => ?_)))
     ·refine csr (aB ?_); refine aC (lO rfl rfl (by omega) (by omega)) ?_; refine aC (iM rfl Tryz.underlying5 Tryz.underlying3 (uY (by omega) (by omega)).1 (uY (by omega) (by omega)).2) ?_; refine aC (aK rfl rfl (by omega) (by omega)) ?_; refine wan (aH (aM (aE (cH (br1 ?_)))))
      exact ⟨_, pD hlt (by unfold qH; rw [if_neg (by omega), if_neg (by omega), if_pos (by omega)]), vW (by omega), A, I, J, hR.ne⟩
     refine aL (aO (aA (csr (cE (vs := [_]) cO rfl (eG 83) rfl ?_ ?_))))
     ·intro pv wp hpp; obtain ⟨rfl, hpe⟩ := hpp
      exact And.intro rfl ⟨_, rfl, lN hlt (by unfold qH; rw [if_neg (by omega), if_neg (by omega), if_neg (by omega)]), rfl, (A).then hpe⟩
     intro _ _ hF; exact hF.elim
    refine aN (aN (bM (wan (cM rfl ?_)))); refine aL (aO (aA (csr (cE (vs := [_]) cO rfl (eG 83) rfl ?_ ?_))))
    ·intro pv wp hpp; obtain ⟨rfl, hpe⟩ := hpp
     exact And.intro rfl ⟨_, rfl, lN hlt (by unfold qH; rw [if_neg (by omega), if_neg (by omega), if_neg (by omega)]), rfl, (A).then hpe⟩
    intro _ _ hF; exact hF.elim
   refine aN (aN (bM (wan (cM rfl ?_)))); refine csr (aB (aC (dV rfl rfl) ?_)); refine aB (bF (t := 54) rfl (fun L => ?_) (fun L => ?_))
   ·refine aS (aB (aS (aC (eH rfl rfl) ?_))); refine bW (wan (bA rfl (fun M => ?_) (fun M => ?_)))
    ·refine csr (aB ?_); refine aC (lO rfl rfl (by omega) (by omega)) ?_; refine aC (iM rfl Tryz.underlying5 Tryz.underlying3 (uY (by omega) (by omega)).1 (uY (by omega) (by omega)).2) ?_; refine aC (aK rfl rfl (by omega) (by omega)) ?_; refine wan (aH (aM (aE (cH (br1 ?_)))))
     exact ⟨_, pD hlt (by unfold qH; rw [if_neg (by omega), if_neg (by omega), if_pos (by omega)]), vW (by omega), A, I, J, hR.ne⟩
    refine aL (aO (aA (csr (cE (vs := [_]) cO rfl (eG 83) rfl ?_ ?_))))
    ·intro pv wp hpp; obtain ⟨rfl, hpe⟩ := hpp
     exact And.intro rfl ⟨_, rfl, lN hlt (by unfold qH; rw [if_neg (by omega), if_neg (by omega), if_neg (by omega)]), rfl, (A).then hpe⟩
    intro _ _ hF; exact hF.elim
   refine aN (aN (bM (wan (cM rfl ?_)))); refine aL (aO (aA (csr (cE (vs := [_]) cO rfl (eG 83) rfl ?_ ?_))))
   ·intro pv wp hpp; obtain ⟨rfl, hpe⟩ := hpp
    exact And.intro rfl ⟨_, rfl, lN hlt (by unfold qH; rw [if_neg (by omega), if_neg (by omega), if_neg (by omega)]), rfl, (A).then hpe⟩
   intro _ _ hF; exact hF.elim
  refine aL (aA (csr (cE (vs := [_]) cO rfl (eG 83) rfl ?_ ?_)))
  ·intro pv wp hpp; obtain ⟨rfl, hpe⟩ := hpp; exact And.intro rfl ⟨_, rfl, hexd_no (by omega), rfl, (a0).then hpe⟩
  intro _ _ hF; exact hF.elim
theorem oF : cX Tryz.prog 170 := ⟨_, Tryz.func170, by kernel_rfl, by kernel_rfl⟩
theorem iC : cX Tryz.prog 77 := ⟨_, Tryz.func77, by kernel_rfl, by kernel_rfl⟩
def iP (st : PS) (j : Nat) : PS := { st with pos := j }
theorem CN (s : ByteArray) (i : Nat) : gH s i = .error 83 ∨ ∃ d, d < 16 ∧ i < s.size ∧ gH s i = .ok (d, i + 1) := by
  unfold gH
  by_cases h : i < s.size
  · rw [if_pos h]
    unfold qH
    split
    · rename_i d hd
      refine .inr ⟨d, ?_, h, rfl⟩
      split at hd
      · cases hd; omega
      · split at hd
        · cases hd; omega
        · split at hd
          · cases hd; omega
          · cases hd
    · exact .inl rfl
  · rw [if_neg h]; exact .inl rfl
theorem EK {r : Int} (h0 : -2147483648 ≤ r) (h1 : r ≤ 2147483647) : IntKind.i32.min ≤ r ∧ r ≤ IntKind.i32.max := by
  constructor <;> simp [IntKind.min, IntKind.max, IntKind.signed, IntKind.bits] <;> omega
theorem hexl_end {s : ByteArray} {n i : Nat} (hi : i ≤ s.size) (h : isB s i 125) : nK s (s.size + 1 - i) n i = .ok (n, i + 1) := by
  rw [show s.size + 1 - i = (s.size - i) + 1 by omega, nK, if_pos h]
theorem hexl_err {s : ByteArray} {n i : Nat} (hi : i ≤ s.size) (h : ¬ isB s i 125) (he : gH s i = .error 83) : nK s (s.size + 1 - i) n i = .error 83 := by
  rw [show s.size + 1 - i = (s.size - i) + 1 by omega, nK, if_neg h, he]
theorem hexl_big {s : ByteArray} {n i d : Nat} (hi : i ≤ s.size) (h : ¬ isB s i 125) (he : gH s i = .ok (d, i + 1)) (hb : 1114111 < n * 16 + d) : nK s (s.size + 1 - i) n i = .error 83 := by
  rw [show s.size + 1 - i = (s.size - i) + 1 by omega, nK, if_neg h, he]
  show (if 1114111 < n * 16 + d then _ else _) = _
  rw [if_pos hb]
theorem hexl_go {s : ByteArray} {n i d : Nat} (hi : i < s.size) (h : ¬ isB s i 125) (he : gH s i = .ok (d, i + 1)) (hb : ¬ 1114111 < n * 16 + d) : nK s (s.size + 1 - i) n i = nK s (s.size + 1 - (i + 1)) (n * 16 + d) (i + 1) := by
  rw [show s.size + 1 - i = (s.size + 1 - (i + 1)) + 1 by omega, nK, if_neg h, he]
  show (if 1114111 < n * 16 + d then _ else _) = _
  rw [if_neg hb]
theorem AN {s : ByteArray} {i d j : Nat} (h : gH s i = .ok (d, j)) : d < 16 := by
  rcases CN s i with e | ⟨d', h1, _, e⟩ <;> rw [e] at h <;> cases h
  exact h1
theorem hex_a {s : ByteArray} {i : Nat} (h : ¬ isB s i 123) (e : gH s i = .error 83) : rR s i = .error 83 := by unfold rR; rw [if_neg h, e]
theorem hex_b {s : ByteArray} {i d : Nat} (h : ¬ isB s i 123) (e : gH s i = .ok (d, i + 1)) (e2 : gH s (i + 1) = .error 83) : rR s i = .error 83 := by
  unfold rR; rw [if_neg h, e]; show (match gH s (i + 1) with | .error e => _ | .ok (b, k) => _) = _; rw [e2]
theorem hex_c {s : ByteArray} {i d f : Nat} (h : ¬ isB s i 123) (e : gH s i = .ok (d, i + 1)) (e2 : gH s (i + 1) = .ok (f, i + 1 + 1)) : rR s i = .ok (d * 16 + f, i + 1 + 1) := by
  unfold rR; rw [if_neg h, e]; show (match gH s (i + 1) with | .error e => _ | .ok (b, k) => _) = _; rw [e2]
theorem hex_d {s : ByteArray} {i : Nat} (h : isB s i 123) (e : gH s (i + 1) = .error 83) : rR s i = .error 83 := by unfold rR; rw [if_pos h, e]
theorem hex_e {s : ByteArray} {i d : Nat} (h : isB s i 123) (e : gH s (i + 1) = .ok (d, i + 1 + 1)) : rR s i = nK s (s.size + 1 - (i + 1 + 1)) d (i + 1 + 1) := by unfold rR; rw [if_pos h, e]
structure HxG where
  n : Nat
  p : Nat
structure HxI (w : World) (b : Nat) (s : ByteArray) (st : PS) (a : Option Addr) (c : Nat) (ob : Option Nat) (x : HxG) : Prop where
  hp : x.p ≤ s.size
  hn : x.n ≤ 1114111
  hr : RdAt w b s (iP st x.p) a c ob
  eq : rR s st.pos = nK s (s.size + 1 - x.p) x.n x.p
theorem VW {s : ByteArray} {i d j : Nat} (h : gH s i = .ok (d, j)) : i < s.size := by
  rcases CN s i with e | ⟨d', _, h1, e⟩ <;> rw [e] at h <;> cases h
  exact h1
theorem hex_ok {w : World} {b : Nat} {s : ByteArray} {st : PS} {a : Option Addr} {c : Nat} {ob : Option Nat} (hR : RdAt w b s st a c ob) (hs : s.size ≤ 1000000) :
    Calls Tryz.prog 164 #[.pointer (some ⟨b, 0, none⟩)] w (RetP (fun v w' => ∃ n j, rR s st.pos = .ok (n, j) ∧ v = .int .i32 (n : Nat) ∧ Evo [b] w w' ∧ RdAt w' b s (iP st j) a c ob) (fun v w' => rR s st.pos = .error 83 ∧ v = flt 83 ∧ Evo [b] w w')) := by
  have hap := hR.ap; refine aT (N := 33) Tryz.func164 rfl rfl rfl ?_; refine csr (wan (aI (csr (aB ?_)))); refine aJ (vs := [_, _]) iC rfl (oA hR hs 123 (by decide)) rfl ?_; rintro _ w1 ⟨rfl, a3, I⟩; have J := (Evo.refl [b] w).step a3 (fun y hy => .inl hy); refine aC (lX rfl) ?_; refine wnn (bA rfl (fun E => ?_) (fun E => ?_))
  ·rw [if_neg E] at I; refine csr (aB (cE (vs := [_]) oF rfl (pU I hs) rfl ?_ ?_))
   ·intro pv wp hpp; obtain ⟨hpe, rfl, hpw⟩ := hpp; exact And.intro rfl ⟨_, rfl, hex_a E hpe, rfl, (J).step hpw (fun y hy => .inl hy)⟩
   rintro _ w4 ⟨d1, hd1, rfl, a4, a5⟩; have O := J.step a4 (fun y hy => .inl hy); have hl1 := AN hd1; refine aB (cE (vs := [_]) oF rfl (pU a5 hs) rfl ?_ ?_)
   ·intro pv wp hpp; obtain ⟨hpe, rfl, hpw⟩ := hpp; exact And.intro rfl ⟨_, rfl, hex_b E hd1 hpe, rfl, (O).step hpw (fun y hy => .inl hy)⟩
   rintro _ w7 ⟨d2, hd2, rfl, a6, a7⟩; have hl2 := AN hd2; refine bR (wan (csr (aB ?_))); refine aC (fQ rfl rfl (by omega) (by omega)) ?_; refine aB ?_; refine aC (aK rfl rfl (by omega) (by omega)) ?_; refine aC (iM rfl Tryz.underlying3 Tryz.underlying21 (EK (by omega) (by omega)).1 (EK (by omega) (by omega)).2) ?_; refine wan (aH (aE (cH (br1 ?_)))); exact ⟨_, _, hex_c E hd1 hd2, (by congr 1), (O.step a6 (fun y hy => .inl hy)), a7⟩
  have hb8 : isB s st.pos 123 := Classical.not_not.1 E; rw [if_pos hb8] at I; refine aL (aA (csr (aB (cE (vs := [_]) oF rfl (pU I hs) rfl ?_ ?_))))
  ·intro pv wp hpp; obtain ⟨hpe, rfl, hpw⟩ := hpp; exact And.intro rfl ⟨_, rfl, hex_d hb8 hpe, rfl, (J).step hpw (fun y hy => .inl hy)⟩
  rintro _ b5 ⟨d1, hd1, rfl, V, a8⟩; have hl1 := AN hd1; have hin := VW hd1; refine wan (aI (bC ?_))
  refine cN (α := HxG) (⟨d1, st.pos + 1 + 1⟩) (fun x => [(5, .int .i64 (x.n : Nat))]) [(0, _), (2, _)] (fun x wr => Evo [b] w wr ∧ (HxI wr b s st a c ob x)) (fun x => s.size + 1 - x.p) ⟨rfl, trivial⟩ ⟨rfl, rfl, trivial⟩ ⟨(J.step V (fun y hy => .inl hy)), ⟨by show st.pos + 1 + 1 ≤ _; have : st.pos + 1 < s.size := hin; omega, by show d1 ≤ _; omega, a8, hex_e hb8 hd1⟩⟩ ?_
  rintro ⟨n, p⟩ wr13 ⟨W, ⟨hp9, a9, U, heq⟩⟩; show CW _ _ _ _ [(5, .int .i64 (n : Nat)), (0, _), (2, _)] _
  try dsimp only at hp9 a9 U heq
  refine aI (csr (aB ?_)); refine aJ (vs := [_, _]) iC rfl (oA U hs 125 (by decide)) rfl ?_; rintro _ b6 ⟨rfl, a0, L⟩; have H := W.step a0 (fun y hy => .inl hy); refine aC (lX rfl) ?_; refine wnn (bA rfl (fun A => ?_) (fun A => ?_))
  ·rw [if_neg A] at L; refine aL (aA (bC (csr (aB ?_)))); refine aC (fQ rfl rfl (by omega) (by omega)) ?_; refine aB (cE (vs := [_]) oF rfl (pU L hs) rfl ?_ ?_)
   ·intro pv wp hpp; obtain ⟨hpe, rfl, hpw⟩ := hpp; exact And.intro rfl ⟨_, rfl, heq.trans (hexl_err hp9 A hpe), rfl, (H).step hpw (fun y hy => .inl hy)⟩
   rintro _ b7 ⟨d2, hd2, rfl, a1, b4⟩; have M := H.step a1 (fun y hy => .inl hy); have hl2 := AN hd2; have hin2 : p < s.size := VW hd2; refine aC (aK rfl rfl (by omega) (by omega)) ?_; refine wan (csr (aB (aC (gF rfl rfl) ?_))); refine wnn (bA rfl (fun a2 => ?_) (fun a2 => ?_))
   ·refine aF (cE (vs := [_]) cO rfl (eG 83) rfl ?_ ?_)
    ·intro pv wp hpp; obtain ⟨rfl, hpw⟩ := hpp; exact And.intro rfl ⟨_, rfl, heq.trans (hexl_big hp9 A hd2 (by omega)), rfl, (M).then hpw⟩
    intro _ _ hF; exact hF.elim
   refine aL (aO (aW ?_)); refine ⟨⟨n * 16 + d2, p + 1⟩, ?_, ⟨rfl, trivial⟩, ⟨rfl, rfl, trivial⟩, M, ?_⟩
   · (try dsimp only); omega
   try dsimp only
   exact ⟨by show p + 1 ≤ _; omega, by show n * 16 + d2 ≤ _; omega, b4, heq.trans (hexl_go hin2 A hd2 (by omega))⟩
  have hb22 : isB s (iP st p).pos 125 := Classical.not_not.1 A; rw [if_pos hb22] at L; refine cJ (bH (bH (cI (aA ?_)))); refine csr (aB ?_); refine aC (iM rfl Tryz.underlying3 Tryz.underlying21 (EK (by omega) (by omega)).1 (EK (by omega) (by omega)).2) ?_; refine wan (aH (cH (br1 ?_))); exact ⟨_, _, heq.trans (hexl_end hp9 hb22), rfl, H, L⟩
end Go.Proofs.YtidpigbinpaaeaaGreat
namespace Go.Proofs.YtidpigbinpaaeaaGreat
open Go.RowKit Go.W
def PC (g : Int × Int) : List Value := [.int .i32 g.1, .int .i32 g.2]
def dC (l : List (Int × Int)) : List Value := l.flatMap PC
theorem zB (g : Int × Int) (l : List (Int × Int)) : dC (g :: l) = .int .i32 g.1 :: .int .i32 g.2 :: dC l := rfl
theorem jR (l m : List (Int × Int)) : dC (l ++ m) = dC l ++ dC m := List.flatMap_append
theorem iW : ∀ l : List (Int × Int), (dC l).length = l.length * 2
  | [] => rfl
  | g :: l => by rw [zB, List.length_cons, List.length_cons, iW l, List.length_cons]; omega
theorem vQ : ∀ {l : List (Int × Int)} {i : Nat} (h : i < l.length), (dC l)[i * 2]? = some (.int .i32 l[i].1) ∧ (dC l)[i * 2 + 1]? = some (.int .i32 l[i].2)
  | g :: l, 0, h => ⟨rfl, rfl⟩
  | g :: l, i + 1, h => by
    have := vQ (l := l) (i := i) (by simpa using h)
    rw [zB, show (i + 1) * 2 = i * 2 + 1 + 1 by omega]
    exact this
theorem rO : ∀ l : List (Int × Int), AllOne (dC l)
  | [] => trivial
  | g :: l => ⟨rfl, rfl, rO l⟩
section
variable {w : World} {e : TypeId} {a : Option Addr} {n c : Nat} {l : List (Int × Int)} {ob : Option Nat}
theorem rS (h : OwnS w e 2 a n c (dC l) ob) : n = l.length := by have := h.length; rw [iW] at this; omega
theorem rA (h : OwnS w e 2 a n c (dC l) ob) {i : Nat} (hi : i < l.length) : ∃ g, ob = some g ∧ a = some ⟨g, 0, none⟩ ∧ CellsAt w g (0 + i * 2) (PC l[i]) := by
  have hn := rS h
  obtain ⟨g, hg, ha, hc⟩ := h.cells (by omega)
  refine ⟨g, hg, ha, fun j v hj => ?_⟩
  obtain ⟨h0, h1⟩ := vQ hi
  match j, hj with
  | 0, hj => cases hj; have := hc _ _ h0; simpa using this
  | 1, hj => cases hj; have := hc _ _ h1; simpa [Nat.add_assoc] using this
  | j + 2, hj => cases hj
theorem own_rz (h : OwnS w e 2 a n c (dC l) ob) : (a = none ∧ n = 0 ∧ l = [] ∧ ob = none) ∨ ∃ g, a = some ⟨g, 0, none⟩ ∧ ob = some g := by
  have hn := rS h
  rcases h.2 with ⟨h1, h2, h3⟩ | ⟨g, cap, cur, hg, hv, _⟩
  · cases h1; exact .inl ⟨rfl, rfl, List.length_eq_zero_iff.1 hn.symm, h3⟩
  · cases hv; exact .inr ⟨g, rfl, hg⟩
theorem own_rrg (h : OwnS w e 2 a n c (dC l) ob) {X : List Nat} (hx : ∀ g, ob = some g → g ∉ X) : RSl 2 RRg X w (.slice a l.length c) l := by
  have hn := rS h
  refine ⟨a, c, rfl, by rw [← hn]; exact h.le, fun k hk => ?_⟩
  obtain ⟨g, hg, ha, hc⟩ := rA h hk
  exact ⟨g, 0, _, ha, hx g hg, rfl, hc, rfl⟩
end
theorem tT (l : List (Int × Int)) : Sort.flatK PC 2 l.toArray = (dC l).toArray := by
  apply Array.ext
  · simp [iW]
  · intro t h1 h2
    have h3 : t < l.length * 2 := by simpa [iW] using h2
    have h4 := Sort.get_flatK PC 2 l.toArray t (by simpa using h3)
    rw [getElem!_pos _ t h1] at h4
    rw [h4]
    have h5 : t / 2 < l.length := by omega
    have h6 : (l.toArray)[t / 2]! = l[t / 2] := by simp [h5]
    rw [h6]
    obtain ⟨g0, g1⟩ := vQ h5
    rcases Nat.mod_two_eq_zero_or_one t with hm | hm <;> rw [hm]
    · rw [show t / 2 * 2 = t by omega] at g0
      show (Value.int .i32 l[t / 2].1) = _
      simp only [List.getElem_toArray]
      exact (Option.some.inj ((List.getElem?_eq_getElem (by rw [iW]; exact h3)).symm.trans g0)).symm
    · rw [show t / 2 * 2 + 1 = t by omega] at g1
      show (Value.int .i32 l[t / 2].2) = _
      simp only [List.getElem_toArray]
      exact (Option.some.inj ((List.getElem?_eq_getElem (by rw [iW]; exact h3)).symm.trans g1)).symm
theorem evo_rowK (w : World) (g n : Nat) (d : Array Value) (os : Array Obj) : Evo [g] w (Sort.grow (Sort.putRow id (Sort.ahead w n) g 0 d) os) := by
  refine ⟨rfl, rfl, rfl, ?_, fun b hb hx => ?_⟩
  · simp [Sort.grow, Sort.putRow, Sort.mapBlock, Sort.ahead]
  · have hne : g ≠ b := fun e => hx (by simp [e])
    simp only [Sort.grow, Sort.putRow, Sort.mapBlock, Sort.ahead]
    rw [Array.getElem?_append_left (by simpa using hb), Array.getElem?_modify, if_neg hne]
theorem row_blkK {w : World} {g : Nat} {cur : Array Value} {e : TypeId} (hb : w.heap[g]? = some (.cells cur e (0, 0))) (n : Nat) (d : Array Value) (os : Array Obj) :
    (Sort.grow (Sort.putRow id (Sort.ahead w n) g 0 d) os).heap[g]? = some (.cells (Sort.putCells id 0 d cur) e (0, 0)) := by
  have hlt := dK hb
  simp only [Sort.grow, Sort.putRow, Sort.mapBlock, Sort.ahead]
  rw [Array.getElem?_append_left (by simpa using hlt), Array.getElem?_modify, if_pos rfl, hb]
  rfl
theorem BK (cur : Array Value) (ds : List Value) (hc : ds.length ≤ cur.size) : (Sort.putCells id 0 ds.toArray cur).toList.take ds.length = ds := by
  apply List.ext_getElem?
  intro k
  by_cases hk : k < ds.length
  · rw [List.getElem?_take, if_pos hk]
    simp only [Sort.putCells, Array.getElem?_toList, Array.getElem?_mapIdx, List.getElem?_map]
    have h1 : k < cur.size := by omega
    simp [h1, hk]
  · rw [List.getElem?_eq_none (by simp; omega), List.getElem?_eq_none (by omega)]
theorem YA {w : World} {e : TypeId} {g n c sz : Nat} {xs ds : List Value} (h : OwnS w e sz (some ⟨g, 0, none⟩) n c xs (some g)) (hd : ds.length = n * sz) (q : Nat) (os : Array Obj) :
    OwnS (Sort.grow (Sort.putRow id (Sort.ahead w q) g 0 ds.toArray) os) e sz (some ⟨g, 0, none⟩) n c ds (some g) := by
  refine ⟨hd, ?_⟩
  rcases h.2 with ⟨h1, _⟩ | ⟨g', cap, cur, hg, hv, hb, hn, hc, hs, ht⟩
  · cases h1
  · cases hg; cases hv
    have hle : n * sz ≤ c * sz := Nat.mul_le_mul_right sz hn
    refine .inr ⟨g, c, _, rfl, rfl, row_blkK hb q ds.toArray os, hn, hc, by simpa [Sort.putCells] using hs, ?_⟩
    rw [← hd]
    exact BK cur ds (by omega)
theorem SK {w : World} {e : TypeId} {g n c : Nat} {l : List (Int × Int)} (h : OwnS w e 2 (some ⟨g, 0, none⟩) n c (dC l) (some g)) : Sort.HoldsK PC 2 w g 0 l.toArray := fun j hj => by
  rw [tT] at hj ⊢
  have hj' : j < (dC l).length := by simpa using hj
  have hl := h.length
  rcases h.2 with ⟨h1, _⟩ | ⟨g', cap, cur, hg, hv, hb, hn, hc, hs, ht⟩
  · cases h1
  · cases hg; cases hv
    constructor
    · refine eY hb ?_
      have h1 : (cur.toList.take (n * 2))[j]? = some (dC l)[j] := by rw [ht]; exact List.getElem?_eq_getElem hj'
      rw [List.getElem?_take, if_pos (by omega)] at h1
      rw [Nat.zero_add]
      simpa [hj'] using h1
    · simp [World.frozen?, hb]
end Go.Proofs.YtidpigbinpaaeaaGreat
namespace Go.Proofs.YtidpigbinpaaeaaGreat
open Go.RowKit Go.W
attribute [local irreducible] Decidable.decide
theorem xT : mA Tryz.prog 217 = some 1 := by kernel_rfl
def Vr (l : List (Int × Int)) : Prop := ∀ g, g ∈ l → 0 ≤ g.1 ∧ g.1 ≤ g.2 ∧ g.2 ≤ 1114111
def mK : List Int → List (Int × Int)
  | a :: b :: r => (a, b) :: mK r
  | _ => []
theorem FW : ∀ (l : List Int), (mK l).length = l.length / 2
  | [] => rfl
  | [a] => by rw [show mK [a] = [] from rfl]; simp
  | a :: b :: r => by rw [mK, List.length_cons, FW r]; simp only [List.length_cons]; omega
theorem FX : ∀ {l : List Int} {k : Nat} (h : k < (mK l).length) (h0 : 2 * k < l.length) (h1 : 2 * k + 1 < l.length), (mK l)[k] = (l[2 * k], l[2 * k + 1])
  | [], k, h, _, _ => by cases h
  | [a], k, h, _, _ => by cases h
  | a :: b :: r, 0, h, _, _ => rfl
  | a :: b :: r, k + 1, h, h0, h1 => by
    have := FX (l := r) (k := k) (by rw [mK] at h; simpa using h) (by simp only [List.length_cons] at h0; omega) (by simp only [List.length_cons] at h1; omega)
    have h2 : (mK (a :: b :: r))[k + 1] = (mK r)[k]'(by rw [mK] at h; simpa using h) := rfl
    rw [h2, this]
    simp only [show 2 * (k + 1) = 2 * k + 1 + 1 by omega, List.getElem_cons_succ]
theorem pQ (l : List (Int × Int)) (a b : Int) : dC (l ++ [(a, b)]) = dC l ++ [.int .i32 a, .int .i32 b] := by rw [jR]; rfl
abbrev i32v (l : List Int) : List Value := l.map fun c => Value.int .i32 c
theorem NG {w : World} {e : TypeId} {a : Option Addr} {n c : Nat} {ys : List Int} {ob : Option Nat} (h : OwnS w e 1 a n c (i32v ys) ob) {k : Nat} (hk : k < ys.length) : ∃ g, ob = some g ∧ a = some ⟨g, 0, none⟩ ∧ w.cell? ⟨g, 0 + k * 1, none⟩ = some (.int .i32 ys[k]) := by
  have hl : ys.length = n * 1 := by have := h.length; simpa using this
  obtain ⟨g, hg, ha, hc⟩ := h.cells (by omega)
  refine ⟨g, hg, ha, ?_⟩
  rw [Nat.mul_one]
  exact hc k _ (by simp [hk])
structure SpG where
  k : Nat
  sa : Option Addr
  sc : Nat
  so : Option Nat
structure SpI (w wr : World) (n : Nat) (l : List (Int × Int)) (a : Option Addr) (c : Nat) (ob : Option Nat) : Prop where
  hk : n = l.length
  own : OwnS wr 135 2 a n c (dC l) ob
  ge : Ge w ob
theorem HL {w : World} {a : Option Addr} {c : Nat} {l : List (Int × Int)} {ob : Option Nat} (hO : OwnS w 135 2 a l.length c (dC l) ob) (hl : l.length ≤ 1000000) :
    Calls Tryz.prog 82 #[.slice a l.length c] w (Ret fun v w' => ∃ a' c' ob', v = .slice a' l.length c' ∧ OwnS w' 135 2 a' l.length c' (dC l) ob' ∧ Ge w ob' ∧ Evo [] w w') := by
  refine aT (N := 8) Tryz.func82 rfl rfl rfl ?_; refine csr (wan (aI (csr (aB (aC (WC rfl rfl Tryz.underlying68) ?_))))); refine wnn (dW rfl (fun E => ?_) (fun E => ?_))
  ·refine csr (wan (aH (aE (br1 ?_))))
   obtain ⟨rfl, h1, rfl, rfl⟩ := (own_rz hO).resolve_right (fun ⟨g, h, _⟩ => by rw [h] at E; cases E)
   exact ⟨none, 0, none, rfl, OwnS.nil _ _ _, Ge.nil _, (Evo.refl [] w)⟩
  refine aL (aA (csr (bL (vs := []) rfl fZ rfl rfl rfl rfl fun b1 w2 A L M => ?_))); have I := Ge.new (Evo.refl [] w) L; have H := (Evo.refl [] w).then M; refine aB ?_; refine cT rfl rfl rfl rfl fB A (Src.ofOwn (hO.evo0 H) (rO l)) (by omega) fun a2 c2 U ob2 O J hob16 => ?_; refine wan (aH (br1 ?_)); have A := O; rw [Nat.zero_add] at A; exact ⟨a2, c2, ob2, by rw [Nat.zero_add], by simpa using A, (I.app H hob16), (H.step J I.mem)⟩
theorem fU {w : World} {a : Option Addr} {n c : Nat} {es : List Int} {ob : Option Nat} (hO : OwnS w 21 1 a n c (i32v es) ob) (hl : es.length ≤ 1000) :
    Calls Tryz.prog 132 #[.slice a n c] w (Ret fun v w' => ∃ a' c' ob', v = .slice a' (mK es).length c' ∧ OwnS w' 135 2 a' (mK es).length c' (dC (mK es)) ob' ∧ Ge w ob' ∧ Evo [] w w') := by
  have hn : n = es.length := by have := hO.length; simp at this; omega
  subst hn; have hpl := FW es; refine aT (N := 26) Tryz.func132 rfl rfl rfl ?_; refine csr (wan (csr (wan (aI (csr (wan (bC ?_))))))); refine cN (α := SpG) (⟨0, none, 0, none⟩) (fun x => [(3, .slice x.sa x.k x.sc), (4, .int .i64 ((2 * x.k : Nat) : Int))]) [(0, _), (2, _)] (fun x wr => Evo [] w wr ∧ (x.k ≤ (mK es).length ∧ SpI w wr x.k ((mK es).take x.k) x.sa x.sc x.so)) (fun x => (mK es).length - x.k) ⟨rfl, rfl, trivial⟩ ⟨rfl, rfl, trivial⟩ ⟨(Evo.refl [] w), ⟨Nat.zero_le _, by simp, OwnS.nil _ _ _, Ge.nil _⟩⟩ ?_; rintro ⟨k, sa, sc, so⟩ wr1 ⟨L, ⟨hk, hkl, hown, hge⟩⟩; show CW _ _ _ _ [(3, .slice sa k sc), (4, .int .i64 ((2 * k : Nat) : Int)), (0, _), (2, _)] _
  try dsimp only at hk hkl hown hge
  refine aI (csr (aB ?_)); refine aC (aK rfl rfl (by omega) (by omega)) ?_; refine aB (aC (bD rfl Tryz.underlying217 rfl) ?_); refine aC (cP rfl rfl) ?_; refine wnn (bA rfl (fun O => ?_) (fun O => ?_))
  ·have h0 : 2 * k < es.length := by omega
   have h1 : 2 * k + 1 < es.length := by omega
   have hk' : k < (mK es).length := by omega
   obtain ⟨g0, hg0, ha0, U⟩ := NG hO h0; obtain ⟨g1, hg1, ha1, V⟩ := NG hO h1; refine aL (aA (aI (bC ?_))); refine eX (fun w0 w' => Evo so.toList w0 w') (by kernel_rfl) (fun w3 M => ?_); have E := L.then M; refine aet 0 rfl (fun _ hS => aY rfl) (Evo.refl so.toList w3) ?_; refine aet 1 rfl (fun _ hS => aY rfl) (Evo.refl so.toList w3) ?_; refine aet 2 rfl (fun _ hS => aY rfl) (Evo.refl so.toList w3) ?_; refine aet 3 rfl (fun _ hS => fK (n := 2 * k) rfl (by rfl) ha0 xT h0) (Evo.refl so.toList w3) ?_; refine aet 4 rfl (fun _ hS => aQ rfl cL (((E.step hS (hge.mem))).cell U (by simp))) (Evo.refl so.toList w3) ?_; refine aet 5 rfl (fun _ hS => aY rfl) (Evo.refl so.toList w3) ?_; refine aet 6 rfl (fun _ hS => aY rfl) (Evo.refl so.toList w3) ?_; refine aet 7 rfl (fun _ hS => aK rfl rfl (by omega) (by omega)) (Evo.refl so.toList w3) ?_; refine aet 8 rfl (fun _ hS => fK (n := 2 * k + 1) rfl (by rfl) ha1 xT h1) (Evo.refl so.toList w3) ?_; refine aet 9 rfl (fun _ hS => aQ rfl cL (((E.step hS (hge.mem))).cell V (by simp))) (Evo.refl so.toList w3) ?_
   refine aet 10 rfl (fun _ hS => cA (vs := [(0, _), (1, _)]) jK rfl (cells := [_, _]) rfl) (Evo.refl so.toList w3) ?_; refine bS [11] (by kernel_rfl) rfl ⟨?_, trivial⟩; refine bY rfl ?_; refine bL (vs := [_]) rfl fZ rfl rfl rfl rfl fun b7 w8 W a1 A => ?_; have H := (Evo.refl so.toList w3).then A; refine aP (bN (.inl H) ?_); refine bS [12] (by kernel_rfl) rfl ⟨?_, trivial⟩; refine bY rfl ?_; refine cT rfl rfl rfl rfl fB ((hown.evo0 M).evo0 A) (Src.ofOwn W ⟨by first | rfl | assumption, by first | rfl | assumption, trivial⟩) (by omega) fun a2 c2 a3 ob2 a0 I hob24 => ?_; have J := H.step I (fun y hy => .inl hy); refine aP (bN (.inl J) ?_); refine aet 13 rfl (fun _ hS => dU rfl) J ?_; refine cV (by kernel_rfl) (aO (aA ?_)); refine aF (aB ?_); refine aC (aK rfl rfl (by omega) (by omega)) ?_; refine bR (aP (aW ?_)); refine ⟨⟨k + 1, a2, c2, ob2⟩, ?_, ⟨rfl, rfl, trivial⟩, ⟨rfl, rfl, trivial⟩, ((E.then A).step I hge.mem), ?_⟩
   · (try dsimp only); omega
   try dsimp only
   refine ⟨hk', ⟨by rw [List.length_take]; omega, ?_, (hge.app (E.then A) hob24)⟩⟩
   rw [List.take_add_one, List.getElem?_eq_getElem hk', FX hk' h0 h1, Option.toList_some, pQ]; exact a0
  refine cJ (bH (bH (cI (aA ?_)))); refine csr (aB (wan (aH (br1 ?_))))
  obtain rfl : k = (mK es).length := by omega
  rw [List.take_length] at hown; exact ⟨sa, sc, so, rfl, hown, hge, L⟩
open Go.Shelf Go.Lib Go.Sort in
section
def cl (z : Int) : Int := max 0 (min z 1114111)
def JP (g : Int × Int) : List Value := PC (cl g.1, cl g.2)
def cmC (x y : Int × Int) : Int := cl x.1 - cl y.1
theorem WM {z : Int} (h0 : 0 ≤ z) (h1 : z ≤ 1114111) : cl z = z := by unfold cl; omega
theorem cl_b (z : Int) : 0 ≤ cl z ∧ cl z ≤ 1114111 := by unfold cl; omega
set_option maxHeartbeats 1000000 in
theorem clos_ok (x y : Int × Int) (W : World) : Calls Tryz.prog 166 #[.agg (JP x).toArray, .agg (JP y).toArray] W fun e w' => e = .returned (.int .i64 (cmC x y)) ∧ ∃ q os', w' = Sort.grow (W.drewN q) os' := by
  have hx := cl_b x.1
  have hy := cl_b y.1
  unfold JP PC cmC
  generalize cl x.1 = p at *
  generalize cl y.1 = q at *
  generalize cl x.2 = p' at *
  generalize cl y.2 = q' at *
  show Calls Tryz.prog 166 #[.agg #[.int .i32 p, .int .i32 p'], .agg #[.int .i32 q, .int .i32 q']] W _
  go_enter Tryz.func166, Tryz.ntmps166
  go_wp2
  go_ret
  refine ⟨?_, 0, _, by rw [Sort.alloc_eq_grow, Sort.alloc_eq_grow, Sort.grow_grow]; rfl⟩
  rfl
end
theorem clP_of {l : List (Int × Int)} (h : Vr l) : l.map (fun g => (cl g.1, cl g.2)) = l := by
  conv => rhs; rw [← List.map_id l]
  refine List.map_congr_left fun g hg => ?_
  have := h g hg
  rw [WM (by omega) (by omega), WM (by omega) (by omega)]; rfl
theorem DF (l : List (Int × Int)) : Sort.flatK JP 2 l.toArray = (dC (l.map fun g => (cl g.1, cl g.2))).toArray := by
  rw [← tT]
  unfold Sort.flatK
  apply Array.ext
  · simp
  · intro t h1 h2
    have h3 : t < l.length * 2 := by simpa using h1
    have h5 : t / 2 < l.length := by omega
    simp [h5]
    rfl
theorem UH {l m : List (Int × Int)} (h : m.Perm l) (hv : Vr l) : Vr m := fun g hg => hv g (h.mem_iff.1 hg)
theorem VO (x y : Int × Int) : Go.Proofs.ltOf cmC x y = decide (cl x.1 < cl y.1) := by unfold Go.Proofs.ltOf cmC; exact decide_eq_decide.2 (by omega)
theorem swo_cm : Sort.SWO (Go.Proofs.ltOf cmC) where
  irrefl x := by rw [VO]; simp
  trans x y z h1 h2 := by rw [VO] at *; simp at *; omega
  ntrans x y z h1 h2 := by rw [VO] at *; simp at *; omega
theorem sortR_ok {w : World} {a : Option Addr} {c : Nat} {l : List (Int × Int)} {ob : Option Nat} (hO : OwnS w 135 2 a l.length c (dC l) ob) (hv : Vr l) (hl : l.length ≤ 1000000) :
    Calls Tryz.prog 165 #[.slice a l.length c, .func (.func 166) #[] #[]] w (Ret fun v w' => v = .tuple #[] ∧ ∃ m, m.Perm l ∧ (∀ i j (hij : i < j) (hj : j < m.length), m[i].1 ≤ m[j].1) ∧ OwnS w' 135 2 a l.length c (dC m) ob ∧ Evo ob.toList w w') := by
  rcases own_rz hO with ⟨rfl, hn, rfl, rfl⟩ | ⟨g, rfl, rfl⟩
  · refine (Go.Proofs.AnyF.slices_SortFunc_none { DW with } none c (.func (.func 166) #[] #[]) w).mono ?_
    rintro e w' ⟨rfl, rfl⟩
    exact ⟨_, rfl, rfl, [], .refl _, (fun i j hij hj => by cases hj), hO, Evo.refl _ _⟩
  · have eg : ∀ args w, (callFunc 166 args).run Tryz.prog w = .ok (.enter 166 args) w := enters_of Tryz.func166 (by kernel_rfl) rfl
    have hH : Sort.HoldsK JP 2 w g 0 l.toArray := by
      have := SK hO
      unfold Sort.HoldsK at *
      rw [DF, clP_of hv]; rw [tT] at this; exact this
    have hcon := Go.Proofs.AnyQ.slices_SortFunc DW 2 Tryz.isAgg135 Tryz.sizeOf135 JP (fun _ => rfl) (fun x v hv => by simp [JP, PC] at hv; rcases hv with rfl | rfl <;> rfl) cmC swo_cm 166 #[] g 0 c l.toArray w eg (fun _ _ _ _ x y => clos_ok x y _) hH hO.lt (by simp; omega)
    refine Calls.mono hcon ?_
    rintro e w' ⟨rfl, d', q, os, hp, hs, rfl⟩
    obtain ⟨h1, h2, h3⟩ := hp
    have hperm : d'.toList.Perm l := by
      have e1 : d'.extract 0 l.toArray.size = d' := by rw [← h1, Array.extract_size]
      have e2 : l.toArray.extract 0 l.toArray.size = l.toArray := Array.extract_size
      rw [e1, e2] at h3
      exact h3
    have hvm := UH hperm hv
    have hlen : d'.toList.length = l.length := by simpa using h1
    refine ⟨_, rfl, rfl, d'.toList, hperm, fun i j hij hj => ?_, ?_, ?_⟩
    · have hjs : j < d'.size := by simpa using hj
      have h5 := hs i j (Nat.zero_le _) hij (by rw [← h1]; exact hjs)
      rw [VO, decide_eq_false_iff_not] at h5
      have h6 := hvm _ (List.getElem_mem hj)
      have h7 := hvm _ (List.getElem_mem (show i < d'.toList.length by omega))
      have e1 : d'[j]! = d'.toList[j] := by rw [getElem!_pos d' j hjs]; simp
      have e2 : d'[i]! = d'.toList[i] := by rw [getElem!_pos d' i (by omega)]; simp
      rw [e1, e2, WM (by omega) (by omega), WM (by omega) (by omega)] at h5
      omega
    · have h8 := YA hO (ds := dC d'.toList) (by rw [iW, hlen]) q os
      have e3 : Sort.flatK JP 2 d' = (dC d'.toList).toArray := by
        have := DF d'.toList
        rw [clP_of hvm] at this
        simpa using this
      show OwnS (Sort.grow (Sort.putRow id (Sort.ahead w q) g 0 (Sort.flatK JP 2 d')) os) _ _ _ _ _ _ _
      rw [e3]
      exact h8
    · exact evo_rowK w g q _ os
theorem LP : cX Tryz.prog 165 := ⟨_, Tryz.func165, by kernel_rfl, by kernel_rfl⟩
structure MgP (m : List (Int × Int)) (k : Nat) (o : List (Int × Int)) : Prop where
  hk : k ≤ m.length
  can : uZ o
  eq : ∀ c, InR c o ↔ InR c (m.take k)
  le : ∀ g, g ∈ o → ∀ i (h : i < m.length), k ≤ i → g.1 ≤ m[i].1
  len : o.length ≤ k
theorem mg_start (m : List (Int × Int)) : MgP m 0 [] := ⟨Nat.zero_le _, trivial, fun c => by simp, (fun g h => by cases h), Nat.le_refl _⟩
theorem NX {m : List (Int × Int)} {k : Nat} (h : k < m.length) (c : Int) : InR c (m.take (k + 1)) ↔ InR c (m.take k) ∨ (m[k].1 ≤ c ∧ c ≤ m[k].2) := by
  rw [List.take_add_one, List.getElem?_eq_getElem h, Option.toList_some, oC, lW]
section
variable {m : List (Int × Int)} {k : Nat} {o : List (Int × Int)}
theorem mg_app (h : MgP m k o) (hk : k < m.length) (hv : Vr m) (hs : ∀ i j (hij : i < j) (hj : j < m.length), m[i].1 ≤ m[j].1) (ho : o = [] ∨ ∃ o' g, o = o' ++ [g] ∧ ¬ m[k].1 ≤ g.2 + 1) : MgP m (k + 1) (o ++ [m[k]]) := by
  have hx := hv _ (List.getElem_mem hk)
  refine ⟨hk, ?_, fun c => ?_, fun g hg i hi hki => ?_, by rw [List.length_append]; have := h.len; simp; omega⟩
  · rcases ho with rfl | ⟨o', g, rfl, hn⟩
    · exact canR_one hx.1 hx.2.1 hx.2.2
    · exact ((PQ h.can (h.le g (by simp) k hk (Nat.le_refl _)) hx.2.1 hx.2.2).2 hn).1
  · rw [oC, lW, NX hk, h.eq]
  · rcases List.mem_append.1 hg with hg | hg
    · exact h.le g hg i hi (by omega)
    · rw [List.mem_singleton.1 hg]; exact hs k i (by omega) hi
theorem mg_ext {o' : List (Int × Int)} {g : Int × Int} (h : MgP m k (o' ++ [g])) (hk : k < m.length) (hv : Vr m) (hn : m[k].1 ≤ g.2 + 1) : MgP m (k + 1) (o' ++ [(g.1, max g.2 m[k].2)]) := by
  have hx := hv _ (List.getElem_mem hk)
  have h1 := (PQ h.can (h.le g (by simp) k hk (Nat.le_refl _)) hx.2.1 hx.2.2).1 hn
  refine ⟨hk, h1.1, fun c => by rw [h1.2, NX hk, h.eq], fun g' hg i hi hki => ?_, by have := h.len; simp at this ⊢; omega⟩
  rcases List.mem_append.1 hg with hg | hg
  · exact h.le g' (by simp [hg]) i hi (by omega)
  · rw [List.mem_singleton.1 hg]; exact h.le g (by simp) i hi (by omega)
theorem mg_end (h : MgP m k o) (hk : m.length ≤ k) {l : List (Int × Int)} (hp : m.Perm l) {S : Int → Prop} (hS : ∀ c, InR c l ↔ S c) : o = kI S := by
  refine (DK h.can fun c => ?_).symm
  rw [h.eq, List.take_of_length_le hk, NY hp, hS]
end
theorem SA (o : List (Int × Int)) (g : Int × Int) (z : Int) (j : Nat) (hj : j = 0 + o.length * 2 + 1) : (dC (o ++ [g])).set j (.int .i32 z) = dC (o ++ [(g.1, z)]) := by
  subst hj
  obtain ⟨a, b⟩ := g
  rw [pQ, pQ, List.set_append_right _ _ (by rw [iW]; omega), iW, show 0 + o.length * 2 + 1 - o.length * 2 = 1 by omega]
  rfl
theorem snoc_of {l : List (Int × Int)} (h : 0 < l.length) : ∃ o g, l = o ++ [g] ∧ o.length = l.length - 1 := by
  rcases List.eq_nil_or_concat l with rfl | ⟨o, g, rfl⟩
  · cases h
  · exact ⟨o, g, by simp, by simp⟩
structure MgG where
  k : Nat
  n : Nat
  o : List (Int × Int)
  sa : Option Addr
  sc : Nat
  so : Option Nat
structure MgI (w wr : World) (m : List (Int × Int)) (a1 : Option Addr) (c1 : Nat) (ob1 : Option Nat) (x : MgG) : Prop where
  p : MgP m x.k x.o
  cl : OwnS wr 135 2 a1 m.length c1 (dC m) ob1
  own : OwnS wr 135 2 x.sa x.n x.sc (dC x.o) x.so
  ge : Ge w x.so
  gc : Ge w ob1
  ap : Apart ob1 x.so
theorem CJ {a b : Int} : (if a < b then b else a) = max a b := by omega
def RsOut (w w' : World) (v : Value) (S : Int → Prop) (n : Nat) : Prop := ∃ a c ob, v = .slice a (kI S).length c ∧ OwnS w' 135 2 a (kI S).length c (dC (kI S)) ob ∧ Ge w ob ∧ (kI S).length ≤ n ∧ uZ (kI S) ∧ (∀ c, InR c (kI S) ↔ S c) ∧ Evo [] w w'
theorem yH {w : World} {a : Option Addr} {c : Nat} {l : List (Int × Int)} {ob : Option Nat} (hO : OwnS w 135 2 a l.length c (dC l) ob) (hv : Vr l) (hl : l.length ≤ 1000000) {S : Int → Prop} (hS : ∀ c, InR c l ↔ S c) :
    Calls Tryz.prog 154 #[.slice a l.length c] w (Ret fun v w' => RsOut w w' v S l.length) := by
  refine aT (N := 53) Tryz.func154 rfl rfl rfl ?_; refine csr (wan (csr (aB (aJ (vs := [_]) uH rfl (HL hO hl) rfl ?_)))); rintro _ w1 ⟨a1, c1, ob1, rfl, d4, hg1, d5⟩; refine wan (csr (aB (aJ (vs := [_, _]) LP rfl (sortR_ok d4 hv hl) rfl ?_))); rintro _ w5 ⟨rfl, m, hpm, hsm, c3, d6⟩; have hml := hpm.length_eq; have hvm := UH hpm hv; rw [← hml] at c3; refine wnn (csr (wan (aI (csr (aB (aC (bD rfl Tryz.underlying68 rfl) ?_)))))); refine aB (wnn (bC (cN (α := MgG) (⟨0, 0, [], none, 0, none⟩) (fun x => [(3, .slice x.sa x.n x.sc), (13, .int .i64 (x.k : Nat))]) [(2, _), (11, _), (12, _)] (fun x wr => Evo [] w wr ∧ (MgI w wr m a1 c1 ob1 x)) (fun x => m.length - x.k) ⟨rfl, rfl, trivial⟩ ⟨rfl, rfl, rfl, trivial⟩ ⟨(((Evo.refl [] w).then d5).step d6 (Ge.fresh (Evo.refl [] w) hg1).mem), ⟨mg_start m, c3, OwnS.nil _ _ _, Ge.nil _, hg1, Apart.nil _⟩⟩ ?_))); rintro ⟨k, n, o, sa, sc, so⟩ wr8 ⟨b4, ⟨hp, hcl, hown, hge, hgc, hap⟩⟩; show CW _ _ _ _ [(3, .slice sa n sc), (13, .int .i64 (k : Nat)), (2, _), (11, _), (12, _)] _
  try dsimp only at hp hcl hown hge hgc hap
  have V := Evo.refl ([]) wr8; have hon := rS hown; have hpl := hp.len; have hpk := hp.hk
  try dsimp only at hpl hpk
  refine csr (aC (cP rfl rfl) ?_); refine wnn (aI (bA rfl (fun c5 => ?_) (fun c5 => ?_)))
  ·have hk' : k < m.length := by omega
   have hvk := hvm _ (List.getElem_mem hk'); obtain ⟨g1, hg1', ha1, d7⟩ := rA hcl hk'; refine aL (aA (aI (bC (csr ?_)))); refine aC (fK (n := k) rfl rfl ha1 eT (by omega)) ?_; refine aC (cY rfl jX fC (vs := [_, _]) rfl (d7.evo V (by simp))) ?_; refine cF rfl mD fun e1 e2 c6 L M => ?_; have b5 := Apart.new (Lt.own hown) L; refine aZ rfl rfl fC c6 rfl rfl ⟨by first | rfl | assumption, by first | rfl | assumption, trivial⟩ fun e3 H O => ?_; have W := (b4.then M).step O (Ge.new b4 L).mem1; have b6 := (V.then M).step O (Ge.new V L).mem1; have a0 := (hown.evo0 M).evo O b5.own1; have a3 := (hcl.evo0 M).evo O (Apart.new (Lt.own hcl) L).own1
   try simp only [cG, Nat.reduceAdd] at H
   refine wnn (aI (csr (aB (aC (bD rfl Tryz.underlying68 rfl) ?_)))); refine wan (aI ?_); refine eP (by kernel_rfl) (by kernel_rfl) ?_; refine bJ (fun _ A => aY rfl) ?_; refine bJ (fun _ A => gF rfl rfl) ?_; refine bJ (fun _ A => aY rfl) ?_; refine kN (t := 21) rfl (fun c7 => ?_) (fun c7 => ?_)
   ·have h0 : 0 < o.length := by omega
    obtain ⟨o', q, hoq, hol⟩ := snoc_of h0; subst hoq
    have hol2 : (o' ++ [q]).length = o'.length + 1 := by simp
    have hqb := yQ (x := q) hp.can; obtain ⟨gq, hgq, haq, hcq⟩ := rA hown (i := o'.length) (by omega); rw [List.getElem_concat_length (h := rfl)] at hcq; refine qlg ?_; refine bJ (fun _ A => aD rfl fA) ?_; refine qlg ?_; refine bJ (fun _ A => aQ rfl cL (aV (A.blk0 H) rfl)) ?_; refine qlg ?_; refine bJ (fun _ A => aY rfl) ?_; refine qlg ?_; refine bJ (fun _ A => aY rfl) ?_; refine qlg ?_; refine bJ (fun _ A => dG rfl rfl (by omega) (by omega)) ?_; refine qlg ?_; refine bJ (fun _ A => eI (n := o'.length) rfl rfl haq (by omega) eT (by omega)) ?_; refine qlg ?_; refine bJ (fun _ A => aD rfl dY) ?_; refine qlg ?_; refine bJ (fun _ A => aQ rfl cL (((b6.then A)).cell (hcq 1 _ rfl) (by simp))) ?_; refine qlg ?_; refine bJ (fun _ A => iX rfl rfl (by omega) (by omega)) ?_; refine qlg ?_; refine bJ (fun _ A => eH rfl rfl) ?_; refine bJ (fun _ A => dX rfl rfl) ?_; refine eV (fun c8 A => aA ?_); refine bA rfl (fun a4 => ?_) (fun a4 => ?_)
    ·refine aI ?_; refine eX (fun w0 w' => Evo so.toList w0 w') (by kernel_rfl) (fun E I => ?_); have a5 := (a0.evo0 A).evo0 I; refine aet 0 rfl (fun _ hS => aY rfl) (Evo.refl so.toList E) ?_; refine aet 1 rfl (fun _ hS => aY rfl) (Evo.refl so.toList E) ?_; refine aet 2 rfl (fun _ hS => dG rfl rfl (by omega) (by omega)) (Evo.refl so.toList E) ?_; refine aet 3 rfl (fun _ hS => aY rfl) (Evo.refl so.toList E) ?_; refine aet 4 rfl (fun _ hS => aY rfl) (Evo.refl so.toList E) ?_; refine aet 5 rfl (fun _ hS => dG rfl rfl (by omega) (by omega)) (Evo.refl so.toList E) ?_; refine aet 6 rfl (fun _ hS => eI (n := o'.length) rfl rfl haq (by omega) eT (by omega)) (Evo.refl so.toList E) ?_; refine aet 7 rfl (fun _ hS => aD rfl dY) (Evo.refl so.toList E) ?_; refine aet 9 rfl (fun _ hS => aD rfl dY) (Evo.refl so.toList E) ?_; refine aet 10 rfl (fun _ hS => aQ rfl cL (aV (hS.blk (I.blk0 (A.blk0 H)) (b5.symm.nmem)) rfl)) (Evo.refl so.toList E) ?_; refine bS [8] (by kernel_rfl) rfl ⟨?_, trivial⟩; refine bY rfl ?_
     refine aC (aQ rfl cL ((((b6.then A).then I)).cell (hcq 1 _ rfl) (by simp))) ?_; refine aP (bN (.inl (Evo.refl so.toList E)) ?_); refine bS [11] (by kernel_rfl) rfl ⟨?_, trivial⟩; refine bY rfl ?_; refine aC (JK rfl rfl) ?_; refine aP (bN (.inl (Evo.refl so.toList E)) ?_); refine aet 12 rfl (fun _ hS => eI (n := o'.length) rfl rfl haq (by omega) eT (by omega)) (Evo.refl so.toList E) ?_; refine aet 13 rfl (fun _ hS => aD rfl dY) (Evo.refl so.toList E) ?_; refine bS [14] (by kernel_rfl) rfl ⟨?_, trivial⟩; refine bY rfl ?_
     obtain ⟨g54, cur45, hg46, hx47, hcu48, hcs49, -⟩ := a5.at (by omega)
     rw [haq] at hx47; cases hx47
     refine gS rfl rfl (rfl) gP hcu48 (a5.inb hcs49 (k := o'.length) (j := 1) (by omega) (by omega) (by omega)) fun e4 c9 J => ?_; replace J := lF hg46 J; refine aP (bN (.inl ((Evo.refl so.toList E).step J (fun y hy => .inl hy))) ?_); refine cV (by kernel_rfl) (aA ?_); refine cJ (bH (cI (aA ?_))); refine aF ?_; refine aC (aK rfl rfl (by omega) (by omega)) ?_; refine aB (aP (aW ?_)); refine ⟨⟨k + 1, n, o' ++ [(q.1, max q.2 m[k].2)], sa, sc, so⟩, ?_, ⟨rfl, rfl, trivial⟩, ⟨rfl, rfl, rfl, trivial⟩, (((W.then A).then I).step J hge.mem), ?_⟩
     · (try dsimp only); omega
     try dsimp only
     have c4 := (a5.set' hg46 hcu48 c9); rw [SA _ _ _ _ rfl, CJ] at c4; exact ⟨mg_ext hp hk' hvm a4, (((a3.evo0 A).evo0 I).evo J hap.own), c4, hge, hgc, hap⟩
    refine aL (aA (aF (aB (aC (bT rfl jX fC (A.blk0 H) rfl) (bL (vs := [_]) rfl fZ rfl rfl rfl rfl fun e5 e6 d0 d8 a6 => ?_))))); have b7 := (W.then A).then a6; have b8 := (a3.evo0 A).evo0 a6
    refine cT rfl rfl rfl rfl fB ((a0.evo0 A).evo0 a6) (Src.ofOwn d0 ⟨by first | rfl | assumption, by first | rfl | assumption, trivial⟩) (by have := hp.len; omega) fun a2 c2 e7 ob2 b9 c0 hob81 => ?_
    refine bR (aP (aO (aA (aF ?_)))); refine aC (aK rfl rfl (by omega) (by omega)) ?_; refine aB (aP (aW ?_)); refine ⟨⟨k + 1, n + 1, (o' ++ [q]) ++ [m[k]], a2, c2, ob2⟩, ?_, ⟨rfl, rfl, trivial⟩, ⟨rfl, rfl, rfl, trivial⟩, (b7.step c0 hge.mem), ?_⟩
    · (try dsimp only); omega
    try dsimp only
    refine ⟨mg_app hp hk' hvm hsm (.inr ⟨o', q, rfl, a4⟩), (b8.evo c0 hap.own), ?_, (hge.app b7 hob81), hgc, (hap.app (Lt.own b8) hob81)⟩
    rw [jR]; exact b9
   refine qln ?_; refine qln ?_; refine qln ?_; refine qln ?_; refine qln ?_; refine qln ?_; refine qln ?_; refine qln ?_; refine qln ?_; refine qln ?_; refine bJ (fun _ A => eU rfl rfl) ?_; refine eV (fun c8 A => aA ?_); refine cM rfl ?_; refine aL (aA (aF (aB (aC (bT rfl jX fC (A.blk0 H) rfl) (bL (vs := [_]) rfl fZ rfl rfl rfl rfl fun e8 e9 d3 d9 U => ?_))))); have a7 := (W.then A).then U; have a8 := (a3.evo0 A).evo0 U
   refine cT rfl rfl rfl rfl fB ((a0.evo0 A).evo0 U) (Src.ofOwn d3 ⟨by first | rfl | assumption, by first | rfl | assumption, trivial⟩) (by have := hp.len; omega) fun a2 c2 e0 ob2 b9 a9 hob117 => ?_
   refine bR (aP (aO (aA (aF ?_)))); refine aC (aK rfl rfl (by omega) (by omega)) ?_; refine aB (aP (aW ?_)); refine ⟨⟨k + 1, n + 1, o ++ [m[k]], a2, c2, ob2⟩, ?_, ⟨rfl, rfl, trivial⟩, ⟨rfl, rfl, rfl, trivial⟩, (a7.step a9 hge.mem), ?_⟩
   · (try dsimp only); omega
   try dsimp only
   refine ⟨mg_app hp hk' hvm hsm (.inl (List.length_eq_zero_iff.1 (by omega))), (a8.evo a9 hap.own), ?_, (hge.app a7 hob117), hgc, (hap.app (Lt.own a8) hob117)⟩
   rw [jR]; exact b9
  refine cJ (bH (bH (cI (aA ?_)))); refine csr (aB (wan (aH (br1 ?_)))); have e := mg_end hp (by omega) hpm hS; subst e; subst hon; exact ⟨sa, sc, so, rfl, hown, hge, by omega, hp.can, fun c => by rw [hp.eq, List.take_of_length_le (by omega), NY hpm, hS], b4⟩
theorem sN : cX Tryz.prog 154 := ⟨_, Tryz.func154, by kernel_rfl, by kernel_rfl⟩
structure NgG where
  k : Nat
  n : Nat
  o : List (Int × Int)
  nx : Int
  sa : Option Addr
  sc : Nat
  so : Option Nat
structure NgI (w wr : World) (m : List (Int × Int)) (a1 : Option Addr) (c1 : Nat) (ob1 : Option Nat) (x : NgG) : Prop where
  hk : x.k ≤ m.length
  eq : x.o ++ tS x.nx (m.drop x.k) = tS 0 m
  b0 : 0 ≤ x.nx
  b1 : x.nx ≤ 1114112
  len : x.n ≤ x.k
  cl : OwnS wr 135 2 a1 m.length c1 (dC m) ob1
  own : OwnS wr 135 2 x.sa x.n x.sc (dC x.o) x.so
  ge : Ge w x.so
  gc : Ge w ob1
  ap : Apart ob1 x.so
theorem YR (b : Int) {m : List (Int × Int)} {k : Nat} (h : k < m.length) : tS b (m.drop k) = (if b < m[k].1 then [(b, m[k].1 - 1)] else []) ++ tS (m[k].2 + 1) (m.drop (k + 1)) := by
  rw [List.drop_eq_getElem_cons h, tS]
theorem WP {m : List (Int × Int)} (h : uZ m) : ∀ {k : Nat} (hk : k < m.length), 0 ≤ m[k].1 ∧ m[k].1 ≤ m[k].2 ∧ m[k].2 ≤ 1114111 := by
  have key : ∀ {m : List (Int × Int)} {b : Int}, 0 ≤ b → jC b m → ∀ {k : Nat} (hk : k < m.length), 0 ≤ m[k].1 ∧ m[k].1 ≤ m[k].2 ∧ m[k].2 ≤ 1114111 := by
    intro m
    induction m with
    | nil => intro b _ _ k hk; cases hk
    | cons g m ih =>
      intro b hb hc k hk
      rw [jC] at hc
      cases k with
      | zero => exact ⟨by show 0 ≤ g.1; omega, hc.2.1, hc.2.2.1⟩
      | succ k => exact ih (b := g.2 + 2) (by omega) hc.2.2.2 (by simpa using hk)
  intro k hk
  exact key (Int.le_refl _) h hk
theorem yO {m : List (Int × Int)} (h : uZ m) : Vr m := fun g hg => by
  obtain ⟨k, hk, rfl⟩ := List.getElem_of_mem hg
  exact WP h hk
theorem GM {m : List (Int × Int)} {S : Int → Prop} (h : uZ m) (hS : ∀ c, InR c m ↔ S c) : uZ (tS 0 m) ∧ (∀ c, InR c (tS 0 m) ↔ yF S c) ∧ tS 0 m = kI (yF S) := by
  obtain ⟨h1, h2⟩ := JF (b := 0) (d := 0) (Int.le_refl _) (Int.le_refl _) h
  have h3 : ∀ c, InR c (tS 0 m) ↔ yF S c := fun c => by rw [h2, hS]; exact Iff.rfl
  exact ⟨h1, h3, (DK h1 h3).symm⟩
theorem mQ {w : World} {a : Option Addr} {c : Nat} {l : List (Int × Int)} {ob : Option Nat} (hO : OwnS w 135 2 a l.length c (dC l) ob) (hv : Vr l) (hl : l.length ≤ 1000000) {S : Int → Prop} (hS : ∀ c, InR c l ↔ S c) :
    Calls Tryz.prog 150 #[.slice a l.length c] w (Ret fun v w' => RsOut w w' v (yF S) (l.length + 1)) := by
  refine aT (N := 38) Tryz.func150 rfl rfl rfl ?_; refine csr (wan (csr (wan (csr (wan (aI (csr ?_))))))); refine aB (aJ (vs := [_]) sN rfl (yH hO hv hl hS) rfl ?_); rintro _ w1 ⟨a1, c1, ob1, rfl, b7, hg1, hml, hcan, heqS, b9⟩
  generalize hm : kI S = m at *
  refine aC (bD rfl Tryz.underlying68 rfl) ?_; refine aB (wnn (bC ?_))
  refine cN (α := NgG) (⟨0, 0, [], 0, none, 0, none⟩) (fun x => [(3, .slice x.sa x.n x.sc), (10, .int .i64 (x.k : Nat)), (4, .int .i32 x.nx)]) [(2, _), (8, _), (9, _)] (fun x wr => Evo [] w wr ∧ (NgI w wr m a1 c1 ob1 x)) (fun x => m.length - x.k) ⟨rfl, rfl, rfl, trivial⟩ ⟨rfl, rfl, rfl, trivial⟩ ⟨((Evo.refl [] w).then b9), ⟨Nat.zero_le _, rfl, Int.le_refl _, (by show (0 : Int) ≤ 1114112; omega), Nat.le_refl _, b7, OwnS.nil _ _ _, Ge.nil _, hg1, Apart.nil _⟩⟩ ?_
  rintro ⟨k, n, o, nx, sa, sc, so⟩ wr5 ⟨J, ⟨hk, heq, hb0, hb1, hlen, hcl, hown, hge, hgc, hap⟩⟩; show CW _ _ _ _ [(3, .slice sa n sc), (10, .int .i64 (k : Nat)), (4, .int .i32 nx), (2, _), (8, _), (9, _)] _
  try dsimp only at hk heq hb0 hb1 hlen hcl hown hge hgc hap
  refine csr (aC (cP rfl rfl) ?_); refine wnn (aI (bA rfl (fun a6 => ?_) (fun a6 => ?_)))
  ·have hk' : k < m.length := by omega
   have hmk := WP hcan hk'; obtain ⟨g1, hg1', ha1, c0⟩ := rA hcl hk'; have hgc0 := YR nx hk'; refine aL (aA (aI (bC (csr ?_)))); refine aC (fK (n := k) rfl rfl ha1 eT (by omega)) ?_; refine aC (cY rfl jX fC (vs := [_, _]) rfl (c0.evo (Evo.refl ([]) wr5) (by simp))) ?_; refine cF rfl mD fun b8 w9 a7 L M => ?_; have a3 := Apart.new (Lt.own hown) L; refine aZ rfl rfl fC a7 rfl rfl ⟨by first | rfl | assumption, by first | rfl | assumption, trivial⟩ fun c5 H O => ?_; have U := (J.then M).step O (Ge.new J L).mem1; have a4 := (hown.evo0 M).evo O a3.own1; have V := (hcl.evo0 M).evo O (Apart.new (Lt.own hcl) L).own1
   try simp only [cG, Nat.reduceAdd] at H
   refine wnn (aI (csr (wfl rfl fA rfl cL H rfl (aB (aC (gF rfl rfl) ?_))))); refine wnn (bA rfl (fun a8 => ?_) (fun a8 => ?_))
   ·refine aF (aB (aB (wfl rfl fA rfl cL H rfl ?_))); refine aC (TL rfl rfl (by omega) (by omega)) ?_; refine aC (cA (vs := [(0, _), (1, _)]) jK rfl (cells := [_, _]) rfl) ?_; refine bL (vs := [_]) rfl fZ rfl rfl rfl rfl fun c6 c7 a9 c3 E => ?_; refine cT rfl rfl rfl rfl fB (a4.evo0 E) (Src.ofOwn a9 ⟨by first | rfl | assumption, by first | rfl | assumption, trivial⟩) (by omega) fun a2 c2 c8 ob2 a5 W hob49 => ?_; refine wan (aF (wfl rfl dY rfl cL (W.blk (E.blk0 H) a3.symm.nmem) rfl ?_)); refine aC (iX rfl rfl (by omega) (by omega)) ?_; refine bR (aP (aO (aA (aF ?_)))); refine aC (aK rfl rfl (by omega) (by omega)) ?_; refine aB (aP (aW ?_)); refine ⟨⟨k + 1, n + 1, o ++ [(nx, m[k].1 - 1)], m[k].2 + 1, a2, c2, ob2⟩, ?_, ⟨rfl, rfl, rfl, trivial⟩, ⟨rfl, rfl, rfl, trivial⟩, ((U.then E).step W hge.mem), ?_⟩
    · (try dsimp only); omega
    try dsimp only
    refine ⟨hk', ?_, (by show 0 ≤ m[k].2 + 1; omega), (by show m[k].2 + 1 ≤ 1114112; omega), (by show n + 1 ≤ k + 1; omega), ((V.evo0 E).evo W hap.own), ?_, (hge.app (U.then E) hob49), hgc, (hap.app (Lt.own (V.evo0 E)) hob49)⟩
    · rw [← heq, hgc0, if_pos (by omega), List.append_assoc]
    · rw [pQ]; exact a5
   refine aL (aA (aF (wfl rfl dY rfl cL H rfl ?_))); refine aC (iX rfl rfl (by omega) (by omega)) ?_; refine bR (aP (aO (aA (aF ?_)))); refine aC (aK rfl rfl (by omega) (by omega)) ?_; refine aB (aP (aW ?_)); refine ⟨⟨k + 1, n, o, m[k].2 + 1, sa, sc, so⟩, ?_, ⟨rfl, rfl, rfl, trivial⟩, ⟨rfl, rfl, rfl, trivial⟩, U, ?_⟩
   · (try dsimp only); omega
   try dsimp only
   refine ⟨hk', ?_, (by show 0 ≤ m[k].2 + 1; omega), (by show m[k].2 + 1 ≤ 1114112; omega), (by show n ≤ k + 1; omega), V, a4, hge, hgc, hap⟩
   rw [← heq, hgc0, if_neg (by omega), List.nil_append]
  refine cJ (bH (bH (cI (aA ?_)))); refine aI (csr (aB (aC (eH rfl rfl) ?_))); refine wnn (bA rfl (fun b4 => ?_) (fun b4 => ?_))
  ·refine aF (aB (aB (aC (cA (vs := [(0, _), (1, _)]) jK rfl (cells := [_, _]) rfl) ?_))); refine bL (vs := [_]) rfl fZ rfl rfl rfl rfl fun c9 d0 b5 c4 a0 => ?_; refine cT rfl rfl rfl rfl fB (hown.evo0 a0) (Src.ofOwn b5 ⟨by first | rfl | assumption, by first | rfl | assumption, trivial⟩) (by omega) fun a2 c2 d3 ob2 a5 b6 hob78 => ?_; refine wan (csr (aB (wan (aH (br1 ?_))))); obtain ⟨h1, h2, h3⟩ := GM hcan heqS; rw [List.drop_eq_nil_of_le (by omega), tS, if_pos (by omega)] at heq; have A : OwnS _ _ 2 _ _ _ (dC o ++ dC [(nx, 1114111)]) _ := a5; rw [← jR, heq] at A; have I := rS A; rw [h3] at A I h1 h2
   exact ⟨a2, c2, ob2, by rw [I], by rw [← I]; exact A, (hge.app (J.then a0) hob78), by omega, h1, h2, ((J.then a0).step b6 hge.mem)⟩
  refine aL (aA (csr (aB (wan (aH (br1 ?_)))))); obtain ⟨h1, h2, h3⟩ := GM hcan heqS; rw [List.drop_eq_nil_of_le (by omega), tS, if_neg (by omega), List.append_nil] at heq; have A := hown; rw [heq] at A; have I := rS A; rw [h3] at A I h1 h2
  exact ⟨sa, sc, so, by rw [I], by rw [← I]; exact A, hge, by omega, h1, h2, J⟩
mutual
def OT : Rx → World → List Value → List Nat → Prop
  | .mk k r rs mn mx lz cp nm ks, w, vs, bs => ∃ (ra : Option Addr) (rc : Nat) (rb : Option Nat) (ka : Option Addr) (kc : Nat) (kb : Option Nat) (cs : List Value) (bk : List Nat),
    vs = [iv k, .int .i32 r, .slice ra rs.length rc, iv mn, iv mx, .bool lz, iv cp, .string nm, .slice ka ks.length kc] ∧ OwnS w 135 2 ra rs.length rc (dC rs) rb ∧ OwnS w 71 9 ka ks.length kc cs kb ∧ OTs ks w cs bk ∧
    bs = rb.toList ++ (kb.toList ++ bk) ∧ rs.length ≤ 1000000 ∧ nm.size ≤ 1000000 ∧ ks.length ≤ 1000000
def OTs : List Rx → World → List Value → List Nat → Prop
  | [], _, cs, bs => cs = [] ∧ bs = []
  | x :: l, w, cs, bs => ∃ (vs cs' : List Value) (b1 b2 : List Nat), cs = vs ++ cs' ∧ bs = b1 ++ b2 ∧ OT x w vs b1 ∧ OTs l w cs' b2
end
theorem IN {w : World} {e : TypeId} {sz : Nat} {a : Option Addr} {n c : Nat} {xs : List Value} {ob : Option Nat} (h : OwnS w e sz a n c xs ob) : ∀ b, b ∈ ob.toList → b < w.heap.size := fun b hb => by
  cases ob with
  | none => cases hb
  | some g => rw [List.mem_singleton.1 hb]; exact h.lt
mutual
theorem OT.evo : ∀ {x : Rx} {w w' : World} {vs : List Value} {bs X : List Nat}, OT x w vs bs → Evo X w w' → (∀ b, b ∈ bs → b ∉ X) → OT x w' vs bs
  | .mk k r rs mn mx lz cp nm ks, w, w', vs, bs, X, h, he, hx => by
    rw [OT] at h ⊢
    obtain ⟨ra, rc, rb, ka, kc, kb, cs, bk, h1, h2, h3, h4, rfl, h5⟩ := h
    exact ⟨ra, rc, rb, ka, kc, kb, cs, bk, h1, h2.evo he (fun g hg => hx g (by simp [hg])), h3.evo he (fun g hg => hx g (by simp [hg])), OTs.evo h4 he (fun b hb => hx b (by simp [hb])), rfl, h5⟩
theorem OTs.evo : ∀ {l : List Rx} {w w' : World} {cs : List Value} {bs X : List Nat}, OTs l w cs bs → Evo X w w' → (∀ b, b ∈ bs → b ∉ X) → OTs l w' cs bs
  | [], w, w', cs, bs, X, h, he, hx => by rw [OTs] at h ⊢; exact h
  | x :: l, w, w', cs, bs, X, h, he, hx => by
    rw [OTs] at h ⊢
    obtain ⟨vs, cs', b1, b2, h1, rfl, h3, h4⟩ := h
    exact ⟨vs, cs', b1, b2, h1, rfl, OT.evo h3 he (fun b hb => hx b (by simp [hb])), OTs.evo h4 he (fun b hb => hx b (by simp [hb]))⟩
end
mutual
theorem OT.lt : ∀ {x : Rx} {w : World} {vs : List Value} {bs : List Nat}, OT x w vs bs → ∀ b, b ∈ bs → b < w.heap.size
  | .mk k r rs mn mx lz cp nm ks, w, vs, bs, h => by
    rw [OT] at h
    obtain ⟨ra, rc, rb, ka, kc, kb, cs, bk, h1, h2, h3, h4, rfl, h5⟩ := h
    intro b hb
    rcases List.mem_append.1 hb with hb | hb
    · exact IN h2 b hb
    · rcases List.mem_append.1 hb with hb | hb
      · exact IN h3 b hb
      · exact OTs.lt h4 b hb
theorem OTs.lt : ∀ {l : List Rx} {w : World} {cs : List Value} {bs : List Nat}, OTs l w cs bs → ∀ b, b ∈ bs → b < w.heap.size
  | [], w, cs, bs, h => by rw [OTs] at h; rw [h.2]; exact fun b hb => by cases hb
  | x :: l, w, cs, bs, h => by
    rw [OTs] at h
    obtain ⟨vs, cs', b1, b2, h1, rfl, h3, h4⟩ := h
    intro b hb
    rcases List.mem_append.1 hb with hb | hb
    · exact OT.lt h3 b hb
    · exact OTs.lt h4 b hb
end
theorem OT.nine {x : Rx} {w : World} {vs : List Value} {bs : List Nat} (h : OT x w vs bs) : ∃ ra rc ka kc, vs = [iv x.kind, .int .i32 x.r, .slice ra x.ranges.length rc, iv x.min, iv x.max, .bool x.lazy, iv x.cap, .string x.name, .slice ka x.kids.length kc] := by
  cases x with
  | mk k r rs mn mx lz cp nm ks =>
    rw [OT] at h
    obtain ⟨ra, rc, rb, ka, kc, kb, cs, bk, h1, _⟩ := h
    exact ⟨ra, rc, ka, kc, h1⟩
theorem OT.len {x : Rx} {w : World} {vs : List Value} {bs : List Nat} (h : OT x w vs bs) : vs.length = 9 := by
  obtain ⟨ra, rc, ka, kc, rfl⟩ := h.nine; rfl
theorem OT.one {x : Rx} {w : World} {vs : List Value} {bs : List Nat} (h : OT x w vs bs) : AllOne vs := by
  obtain ⟨ra, rc, ka, kc, rfl⟩ := h.nine; exact ⟨rfl, rfl, rfl, rfl, rfl, rfl, rfl, rfl, rfl, trivial⟩
theorem DT : ∀ {l m : List Value}, AllOne l → AllOne m → AllOne (l ++ m)
  | [], m, _, h => h
  | v :: l, m, h, h2 => ⟨h.1, DT h.2 h2⟩
theorem OTs.len : ∀ {l : List Rx} {w : World} {cs : List Value} {bs : List Nat}, OTs l w cs bs → cs.length = l.length * 9
  | [], w, cs, bs, h => by rw [OTs] at h; rw [h.1]; rfl
  | x :: l, w, cs, bs, h => by
    rw [OTs] at h
    obtain ⟨vs, cs', b1, b2, rfl, rfl, h3, h4⟩ := h
    rw [List.length_append, h3.len, OTs.len h4, List.length_cons]; omega
theorem OTs.one : ∀ {l : List Rx} {w : World} {cs : List Value} {bs : List Nat}, OTs l w cs bs → AllOne cs
  | [], w, cs, bs, h => by rw [OTs] at h; rw [h.1]; trivial
  | x :: l, w, cs, bs, h => by
    rw [OTs] at h
    obtain ⟨vs, cs', b1, b2, rfl, rfl, h3, h4⟩ := h
    exact DT h3.one (OTs.one h4)
theorem OTs.nil (w : World) : OTs [] w [] [] := by rw [OTs]; exact ⟨rfl, rfl⟩
theorem OTs.single {x : Rx} {w : World} {vs : List Value} {bs : List Nat} (h : OT x w vs bs) : OTs [x] w vs bs := by
  rw [OTs]; exact ⟨vs, [], bs, [], by simp, by simp, h, OTs.nil w⟩
theorem OTs.app : ∀ {l m : List Rx} {w : World} {cs cs' : List Value} {bs bs' : List Nat}, OTs l w cs bs → OTs m w cs' bs' → OTs (l ++ m) w (cs ++ cs') (bs ++ bs')
  | [], m, w, cs, cs', bs, bs', h, h2 => by rw [OTs] at h; rw [h.1, h.2]; exact h2
  | x :: l, m, w, cs, cs', bs, bs', h, h2 => by
    rw [OTs] at h
    obtain ⟨vs, ct, b1, b2, rfl, rfl, h3, h4⟩ := h
    show OTs (x :: (l ++ m)) w _ _
    rw [OTs]
    exact ⟨vs, ct ++ cs', b1, b2 ++ bs', List.append_assoc .., List.append_assoc .., h3, OTs.app h4 h2⟩
theorem OTs.parts : ∀ {l m : List Rx} {w : World} {cs : List Value} {bs : List Nat}, OTs (l ++ m) w cs bs → ∃ c1 c2 b1 b2, cs = c1 ++ c2 ∧ bs = b1 ++ b2 ∧ OTs l w c1 b1 ∧ OTs m w c2 b2
  | [], m, w, cs, bs, h => ⟨[], cs, [], bs, rfl, rfl, OTs.nil w, h⟩
  | x :: l, m, w, cs, bs, h => by
    have h' : OTs (x :: (l ++ m)) w cs bs := h
    rw [OTs] at h'
    obtain ⟨vs, ct, b1, b2, rfl, rfl, h3, h4⟩ := h'
    obtain ⟨c1, c2, d1, d2, rfl, rfl, h5, h6⟩ := OTs.parts h4
    exact ⟨vs ++ c1, c2, b1 ++ d1, d2, (List.append_assoc ..).symm, (List.append_assoc ..).symm, by rw [OTs]; exact ⟨vs, c1, b1, d1, rfl, rfl, h3, h5⟩, h6⟩
theorem OTs.one' {x : Rx} {w : World} {cs : List Value} {bs : List Nat} (h : OTs [x] w cs bs) : OT x w cs bs := by
  rw [OTs] at h
  obtain ⟨vs, ct, b1, b2, rfl, rfl, h3, h4⟩ := h
  rw [OTs] at h4
  rw [h4.1, h4.2, List.append_nil, List.append_nil]; exact h3
structure Fr (w : World) (bs : List Nat) : Prop where
  nd : bs.Nodup
  ge : ∀ b, b ∈ bs → w.heap.size ≤ b
theorem Fr.nil (w : World) : Fr w [] := ⟨List.nodup_nil, fun b h => by cases h⟩
theorem Fr.app {w w1 : World} {b1 b2 : List Nat} (h1 : Fr w b1) (h2 : Fr w1 b2) (hw : w.heap.size ≤ w1.heap.size) (hl : ∀ b, b ∈ b1 → b < w1.heap.size) : Fr w (b1 ++ b2) where
  nd := List.nodup_append.2 ⟨h1.nd, h2.nd, fun a ha b hb e => by have := hl a ha; have := h2.ge b hb; omega⟩
  ge := fun b hb => by
    rcases List.mem_append.1 hb with hb | hb
    · exact h1.ge b hb
    · have := h2.ge b hb; omega
theorem Fr.older {w w1 : World} {bs : List Nat} (h : Fr w1 bs) (hw : w.heap.size ≤ w1.heap.size) : Fr w bs := ⟨h.nd, fun b hb => Nat.le_trans hw (h.ge b hb)⟩
def TOut (w w' : World) (v : Value) (x : Rx) : Prop := ∃ vs bs, v = .agg vs.toArray ∧ OT x w' vs bs ∧ Fr w bs
theorem ge_fr {w : World} {ob : Option Nat} (h : Ge w ob) : Fr w ob.toList := by
  cases ob with
  | none => exact Fr.nil w
  | some g => exact ⟨List.nodup_cons.2 ⟨by simp, List.nodup_nil⟩, fun b hb => by rw [List.mem_singleton.1 hb]; exact h g rfl⟩
theorem rT (k : Int) (w : World) : OT (rxK k) w [iv k, .int .i32 0, .slice none 0 0, iv 0, iv 0, .bool false, iv 0, .string ByteArray.empty, .slice none 0 0] [] := by
  unfold rxK
  rw [OT]
  exact ⟨none, 0, none, none, 0, none, [], [], rfl, OwnS.nil _ _ _, OwnS.nil _ _ _, OTs.nil w, rfl, by simp, by show (0 : Nat) ≤ 1000000; omega, by simp⟩
theorem ot_lit (c : Int) (w : World) : OT (yX c) w [iv 2, .int .i32 c, .slice none 0 0, iv 0, iv 0, .bool false, iv 0, .string ByteArray.empty, .slice none 0 0] [] := by
  unfold yX
  rw [OT]
  exact ⟨none, 0, none, none, 0, none, [], [], rfl, OwnS.nil _ _ _, OwnS.nil _ _ _, OTs.nil w, rfl, by simp, by show (0 : Nat) ≤ 1000000; omega, by simp⟩
theorem ot_cls {l : List (Int × Int)} {w : World} {a : Option Addr} {n c : Nat} {ob : Option Nat} (h : OwnS w 135 2 a n c (dC l) ob) (hl : l.length ≤ 1000000) : OT (wF l) w [iv 3, .int .i32 0, .slice a n c, iv 0, iv 0, .bool false, iv 0, .string ByteArray.empty, .slice none 0 0] ob.toList := by
  obtain rfl := rS h
  unfold wF
  rw [OT]
  exact ⟨a, c, ob, none, 0, none, [], [], rfl, h, OwnS.nil _ _ _, OTs.nil w, by simp, hl, by show (0 : Nat) ≤ 1000000; omega, by simp⟩
end Go.Proofs.YtidpigbinpaaeaaGreat
