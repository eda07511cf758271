/- Runes: the form of a number, and the rune that begins at a place of a text. No program stands here. -/
import Derived.Test.YtgboffefbpligaaFw6
namespace Go.Proofs.Ytgboffefbpligaa
open Go.W Go.Lib

def IsR (n : Int) : Prop := 0 ≤ n ∧ n ≤ 1114111 ∧ (n < 55296 ∨ 57343 < n)
instance (n : Int) : Decidable (IsR n) := by unfold IsR; infer_instance
def formN (m : Nat) : List Nat :=
  if m < 128 then [m] else if m < 2048 then [192 + m / 64, 128 + m % 64] else if m < 65536 then [224 + m / 4096, 128 + m / 64 % 64, 128 + m % 64]
  else [240 + m / 262144, 128 + m / 4096 % 64, 128 + m / 64 % 64, 128 + m % 64]
/-- The form of a number; of no rune: nothing. -/
def formB (n : Int) : List Nat := if IsR n then formN n.toNat else []
theorem formB_lt (n : Int) : ∀ b, b ∈ formB n → b < 256 := by
  unfold formB
  split
  · rename_i h
    unfold IsR at h
    unfold formN
    repeat' split
    all_goals (intro b hb; simp at hb; omega)
  · intro b hb; cases hb
theorem formB_len (n : Int) : (formB n).length ≤ 4 := by
  unfold formB formN
  repeat' split
  all_goals simp
/-- What w bytes mean, if they are a form. -/
def guessB (s : ByteArray) (a w : Nat) : Int :=
  if w = 1 then (sb s a : Int) else if w = 2 then ((sb s a : Int) - 192) * 64 + sb s (a + 1) - 128
  else if w = 3 then (((sb s a : Int) - 224) * 64 + sb s (a + 1) - 128) * 64 + sb s (a + 2) - 128
  else ((((sb s a : Int) - 240) * 64 + sb s (a + 1) - 128) * 64 + sb s (a + 2) - 128) * 64 + sb s (a + 3) - 128
def bytesAt (s : ByteArray) (a w : Nat) : List Nat := (List.range w).map fun k => sb s (a + k)
theorem bytesAt_lt (s : ByteArray) (a w : Nat) : ∀ b, b ∈ bytesAt s a w → b < 256 := by
  intro b hb
  simp only [bytesAt, List.mem_map] at hb
  obtain ⟨k, _, rfl⟩ := hb
  exact sb_lt _ _
theorem extract_bytes (s : ByteArray) (a w : Nat) (h : a + w ≤ s.size) : s.extract a (a + w) = bstr (bytesAt s a w) := by
  apply ByteArray.ext
  apply Array.ext
  · have e1 : (s.extract a (a + w)).data.size = w := by have := s.size_extract (b := a) (e := a + w); rw [ByteArray.size] at this; omega
    rw [e1]; simp [bstr, bytesAt]
  · intro i h1 h2
    simp only [bstr, bytesAt, List.map_map, List.getElem_toArray, List.getElem_map, List.getElem_range, Function.comp_def, ByteArray.data_extract, Array.getElem_extract]
    have h3 : a + i < s.size := by simp [bstr, bytesAt] at h2; omega
    apply UInt8.toNat_inj.1
    have := sb_lt s (a + i)
    rw [UInt8.toNat_ofNat_of_lt' (by simpa using this), sb_get s _ h3]
    rfl
def Hit (s : ByteArray) (a w : Nat) : Prop := formB (guessB s a w) = bytesAt s a w
theorem hit_len {s : ByteArray} {a w : Nat} (h : Hit s a w) : (formB (guessB s a w)).length = w := by rw [h]; simp [bytesAt]
theorem hit_eq {s : ByteArray} {a w : Nat} (h : a + w ≤ s.size) : Hit s a w ↔ s.extract a (a + w) = bstr (formB (guessB s a w)) := by
  rw [extract_bytes s a w h, bstr_inj (bytesAt_lt s a w) (formB_lt _)]
  exact ⟨fun h => h.symm, fun h => h.symm⟩

section
variable {b0 b1 b2 b3 : Nat}
theorem form1 (h0 : b0 < 256) : formB (b0 : Int) = [b0] ↔ b0 < 128 := by
  unfold formB formN
  constructor
  · intro h
    repeat' split at h
    all_goals simp at h
    all_goals omega
  · intro h
    rw [if_pos (by unfold IsR; omega), if_pos (by omega)]; simp
theorem form2 (h0 : b0 < 256) (h1 : b1 < 256) : formB (((b0 : Int) - 192) * 64 + b1 - 128) = [b0, b1] ↔ (b0 / 32 = 6 ∧ b1 / 64 = 2 ∧ 128 ≤ b0 % 32 * 64 + b1 % 64) := by
  unfold formB formN
  constructor
  · intro h
    repeat' split at h
    all_goals simp at h
    all_goals unfold IsR at *
    all_goals omega
  · intro h
    rw [if_pos (by unfold IsR; omega), if_neg (by omega), if_pos (by omega)]; simp; omega
theorem form3 (h0 : b0 < 256) (h1 : b1 < 256) (h2 : b2 < 256) : formB ((((b0 : Int) - 224) * 64 + b1 - 128) * 64 + b2 - 128) = [b0, b1, b2] ↔
    (b0 / 16 = 14 ∧ b1 / 64 = 2 ∧ b2 / 64 = 2 ∧ 2048 ≤ b0 % 16 * 4096 + b1 % 64 * 64 + b2 % 64 ∧ (b0 % 16 * 4096 + b1 % 64 * 64 + b2 % 64 < 55296 ∨ 57343 < b0 % 16 * 4096 + b1 % 64 * 64 + b2 % 64)) := by
  unfold formB formN
  constructor
  · intro h
    repeat' split at h
    all_goals simp at h
    all_goals unfold IsR at *
    all_goals omega
  · intro h
    rw [if_pos (by unfold IsR; omega), if_neg (by omega), if_neg (by omega), if_pos (by omega)]; simp; omega
theorem form4 (h0 : b0 < 256) (h1 : b1 < 256) (h2 : b2 < 256) (h3 : b3 < 256) : formB (((((b0 : Int) - 240) * 64 + b1 - 128) * 64 + b2 - 128) * 64 + b3 - 128) = [b0, b1, b2, b3] ↔
    (b0 / 8 = 30 ∧ b1 / 64 = 2 ∧ b2 / 64 = 2 ∧ b3 / 64 = 2 ∧ 65536 ≤ b0 % 8 * 262144 + b1 % 64 * 4096 + b2 % 64 * 64 + b3 % 64 ∧ b0 % 8 * 262144 + b1 % 64 * 4096 + b2 % 64 * 64 + b3 % 64 ≤ 1114111) := by
  unfold formB formN
  constructor
  · intro h
    repeat' split at h
    all_goals simp at h
    all_goals unfold IsR at *
    all_goals omega
  · intro h
    rw [if_pos (by unfold IsR; omega), if_neg (by omega), if_neg (by omega), if_neg (by omega)]; simp; omega
end
theorem hit1 (s : ByteArray) (a : Nat) : Hit s a 1 ↔ sb s a < 128 := by
  have := form1 (sb_lt s a)
  simpa [Hit, guessB, bytesAt] using this
theorem hit2 (s : ByteArray) (a : Nat) : Hit s a 2 ↔ (sb s a / 32 = 6 ∧ sb s (a + 1) / 64 = 2 ∧ 128 ≤ sb s a % 32 * 64 + sb s (a + 1) % 64) := by
  have := form2 (sb_lt s a) (sb_lt s (a + 1))
  simpa [Hit, guessB, bytesAt, List.range_succ] using this
theorem hit3 (s : ByteArray) (a : Nat) : Hit s a 3 ↔ (sb s a / 16 = 14 ∧ sb s (a + 1) / 64 = 2 ∧ sb s (a + 2) / 64 = 2 ∧ 2048 ≤ sb s a % 16 * 4096 + sb s (a + 1) % 64 * 64 + sb s (a + 2) % 64 ∧ (sb s a % 16 * 4096 + sb s (a + 1) % 64 * 64 + sb s (a + 2) % 64 < 55296 ∨ 57343 < sb s a % 16 * 4096 + sb s (a + 1) % 64 * 64 + sb s (a + 2) % 64)) := by
  have := form3 (sb_lt s a) (sb_lt s (a + 1)) (sb_lt s (a + 2))
  simpa [Hit, guessB, bytesAt, List.range_succ] using this
theorem hit4 (s : ByteArray) (a : Nat) : Hit s a 4 ↔ (sb s a / 8 = 30 ∧ sb s (a + 1) / 64 = 2 ∧ sb s (a + 2) / 64 = 2 ∧ sb s (a + 3) / 64 = 2 ∧ 65536 ≤ sb s a % 8 * 262144 + sb s (a + 1) % 64 * 4096 + sb s (a + 2) % 64 * 64 + sb s (a + 3) % 64 ∧ sb s a % 8 * 262144 + sb s (a + 1) % 64 * 4096 + sb s (a + 2) % 64 * 64 + sb s (a + 3) % 64 ≤ 1114111) := by
  have := form4 (sb_lt s a) (sb_lt s (a + 1)) (sb_lt s (a + 2)) (sb_lt s (a + 3))
  simpa [Hit, guessB, bytesAt, List.range_succ] using this
theorem decode_sb (s : ByteArray) (i : Nat) : Utf8.decode s i = decodeN (s.size - i) (sb s i) (sb s (i + 1)) (sb s (i + 2)) (sb s (i + 3)) := decode_at s i
/-- What is decoded: a form, or none. -/
theorem decode_cases (s : ByteArray) (a : Nat) (ha : a < s.size) :
    (∃ w, 1 ≤ w ∧ w ≤ 4 ∧ a + w ≤ s.size ∧ Hit s a w ∧ Utf8.decode s a = ((guessB s a w).toNat, w) ∧ 0 ≤ guessB s a w ∧ (guessB s a w ≤ 1114111) ∧ ∀ w', Hit s a w' → 1 ≤ w' → w' ≤ 4 → w' = w) ∨
    ((∀ w, 1 ≤ w → w ≤ 4 → a + w ≤ s.size → ¬ Hit s a w) ∧ Utf8.decode s a = (65533, 1)) := by
  have h0 := sb_lt s a
  have h1 := sb_lt s (a + 1)
  have h2 := sb_lt s (a + 2)
  have h3 := sb_lt s (a + 3)
  have k1 := hit1 s a
  have k2 := hit2 s a
  have k3 := hit3 s a
  have k4 := hit4 s a
  have all : ∀ {p : Nat → Prop}, p 1 → p 2 → p 3 → p 4 → ∀ w, 1 ≤ w → w ≤ 4 → p w := by
    intro p p1 p2 p3 p4 w hw hw'
    have : w = 1 ∨ w = 2 ∨ w = 3 ∨ w = 4 := by omega
    rcases this with rfl | rfl | rfl | rfl <;> assumption
  rw [decode_sb]
  unfold decodeN
  split
  · rename_i c
    exact .inl ⟨1, by omega, by omega, by omega, k1.2 c, by simp [guessB], by simp [guessB], by simp [guessB]; omega, fun w' hw h1 h4 => by revert hw; revert w'; exact fun w' h1 h4 => all (p := fun w' => Hit s a w' → w' = 1) (fun _ => rfl) (fun h => by have := k2.1 h; omega) (fun h => by have := k3.1 h; omega) (fun h => by have := k4.1 h; omega) w' h1 h4⟩
  · rename_i c1
    split
    · rename_i c2
      split
      · rename_i c3
        exact .inl ⟨2, by omega, by omega, by omega, k2.2 ⟨c2.1, c2.2.2, c3⟩, by simp [guessB]; omega, by simp [guessB]; omega, by simp [guessB]; omega, fun w' hw h1 h4 => by revert hw; revert w'; exact fun w' h1 h4 => all (p := fun w' => Hit s a w' → w' = 2) (fun h => by have := k1.1 h; omega) (fun h => rfl) (fun h => by have := k3.1 h; omega) (fun h => by have := k4.1 h; omega) w' h1 h4⟩
      · rename_i c3
        exact .inr ⟨all (p := fun w => a + w ≤ s.size → ¬ Hit s a w) (fun _ h => by have := k1.1 h; omega) (fun _ h => by have := k2.1 h; omega) (fun _ h => by have := k3.1 h; omega) (fun _ h => by have := k4.1 h; omega), rfl⟩
    · rename_i c2
      split
      · rename_i c4
        split
        · rename_i c3
          exact .inl ⟨3, by omega, by omega, by omega, k3.2 (by omega), by simp [guessB]; omega, by simp [guessB]; omega, by simp [guessB]; omega, fun w' hw h1 h4 => by revert hw; revert w'; exact fun w' h1 h4 => all (p := fun w' => Hit s a w' → w' = 3) (fun h => by have := k1.1 h; omega) (fun h => by have := k2.1 h; omega) (fun h => rfl) (fun h => by have := k4.1 h; omega) w' h1 h4⟩
        · rename_i c3
          exact .inr ⟨all (p := fun w => a + w ≤ s.size → ¬ Hit s a w) (fun _ h => by have := k1.1 h; omega) (fun _ h => by have := k2.1 h; omega) (fun _ h => by have := k3.1 h; omega) (fun _ h => by have := k4.1 h; omega), rfl⟩
      · rename_i c4
        split
        · rename_i c5
          split
          · rename_i c3
            exact .inl ⟨4, by omega, by omega, by omega, k4.2 (by omega), by simp [guessB]; omega, by simp [guessB]; omega, by simp [guessB]; omega, fun w' hw h1 h4 => by revert hw; revert w'; exact fun w' h1 h4 => all (p := fun w' => Hit s a w' → w' = 4) (fun h => by have := k1.1 h; omega) (fun h => by have := k2.1 h; omega) (fun h => by have := k3.1 h; omega) (fun h => rfl) w' h1 h4⟩
          · rename_i c3
            exact .inr ⟨all (p := fun w => a + w ≤ s.size → ¬ Hit s a w) (fun _ h => by have := k1.1 h; omega) (fun _ h => by have := k2.1 h; omega) (fun _ h => by have := k3.1 h; omega) (fun _ h => by have := k4.1 h; omega), rfl⟩
        · rename_i c5
          exact .inr ⟨all (p := fun w => a + w ≤ s.size → ¬ Hit s a w) (fun _ h => by have := k1.1 h; omega) (fun _ h => by have := k2.1 h; omega) (fun _ h => by have := k3.1 h; omega) (fun _ h => by have := k4.1 h; omega), rfl⟩
/-- The first that fits is the rune. -/
theorem next_hit {s : ByteArray} {a w : Nat} (hw : 1 ≤ w) (hw4 : w ≤ 4) (hs : a + w ≤ s.size) (h : Hit s a w) : nextR s a = (guessB s a w, w) ∧ 0 ≤ guessB s a w ∧ guessB s a w ≤ 1114111 := by
  rcases decode_cases s a (by omega) with ⟨w', h1, h2, h3, h4, h5, h6, h7, h8⟩ | ⟨h1, _⟩
  · have : w = w' := h8 w h hw hw4
    subst this
    have hne : ¬ (((guessB s a w).toNat, w).1 = 65533 ∧ ((guessB s a w).toNat, w).2 = 1) := fun ⟨e1, e2⟩ => by
      simp only at e1 e2
      subst e2
      have := (hit1 s a).1 h
      simp [guessB] at e1
      omega
    refine ⟨?_, h6, h7⟩
    unfold nextR
    rw [h5, if_pos ⟨by omega, hne⟩]
    simp only [Int.toNat_of_nonneg h6]
  · exact absurd h (h1 w hw hw4 hs)
theorem next_none {s : ByteArray} {a : Nat} (h : ∀ w, 1 ≤ w → w ≤ 4 → a + w ≤ s.size → ¬ Hit s a w) : nextR s a = (-1, 0) := by
  unfold nextR
  by_cases ha : a < s.size
  · rcases decode_cases s a ha with ⟨w', h1, h2, h3, h4, _⟩ | ⟨_, h2⟩
    · exact absurd h4 (h w' h1 h2 h3)
    · rw [h2]; simp
  · rw [if_neg (by omega)]
theorem next_out {s : ByteArray} {a : Nat} (h : s.size ≤ a) : nextR s a = (-1, 0) := next_none fun w h1 h2 h3 => by omega
/-- Where something stands: how far. -/
theorem next_cases (s : ByteArray) (a : Nat) : nextR s a = (-1, 0) ∨ (0 ≤ (nextR s a).1 ∧ (nextR s a).1 ≤ 1114111 ∧ 1 ≤ (nextR s a).2 ∧ (nextR s a).2 ≤ 4 ∧ a + (nextR s a).2 ≤ s.size) := by
  by_cases ha : a < s.size
  · rcases decode_cases s a ha with ⟨w', h1, h2, h3, h4, h5, h6, h7, _⟩ | ⟨h1, h2⟩
    · right
      rw [(next_hit h1 h2 h3 h4).1]
      exact ⟨h6, h7, h1, h2, h3⟩
    · exact .inl (next_none h1)
  · exact .inl (next_out (by omega))
/-- A part of four bytes is enough. -/
theorem sb_extract {s : ByteArray} {a b k : Nat} (hb : b ≤ s.size) (hk : a + k < b) : sb (s.extract a b) k = sb s (a + k) := by
  rw [sb_get _ _ (by simp; omega), sb_get _ _ (by omega)]
  simp only [ByteArray.getElem_extract]
theorem sb_out {s : ByteArray} {k : Nat} (h : s.size ≤ k) : sb s k = 0 := by
  unfold sb
  simp only [ByteArray.get!, ByteArray.size] at h ⊢
  rw [getElem!_neg _ _ (by omega)]
  rfl
theorem decodeN_cut {n m b0 b1 b2 b3 c1 c2 c3 : Nat} (h : m = min n 4) (h1 : 1 < n → c1 = b1) (h2 : 2 < n → c2 = b2) (h3 : 3 < n → c3 = b3) : decodeN m b0 c1 c2 c3 = decodeN n b0 b1 b2 b3 := by
  have e1 : (1 < m) = (1 < n) := propext (by omega)
  have e2 : (2 < m) = (2 < n) := propext (by omega)
  have e3 : (3 < m) = (3 < n) := propext (by omega)
  unfold decodeN
  simp only [e1, e2, e3]
  by_cases k1 : 1 < n <;> by_cases k2 : 2 < n <;> by_cases k3 : 3 < n <;> simp only [k1, k2, k3, h1, h2, h3, true_and, and_true, false_and, and_false, if_false, ↓reduceIte]
theorem decode_cut (s : ByteArray) (a : Nat) (ha : a < s.size) : Utf8.decode (s.extract a (min s.size (a + 4))) 0 = Utf8.decode s a := by
  rw [decode_sb, decode_sb]
  simp only [Nat.zero_add]
  have hsz : (s.extract a (min s.size (a + 4))).size = min (s.size - a) 4 := by simp; omega
  have hb : min s.size (a + 4) ≤ s.size := by omega
  have h0 : sb (s.extract a (min s.size (a + 4))) 0 = sb s a := by rw [sb_extract hb (by omega)]; rfl
  rw [h0]
  refine decodeN_cut (by omega) (fun h => ?_) (fun h => ?_) (fun h => ?_) <;> rw [sb_extract hb (by omega)]
/-- The rune 65533 itself. -/
theorem decode_fffd (s : ByteArray) (a : Nat) (h : (Utf8.decode s a).1 = 65533) (ha : a < s.size) : (Utf8.decode s a).2 = 1 ∨ (Utf8.decode s a).2 = 3 := by
  rcases decode_cases s a ha with ⟨w, h1, h2, h3, h4, h5, h6, h7, _⟩ | ⟨_, h2⟩
  · rw [h5] at h ⊢
    simp only at h ⊢
    have hh := h4
    unfold Hit at hh
    have e : guessB s a w = 65533 := by omega
    rw [e] at hh
    have := congrArg List.length hh
    simp [bytesAt, formB, IsR, formN] at this
    omega
  · rw [h2]; exact .inl rfl
theorem decode_repl (s : ByteArray) (a : Nat) (h : (Utf8.decode s a).1 = 65533) (ha : a < s.size) : (Utf8.decode s a).2 = 3 ↔ (a + 3 ≤ s.size ∧ s.extract a (a + 3) = bstr [239, 191, 189]) := by
  constructor
  · intro h3
    rcases decode_cases s a ha with ⟨w, h1, h2, hs, h4, h5, h6, h7, _⟩ | ⟨_, h2⟩
    · rw [h5] at h h3
      simp only at h h3
      subst h3
      refine ⟨hs, ?_⟩
      rw [(hit_eq hs).1 h4]
      have e : guessB s a 3 = 65533 := by omega
      rw [e]; rfl
    · rw [h2] at h3; cases h3
  · rintro ⟨hs, he⟩
    have hg : bytesAt s a 3 = [239, 191, 189] := by
      rw [extract_bytes s a 3 hs] at he
      exact (bstr_inj (bytesAt_lt s a 3) (by intro b hb; simp at hb; omega)).1 he
    simp [bytesAt, List.range_succ] at hg
    have k3 := (hit3 s a).2 (by omega)
    have := (next_hit (by omega) (by omega) hs k3)
    rcases decode_cases s a ha with ⟨w, h1, h2, hs, h4, h5, h6, h7, h8⟩ | ⟨hn, h2⟩
    · rw [h5]; exact (h8 3 k3 (by omega) (by omega)).symm
    · exact absurd k3 (hn 3 (by omega) (by omega) hs)
/-- The width that a rune has. -/
theorem decode_width (s : ByteArray) (a : Nat) (ha : a < s.size) (h : ¬ ((Utf8.decode s a).1 = 65533 ∧ (Utf8.decode s a).2 = 1)) :
    (Utf8.decode s a).2 = if (Utf8.decode s a).1 < 128 then 1 else if (Utf8.decode s a).1 < 2048 then 2 else if (Utf8.decode s a).1 < 65536 then 3 else 4 := by
  rcases decode_cases s a ha with ⟨w, h1, h2, h3, h4, h5, h6, h7, _⟩ | ⟨_, h2⟩
  · rw [h5]
    have hl := hit_len h4
    unfold formB formN at hl
    simp only
    repeat' split at hl
    all_goals simp at hl
    all_goals subst hl
    all_goals (repeat' split)
    all_goals omega
  · rw [h2] at h; exact absurd ⟨rfl, rfl⟩ h
end Go.Proofs.Ytgboffefbpligaa
