/- The rune at a place, as the law reads it: plain. -/
import Derived.Test.YtgboffefbpligaaPd
import Derived.Test.YtgboffefbpligaaFw10
namespace Go.Proofs.Ytgboffefbpligaa
open Go.W Go.RowKit
set_option linter.unusedVariables false
set_option linter.unusedSimpArgs false

theorem enc_form {c : Int} (h : IsR c) : Utf8.encode c = bstr (formB c) := by
  unfold IsR at h
  have hv : Utf8.valid c = true := by unfold Utf8.valid; simp; omega
  unfold Utf8.encode formB formN
  rw [if_pos (show IsR c from h)]
  simp only [hv, if_true]
  by_cases h1 : c.toNat < 128
  · simp only [if_pos h1]; rfl
  · simp only [if_neg h1]
    by_cases h2 : c.toNat < 2048
    · simp only [if_pos h2]; rfl
    · simp only [if_neg h2]
      by_cases h3 : c.toNat < 65536
      · simp only [if_pos h3]; rfl
      · simp only [if_neg h3]; rfl
theorem enc_size {c : Int} (h : IsR c) : (Utf8.encode c).size = (formB c).length := by rw [enc_form h]; simp [bstr, ByteArray.size]
theorem decode_from (s : ByteArray) (a : Nat) (ha : a ≤ s.size) : Utf8.decode (s.extract a s.size) 0 = Utf8.decode s a := by
  have hz : (s.extract a s.size).size = s.size - a := by have := s.size_extract (b := a) (e := s.size); omega
  have hk : ∀ k, sb (s.extract a s.size) k = sb s (a + k) := fun k => by
    by_cases h : a + k < s.size
    · exact sb_extract (Nat.le_refl _) h
    · rw [sb_out (by omega), sb_out (by omega)]
  rw [decode_sb, decode_sb, hz, hk, hk, hk, hk]
  simp only [Nat.zero_add, Nat.add_zero, Nat.sub_zero]
def runeAtR (s : ByteArray) (i : Nat) : Int × Int := if s.size ≤ i then (-1, 0) else if (nextR s i).2 = 0 then (-2, 0) else ((nextR s i).1, ((nextR s i).2 : Int))
theorem hit_isR {s : ByteArray} {a w : Nat} (hw : 1 ≤ w) (h : Hit s a w) : IsR (guessB s a w) := by
  by_cases e : IsR (guessB s a w)
  · exact e
  · have := hit_len h
    rw [formB, if_neg e] at this
    simp at this; omega
theorem runeAt_a {s : ByteArray} {a : Nat} (ha : a < s.size) (hc : (Utf8.decode s a).1 ≠ 65533) : runeAtR s a = ((((Utf8.decode s a).1 : Nat) : Int), ((Utf8.encode (((Utf8.decode s a).1 : Nat) : Int)).size : Int)) := by
  rcases decode_cases s a ha with ⟨w, h1, h2, h3, hh, hd, h4, h5, -⟩ | ⟨h1, hd⟩
  · have hn := (next_hit h1 h2 h3 hh).1
    have hr := hit_isR h1 hh
    have hg : (((guessB s a w).toNat : Nat) : Int) = guessB s a w := by omega
    rw [runeAtR, if_neg (by omega), hn, if_neg (by simp only; omega), hd]
    simp only [hg]
    rw [enc_size hr, hit_len hh]
  · rw [hd] at hc; exact (hc rfl).elim
theorem enc_fffd : Utf8.encode 65533 = bstr [239, 191, 189] := by
  rw [enc_form (by unfold IsR; omega)]; rfl
theorem runeAt_b {s : ByteArray} {a : Nat} (ha : a < s.size) (hc : (Utf8.decode s a).1 = 65533) (h3 : a + 3 ≤ s.size) (h4 : s.extract a (a + 3) = Utf8.encode 65533) : runeAtR s a = (65533, 3) := by
  have h5 := (decode_repl s a hc ha).2 ⟨h3, by rw [h4, enc_fffd]⟩
  have hn : nextR s a = (65533, 3) := by unfold nextR; rw [if_pos ⟨ha, by omega⟩, h5, hc]; rfl
  rw [runeAtR, if_neg (by omega), hn]
  rfl
theorem runeAt_c {s : ByteArray} {a : Nat} (ha : a < s.size) (hc : (Utf8.decode s a).1 = 65533) (h3 : ¬ (a + 3 ≤ s.size ∧ s.extract a (a + 3) = Utf8.encode 65533)) : runeAtR s a = (-2, 0) := by
  have h5 : ¬ (Utf8.decode s a).2 = 3 := fun h => h3 (by have := (decode_repl s a hc ha).1 h; rw [enc_fffd]; exact this)
  have h6 := (decode_fffd s a hc ha).resolve_right h5
  have hn : nextR s a = (-1, 0) := by unfold nextR; rw [if_neg (fun h => h.2 ⟨hc, h6⟩)]
  rw [runeAtR, if_neg (by omega), hn]
  rfl
theorem enc_fffd_size : (Utf8.encode 65533).size = 3 := by rw [enc_fffd]; rfl
instance (s : ByteArray) (c : In) (i : Nat) : Decidable (GoesB s c i) := by unfold GoesB; infer_instance
end Go.Proofs.Ytgboffefbpligaa
