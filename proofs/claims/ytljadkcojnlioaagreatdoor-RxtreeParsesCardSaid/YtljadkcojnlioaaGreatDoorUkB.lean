/- Parses: part 2 of 7 of what the law rests on. -/
import Derived.Test.YtljadkcojnlioaaGreatDoorUkA
set_option linter.unusedSectionVars false
set_option linter.unusedSimpArgs false
set_option linter.unusedVariables false
namespace Go.Proofs.YtljadkcojnlioaaGreatDoor
open Go.Lib Go.W
def IsR (n : Int) : Prop := 0 ≤ n ∧ n ≤ 1114111 ∧ (n < 55296 ∨ 57343 < n)
instance (n : Int) : Decidable (IsR n) := by unfold IsR; infer_instance
def iN (m : Nat) : List Nat :=
  if m < 128 then [m] else if m < 2048 then [192 + m / 64, 128 + m % 64] else if m < 65536 then [224 + m / 4096, 128 + m / 64 % 64, 128 + m % 64]
  else [240 + m / 262144, 128 + m / 4096 % 64, 128 + m / 64 % 64, 128 + m % 64]
def eJ (n : Int) : List Nat := if IsR n then iN n.toNat else []
theorem IJ (n : Int) : ∀ b, b ∈ eJ n → b < 256 := by
  unfold eJ
  split
  · rename_i h
    unfold IsR at h
    unfold iN
    repeat' split
    all_goals (intro b hb; simp at hb; omega)
  · intro b hb; cases hb
theorem tC (n : Int) : (eJ n).length ≤ 4 := by
  unfold eJ iN
  repeat' split
  all_goals simp
def eI (s : ByteArray) (a w : Nat) : Int :=
  if w = 1 then (sb s a : Int) else if w = 2 then ((sb s a : Int) - 192) * 64 + sb s (a + 1) - 128
  else if w = 3 then (((sb s a : Int) - 224) * 64 + sb s (a + 1) - 128) * 64 + sb s (a + 2) - 128
  else ((((sb s a : Int) - 240) * 64 + sb s (a + 1) - 128) * 64 + sb s (a + 2) - 128) * 64 + sb s (a + 3) - 128
def jG (s : ByteArray) (a w : Nat) : List Nat := (List.range w).map fun k => sb s (a + k)
theorem AY (s : ByteArray) (a w : Nat) : ∀ b, b ∈ jG s a w → b < 256 := by
  intro b hb
  simp only [jG, List.mem_map] at hb
  obtain ⟨k, _, rfl⟩ := hb
  exact iC _ _
theorem tN (s : ByteArray) (a w : Nat) (h : a + w ≤ s.size) : s.extract a (a + w) = bstr (jG s a w) := by
  apply ByteArray.ext
  apply Array.ext
  · have e1 : (s.extract a (a + w)).data.size = w := by have := s.size_extract (b := a) (e := a + w); rw [ByteArray.size] at this; omega
    rw [e1]; simp [bstr, jG]
  · intro i h1 h2
    simp only [bstr, jG, List.map_map, List.getElem_toArray, List.getElem_map, List.getElem_range, Function.comp_def, ByteArray.data_extract, Array.getElem_extract]
    have h3 : a + i < s.size := by simp [bstr, jG] at h2; omega
    apply UInt8.toNat_inj.1
    have := iC s (a + i)
    rw [UInt8.toNat_ofNat_of_lt' (by simpa using this), tQ s _ h3]
    rfl
def Hit (s : ByteArray) (a w : Nat) : Prop := eJ (eI s a w) = jG s a w
theorem uY {s : ByteArray} {a w : Nat} (h : Hit s a w) : (eJ (eI s a w)).length = w := by rw [h]; simp [jG]
theorem AL {s : ByteArray} {a w : Nat} (h : a + w ≤ s.size) : Hit s a w ↔ s.extract a (a + w) = bstr (eJ (eI s a w)) := by
  rw [tN s a w h, JC (AY s a w) (IJ _)]
  exact ⟨fun h => h.symm, fun h => h.symm⟩
section
variable {b0 b1 b2 b3 : Nat}
theorem form1 (h0 : b0 < 256) : eJ (b0 : Int) = [b0] ↔ b0 < 128 := by
  unfold eJ iN
  constructor
  · intro h
    repeat' split at h
    all_goals simp at h
    all_goals omega
  · intro h
    rw [if_pos (by unfold IsR; omega), if_pos (by omega)]; simp
theorem form2 (h0 : b0 < 256) (h1 : b1 < 256) : eJ (((b0 : Int) - 192) * 64 + b1 - 128) = [b0, b1] ↔ (b0 / 32 = 6 ∧ b1 / 64 = 2 ∧ 128 ≤ b0 % 32 * 64 + b1 % 64) := by
  unfold eJ iN
  constructor
  · intro h
    repeat' split at h
    all_goals simp at h
    all_goals unfold IsR at *
    all_goals omega
  · intro h
    rw [if_pos (by unfold IsR; omega), if_neg (by omega), if_pos (by omega)]; simp; omega
theorem form3 (h0 : b0 < 256) (h1 : b1 < 256) (h2 : b2 < 256) : eJ ((((b0 : Int) - 224) * 64 + b1 - 128) * 64 + b2 - 128) = [b0, b1, b2] ↔
    (b0 / 16 = 14 ∧ b1 / 64 = 2 ∧ b2 / 64 = 2 ∧ 2048 ≤ b0 % 16 * 4096 + b1 % 64 * 64 + b2 % 64 ∧ (b0 % 16 * 4096 + b1 % 64 * 64 + b2 % 64 < 55296 ∨ 57343 < b0 % 16 * 4096 + b1 % 64 * 64 + b2 % 64)) := by
  unfold eJ iN
  constructor
  · intro h
    repeat' split at h
    all_goals simp at h
    all_goals unfold IsR at *
    all_goals omega
  · intro h
    rw [if_pos (by unfold IsR; omega), if_neg (by omega), if_neg (by omega), if_pos (by omega)]; simp; omega
theorem form4 (h0 : b0 < 256) (h1 : b1 < 256) (h2 : b2 < 256) (h3 : b3 < 256) : eJ (((((b0 : Int) - 240) * 64 + b1 - 128) * 64 + b2 - 128) * 64 + b3 - 128) = [b0, b1, b2, b3] ↔
    (b0 / 8 = 30 ∧ b1 / 64 = 2 ∧ b2 / 64 = 2 ∧ b3 / 64 = 2 ∧ 65536 ≤ b0 % 8 * 262144 + b1 % 64 * 4096 + b2 % 64 * 64 + b3 % 64 ∧ b0 % 8 * 262144 + b1 % 64 * 4096 + b2 % 64 * 64 + b3 % 64 ≤ 1114111) := by
  unfold eJ iN
  constructor
  · intro h
    repeat' split at h
    all_goals simp at h
    all_goals unfold IsR at *
    all_goals omega
  · intro h
    rw [if_pos (by unfold IsR; omega), if_neg (by omega), if_neg (by omega), if_neg (by omega)]; simp; omega
end
theorem hit1 (s : ByteArray) (a : Nat) : Hit s a 1 ↔ sb s a < 128 := by
  have := form1 (iC s a)
  simpa [Hit, eI, jG] using this
theorem hit2 (s : ByteArray) (a : Nat) : Hit s a 2 ↔ (sb s a / 32 = 6 ∧ sb s (a + 1) / 64 = 2 ∧ 128 ≤ sb s a % 32 * 64 + sb s (a + 1) % 64) := by
  have := form2 (iC s a) (iC s (a + 1))
  simpa [Hit, eI, jG, List.range_succ] using this
theorem hit3 (s : ByteArray) (a : Nat) : Hit s a 3 ↔ (sb s a / 16 = 14 ∧ sb s (a + 1) / 64 = 2 ∧ sb s (a + 2) / 64 = 2 ∧ 2048 ≤ sb s a % 16 * 4096 + sb s (a + 1) % 64 * 64 + sb s (a + 2) % 64 ∧ (sb s a % 16 * 4096 + sb s (a + 1) % 64 * 64 + sb s (a + 2) % 64 < 55296 ∨ 57343 < sb s a % 16 * 4096 + sb s (a + 1) % 64 * 64 + sb s (a + 2) % 64)) := by
  have := form3 (iC s a) (iC s (a + 1)) (iC s (a + 2))
  simpa [Hit, eI, jG, List.range_succ] using this
theorem hit4 (s : ByteArray) (a : Nat) : Hit s a 4 ↔ (sb s a / 8 = 30 ∧ sb s (a + 1) / 64 = 2 ∧ sb s (a + 2) / 64 = 2 ∧ sb s (a + 3) / 64 = 2 ∧ 65536 ≤ sb s a % 8 * 262144 + sb s (a + 1) % 64 * 4096 + sb s (a + 2) % 64 * 64 + sb s (a + 3) % 64 ∧ sb s a % 8 * 262144 + sb s (a + 1) % 64 * 4096 + sb s (a + 2) % 64 * 64 + sb s (a + 3) % 64 ≤ 1114111) := by
  have := form4 (iC s a) (iC s (a + 1)) (iC s (a + 2)) (iC s (a + 3))
  simpa [Hit, eI, jG, List.range_succ] using this
theorem wW (s : ByteArray) (i : Nat) : Utf8.decode s i = decodeN (s.size - i) (sb s i) (sb s (i + 1)) (sb s (i + 2)) (sb s (i + 3)) := decode_at s i
theorem gW (s : ByteArray) (a : Nat) (ha : a < s.size) :
    (∃ w, 1 ≤ w ∧ w ≤ 4 ∧ a + w ≤ s.size ∧ Hit s a w ∧ Utf8.decode s a = ((eI s a w).toNat, w) ∧ 0 ≤ eI s a w ∧ (eI s a w ≤ 1114111) ∧ ∀ w', Hit s a w' → 1 ≤ w' → w' ≤ 4 → w' = w) ∨
    ((∀ w, 1 ≤ w → w ≤ 4 → a + w ≤ s.size → ¬ Hit s a w) ∧ Utf8.decode s a = (65533, 1)) := by
  have h0 := iC s a
  have h1 := iC s (a + 1)
  have h2 := iC s (a + 2)
  have h3 := iC s (a + 3)
  have k1 := hit1 s a
  have k2 := hit2 s a
  have k3 := hit3 s a
  have k4 := hit4 s a
  have all : ∀ {p : Nat → Prop}, p 1 → p 2 → p 3 → p 4 → ∀ w, 1 ≤ w → w ≤ 4 → p w := by
    intro p p1 p2 p3 p4 w hw hw'
    have : w = 1 ∨ w = 2 ∨ w = 3 ∨ w = 4 := by omega
    rcases this with rfl | rfl | rfl | rfl <;> assumption
  rw [wW]
  unfold decodeN
  split
  · rename_i c
    exact .inl ⟨1, by omega, by omega, by omega, k1.2 c, by simp [eI], by simp [eI], by simp [eI]; omega, fun w' hw h1 h4 => by revert hw; revert w'; exact fun w' h1 h4 => all (p := fun w' => Hit s a w' → w' = 1) (fun _ => rfl) (fun h => by have := k2.1 h; omega) (fun h => by have := k3.1 h; omega) (fun h => by have := k4.1 h; omega) w' h1 h4⟩
  · rename_i c1
    split
    · rename_i c2
      split
      · rename_i c3
        exact .inl ⟨2, by omega, by omega, by omega, k2.2 ⟨c2.1, c2.2.2, c3⟩, by simp [eI]; omega, by simp [eI]; omega, by simp [eI]; omega, fun w' hw h1 h4 => by revert hw; revert w'; exact fun w' h1 h4 => all (p := fun w' => Hit s a w' → w' = 2) (fun h => by have := k1.1 h; omega) (fun h => rfl) (fun h => by have := k3.1 h; omega) (fun h => by have := k4.1 h; omega) w' h1 h4⟩
      · rename_i c3
        exact .inr ⟨all (p := fun w => a + w ≤ s.size → ¬ Hit s a w) (fun _ h => by have := k1.1 h; omega) (fun _ h => by have := k2.1 h; omega) (fun _ h => by have := k3.1 h; omega) (fun _ h => by have := k4.1 h; omega), rfl⟩
    · rename_i c2
      split
      · rename_i c4
        split
        · rename_i c3
          exact .inl ⟨3, by omega, by omega, by omega, k3.2 (by omega), by simp [eI]; omega, by simp [eI]; omega, by simp [eI]; omega, fun w' hw h1 h4 => by revert hw; revert w'; exact fun w' h1 h4 => all (p := fun w' => Hit s a w' → w' = 3) (fun h => by have := k1.1 h; omega) (fun h => by have := k2.1 h; omega) (fun h => rfl) (fun h => by have := k4.1 h; omega) w' h1 h4⟩
        · rename_i c3
          exact .inr ⟨all (p := fun w => a + w ≤ s.size → ¬ Hit s a w) (fun _ h => by have := k1.1 h; omega) (fun _ h => by have := k2.1 h; omega) (fun _ h => by have := k3.1 h; omega) (fun _ h => by have := k4.1 h; omega), rfl⟩
      · rename_i c4
        split
        · rename_i c5
          split
          · rename_i c3
            exact .inl ⟨4, by omega, by omega, by omega, k4.2 (by omega), by simp [eI]; omega, by simp [eI]; omega, by simp [eI]; omega, fun w' hw h1 h4 => by revert hw; revert w'; exact fun w' h1 h4 => all (p := fun w' => Hit s a w' → w' = 4) (fun h => by have := k1.1 h; omega) (fun h => by have := k2.1 h; omega) (fun h => by have := k3.1 h; omega) (fun h => rfl) w' h1 h4⟩
          · rename_i c3
            exact .inr ⟨all (p := fun w => a + w ≤ s.size → ¬ Hit s a w) (fun _ h => by have := k1.1 h; omega) (fun _ h => by have := k2.1 h; omega) (fun _ h => by have := k3.1 h; omega) (fun _ h => by have := k4.1 h; omega), rfl⟩
        · rename_i c5
          exact .inr ⟨all (p := fun w => a + w ≤ s.size → ¬ Hit s a w) (fun _ h => by have := k1.1 h; omega) (fun _ h => by have := k2.1 h; omega) (fun _ h => by have := k3.1 h; omega) (fun _ h => by have := k4.1 h; omega), rfl⟩
theorem pM {s : ByteArray} {a w : Nat} (hw : 1 ≤ w) (hw4 : w ≤ 4) (hs : a + w ≤ s.size) (h : Hit s a w) : cL s a = (eI s a w, w) ∧ 0 ≤ eI s a w ∧ eI s a w ≤ 1114111 := by
  rcases gW s a (by omega) with ⟨w', h1, h2, h3, h4, h5, h6, h7, h8⟩ | ⟨h1, _⟩
  · have : w = w' := h8 w h hw hw4
    subst this
    have hne : ¬ (((eI s a w).toNat, w).1 = 65533 ∧ ((eI s a w).toNat, w).2 = 1) := fun ⟨e1, e2⟩ => by
      simp only at e1 e2
      subst e2
      have := (hit1 s a).1 h
      simp [eI] at e1
      omega
    refine ⟨?_, h6, h7⟩
    unfold cL
    rw [h5, if_pos ⟨by omega, hne⟩]
    simp only [Int.toNat_of_nonneg h6]
  · exact absurd h (h1 w hw hw4 hs)
theorem pE {s : ByteArray} {a : Nat} (h : ∀ w, 1 ≤ w → w ≤ 4 → a + w ≤ s.size → ¬ Hit s a w) : cL s a = (-1, 0) := by
  unfold cL
  by_cases ha : a < s.size
  · rcases gW s a ha with ⟨w', h1, h2, h3, h4, _⟩ | ⟨_, h2⟩
    · exact absurd h4 (h w' h1 h2 h3)
    · rw [h2]; simp
  · rw [if_neg (by omega)]
theorem pL {s : ByteArray} {a : Nat} (h : s.size ≤ a) : cL s a = (-1, 0) := pE fun w h1 h2 h3 => by omega
theorem tV (s : ByteArray) (a : Nat) : cL s a = (-1, 0) ∨ (0 ≤ (cL s a).1 ∧ (cL s a).1 ≤ 1114111 ∧ 1 ≤ (cL s a).2 ∧ (cL s a).2 ≤ 4 ∧ a + (cL s a).2 ≤ s.size) := by
  by_cases ha : a < s.size
  · rcases gW s a ha with ⟨w', h1, h2, h3, h4, h5, h6, h7, _⟩ | ⟨h1, h2⟩
    · right
      rw [(pM h1 h2 h3 h4).1]
      exact ⟨h6, h7, h1, h2, h3⟩
    · exact .inl (pE h1)
  · exact .inl (pL (by omega))
theorem fP {s : ByteArray} {a b k : Nat} (hb : b ≤ s.size) (hk : a + k < b) : sb (s.extract a b) k = sb s (a + k) := by
  rw [tQ _ _ (by simp; omega), tQ _ _ (by omega)]
  simp only [ByteArray.getElem_extract]
theorem IY {n m b0 b1 b2 b3 c1 c2 c3 : Nat} (h : m = min n 4) (h1 : 1 < n → c1 = b1) (h2 : 2 < n → c2 = b2) (h3 : 3 < n → c3 = b3) : decodeN m b0 c1 c2 c3 = decodeN n b0 b1 b2 b3 := by
  have e1 : (1 < m) = (1 < n) := propext (by omega)
  have e2 : (2 < m) = (2 < n) := propext (by omega)
  have e3 : (3 < m) = (3 < n) := propext (by omega)
  unfold decodeN
  simp only [e1, e2, e3]
  by_cases k1 : 1 < n <;> by_cases k2 : 2 < n <;> by_cases k3 : 3 < n <;> simp only [k1, k2, k3, h1, h2, h3, true_and, and_true, false_and, and_false, if_false, ↓reduceIte]
theorem ME (s : ByteArray) (a : Nat) (ha : a < s.size) : Utf8.decode (s.extract a (min s.size (a + 4))) 0 = Utf8.decode s a := by
  rw [wW, wW]
  simp only [Nat.zero_add]
  have hsz : (s.extract a (min s.size (a + 4))).size = min (s.size - a) 4 := by simp; omega
  have hb : min s.size (a + 4) ≤ s.size := by omega
  have h0 : sb (s.extract a (min s.size (a + 4))) 0 = sb s a := by rw [fP hb (by omega)]; rfl
  rw [h0]
  refine IY (by omega) (fun h => ?_) (fun h => ?_) (fun h => ?_) <;> rw [fP hb (by omega)]
theorem IX (s : ByteArray) (a : Nat) (h : (Utf8.decode s a).1 = 65533) (ha : a < s.size) : (Utf8.decode s a).2 = 1 ∨ (Utf8.decode s a).2 = 3 := by
  rcases gW s a ha with ⟨w, h1, h2, h3, h4, h5, h6, h7, _⟩ | ⟨_, h2⟩
  · rw [h5] at h ⊢
    simp only at h ⊢
    have hh := h4
    unfold Hit at hh
    have e : eI s a w = 65533 := by omega
    rw [e] at hh
    have := congrArg List.length hh
    simp [jG, eJ, IsR, iN] at this
    omega
  · rw [h2]; exact .inl rfl
theorem sH (s : ByteArray) (a : Nat) (h : (Utf8.decode s a).1 = 65533) (ha : a < s.size) : (Utf8.decode s a).2 = 3 ↔ (a + 3 ≤ s.size ∧ s.extract a (a + 3) = bstr [239, 191, 189]) := by
  constructor
  · intro h3
    rcases gW s a ha with ⟨w, h1, h2, hs, h4, h5, h6, h7, _⟩ | ⟨_, h2⟩
    · rw [h5] at h h3
      simp only at h h3
      subst h3
      refine ⟨hs, ?_⟩
      rw [(AL hs).1 h4]
      have e : eI s a 3 = 65533 := by omega
      rw [e]; rfl
    · rw [h2] at h3; cases h3
  · rintro ⟨hs, he⟩
    have hg : jG s a 3 = [239, 191, 189] := by
      rw [tN s a 3 hs] at he
      exact (JC (AY s a 3) (by intro b hb; simp at hb; omega)).1 he
    simp [jG, List.range_succ] at hg
    have k3 := (hit3 s a).2 (by omega)
    have := (pM (by omega) (by omega) hs k3)
    rcases gW s a ha with ⟨w, h1, h2, hs, h4, h5, h6, h7, h8⟩ | ⟨hn, h2⟩
    · rw [h5]; exact (h8 3 k3 (by omega) (by omega)).symm
    · exact absurd k3 (hn 3 (by omega) (by omega) hs)
theorem FE (s : ByteArray) (a : Nat) (ha : a < s.size) (h : ¬ ((Utf8.decode s a).1 = 65533 ∧ (Utf8.decode s a).2 = 1)) :
    (Utf8.decode s a).2 = if (Utf8.decode s a).1 < 128 then 1 else if (Utf8.decode s a).1 < 2048 then 2 else if (Utf8.decode s a).1 < 65536 then 3 else 4 := by
  rcases gW s a ha with ⟨w, h1, h2, h3, h4, h5, h6, h7, _⟩ | ⟨_, h2⟩
  · rw [h5]
    have hl := uY h4
    unfold eJ iN at hl
    simp only
    repeat' split at hl
    all_goals simp at hl
    all_goals subst hl
    all_goals (repeat' split)
    all_goals omega
  · rw [h2] at h; exact absurd ⟨rfl, rfl⟩ h
end Go.Proofs.YtljadkcojnlioaaGreatDoor
namespace Go.Proofs.YtljadkcojnlioaaGreatDoor
open Go.RowKit Go.W
attribute [local irreducible] Decidable.decide
theorem fD : BS Tryz.prog 78 78 = some (5, 1, 1) := by kernel_rfl
theorem eM : rV Tryz.prog 78 = some (5, 1) := by kernel_rfl
theorem kI (a b : List Nat) : iQ (a ++ b) = iQ a ++ iQ b := by simp [iQ]
theorem wrap_u8 (m : Nat) : IntKind.u8.wrap (m : Int) = ((m % 256 : Nat) : Int) := by
  simp [IntKind.wrap, IntKind.signed, IntKind.bits]
theorem jT {P : Program} {σ : Env} {w : World} {dst : Option Nat} {T : TypeId} {pos : String} {after : Array Edge} {g : Option (Nat × Bool)} {x : Operand} {t t' : TypeId} {k : IntKind} {z : Int} (m : Nat) (hx : σ.ev x = some (.int k z)) (ht : P.underlying t = some (.int k)) (ht' : P.underlying t' = some (.int .u8)) (hz : z = (m : Int)) :
    Ex P σ ⟨dst, .convert t t' x, T, pos, after, g⟩ w (.int .u8 ((m % 256 : Nat) : Int)) w := by
  subst hz
  have := ON (w := w) (dst := dst) (T := T) (pos := pos) (after := after) (g := g) hx ht ht'
  rwa [wrap_u8] at this
theorem orb192 : ∀ x, x < 32 → 192 ||| x = 192 + x := by decide
theorem orb224 : ∀ x, x < 16 → 224 ||| x = 224 + x := by decide
theorem orb240 : ∀ x, x < 8 → 240 ||| x = 240 + x := by decide
theorem orb128 : ∀ x, x < 64 → 128 ||| x = 128 + x := by decide
theorem pQ (m : Nat) : (m % 256) &&& 63 = m % 64 := by
  have := Nat.and_two_pow_sub_one_eq_mod (m % 256) 6
  rw [show 2 ^ 6 - 1 = 63 from rfl] at this
  rw [this]; omega
theorem uT (m : Nat) : 128 ||| ((m % 256) &&& 63) = 128 + m % 64 := by rw [pQ, orb128 _ (by omega)]
theorem r2 {m : Nat} (h : m < 2048) : 192 ||| (m / 2 ^ 6 % 256) = 192 + m / 64 := by
  rw [show (2 : Nat) ^ 6 = 64 from rfl, Nat.mod_eq_of_lt (show m / 64 < 256 by omega), orb192 _ (by omega)]
theorem r3 {m : Nat} (h : m < 65536) : 224 ||| (m / 2 ^ 12 % 256) = 224 + m / 4096 := by
  rw [show (2 : Nat) ^ 12 = 4096 from rfl, Nat.mod_eq_of_lt (show m / 4096 < 256 by omega), orb224 _ (by omega)]
theorem r4 {m : Nat} (h : m ≤ 1114111) : 240 ||| (m / 2 ^ 18 % 256) = 240 + m / 262144 := by
  rw [show (2 : Nat) ^ 18 = 262144 from rfl, Nat.mod_eq_of_lt (show m / 262144 < 256 by omega), orb240 _ (by omega)]
theorem lT {m : Nat} (h : IsR (m : Int)) : eJ (m : Int) = iN m := by unfold eJ; rw [if_pos h]; rfl
theorem BR {w : World} {a : Option Addr} {c : Nat} {l : List Nat} {ob : Option Nat} {r : Int} (hO : OwnS w 5 1 a l.length c (iQ l) ob) (hr : IsR r) (h128 : 128 ≤ r) (hl : l.length ≤ 100000000) :
    Calls Tryz.prog 141 #[.slice a l.length c, .int .i32 r] w (Ret fun v w' => ∃ a' c' ob', v = .slice a' (l.length + (eJ r).length) c' ∧ OwnS w' 5 1 a' (l.length + (eJ r).length) c' (iQ (l ++ eJ r)) ob' ∧ Evo ob.toList w w' ∧ (ob' = ob ∨ ∃ g, ob' = some g ∧ w.heap.size ≤ g)) := by
  have hr' := hr; unfold IsR at hr'; obtain ⟨m, hm⟩ : ∃ m : Nat, r = (m : Int) := ⟨r.toNat, by omega⟩; refine bE (N := 78) Tryz.func141 rfl rfl rfl ?_; refine csr (wan (csr (aA ?_)))
  refine aB (fY m rfl Tryz.underlying21 Tryz.underlying163 hm (by show ((m : Nat) : Int) ≤ 4294967295; omega)) ?_
  refine wan (bK (csr (aA (aB (dM rfl rfl) ?_)))); refine wan (aZ rfl (fun c1 => ?_) (fun c1 => ?_))
  ·refine csr (aA (aA ?_)); refine aB (kJ (m := m) (n := 6) rfl rfl hm rfl (by decide)) ?_; refine aB (jT (m / 2 ^ 6) rfl Tryz.underlying21 Tryz.underlying5 (by first | rfl | exact hm)) ?_
   refine aB (jS (m := 192) (n := m / 2 ^ 6 % 256) rfl rfl rfl rfl rfl (by show _ < 256; omega) (by show _ < 256; omega)) ?_
   refine aA ?_; refine aB (jT (m) rfl Tryz.underlying21 Tryz.underlying5 (by first | rfl | exact hm)) ?_
   refine aB (kM (m := m % 256) (n := 63) rfl rfl rfl rfl rfl (by show _ < 256; omega) (by show _ < 256; omega)) ?_
   refine aB (jS (m := 128) (n := (m % 256) &&& 63) rfl rfl rfl rfl rfl (by show _ < 256; omega) (by show _ < 256; rw [pQ]; omega)) ?_
   refine bL (vs := [_, _]) rfl eM rfl rfl rfl rfl fun b1 w2 B h4 b9 => ?_; have c0 := (Evo.refl ob.toList w).then b9; have hszg := (c0).size; refine cM rfl rfl rfl rfl fD (hO.evo0 b9) (Src.ofOwn B ⟨rfl, rfl, trivial⟩) (by omega) fun a2 c2 h5 ob2 D c3 hob16 => ?_; have hob2 : ob2 = ob ∨ ∃ g, ob2 = some g ∧ w.heap.size ≤ g := hob16.imp id (fun ⟨g, h1, h2⟩ => ⟨g, h1, Nat.le_trans hszg h2⟩); refine wan (aK (aO (br1 ?_)))
   have hf : eJ r = [192 + m / 64, 128 + m % 64] := by rw [hm, lT (hm ▸ hr), iN, if_neg (by omega), if_pos (by omega)]
   have B := D; rw [r2 (by omega), uT] at B
   refine ⟨a2, c2, ob2, by rw [hf]; rfl, ?_, (c0.step c3 (fun y hy => .inl hy)), hob2⟩
   rw [hf, kI]; exact B
  refine aM (csr (aA (aB (dA rfl rfl) ?_))); refine wan (aZ rfl (fun E => ?_) (fun E => ?_))
  ·refine aN (aC (aZ rfl (fun E => ?_) (fun E => ?_)))
   ·refine csr (aA (aA ?_)); refine aB (kJ (m := m) (n := 12) rfl rfl hm rfl (by decide)) ?_; refine aB (jT (m / 2 ^ 12) rfl Tryz.underlying21 Tryz.underlying5 (by first | rfl | exact hm)) ?_
    refine aB (jS (m := 224) (n := m / 2 ^ 12 % 256) rfl rfl rfl rfl rfl (by show _ < 256; omega) (by show _ < 256; omega)) ?_
    refine aA ?_; refine aB (kJ (m := m) (n := 6) rfl rfl hm rfl (by decide)) ?_; refine aB (jT ((m / 2 ^ 6)) rfl Tryz.underlying21 Tryz.underlying5 (by first | rfl | exact hm)) ?_
    refine aB (kM (m := (m / 2 ^ 6) % 256) (n := 63) rfl rfl rfl rfl rfl (by show _ < 256; omega) (by show _ < 256; omega)) ?_
    refine aB (jS (m := 128) (n := ((m / 2 ^ 6) % 256) &&& 63) rfl rfl rfl rfl rfl (by show _ < 256; omega) (by show _ < 256; rw [pQ]; omega)) ?_
    refine aA ?_; refine aB (jT (m) rfl Tryz.underlying21 Tryz.underlying5 (by first | rfl | exact hm)) ?_
    refine aB (kM (m := m % 256) (n := 63) rfl rfl rfl rfl rfl (by show _ < 256; omega) (by show _ < 256; omega)) ?_
    refine aB (jS (m := 128) (n := (m % 256) &&& 63) rfl rfl rfl rfl rfl (by show _ < 256; omega) (by show _ < 256; rw [pQ]; omega)) ?_
    refine bL (vs := [_, _, _]) rfl eM rfl rfl rfl rfl fun h6 h7 c4 e2 Z => ?_; have a0 := (Evo.refl ob.toList w).then Z; have hszg := (a0).size; refine cM rfl rfl rfl rfl fD (hO.evo0 Z) (Src.ofOwn c4 ⟨rfl, rfl, rfl, trivial⟩) (by omega) fun a2 c2 h8 ob2 D c5 hob35 => ?_; have hob2 : ob2 = ob ∨ ∃ g, ob2 = some g ∧ w.heap.size ≤ g := hob35.imp id (fun ⟨g, h1, h2⟩ => ⟨g, h1, Nat.le_trans hszg h2⟩); refine wan (aK (aO (br1 ?_)))
    have hf : eJ r = [224 + m / 4096, 128 + m / 64 % 64, 128 + m % 64] := by rw [hm, lT (hm ▸ hr), iN, if_neg (by omega), if_neg (by omega), if_pos (by omega)]
    have B := D; rw [r3 (by omega), uT, uT, show (2 : Nat) ^ 6 = 64 from rfl] at B
    refine ⟨a2, c2, ob2, by rw [hf]; rfl, ?_, (a0.step c5 (fun y hy => .inl hy)), hob2⟩
    rw [hf, kI]; exact B
   refine csr (aA (aB (eW rfl rfl) ?_)); refine aA (bH (t := 53) rfl (fun F => ?_) (fun F => ?_))
   ·refine aW (aA (aW (aB (dM rfl rfl) ?_))); refine bW (wan (aZ rfl (fun G => ?_) (fun G => ?_)))
    ·refine csr (aA (aA ?_)); refine aB (kJ (m := m) (n := 18) rfl rfl hm rfl (by decide)) ?_; refine aB (jT (m / 2 ^ 18) rfl Tryz.underlying21 Tryz.underlying5 (by first | rfl | exact hm)) ?_
     refine aB (jS (m := 240) (n := m / 2 ^ 18 % 256) rfl rfl rfl rfl rfl (by show _ < 256; omega) (by show _ < 256; omega)) ?_
     refine aA ?_; refine aB (kJ (m := m) (n := 12) rfl rfl hm rfl (by decide)) ?_; refine aB (jT ((m / 2 ^ 12)) rfl Tryz.underlying21 Tryz.underlying5 (by first | rfl | exact hm)) ?_
     refine aB (kM (m := (m / 2 ^ 12) % 256) (n := 63) rfl rfl rfl rfl rfl (by show _ < 256; omega) (by show _ < 256; omega)) ?_
     refine aB (jS (m := 128) (n := ((m / 2 ^ 12) % 256) &&& 63) rfl rfl rfl rfl rfl (by show _ < 256; omega) (by show _ < 256; rw [pQ]; omega)) ?_
     refine aA ?_; refine aB (kJ (m := m) (n := 6) rfl rfl hm rfl (by decide)) ?_; refine aB (jT ((m / 2 ^ 6)) rfl Tryz.underlying21 Tryz.underlying5 (by first | rfl | exact hm)) ?_
     refine aB (kM (m := (m / 2 ^ 6) % 256) (n := 63) rfl rfl rfl rfl rfl (by show _ < 256; omega) (by show _ < 256; omega)) ?_
     refine aB (jS (m := 128) (n := ((m / 2 ^ 6) % 256) &&& 63) rfl rfl rfl rfl rfl (by show _ < 256; omega) (by show _ < 256; rw [pQ]; omega)) ?_
     refine aA ?_; refine aB (jT (m) rfl Tryz.underlying21 Tryz.underlying5 (by first | rfl | exact hm)) ?_
     refine aB (kM (m := m % 256) (n := 63) rfl rfl rfl rfl rfl (by show _ < 256; omega) (by show _ < 256; omega)) ?_
     refine aB (jS (m := 128) (n := (m % 256) &&& 63) rfl rfl rfl rfl rfl (by show _ < 256; omega) (by show _ < 256; rw [pQ]; omega)) ?_
     refine bL (vs := [_, _, _, _]) rfl eM rfl rfl rfl rfl fun h9 i0 c6 e3 a1 => ?_; have a3 := (Evo.refl ob.toList w).then a1; have hszg := (a3).size; refine cM rfl rfl rfl rfl fD (hO.evo0 a1) (Src.ofOwn c6 ⟨rfl, rfl, rfl, rfl, trivial⟩) (by omega) fun a2 c2 i1 ob2 D c7 hob54 => ?_; have hob2 : ob2 = ob ∨ ∃ g, ob2 = some g ∧ w.heap.size ≤ g := hob54.imp id (fun ⟨g, h1, h2⟩ => ⟨g, h1, Nat.le_trans hszg h2⟩); refine wan (aK (aO (br1 ?_)))
     have hf : eJ r = [240 + m / 262144, 128 + m / 4096 % 64, 128 + m / 64 % 64, 128 + m % 64] := by rw [hm, lT (hm ▸ hr), iN, if_neg (by omega), if_neg (by omega), if_neg (by omega)]
     have B := D; rw [r4 (by omega), uT, uT, uT, show (2 : Nat) ^ 12 = 4096 from rfl, show (2 : Nat) ^ 6 = 64 from rfl] at B
     refine ⟨a2, c2, ob2, by rw [hf]; rfl, ?_, (a3.step c7 (fun y hy => .inl hy)), hob2⟩
     rw [hf, kI]; exact B
    refine csr (aA (bL (vs := [_, _, _]) rfl eM rfl rfl rfl rfl fun i2 i3 c8 e4 a4 => ?_)); have hszg := (((Evo.refl ob.toList w).then a4)).size; refine cM rfl rfl rfl rfl fD (hO.evo0 a4) (Src.ofOwn c8 ⟨rfl, rfl, rfl, trivial⟩) (by omega) fun a2 c2 i4 ob2 D e5 hob73 => ?_; have hob2 : ob2 = ob ∨ ∃ g, ob2 = some g ∧ w.heap.size ≤ g := hob73.imp id (fun ⟨g, h1, h2⟩ => ⟨g, h1, Nat.le_trans hszg h2⟩); refine wan (aK (aO (br1 ?_)))
    exfalso; omega
   refine aP (aP (bR (wan (cF rfl ?_)))); refine csr (aA (bL (vs := [_, _, _]) rfl eM rfl rfl rfl rfl fun i5 i6 c9 e6 a5 => ?_)); have hszg := (((Evo.refl ob.toList w).then a5)).size; refine cM rfl rfl rfl rfl fD (hO.evo0 a5) (Src.ofOwn c9 ⟨rfl, rfl, rfl, trivial⟩) (by omega) fun a2 c2 i7 ob2 D e7 hob92 => ?_; have hob2 : ob2 = ob ∨ ∃ g, ob2 = some g ∧ w.heap.size ≤ g := hob92.imp id (fun ⟨g, h1, h2⟩ => ⟨g, h1, Nat.le_trans hszg h2⟩); refine wan (aK (aO (br1 ?_)))
   exfalso; omega
  refine aF (aA (aB (dA rfl rfl) ?_)); refine aA (bH (t := 30) rfl (fun d0 => ?_) (fun d0 => ?_))
  ·refine aW (aA (aW (aB (dM rfl rfl) ?_))); refine bW (wan (aZ rfl (fun E => ?_) (fun E => ?_)))
   ·refine csr (aA (aA ?_)); refine aB (kJ (m := m) (n := 12) rfl rfl hm rfl (by decide)) ?_; refine aB (jT (m / 2 ^ 12) rfl Tryz.underlying21 Tryz.underlying5 (by first | rfl | exact hm)) ?_
    refine aB (jS (m := 224) (n := m / 2 ^ 12 % 256) rfl rfl rfl rfl rfl (by show _ < 256; omega) (by show _ < 256; omega)) ?_
    refine aA ?_; refine aB (kJ (m := m) (n := 6) rfl rfl hm rfl (by decide)) ?_; refine aB (jT ((m / 2 ^ 6)) rfl Tryz.underlying21 Tryz.underlying5 (by first | rfl | exact hm)) ?_
    refine aB (kM (m := (m / 2 ^ 6) % 256) (n := 63) rfl rfl rfl rfl rfl (by show _ < 256; omega) (by show _ < 256; omega)) ?_
    refine aB (jS (m := 128) (n := ((m / 2 ^ 6) % 256) &&& 63) rfl rfl rfl rfl rfl (by show _ < 256; omega) (by show _ < 256; rw [pQ]; omega)) ?_
    refine aA ?_; refine aB (jT (m) rfl Tryz.underlying21 Tryz.underlying5 (by first | rfl | exact hm)) ?_
    refine aB (kM (m := m % 256) (n := 63) rfl rfl rfl rfl rfl (by show _ < 256; omega) (by show _ < 256; omega)) ?_
    refine aB (jS (m := 128) (n := (m % 256) &&& 63) rfl rfl rfl rfl rfl (by show _ < 256; omega) (by show _ < 256; rw [pQ]; omega)) ?_
    refine bL (vs := [_, _, _]) rfl eM rfl rfl rfl rfl fun i8 i9 d1 e8 H => ?_; have I := (Evo.refl ob.toList w).then H; have hszg := (I).size; refine cM rfl rfl rfl rfl fD (hO.evo0 H) (Src.ofOwn d1 ⟨rfl, rfl, rfl, trivial⟩) (by omega) fun a2 c2 e9 ob2 D a6 hob111 => ?_; have hob2 : ob2 = ob ∨ ∃ g, ob2 = some g ∧ w.heap.size ≤ g := hob111.imp id (fun ⟨g, h1, h2⟩ => ⟨g, h1, Nat.le_trans hszg h2⟩); refine wan (aK (aO (br1 ?_)))
    have hf : eJ r = [224 + m / 4096, 128 + m / 64 % 64, 128 + m % 64] := by rw [hm, lT (hm ▸ hr), iN, if_neg (by omega), if_neg (by omega), if_pos (by omega)]
    have B := D; rw [r3 (by omega), uT, uT, show (2 : Nat) ^ 6 = 64 from rfl] at B
    refine ⟨a2, c2, ob2, by rw [hf]; rfl, ?_, (I.step a6 (fun y hy => .inl hy)), hob2⟩
    rw [hf, kI]; exact B
   refine csr (aA (aB (eW rfl rfl) ?_)); refine aA (bH (t := 53) rfl (fun F => ?_) (fun F => ?_))
   ·refine aW (aA (aW (aB (dM rfl rfl) ?_))); refine bW (wan (aZ rfl (fun G => ?_) (fun G => ?_)))
    ·refine csr (aA (aA ?_)); refine aB (kJ (m := m) (n := 18) rfl rfl hm rfl (by decide)) ?_; refine aB (jT (m / 2 ^ 18) rfl Tryz.underlying21 Tryz.underlying5 (by first | rfl | exact hm)) ?_
     refine aB (jS (m := 240) (n := m / 2 ^ 18 % 256) rfl rfl rfl rfl rfl (by show _ < 256; omega) (by show _ < 256; omega)) ?_
     refine aA ?_; refine aB (kJ (m := m) (n := 12) rfl rfl hm rfl (by decide)) ?_; refine aB (jT ((m / 2 ^ 12)) rfl Tryz.underlying21 Tryz.underlying5 (by first | rfl | exact hm)) ?_
     refine aB (kM (m := (m / 2 ^ 12) % 256) (n := 63) rfl rfl rfl rfl rfl (by show _ < 256; omega) (by show _ < 256; omega)) ?_
     refine aB (jS (m := 128) (n := ((m / 2 ^ 12) % 256) &&& 63) rfl rfl rfl rfl rfl (by show _ < 256; omega) (by show _ < 256; rw [pQ]; omega)) ?_
     refine aA ?_; refine aB (kJ (m := m) (n := 6) rfl rfl hm rfl (by decide)) ?_; refine aB (jT ((m / 2 ^ 6)) rfl Tryz.underlying21 Tryz.underlying5 (by first | rfl | exact hm)) ?_
     refine aB (kM (m := (m / 2 ^ 6) % 256) (n := 63) rfl rfl rfl rfl rfl (by show _ < 256; omega) (by show _ < 256; omega)) ?_
     refine aB (jS (m := 128) (n := ((m / 2 ^ 6) % 256) &&& 63) rfl rfl rfl rfl rfl (by show _ < 256; omega) (by show _ < 256; rw [pQ]; omega)) ?_
     refine aA ?_; refine aB (jT (m) rfl Tryz.underlying21 Tryz.underlying5 (by first | rfl | exact hm)) ?_
     refine aB (kM (m := m % 256) (n := 63) rfl rfl rfl rfl rfl (by show _ < 256; omega) (by show _ < 256; omega)) ?_
     refine aB (jS (m := 128) (n := (m % 256) &&& 63) rfl rfl rfl rfl rfl (by show _ < 256; omega) (by show _ < 256; rw [pQ]; omega)) ?_
     refine bL (vs := [_, _, _, _]) rfl eM rfl rfl rfl rfl fun f0 f5 a7 d2 J => ?_; have L := (Evo.refl ob.toList w).then J; have hszg := (L).size; refine cM rfl rfl rfl rfl fD (hO.evo0 J) (Src.ofOwn a7 ⟨rfl, rfl, rfl, rfl, trivial⟩) (by omega) fun a2 c2 f6 ob2 D a8 hob130 => ?_; have hob2 : ob2 = ob ∨ ∃ g, ob2 = some g ∧ w.heap.size ≤ g := hob130.imp id (fun ⟨g, h1, h2⟩ => ⟨g, h1, Nat.le_trans hszg h2⟩); refine wan (aK (aO (br1 ?_)))
     have hf : eJ r = [240 + m / 262144, 128 + m / 4096 % 64, 128 + m / 64 % 64, 128 + m % 64] := by rw [hm, lT (hm ▸ hr), iN, if_neg (by omega), if_neg (by omega), if_neg (by omega)]
     have B := D; rw [r4 (by omega), uT, uT, uT, show (2 : Nat) ^ 12 = 4096 from rfl, show (2 : Nat) ^ 6 = 64 from rfl] at B
     refine ⟨a2, c2, ob2, by rw [hf]; rfl, ?_, (L.step a8 (fun y hy => .inl hy)), hob2⟩
     rw [hf, kI]; exact B
    refine csr (aA (bL (vs := [_, _, _]) rfl eM rfl rfl rfl rfl fun f7 f8 a9 d3 M => ?_)); have hszg := (((Evo.refl ob.toList w).then M)).size; refine cM rfl rfl rfl rfl fD (hO.evo0 M) (Src.ofOwn a9 ⟨rfl, rfl, rfl, trivial⟩) (by omega) fun a2 c2 f9 ob2 D d4 hob149 => ?_; have hob2 : ob2 = ob ∨ ∃ g, ob2 = some g ∧ w.heap.size ≤ g := hob149.imp id (fun ⟨g, h1, h2⟩ => ⟨g, h1, Nat.le_trans hszg h2⟩); refine wan (aK (aO (br1 ?_)))
    exfalso; omega
   refine aP (aP (bR (wan (cF rfl ?_)))); refine csr (aA (bL (vs := [_, _, _]) rfl eM rfl rfl rfl rfl fun g0 g1 b4 d5 O => ?_)); have hszg := (((Evo.refl ob.toList w).then O)).size; refine cM rfl rfl rfl rfl fD (hO.evo0 O) (Src.ofOwn b4 ⟨rfl, rfl, rfl, trivial⟩) (by omega) fun a2 c2 g2 ob2 D d6 hob168 => ?_; have hob2 : ob2 = ob ∨ ∃ g, ob2 = some g ∧ w.heap.size ≤ g := hob168.imp id (fun ⟨g, h1, h2⟩ => ⟨g, h1, Nat.le_trans hszg h2⟩); refine wan (aK (aO (br1 ?_)))
   exfalso; omega
  refine aP (aP (bR (wan (cF rfl ?_)))); refine csr (aA (aB (eW rfl rfl) ?_)); refine aA (bH (t := 53) rfl (fun F => ?_) (fun F => ?_))
  ·refine aW (aA (aW (aB (dM rfl rfl) ?_))); refine bW (wan (aZ rfl (fun G => ?_) (fun G => ?_)))
   ·refine csr (aA (aA ?_)); refine aB (kJ (m := m) (n := 18) rfl rfl hm rfl (by decide)) ?_; refine aB (jT (m / 2 ^ 18) rfl Tryz.underlying21 Tryz.underlying5 (by first | rfl | exact hm)) ?_
    refine aB (jS (m := 240) (n := m / 2 ^ 18 % 256) rfl rfl rfl rfl rfl (by show _ < 256; omega) (by show _ < 256; omega)) ?_
    refine aA ?_; refine aB (kJ (m := m) (n := 12) rfl rfl hm rfl (by decide)) ?_; refine aB (jT ((m / 2 ^ 12)) rfl Tryz.underlying21 Tryz.underlying5 (by first | rfl | exact hm)) ?_
    refine aB (kM (m := (m / 2 ^ 12) % 256) (n := 63) rfl rfl rfl rfl rfl (by show _ < 256; omega) (by show _ < 256; omega)) ?_
    refine aB (jS (m := 128) (n := ((m / 2 ^ 12) % 256) &&& 63) rfl rfl rfl rfl rfl (by show _ < 256; omega) (by show _ < 256; rw [pQ]; omega)) ?_
    refine aA ?_; refine aB (kJ (m := m) (n := 6) rfl rfl hm rfl (by decide)) ?_; refine aB (jT ((m / 2 ^ 6)) rfl Tryz.underlying21 Tryz.underlying5 (by first | rfl | exact hm)) ?_
    refine aB (kM (m := (m / 2 ^ 6) % 256) (n := 63) rfl rfl rfl rfl rfl (by show _ < 256; omega) (by show _ < 256; omega)) ?_
    refine aB (jS (m := 128) (n := ((m / 2 ^ 6) % 256) &&& 63) rfl rfl rfl rfl rfl (by show _ < 256; omega) (by show _ < 256; rw [pQ]; omega)) ?_
    refine aA ?_; refine aB (jT (m) rfl Tryz.underlying21 Tryz.underlying5 (by first | rfl | exact hm)) ?_
    refine aB (kM (m := m % 256) (n := 63) rfl rfl rfl rfl rfl (by show _ < 256; omega) (by show _ < 256; omega)) ?_
    refine aB (jS (m := 128) (n := (m % 256) &&& 63) rfl rfl rfl rfl rfl (by show _ < 256; omega) (by show _ < 256; rw [pQ]; omega)) ?_
    refine bL (vs := [_, _, _, _]) rfl eM rfl rfl rfl rfl fun g3 g4 b5 d7 U => ?_; have V := (Evo.refl ob.toList w).then U; have hszg := (V).size; refine cM rfl rfl rfl rfl fD (hO.evo0 U) (Src.ofOwn b5 ⟨rfl, rfl, rfl, rfl, trivial⟩) (by omega) fun a2 c2 g5 ob2 D b6 hob187 => ?_; have hob2 : ob2 = ob ∨ ∃ g, ob2 = some g ∧ w.heap.size ≤ g := hob187.imp id (fun ⟨g, h1, h2⟩ => ⟨g, h1, Nat.le_trans hszg h2⟩); refine wan (aK (aO (br1 ?_)))
    have hf : eJ r = [240 + m / 262144, 128 + m / 4096 % 64, 128 + m / 64 % 64, 128 + m % 64] := by rw [hm, lT (hm ▸ hr), iN, if_neg (by omega), if_neg (by omega), if_neg (by omega)]
    have B := D; rw [r4 (by omega), uT, uT, uT, show (2 : Nat) ^ 12 = 4096 from rfl, show (2 : Nat) ^ 6 = 64 from rfl] at B
    refine ⟨a2, c2, ob2, by rw [hf]; rfl, ?_, (V.step b6 (fun y hy => .inl hy)), hob2⟩
    rw [hf, kI]; exact B
   refine csr (aA (bL (vs := [_, _, _]) rfl eM rfl rfl rfl rfl fun g6 g7 b7 d8 W => ?_)); have hszg := (((Evo.refl ob.toList w).then W)).size; refine cM rfl rfl rfl rfl fD (hO.evo0 W) (Src.ofOwn b7 ⟨rfl, rfl, rfl, trivial⟩) (by omega) fun a2 c2 g8 ob2 D d9 hob206 => ?_; have hob2 : ob2 = ob ∨ ∃ g, ob2 = some g ∧ w.heap.size ≤ g := hob206.imp id (fun ⟨g, h1, h2⟩ => ⟨g, h1, Nat.le_trans hszg h2⟩); refine wan (aK (aO (br1 ?_)))
   exfalso; omega
  refine aP (aP (bR (wan (cF rfl ?_)))); refine csr (aA (bL (vs := [_, _, _]) rfl eM rfl rfl rfl rfl fun g9 h0 b8 e0 Y => ?_)); have hszg := (((Evo.refl ob.toList w).then Y)).size; refine cM rfl rfl rfl rfl fD (hO.evo0 Y) (Src.ofOwn b8 ⟨rfl, rfl, rfl, trivial⟩) (by omega) fun a2 c2 h3 ob2 D e1 hob225 => ?_; have hob2 : ob2 = ob ∨ ∃ g, ob2 = some g ∧ w.heap.size ≤ g := hob225.imp id (fun ⟨g, h1, h2⟩ => ⟨g, h1, Nat.le_trans hszg h2⟩); refine wan (aK (aO (br1 ?_)))
  exfalso; omega
theorem HB : BS Tryz.prog 78 9 = some (5, 1, 1) := by kernel_rfl
theorem iX : eU Tryz.prog 80 1 = some 1 := by kernel_rfl
theorem GL : dW Tryz.prog 124 := ⟨_, Tryz.func124, by kernel_rfl, by kernel_rfl⟩
theorem GE : dW Tryz.prog 141 := ⟨_, Tryz.func141, by kernel_rfl, by kernel_rfl⟩
theorem sP : dW Tryz.prog 70 := ⟨_, Tryz.func70, by kernel_rfl, by kernel_rfl⟩
theorem sM : iJ Tryz.prog 78 = some 1 := by kernel_rfl
structure BdN (w : World) (b : Nat) (l : List Nat) (ob : Option Nat) : Prop where
  get : ∃ p a c, w.heap[b]? = some (.cells #[p, .slice a l.length c] 80 (0, 0)) ∧ (p = .pointer none ∨ p = .pointer (some ⟨b, 0, none⟩)) ∧ OwnS w 5 1 a l.length c (iQ l) ob
  ne : ∀ g, ob = some g → g ≠ b
theorem BdN.new {w : World} {b : Nat} (h : w.heap[b]? = some (.cells #[.pointer none, .slice none 0 0] 80 (0, 0))) : BdN w b [] none := ⟨⟨_, _, _, h, .inl rfl, OwnS.nil _ _ _⟩, fun g h => by cases h⟩
theorem BdN.evo {X : List Nat} {w w' : World} {b : Nat} {l : List Nat} {ob : Option Nat} (h : BdN w b l ob) (he : Evo X w w') (h1 : b ∉ X) (h2 : ∀ g, ob = some g → g ∉ X) : BdN w' b l ob := by
  obtain ⟨⟨p, a, c, h3, h4, h5⟩, h6⟩ := h
  exact ⟨⟨p, a, c, he.blk h3 h1, h4, h5.evo he h2⟩, h6⟩
theorem BdN.evo0 {w w' : World} {b : Nat} {l : List Nat} {ob : Option Nat} (h : BdN w b l ob) (he : Evo [] w w') : BdN w' b l ob := h.evo he (fun h => by cases h) (fun _ _ h => by cases h)
theorem BdN.lt {w : World} {b : Nat} {l : List Nat} {ob : Option Nat} (h : BdN w b l ob) : b < w.heap.size := by
  obtain ⟨⟨p, a, c, h3, h4, h5⟩, h6⟩ := h
  exact fF h3
theorem BdN.ltO {w : World} {b : Nat} {l : List Nat} {ob : Option Nat} (h : BdN w b l ob) : Lt w ob := by
  obtain ⟨⟨p, a, c, h3, h4, h5⟩, h6⟩ := h
  exact Lt.own h5
def Wr (w : World) (b : Nat) (l : List Nat) (ob : Option Nat) (w' : World) : Prop := ∃ ob', BdN w' b l ob' ∧ Evo (b :: ob.toList) w w' ∧ (ob' = ob ∨ ∃ g, ob' = some g ∧ w.heap.size ≤ g)
def Lo (l : List Nat) : Prop := ∀ b, b ∈ l → b < 256
theorem zA {w : World} {b : Nat} {l : List Nat} {ob : Option Nat} (h : BdN w b l ob) : ∃ p a c, w.heap[b]? = some (.cells #[p, .slice a l.length c] 80 (0, 0)) ∧ (p = .pointer none ∨ p = .pointer (some ⟨b, 0, none⟩)) ∧ OwnS w 5 1 a l.length c (iQ l) ob ∧ Apart (some b) ob := by
  obtain ⟨⟨p, a, c, h3, h4, h5⟩, h6⟩ := h
  exact ⟨p, a, c, h3, h4, h5, fun g h1 h2 => by cases h1; exact h6 b h2 rfl⟩
theorem FJ {w w' : World} {b : Nat} {l m : List Nat} {ob ob2 : Option Nat} {a2 : Option Addr} {c2 n : Nat} {hap : Apart (some b) ob} (hb : b < w.heap.size) (hn : n = (l ++ m).length) (h1 : w'.heap[b]? = some (.cells #[.pointer (some ⟨b, 0, none⟩), .slice a2 n c2] 80 (0, 0)))
    (h2 : OwnS w' 5 1 a2 n c2 (iQ (l ++ m)) ob2) (h3 : Evo (b :: ob.toList) w w') (h4 : ob2 = ob ∨ ∃ g, ob2 = some g ∧ w.heap.size ≤ g) : Wr w b (l ++ m) ob w' := by
  subst hn
  refine ⟨ob2, ⟨⟨_, _, _, h1, .inr rfl, h2⟩, fun g hg e => ?_⟩, h3, h4⟩
  subst e
  rcases h4 with h4 | ⟨g', h4, h5⟩
  · exact hap g rfl (h4 ▸ hg)
  · rw [h4] at hg; cases hg; omega
theorem BQ {w : World} {a : Option Addr} {c : Nat} {l : List Nat} {ob : Option Nat} {r : Int} (hO : OwnS w 5 1 a l.length c (iQ l) ob) (hr : IsR r) (hl : l.length ≤ 100000000) :
    Calls Tryz.prog 124 #[.slice a l.length c, .int .i32 r] w (Ret fun v w' => ∃ a' c' ob', v = .slice a' (l.length + (eJ r).length) c' ∧ OwnS w' 5 1 a' (l.length + (eJ r).length) c' (iQ (l ++ eJ r)) ob' ∧ Evo ob.toList w w' ∧ (ob' = ob ∨ ∃ g, ob' = some g ∧ w.heap.size ≤ g)) := by
  have hr' := hr; unfold IsR at hr'; obtain ⟨m, hm⟩ : ∃ m : Nat, r = (m : Int) := ⟨r.toNat, by omega⟩; refine bE (N := 16) Tryz.func124 rfl rfl rfl ?_; refine csr (wan (aM (csr (aA ?_))))
  refine aB (fY m rfl Tryz.underlying21 Tryz.underlying163 hm (by show ((m : Nat) : Int) ≤ 4294967295; omega)) ?_
  refine aB (dM rfl rfl) ?_; refine wnn (aZ rfl (fun I => ?_) (fun I => ?_))
  ·refine csr (aA (aA (aB (jT m rfl Tryz.underlying21 Tryz.underlying5 hm) ?_))); refine bL (vs := [_]) rfl eM rfl rfl rfl rfl fun b1 w2 B J E => ?_; have F := (Evo.refl ob.toList w).then E; have hszg := (F).size; refine cM rfl rfl rfl rfl fD (hO.evo0 E) (Src.ofOwn B ⟨rfl, trivial⟩) (by omega) fun a2 c2 L ob2 D G hob16 => ?_; have hob2 : ob2 = ob ∨ ∃ g, ob2 = some g ∧ w.heap.size ≤ g := hob16.imp id (fun ⟨g, h1, h2⟩ => ⟨g, h1, Nat.le_trans hszg h2⟩); refine wan (aK (aE (br1 ?_)))
   have hf : eJ r = [m] := by rw [hm, lT (hm ▸ hr), iN, if_pos (by omega)]
   have B := D; rw [Nat.mod_eq_of_lt (show m < 256 by omega)] at B
   refine ⟨a2, c2, ob2, by rw [hf]; rfl, ?_, (F.step G (fun y hy => .inl hy)), hob2⟩
   rw [hf, kI]; exact B
  refine aN (aC (csr (aA (aA ?_)))); refine aG (vs := [_, _]) GE rfl (BR hO hr (by omega) hl) rfl ?_; rintro _ M ⟨a2, c2, ob2, rfl, D, H, hob2⟩; refine wan (aK (br1 ?_)); exact ⟨a2, c2, ob2, rfl, D, ((Evo.refl ob.toList w).step H (fun y hy => .inl hy)), hob2⟩
theorem eV {w : World} {b : Nat} {l m : List Nat} {ob : Option Nat} {s : ByteArray} (h : BdN w b l ob) (hs : s = bstr m) (hm : Lo m) (hl : l.length ≤ 100000000) (hl2 : m.length ≤ 100000000) :
    Calls Tryz.prog 49 #[.pointer (some ⟨b, 0, none⟩), .string s] w (Ret fun v w' => Wr w b (l ++ m) ob w') := by
  obtain ⟨p, a, c, hJ, hp, hO, hap⟩ := zA h; have hbl := fF hJ; refine bE (N := 19) Tryz.func49 rfl rfl rfl ?_; refine csr (bN (wan (csr (aA (aG (vs := [_]) sP rfl (rG hJ hp) rfl ?_))))); rintro _ w1 ⟨rfl, B, G⟩
  have H := (Evo.refl (b :: ob.toList) w).step G (fun y hy => .inl (by rw [List.mem_singleton.1 hy]; exact List.mem_cons_self ..))
  refine wnn (csr (aA (aA (aB (aH rfl) (wfl rfl iX rfl nJ B rfl (aA ?_)))))); have hszg := (H).size
  refine cM rfl rfl rfl rfl HB (hO.evo G hap.symm.own1) (by rw [hs]; exact Src.bstr hm) (by omega) fun a2 c2 w7 ob2 L D hob11 => ?_
  have I := H.step D (fun y hy => .inl (List.mem_cons_of_mem _ hy)); have hob2 : ob2 = ob ∨ ∃ g, ob2 = some g ∧ w.heap.size ≤ g := hob11.imp id (fun ⟨g, h1, h2⟩ => ⟨g, h1, Nat.le_trans hszg h2⟩); refine aB (aH rfl) (aB (aD rfl iX) (bJ rfl rfl (rfl) sM (D.blk B hap.nmem) rfl fun M E F => ?_))
  have J := I.step F (fun y hy => .inl (by rw [List.mem_singleton.1 hy]; exact List.mem_cons_self ..))
  try simp only [cH, Nat.reduceAdd] at E
  refine wnn (csr (aA (aB (cQ rfl Tryz.underlying9 rfl) ?_))); refine bN (wan (aK (cE rfl rfl rfl ?_)))
  exact FJ (hap := hap) hbl (by rw [List.length_append]) E (by rw [kI]; exact (L.evo F (hap.app (Lt.blk B) hob11).symm.own1)) J hob2
theorem qW {w : World} {b : Nat} {l : List Nat} {ob : Option Nat} (x : Nat) (h : BdN w b l ob) (hl : l.length ≤ 100000000) :
    Calls Tryz.prog 42 #[.pointer (some ⟨b, 0, none⟩), .int .u8 (x : Nat)] w (Ret fun v w' => Wr w b (l ++ [x]) ob w') := by
  obtain ⟨p, a, c, hJ, hp, hO, hap⟩ := zA h; have hbl := fF hJ; refine bE (N := 17) Tryz.func42 rfl rfl rfl ?_; refine csr (wan (csr (aA (aG (vs := [_]) sP rfl (rG hJ hp) rfl ?_)))); rintro _ w1 ⟨rfl, D, H⟩
  have I := (Evo.refl (b :: ob.toList) w).step H (fun y hy => .inl (by rw [List.mem_singleton.1 hy]; exact List.mem_cons_self ..))
  refine wnn (csr (aA (aA (aB (aH rfl) (wfl rfl iX rfl nJ D rfl (aA (bL (vs := [_]) rfl eM rfl rfl rfl rfl fun b5 w6 M U B => ?_))))))); have hszg := ((I.then B)).size; refine cM rfl rfl rfl rfl fD ((hO.evo H hap.symm.own1).evo0 B) (Src.ofOwn M ⟨rfl, trivial⟩) (by omega) fun a2 c2 V ob2 O E hob22 => ?_; have J := (I.then B).step E (fun y hy => .inl (List.mem_cons_of_mem _ hy)); have hob2 : ob2 = ob ∨ ∃ g, ob2 = some g ∧ w.heap.size ≤ g := hob22.imp id (fun ⟨g, h1, h2⟩ => ⟨g, h1, Nat.le_trans hszg h2⟩); refine aB (aH rfl) (aB (aD rfl iX) (bJ rfl rfl (rfl) sM (E.blk (B.blk0 D) hap.nmem) rfl fun W F G => ?_))
  have L := J.step G (fun y hy => .inl (by rw [List.mem_singleton.1 hy]; exact List.mem_cons_self ..))
  try simp only [cH, Nat.reduceAdd] at F
  refine wnn (csr (wan (aK (br1 ?_))))
  exact FJ (hap := hap) hbl (by rw [List.length_append]; rfl) F (by rw [kI]; exact (O.evo G (hap.app (Lt.blk (B.blk0 D)) hob22).symm.own1)) L hob2
theorem mN {w : World} {b : Nat} {l : List Nat} {ob : Option Nat} {r : Int} (h : BdN w b l ob) (hr : IsR r) (hl : l.length ≤ 100000000) :
    Calls Tryz.prog 100 #[.pointer (some ⟨b, 0, none⟩), .int .i32 r] w (Ret fun v w' => Wr w b (l ++ eJ r) ob w') := by
  have hfl := tC r; obtain ⟨p, a, c, hJ, hp, hO, hap⟩ := zA h; have hbl := fF hJ; refine bE (N := 30) Tryz.func100 rfl rfl rfl ?_; refine csr (bN (wan (csr (aA (aG (vs := [_]) sP rfl (rG hJ hp) rfl ?_))))); rintro _ w1 ⟨rfl, D, F⟩
  have G := (Evo.refl (b :: ob.toList) w).step F (fun y hy => .inl (by rw [List.mem_singleton.1 hy]; exact List.mem_cons_self ..))
  refine wnn (csr (aA (aB (aH rfl) (wfl rfl iX rfl nJ D rfl (aB (bM rfl Tryz.underlying78 rfl) ?_))))); refine wan (csr (aA (aA (aB (aH rfl) (wfl rfl iX rfl nJ D rfl (aA (aG (vs := [_, _]) GL rfl (BQ (hO.evo F hap.symm.own1) hr hl) rfl ?_))))))); rintro _ w5 ⟨a2, c2, ob2, rfl, J, H, hob1⟩; have hsz9 := G.size; have hob2 : ob2 = ob ∨ ∃ g, ob2 = some g ∧ w.heap.size ≤ g := hob1.imp id (fun ⟨g, h1, h2⟩ => ⟨g, h1, Nat.le_trans hsz9 h2⟩); have L := G.step H (fun y hy => .inl (List.mem_cons_of_mem _ hy)); refine aB (aH rfl) (aB (aD rfl iX) (bJ rfl rfl (rfl) sM (H.blk D (hap.nmem)) rfl fun w9 B E => ?_))
  have I := L.step E (fun y hy => .inl (by rw [List.mem_singleton.1 hy]; exact List.mem_cons_self ..))
  try simp only [cH, Nat.reduceAdd] at B
  refine wnn (csr (aA (aB (aH rfl) (wfl rfl iX rfl nJ B rfl (aB (bM rfl Tryz.underlying78 rfl) ?_))))); refine aA ?_; refine aB (dX rfl rfl (by omega) (by omega)) ?_; refine bN (wan (aK (cE rfl rfl rfl ?_))); exact FJ (hap := hap) hbl (by rw [List.length_append]) B (J.evo E (gX hap (Lt.blk hJ) hob2).symm.own1) I hob2
theorem OZ {w : World} {b : Nat} {l : List Nat} {ob : Option Nat} (h : BdN w b l ob) :
    Calls Tryz.prog 51 #[.pointer (some ⟨b, 0, none⟩)] w (Ret fun v w' => v = iv (l.length : Nat) ∧ Evo [] w w') := by
  obtain ⟨p, a, c, hJ, hp, hO, hap⟩ := zA h; have hbl := fF hJ; refine bE (N := 8) Tryz.func51 rfl rfl rfl ?_; refine csr (wan (csr (aA (aB (aH rfl) (wfl rfl iX rfl nJ hJ rfl (aB (bM rfl Tryz.underlying78 rfl) ?_)))))); refine wan (aK (br1 ?_)); exact ⟨rfl, (Evo.refl [] w)⟩
theorem uD {w : World} {b : Nat} {l : List Nat} {ob : Option Nat} (h : BdN w b l ob) (hl : Lo l) (hg : ∀ g, ob = some g → b ≤ g) :
    Calls Tryz.prog 43 #[.pointer (some ⟨b, 0, none⟩)] w (Ret fun v w' => v = .string (bstr l) ∧ Evo (XB b w) w w') := by
  obtain ⟨⟨p, a, c, hJ, hp, hO⟩, hne⟩ := h
  have hbc := sK hl
  have hll : (bstr l).data.toList.length = l.length := by simp [bstr]
  have hown : w.ownsRow b 5 1 (.slice a l.length c) (Lib.byteCells (bstr l).data.toList).length (Lib.byteCells (bstr l).data.toList) := by
    rw [Lib.byteCells_length, hbc, hll]
    refine ⟨hO.1, ?_⟩
    rcases hO.2 with ⟨h1, h2, h3⟩ | ⟨g, cap, cur, h1, h2, h3, h4⟩
    · exact .inl ⟨h1, h2⟩
    · exact .inr ⟨g, cap, cur, h2, hg g h1, h3, h4⟩
  have hne2 : (Value.slice a l.length c).ownBlock ≠ some b := by
    rcases hO.2 with ⟨h1, h2, h3⟩ | ⟨g, cap, cur, h1, h2, h3, h4⟩
    · rw [h1]; simp [Value.ownBlock]
    · rw [h2]; simp only [Value.ownBlock]; intro e; cases e; exact hne _ h1 rfl
  have hB : Lib.IsBuilder 80 5 b b (Lib.byteCells (bstr l).data.toList) w := by
    rcases hp with rfl | rfl
    · exact .inl ⟨Nat.le_refl _, _, hJ, hown, hne2⟩
    · exact .inr ⟨Nat.le_refl _, _, hJ, hown, hne2⟩
  refine (qV b b _ w hB (Nat.le_of_lt (fF hJ))).mono ?_
  rintro e w' ⟨rfl, h1⟩
  exact ⟨_, rfl, rfl, WZ h1⟩
theorem RA : nU Tryz.prog 5 = some false := by kernel_rfl
theorem GF : dW Tryz.prog 140 := ⟨_, Tryz.func140, by kernel_rfl, by kernel_rfl⟩
theorem FY : dW Tryz.prog 157 := ⟨_, Tryz.func157, by kernel_rfl, by kernel_rfl⟩
theorem FW : dW Tryz.prog 167 := ⟨_, Tryz.func167, by kernel_rfl, by kernel_rfl⟩
theorem FV : dW Tryz.prog 168 := ⟨_, Tryz.func168, by kernel_rfl, by kernel_rfl⟩
theorem FU : dW Tryz.prog 182 := ⟨_, Tryz.func182, by kernel_rfl, by kernel_rfl⟩
theorem nI : iJ Tryz.prog 5 = some 1 := by kernel_rfl
theorem FN : pF Tryz.prog 187 = some #[.int .u8 0, .int .u8 0, .int .u8 0, .int .u8 0, .int .u8 0, .int .u8 0, .int .u8 0, .int .u8 0, .int .u8 0, .int .u8 0, .int .u8 0, .int .u8 0, .int .u8 0, .int .u8 0, .int .u8 0, .int .u8 0, .int .u8 0, .int .u8 0, .int .u8 0, .int .u8 0, .int .u8 0, .int .u8 0, .int .u8 0, .int .u8 0, .int .u8 0, .int .u8 0, .int .u8 0, .int .u8 0, .int .u8 0, .int .u8 0, .int .u8 0, .int .u8 0, .int .u8 0, .int .u8 0, .int .u8 0, .int .u8 0, .int .u8 0, .int .u8 0, .int .u8 0, .int .u8 0, .int .u8 0, .int .u8 0, .int .u8 0, .int .u8 0, .int .u8 0, .int .u8 0, .int .u8 0, .int .u8 0, .int .u8 0, .int .u8 0, .int .u8 0, .int .u8 0, .int .u8 0, .int .u8 0, .int .u8 0, .int .u8 0, .int .u8 0, .int .u8 0, .int .u8 0, .int .u8 0, .int .u8 0, .int .u8 0, .int .u8 0, .int .u8 0, .int .u8 0] := by kernel_rfl
section
variable {P : Program} {σ : Env} {w : World} {dst : Option Nat} {T : TypeId} {pos : String} {after : Array Edge} {g : Option (Nat × Bool)}
theorem ex_unR {op : UnOp} {t : TypeId} {x : Operand} {a r : Value} (hx : σ.ev x = some a) (h : ∀ w, (execOp (fun _ => a) ⟨none, .unOp op t x, T, pos, after, none⟩).run P w = .ok (.value r) w) : Ex P σ ⟨dst, .unOp op t x, T, pos, after, g⟩ w r w := fun ρ ha => by
  have h1 := h w
  simp only [execOp, ha _ _ hx] at h1 ⊢
  exact h1
theorem MC {x lo : Operand} {t e : TypeId} {len sz b l : Nat} {lv : Int} (hx : σ.ev x = some (.pointer (some ⟨b, 0, none⟩))) (hlo : σ.ev lo = some (.int .i64 lv)) (ht : P.underlying t = some (.array len e)) (hs : iJ P e = some sz) (hl : lv = (l : Int)) (hle : l < len) :
    Ex P σ ⟨dst, .slice t x (some lo) none none, T, pos, after, g⟩ w (.slice (some ⟨b, l * sz, none⟩) (len - l) (len - l)) w := fun ρ hρ => by
  subst hl
  have hb : (Instr.sliceBounds false len len (some (.int .i64 (l : Int))) none none).run P w = .ok (l, len, len) w := by
    simp [Instr.sliceBounds, Instr.sliceBound, asIntOf, Nat.le_of_lt hle]
  simp only [execOp, hρ x _ hx, Option.map_some, Option.map_none, hρ lo _ hlo, Instr.sliceAt, run_underlying ht, Sem.run_bind, Result.andThen_ok, Instr.sureAddr, Sem.run_pure, hb, pA hs]
  rw [if_neg (by omega)]
  simp [Addr.add]
  exact fun h => h.symm
theorem BO {x : Operand} {t t' e : TypeId} {b o n c : Nat} {l : List Nat} (hx : σ.ev x = some (.slice (some ⟨b, o, none⟩) n c)) (hs : P.underlying t = some (.slice e)) (he : P.underlying e = some (.int .u8)) (hd : P.underlying t' = some .string)
    (hn : l.length = n) (hc : ∀ j v, (iQ l)[j]? = some v → w.cell? ⟨b, o + j, none⟩ = some v) : Ex P σ ⟨dst, .convert t t' x, T, pos, after, g⟩ w (.string (bstr l)) w := fun ρ h => by
  have h1 := run_convert_bytes_string (P := P) w t t' e (some ⟨b, o, none⟩) n c hs he hd
  have h3 : (loadCells ⟨b, o, none⟩ n).run P w = .ok ((l.map fun (c : Nat) => (c : Int)).map (Value.int .u8)).toArray w := by
    have h4 : iQ l = (l.map fun (c : Nat) => (c : Int)).map (Value.int .u8) := by simp [iQ, Function.comp_def]
    rw [← h4]
    have := rY (P := P) (w := w) (b := b) (o := o) (vs := iQ l) hc
    rw [show (iQ l).length = n by simp [iQ, hn]] at this
    exact this
  have h2 : (Conv.bytesToString (.slice (some ⟨b, o, none⟩) n c)).run P w = .ok (.string (bstr l)) w := by
    rw [run_bytesToString (P := P) w _ n c _ h3, List.foldl_map, tJ]
    congr 2
  simp only [execOp, h x _ hx, Sem.run_bind, h1, h2, Result.andThen_ok, Sem.run_pure]
end
def hx (d : Nat) : Nat := if d < 10 then 48 + d else 87 + d
def uZ (n : Nat) : List Nat := if n < 16 then [hx n] else uZ (n / 16) ++ [hx (n % 16)]
termination_by n
decreasing_by omega
theorem EW {n : Nat} (h : n < 16) : uZ n = [hx n] := by rw [uZ, if_pos h]
theorem OG {n : Nat} (h : ¬ n < 16) : uZ n = uZ (n / 16) ++ [hx (n % 16)] := by rw [uZ, if_neg h]
abbrev WO : ByteArray := ByteArray.mk #[48, 49, 50, 51, 52, 53, 54, 55, 56, 57, 97, 98, 99, 100, 101, 102, 103, 104, 105, 106, 107, 108, 109, 110, 111, 112, 113, 114, 115, 116, 117, 118, 119, 120, 121, 122]
theorem yX : ∀ n, n < 16 → sb WO n = hx n := by decide +kernel
theorem XC (u : Nat) : u &&& 15 = u % 16 := by
  have := Nat.and_two_pow_sub_one_eq_mod u 4
  rw [show 2 ^ 4 - 1 = 15 from rfl, show (2 : Nat) ^ 4 = 16 from rfl] at this
  exact this
abbrev gTz : Nat := 3
def Tab64 (w : World) : Prop := ∀ k, k < 64 → w.cell? ⟨gTz, k, none⟩ = some (.int .u8 ((Lib.deBruijn64tab.getD k 0 : Nat) : Int))
theorem Tab64.evo {X : List Nat} {w w' : World} (h : Tab64 w) (he : Evo X w w') (hx : gTz ∉ X) : Tab64 w' := fun k hk => he.cell (h k hk) hx
structure FbG where
  u : Nat
  i : Nat
  f : Nat
  D : List Nat
  xs : List Value
structure FbI (w wr : World) (ba N : Nat) (x : FbG) : Prop where
  own : OwnS wr 187 1 (some ⟨ba, 0, none⟩) 65 65 x.xs (some ba)
  hi : x.i + x.D.length = 65
  hf : x.f + x.D.length = 8
  h1 : 1 ≤ x.f
  hu : x.u < 16 ^ x.f
  eq : uZ N = uZ x.u ++ x.D
  cs : x.xs.drop x.i = iQ x.D
  ge : Ge w (some ba)
theorem WB {xs : List Value} {D : List Nat} {i d : Nat} (hl : xs.length = 65) (hi : i + D.length = 65) (h0 : 1 ≤ i) (h : xs.drop i = iQ D) : (xs.set (i - 1) (.int .u8 (d : Nat))).drop (i - 1) = iQ (d :: D) := by
  rw [List.drop_eq_getElem_cons (by simp; omega)]
  have e1 : (xs.set (i - 1) (Value.int .u8 (d : Nat)))[i - 1]'(by simp; omega) = .int .u8 (d : Nat) := by simp
  rw [e1, show i - 1 + 1 = i by omega]
  have e2 : (xs.set (i - 1) (Value.int .u8 (d : Nat))).drop i = xs.drop i := by
    rw [List.drop_set_of_lt (by omega)]
  rw [e2, h]
  rfl
theorem LH {w : World} {b n : Nat} {cs : Array Value} {e : TypeId} (h : w.heap[b]? = some (.cells cs e (0, 0))) (hs : cs.size = n) (hn : n ≤ 1000000) : OwnS w e 1 (some ⟨b, 0, none⟩) n n cs.toList (some b) :=
  ⟨by simp [hs], .inr ⟨b, n, cs, rfl, rfl, h, Nat.le_refl _, by unfold maxLen; omega, by simp [hs], by rw [Nat.mul_one, ← hs]; exact List.take_of_length_le (by simp)⟩⟩
theorem LP {D : List Nat} {xs : List Value} {i j : Nat} {v : Value} (h : xs.drop i = iQ D) (hj : (iQ D)[j]? = some v) : xs[i + j]? = some v := by rw [← h, List.getElem?_drop] at hj; exact hj
theorem tz16_ok {w : World} (ht : Tab64 w) : Calls Tryz.prog 182 #[.int .u64 16] w (Ret fun v w' => v = iv 4 ∧ Evo [] w w') := by
  refine bE (N := 14) Tryz.func182 rfl rfl rfl ?_; refine csr (wan (aM (csr (aA ?_)))); refine aB (fJ (r := .bool false) rfl rfl (fun w => by kernel_rfl)) ?_; refine wnn (cF rfl ?_); refine aN (aC (csr (aA (aA ?_)))); refine aB (ex_unR (a := .int .u64 16) (r := .int .u64 18446744073709551600) rfl (fun w => by kernel_rfl)) ?_; refine aB (fJ (r := .int .u64 16) rfl rfl (fun w => by kernel_rfl)) ?_; refine aB (fJ (r := .int .u64 4573923408821661840) rfl rfl (fun w => by kernel_rfl)) ?_; refine aB (fJ (r := .int .u64 15) rfl rfl (fun w => by kernel_rfl)) ?_; refine aB (kL (n := 15) rfl rfl Tryz.underlying205 rfl (by decide) nI) ?_; refine aB (aX (v := .int .u8 4) rfl RA (ht 15 (by decide))) ?_; refine aB (fY 4 rfl Tryz.underlying5 Tryz.underlying3 rfl (by decide)) ?_; refine wan (aK (br1 ?_)); exact ⟨rfl, (Evo.refl [] w)⟩
theorem RS {w : World} (ht : Tab64 w) : Calls Tryz.prog 168 #[.int .u64 16] w (Ret fun v w' => v = iv 4 ∧ Evo [] w w') := by
  refine bE (N := 8) Tryz.func168 rfl rfl rfl ?_; refine csr (wan (aM (cF rfl ?_))); refine aN (aC (csr (aA (aG (vs := [_]) FU rfl (tz16_ok ht) rfl ?_)))); rintro _ w1 ⟨rfl, B⟩; refine wan (aK (br1 ?_)); exact ⟨rfl, ((Evo.refl [] w).then B)⟩
theorem TI {w : World} : Calls Tryz.prog 167 #[.int .i64 16] w (Ret fun v w' => v = .bool true ∧ Evo [] w w') := by
  refine bE (N := 8) Tryz.func167 rfl rfl rfl ?_; refine csr (wan (csr (aA (aA ?_)))); refine aB (fJ (r := .int .i64 15) rfl rfl (fun w => by kernel_rfl)) ?_; refine aB (fJ (r := .int .i64 0) rfl rfl (fun w => by kernel_rfl)) ?_; refine aB (fJ (r := .bool true) rfl rfl (fun w => by kernel_rfl)) ?_; refine wan (aK (br1 ?_)); exact ⟨rfl, (Evo.refl [] w)⟩
theorem WA {w : World} (ht : Tab64 w) (N : Nat) (hN : N < 16 ^ 8) (hg : gTz < w.heap.size) : Calls Tryz.prog 157 #[.slice none 0 0, .int .u64 (N : Nat), .int .i64 16, .bool false, .bool false] w (Ret fun v w' => v = .tuple #[.slice none 0 0, .string (bstr (uZ N))] ∧ Evo [] w w') := by
  refine bE (N := 102) Tryz.func157 rfl rfl rfl ?_; refine csr (bN (wan (aM (csr (aA ?_))))); refine aB (fJ (r := .bool false) rfl rfl (fun w => by kernel_rfl)) ?_; refine aA (aW (aA (aW ?_))); refine aB (fJ (r := .bool false) rfl rfl (fun w => by kernel_rfl)) ?_; refine bR (aA (aW (aA (aW ?_)))); refine aB (fJ (r := .bool false) rfl rfl (fun w => by kernel_rfl)) ?_; refine bR (wnn (cF rfl ?_)); refine aN (aC (csr (cO rfl FN fun ba w1 V I W => ?_))); have Y := I; have Z := Ge.new (Evo.refl [] w) I; refine wnn (csr (wan (aM (csr (aA (wnn (cF rfl ?_))))))); refine aN (aC (aM (csr (aA (aG (vs := [_]) FW rfl (TI) rfl ?_))))); rintro _ w7 ⟨rfl, J⟩; have L := ((Evo.refl [] w).then W).then J; refine wnn (cZ rfl ?_); refine csr (aA ?_); refine aB (fY 16 rfl Tryz.underlying3 Tryz.underlying181 rfl (by decide)) ?_; refine aG (vs := [_]) FV rfl (RS (ht.evo L (by simp))) rfl ?_; rintro _ a0 ⟨rfl, F⟩; refine aB (fY 4 rfl Tryz.underlying3 Tryz.underlying181 rfl (by decide)) ?_; refine bN ?_
  refine wnn (csr (aA ?_)); refine aB (fY 16 rfl Tryz.underlying3 Tryz.underlying176 rfl (by decide)) ?_; refine wan (csr (aA ?_)); refine aB (fY 16 rfl Tryz.underlying3 Tryz.underlying181 rfl (by decide)) ?_; refine aB (fJ (r := .int .u64 15) rfl rfl (fun w => by kernel_rfl)) ?_; refine wan (aM (bK ?_))
  refine dL (α := FbG) (⟨N, 65, 8, [], _⟩) (fun x => [(1, .int .u64 (x.u : Nat)), (13, .int .i64 (x.i : Nat))]) [(0, _), (3, _), (4, _), (10, _), (11, _), (12, _), (14, _), (15, _), (16, _)] (fun x wr => Evo [] w wr ∧ (FbI w wr ba N x)) (fun x => x.u) ⟨rfl, rfl, trivial⟩ ⟨rfl, rfl, rfl, rfl, rfl, rfl, rfl, rfl, rfl, trivial⟩ ⟨(L.then F), ⟨LH (F.blk0 (J.blk0 V)) rfl (by decide), rfl, rfl, (by show 1 ≤ 8; decide), hN, (List.append_nil _).symm, rfl, Z⟩⟩ ?_
  rintro ⟨u, i, f, D, xs⟩ wr15 ⟨G, ⟨hown, hi, hf, h1, hu, heq, hcs, hge⟩⟩; show CW _ _ _ _ [(1, .int .u64 (u : Nat)), (13, .int .i64 (i : Nat)), (0, _), (3, _), (4, _), (10, _), (11, _), (12, _), (14, _), (15, _), (16, _)] _
  try dsimp only at hown hi hf h1 hu heq hcs hge
  have hlx0 : xs.length = 65 := by have := hown.length; omega
  have hu64 : u < 16 ^ 8 := Nat.lt_of_lt_of_le hu (Nat.pow_le_pow_right (by decide) (by omega)); replace hu64 : u < 4294967296 := hu64; refine aM (csr (aA (aA (aB (dQ rfl rfl) ?_)))); refine wnn (aZ rfl (fun M => ?_) (fun M => ?_))
  ·obtain ⟨f', rfl⟩ : ∃ f', f = f' + 2 := ⟨f - 2, by have h9 : f ≠ 1 := fun h9 => (by subst h9; simp at hu; omega); omega⟩
   refine aN (aC (bK (csr (aA ?_)))); refine aB (dX rfl rfl (by omega) (by omega)) ?_; rw [show ((i : Nat) : Int) - 1 = ((i - 1 : Nat) : Int) by omega]; refine wan (csr (aA (aA (aA ?_))))
   refine aB (kM (m := u) (n := 15) rfl rfl rfl rfl rfl (by show u < 2 ^ 64; omega) (by decide)) ?_
   refine aB (fN (s := WO) (n := u &&& 15) rfl rfl Tryz.underlying9 rfl (by rw [XC]; show u % 16 < 36; omega)) ?_
   refine aB (kL (n := i - 1) rfl rfl Tryz.underlying187 (by omega) (by omega) nI) ?_
   obtain ⟨g26, cur17, hg18, hx19, hcu20, hcs21, -⟩ := hown.at (by omega)
   cases hx19; refine qX rfl rfl (rfl) nI hcu20 (hown.inb hcs21 (k := (i - 1)) (j := 0) (by omega) (by omega) (by omega)) fun a1 O B => ?_; replace B := oC hg18 B; refine wnn (aF (aA (aA ?_))); refine aB (kJ (m := u) (n := 4) rfl rfl rfl rfl (by decide)) ?_; refine bN (aR (aQ (aY ?_))); refine ⟨⟨u / 2 ^ 4, i - 1, f' + 1, hx (u % 16) :: D, xs.set (0 + (i - 1) * 1) (.int .u8 ((sb WO (u &&& 15) : Nat) : Int))⟩, ?_, ⟨rfl, rfl, trivial⟩, ⟨rfl, rfl, rfl, rfl, rfl, rfl, rfl, rfl, rfl, trivial⟩, (G.step B hge.mem), ?_⟩
   · (try dsimp only); show u / 16 < u; omega
   try dsimp only
   have hdv : u / 2 ^ 4 = u / 16 := rfl
   refine ⟨(hown.set' hg18 hcu20 O), (by show i - 1 + (D.length + 1) = 65; omega), (by show f' + 1 + (D.length + 1) = 8; omega), (by show 1 ≤ f' + 1; omega), ?_, ?_, ?_, hge⟩
   · rw [hdv]; exact Nat.div_lt_of_lt_mul (by rw [Nat.pow_succ] at hu; rw [Nat.mul_comm]; exact hu)
   · rw [heq, OG (by omega), hdv]; simp
   · have h8 := WB (d := hx (u % 16)) hlx0 hi (by omega) hcs; rw [← yX (u % 16) (by omega), ← XC] at h8; rw [show 0 + (i - 1) * 1 = i - 1 by omega, ← yX (u % 16) (by omega), ← XC]; exact h8
  refine cW (bS (bS (cV (aC ?_)))); refine aM ?_; have a2 := hcs; refine aF (aA ?_); refine aB (dX rfl rfl (by omega) (by omega)) ?_; rw [show ((i : Nat) : Int) - 1 = ((i - 1 : Nat) : Int) by omega]; refine wan (aF (aA (aA ?_)))
  refine aB (fN (s := WO) (n := u) rfl rfl Tryz.underlying9 rfl (by show u < 36; omega)) ?_
  refine aB (kL (n := i - 1) rfl rfl Tryz.underlying187 (by omega) (by omega) nI) ?_
  obtain ⟨g37, cur28, hg29, hx30, hcu31, hcs32, -⟩ := hown.at (by omega)
  cases hx30; refine qX rfl rfl (rfl) nI hcu31 (hown.inb hcs32 (k := (i - 1)) (j := 0) (by omega) (by omega) (by omega)) fun a3 U E => ?_; replace E := oC hg29 E; refine wnn (aM (csr (aA (wnn (cF rfl ?_))))); refine aN (aC (aM (csr (aA (wnn (cF rfl ?_)))))); refine aN (aC (aM ?_)); have H := (hown.set' hg29 hcu31 U); rw [show 0 + (i - 1) * 1 = i - 1 by omega] at H; obtain ⟨g9, hg9, ha9, hcell⟩ := H.cells (by omega); cases hg9
  have hlx : xs.length = 65 := by have := hown.length; omega
  have hdrop := WB (d := hx u) hlx hi (by omega) hcs; rw [← yX u (by omega)] at hdrop; refine aF (aA ?_); refine aB (MC (l := i - 1) rfl rfl Tryz.underlying187 nI (by omega) (by omega)) ?_
  refine aB (BO (l := sb WO u :: D) rfl Tryz.underlying78 Tryz.underlying5 Tryz.underlying9 (by simp; omega) (fun j v hj => by have h8 := hcell _ _ (LP hdrop hj); rw [Nat.mul_one]; rw [Nat.zero_add] at h8; exact h8)) ?_
  refine wan (aK (cE rfl rfl rfl ?_)); refine ⟨?_, (G.step E hge.mem)⟩
  rw [heq, EW (by omega), ← yX u (by omega)]; rfl
theorem ifmt_ok {w : World} (ht : Tab64 w) (N : Nat) (hN : N < 16 ^ 8) (hg : gTz < w.heap.size) : Calls Tryz.prog 140 #[.int .i64 (N : Nat), .int .i64 16] w (Ret fun v w' => v = .string (bstr (uZ N)) ∧ Evo [] w w') := by
  have D : N < 4294967296 := hN; refine bE (N := 54) Tryz.func140 rfl rfl rfl ?_; refine csr (wan (aM (csr (aA ?_)))); refine aB (fJ (r := .bool false) rfl rfl (fun w => by kernel_rfl)) ?_; refine wnn (cF rfl ?_); refine aN (aC (csr (aA ?_)))
  refine aB (fY N rfl Tryz.underlying2 Tryz.underlying176 rfl (by show ((N : Nat) : Int) ≤ 18446744073709551615; omega)) ?_
  refine aA (aA (aB (dA rfl rfl) ?_)); rw [show decide (((N : Nat) : Int) < 0) = false from decide_eq_false (by omega)]; refine aG (vs := [_, _, _, _, _]) FY rfl (WA (ht.evo (Evo.refl [] w) (by simp)) N hN (Nat.lt_of_lt_of_le hg (Evo.refl [] w).size)) rfl ?_; rintro _ w1 ⟨rfl, B⟩; refine aA (aB (cC rfl rfl) ?_); refine aB (cC rfl rfl) ?_; refine bN (wan (csr (aA (wan (aK (br1 ?_)))))); exact ⟨rfl, ((Evo.refl [] w).then B)⟩
theorem VX {w : World} (ht : Tab64 w) (N : Nat) (hN : N < 16 ^ 8) : Calls Tryz.prog 123 #[.int .i64 (N : Nat), .int .i64 16] w (Ret fun v w' => v = .string (bstr (uZ N)) ∧ Evo [] w w') := by
  have hg : gTz < w.heap.size := World.block_lt_of_cell? w _ (ht 0 (by decide)); refine bE (N := 8) Tryz.func123 rfl rfl rfl ?_; refine csr (wan (csr (aA (aA ?_)))); refine aG (vs := [_, _]) GF rfl (ifmt_ok (ht.evo (Evo.refl [] w) (by simp)) N hN (Nat.lt_of_lt_of_le hg (Evo.refl [] w).size)) rfl ?_; rintro _ w1 ⟨rfl, B⟩; refine wan (aK (br1 ?_)); exact ⟨rfl, ((Evo.refl [] w).then B)⟩
theorem GZ : Build Tryz.prog 58 #[(0, 1)] #[.int .i64 0] := ⟨_, .agg #[.int .i64 0], Tryz.underlying58, by kernel_rfl, rfl, fun w => by kernel_rfl⟩
abbrev flt (e : Int) : Value := .iface 58 (.agg #[iv e])
theorem fU {w : World} (e : Int) : Calls Tryz.prog 37 #[iv e] w (RetP (fun _ _ => False) (fun v w' => v = flt e ∧ Evo [] w w')) := by
  refine bE (N := 5) Tryz.func37 rfl rfl rfl ?_; refine aF (aA (iT rfl (cI (vs := [(0, _)]) GZ rfl (cells := [_]) rfl) ?_)); refine iT rfl (WH rfl (fun w => by kernel_rfl)) ?_; refine RF rfl ?_; exact WX ⟨rfl, (Evo.refl [] w)⟩
end Go.Proofs.YtljadkcojnlioaaGreatDoor
namespace Go.Proofs.YtljadkcojnlioaaGreatDoor
open Go.RowKit Go.W
inductive Good : Rx → Prop
  | mk {x : Rx} : NodeP x → (x.kind = 7 → 1 ≤ x.cap ∧ x.cap ≤ 100) → (∀ k, k ∈ x.kids → Good k) → Good x
theorem Good.node {x : Rx} (h : Good x) : NodeP x := by cases h; assumption
theorem Good.kid {x : Rx} (h : Good x) : ∀ k, k ∈ x.kids → Good k := by cases h; assumption
structure In where
  op : Int
  out : Int
  alt : Int
  arg : Int
  rs : List (Int × Int)
def InR (c : Int) (l : List (Int × Int)) : Prop := ∃ g, g ∈ l ∧ g.1 ≤ c ∧ c ≤ g.2
def wordI (c : Int) : Prop := (48 ≤ c ∧ c ≤ 57) ∨ (65 ≤ c ∧ c ≤ 90) ∨ (97 ≤ c ∧ c ≤ 122) ∨ c = 95
variable {l : List In} {rs : List Int}
end Go.Proofs.YtljadkcojnlioaaGreatDoor
namespace Go.Proofs.YtljadkcojnlioaaGreatDoor
open Go.RowKit Go.W
def jK : Int → List (Int × Int) → Prop
  | _, [] => True
  | b, g :: l => b ≤ g.1 ∧ g.1 ≤ g.2 ∧ g.2 ≤ 1114111 ∧ jK (g.2 + 2) l
abbrev uF (l : List (Int × Int)) : Prop := jK 0 l
theorem gV {c : Int} {g : Int × Int} {l : List (Int × Int)} : InR c (g :: l) ↔ (g.1 ≤ c ∧ c ≤ g.2) ∨ InR c l := by
  constructor
  · rintro ⟨x, hx, h⟩
    cases hx with
    | head => exact .inl h
    | tail _ hx => exact .inr ⟨x, hx, h⟩
  · rintro (h | ⟨x, hx, h⟩)
    · exact ⟨g, List.mem_cons_self .., h⟩
    · exact ⟨x, List.mem_cons_of_mem _ hx, h⟩
theorem kU (c : Int) : ¬ InR c [] := by rintro ⟨g, h, -⟩; cases h
theorem mR {c : Int} {l m : List (Int × Int)} : InR c (l ++ m) ↔ InR c l ∨ InR c m := by
  constructor
  · rintro ⟨x, hx, h⟩
    rcases List.mem_append.1 hx with hx | hx
    · exact .inl ⟨x, hx, h⟩
    · exact .inr ⟨x, hx, h⟩
  · rintro (⟨x, hx, h⟩ | ⟨x, hx, h⟩)
    · exact ⟨x, List.mem_append_left _ hx, h⟩
    · exact ⟨x, List.mem_append_right _ hx, h⟩
theorem lB {c : Int} {g : Int × Int} : InR c [g] ↔ g.1 ≤ c ∧ c ≤ g.2 := by
  rw [gV]
  exact ⟨fun h => h.elim id (fun h => (kU c h).elim), .inl⟩
theorem AK {c : Int} {l m : List (Int × Int)} (h : l.Perm m) : InR c l ↔ InR c m := by
  constructor
  · rintro ⟨x, hx, h2⟩; exact ⟨x, h.mem_iff.1 hx, h2⟩
  · rintro ⟨x, hx, h2⟩; exact ⟨x, h.mem_iff.2 hx, h2⟩
theorem nM : ∀ {l : List (Int × Int)} {b c : Int}, jK b l → InR c l → b ≤ c ∧ c ≤ 1114111
  | [], b, c, _, h => (kU c h).elim
  | g :: l, b, c, hc, h => by
    rw [jK] at hc
    rcases gV.1 h with h | h
    · omega
    · have := nM hc.2.2.2 h; omega
theorem OW : ∀ {l : List (Int × Int)} {a b : Int}, jK b l → a ≤ b → jK a l
  | [], a, b, _, _ => trivial
  | g :: l, a, b, h, hab => by
    rw [jK] at h ⊢
    exact ⟨by omega, h.2⟩
theorem DD : ∀ {l m : List (Int × Int)} {b : Int}, jK b l → jK b m → (∀ c, InR c l ↔ InR c m) → l = m
  | [], [], b, _, _, _ => rfl
  | [], h :: m, b, hl, hm, he => by
    rw [jK] at hm
    exact (kU h.1 ((he h.1).2 (gV.2 (.inl ⟨Int.le_refl _, hm.2.1⟩)))).elim
  | g :: l, [], b, hl, hm, he => by
    rw [jK] at hl
    exact (kU g.1 ((he g.1).1 (gV.2 (.inl ⟨Int.le_refl _, hl.2.1⟩)))).elim
  | g :: l, h :: m, b, hl, hm, he => by
    rw [jK] at hl hm
    have h1 := (he g.1).1 (gV.2 (.inl ⟨Int.le_refl _, hl.2.1⟩))
    have h2 := (he h.1).2 (gV.2 (.inl ⟨Int.le_refl _, hm.2.1⟩))
    have e1 : g.1 = h.1 := by
      rcases gV.1 h1 with h1 | h1 <;> rcases gV.1 h2 with h2 | h2
      · omega
      · have := nM hl.2.2.2 h2; omega
      · have := nM hm.2.2.2 h1; omega
      · have := nM hl.2.2.2 h2; have := nM hm.2.2.2 h1; omega
    have e2 : g.2 = h.2 := by
      rcases Int.lt_trichotomy g.2 h.2 with c | c | c
      · have h3 := (he (g.2 + 1)).2 (gV.2 (.inl (by omega)))
        rcases gV.1 h3 with h3 | h3
        · omega
        · have := nM hl.2.2.2 h3; omega
      · exact c
      · have h3 := (he (h.2 + 1)).1 (gV.2 (.inl (by omega)))
        rcases gV.1 h3 with h3 | h3
        · omega
        · have := nM hm.2.2.2 h3; omega
    have e : g = h := Prod.ext e1 e2
    subst e
    have : l = m := DD hl.2.2.2 hm.2.2.2 fun c => by
      constructor
      · intro hc
        have h3 := nM hl.2.2.2 hc
        rcases gV.1 ((he c).1 (gV.2 (.inr hc))) with h4 | h4
        · omega
        · exact h4
      · intro hc
        have h3 := nM hm.2.2.2 hc
        rcases gV.1 ((he c).2 (gV.2 (.inr hc))) with h4 | h4
        · omega
        · exact h4
    rw [this]
theorem wY : ∀ {l : List (Int × Int)} {b : Int} {x : Int × Int}, jK b l → b ≤ x.1 → x.1 ≤ x.2 → x.2 ≤ 1114111 → (∀ g, g ∈ l → g.2 + 1 < x.1) → jK b (l ++ [x])
  | [], b, x, _, h1, h2, h3, _ => by show jK b [x]; rw [jK]; exact ⟨h1, h2, h3, trivial⟩
  | g :: l, b, x, h, h1, h2, h3, h4 => by
    rw [jK] at h
    show jK b (g :: (l ++ [x]))
    rw [jK]
    have := h4 g (List.mem_cons_self ..)
    exact ⟨h.1, h.2.1, h.2.2.1, wY h.2.2.2 (by omega) h2 h3 (fun y hy => h4 y (List.mem_cons_of_mem _ hy))⟩
theorem wZ : ∀ {l : List (Int × Int)} {b : Int} {x : Int × Int}, jK b (l ++ [x]) → jK b l ∧ b ≤ x.1 ∧ x.1 ≤ x.2 ∧ x.2 ≤ 1114111 ∧ ∀ g, g ∈ l → g.2 + 1 < x.1
  | [], b, x, h => by
    have h' : jK b [x] := h
    rw [jK] at h'
    exact ⟨trivial, h'.1, h'.2.1, h'.2.2.1, fun g hg => by cases hg⟩
  | g :: l, b, x, h => by
    have h' : jK b (g :: (l ++ [x])) := h
    rw [jK] at h'
    obtain ⟨h1, h2, h3, h4, h5⟩ := wZ h'.2.2.2
    refine ⟨by rw [jK]; exact ⟨h'.1, h'.2.1, h'.2.2.1, h1⟩, by omega, h3, h4, fun y hy => ?_⟩
    cases hy with
    | head => omega
    | tail _ hy => exact h5 y hy
theorem JB {out : List (Int × Int)} {g x : Int × Int} (h : uF (out ++ [g])) (h1 : g.1 ≤ x.1) (h2 : x.1 ≤ x.2) (h3 : x.2 ≤ 1114111) :
    (x.1 ≤ g.2 + 1 → uF (out ++ [(g.1, max g.2 x.2)]) ∧ ∀ c, InR c (out ++ [(g.1, max g.2 x.2)]) ↔ InR c (out ++ [g]) ∨ (x.1 ≤ c ∧ c ≤ x.2)) ∧
    (¬ x.1 ≤ g.2 + 1 → uF (out ++ [g] ++ [x]) ∧ ∀ c, InR c (out ++ [g] ++ [x]) ↔ InR c (out ++ [g]) ∨ (x.1 ≤ c ∧ c ≤ x.2)) := by
  obtain ⟨i1, i2, i3, i4, i5⟩ := wZ h
  refine ⟨fun hx => ⟨wY i1 i2 (by show g.1 ≤ max g.2 x.2; omega) (by show max g.2 x.2 ≤ _; omega) i5, fun c => ?_⟩, fun hx => ⟨wY h (by omega) h2 h3 (fun y hy => ?_), fun c => ?_⟩⟩
  · rw [mR, mR, lB, lB]
    show _ ∨ (g.1 ≤ c ∧ c ≤ max g.2 x.2) ↔ _
    constructor
    · rintro (h | h)
      · exact .inl (.inl h)
      · by_cases hc : c ≤ g.2
        · exact .inl (.inr ⟨h.1, hc⟩)
        · exact .inr (by omega)
    · rintro ((h | h) | h)
      · exact .inl h
      · exact .inr (by omega)
      · exact .inr (by omega)
  · rcases List.mem_append.1 hy with hy | hy
    · have := i5 y hy; omega
    · rw [List.mem_singleton.1 hy]; omega
  · rw [mR, lB]
noncomputable def iA (S : Int → Prop) : List (Int × Int) := open Classical in if h : ∃ l, uF l ∧ ∀ c, InR c l ↔ S c then Classical.choose h else []
theorem nT {S : Int → Prop} {l : List (Int × Int)} (h : uF l) (h2 : ∀ c, InR c l ↔ S c) : iA S = l := by
  have hx : ∃ l, uF l ∧ ∀ c, InR c l ↔ S c := ⟨l, h, h2⟩
  unfold iA
  rw [dif_pos hx]
  have h3 := Classical.choose_spec hx
  exact DD h3.1 h fun c => (h3.2 c).trans (h2 c).symm
theorem sJ {a b : Int} (h0 : 0 ≤ a) (h1 : a ≤ b) (h2 : b ≤ 1114111) : uF [(a, b)] := by
  show jK 0 [(a, b)]
  rw [jK]; exact ⟨h0, h1, h2, trivial⟩
theorem QX {c : Int} (h0 : 0 ≤ c) (h1 : c ≤ 1114111) : iA (fun x => x = c) = [(c, c)] :=
  nT (sJ h0 (Int.le_refl _) h1) fun x => by rw [lB]; show c ≤ x ∧ x ≤ c ↔ x = c; omega
def lV : Int → List (Int × Int) → List (Int × Int)
  | b, [] => if b ≤ 1114111 then [(b, 1114111)] else []
  | b, g :: l => (if b < g.1 then [(b, g.1 - 1)] else []) ++ lV (g.2 + 1) l
theorem EY : ∀ {l : List (Int × Int)} {b d : Int}, 0 ≤ b → d ≤ b → jK b l → jK d (lV b l) ∧ ∀ c, InR c (lV b l) ↔ b ≤ c ∧ c ≤ 1114111 ∧ ¬ InR c l
  | [], b, d, h0, hd, _ => by
    rw [lV]
    by_cases h : b ≤ 1114111
    · rw [if_pos h]
      refine ⟨by rw [jK]; exact ⟨hd, h, Int.le_refl _, trivial⟩, fun c => ?_⟩
      rw [lB]
      exact ⟨fun h => ⟨h.1, h.2, kU c⟩, fun h => ⟨h.1, h.2.1⟩⟩
    · rw [if_neg h]
      exact ⟨trivial, fun c => ⟨fun h => (kU c h).elim, fun h => by omega⟩⟩
  | g :: l, b, d, h0, hd, hc => by
    rw [jK] at hc
    rw [lV]
    by_cases h : b < g.1
    · rw [if_pos h]
      obtain ⟨i1, i2⟩ := EY (b := g.2 + 1) (d := g.1 + 1) (by omega) (by omega) (OW hc.2.2.2 (by omega))
      refine ⟨?_, fun c => ?_⟩
      · show jK d ((b, g.1 - 1) :: lV (g.2 + 1) l)
        rw [jK]; exact ⟨hd, by show b ≤ g.1 - 1; omega, by show g.1 - 1 ≤ _; omega, by show jK (g.1 - 1 + 2) _; rw [show g.1 - 1 + 2 = g.1 + 1 by omega]; exact i1⟩
      · rw [mR, lB, i2, gV]
        show (b ≤ c ∧ c ≤ g.1 - 1) ∨ _ ↔ _
        constructor
        · rintro (h3 | h3)
          · exact ⟨h3.1, by omega, fun h4 => by rcases h4 with h4 | h4; omega; (have := nM hc.2.2.2 h4; omega)⟩
          · exact ⟨by omega, h3.2.1, fun h4 => by rcases h4 with h4 | h4; omega; exact h3.2.2 h4⟩
        · rintro ⟨h3, h4, h5⟩
          by_cases h6 : c ≤ g.1 - 1
          · exact .inl ⟨h3, h6⟩
          · refine .inr ⟨?_, h4, fun h7 => h5 (.inr h7)⟩
            by_cases h8 : c ≤ g.2
            · exact (h5 (.inl ⟨by omega, h8⟩)).elim
            · omega
    · rw [if_neg h, List.nil_append]
      obtain ⟨i1, i2⟩ := EY (b := g.2 + 1) (d := d) (by omega) (by omega) (OW hc.2.2.2 (by omega))
      refine ⟨i1, fun c => ?_⟩
      rw [i2, gV]
      constructor
      · rintro ⟨h3, h4, h5⟩
        exact ⟨by omega, h4, fun h6 => by rcases h6 with h6 | h6; omega; exact h5 h6⟩
      · rintro ⟨h3, h4, h5⟩
        refine ⟨?_, h4, fun h6 => h5 (.inr h6)⟩
        by_cases h8 : c ≤ g.2
        · exact (h5 (.inl ⟨by omega, h8⟩)).elim
        · omega
mutual
theorem CV : ∀ (x : Rx) (b : Int) (st st' : St), x.fine b st = some st' → Good x
  | .mk k r rs mn mx lz cp nm ks, b, st, st', h => by
    by_cases hc : st.1 + 1 ≤ 8194 ∧ (if (Rx.mk k r rs mn mx lz cp nm ks).kind = 7 then b + 1 else b) ≤ 250 ∧ NodeP (.mk k r rs mn mx lz cp nm ks) ∧ ((Rx.mk k r rs mn mx lz cp nm ks).kind = 7 → oZ (Rx.mk k r rs mn mx lz cp nm ks).cap (Rx.mk k r rs mn mx lz cp nm ks).name st.2)
    · rw [sF hc] at h
      refine ⟨hc.2.2.1, fun h7 => ?_, tM ks _ _ _ _ h⟩
      obtain ⟨h1, h2, -⟩ := hc.2.2.2 h7
      omega
    · rw [vA hc] at h; cases h
theorem tM : ∀ (l : List Rx) (k b : Int) (st st' : St), gG l k b st = some st' → ∀ x, x ∈ l → Good x
  | [], _, _, _, _, _, x, hx => by cases hx
  | y :: ys, k, b, st, st', h, x, hx => by
    rw [gG] at h
    cases hy : y.fine (b + if Brk y.kind k then 1 else 0) st with
    | none => rw [hy] at h; cases h
    | some s1 =>
      rw [hy] at h
      rcases List.mem_cons.1 hx with e | hx
      · rw [e]; exact CV y _ _ _ hy
      · exact tM ys _ _ _ _ h x hx
end
theorem Rx.Ok.good {x : Rx} (h : x.Ok) : Good x := by obtain ⟨st, h⟩ := h; exact CV _ _ _ _ h
def aU (s : ByteArray) : Nat → Nat
  | 0 => 0
  | k + 1 => aU s k + (cL s (aU s k)).2
def xJ (s : ByteArray) (k : Nat) : Int := (cL s (aU s k)).1
def Utf (s : ByteArray) (N : Nat) : Prop := aU s N = s.size ∧ ∀ k, k < N → 0 < (cL s (aU s k)).2
def jH (s : ByteArray) (N : Nat) : List Int := (List.range N).map (xJ s)
theorem zJ {s : ByteArray} {N k : Nat} (h : k < N) : (jH s N)[k]? = some (xJ s k) := by simp [jH, h]
theorem jF (s : ByteArray) (k : Nat) : aU s k ≤ s.size := by
  induction k with
  | zero => exact Nat.zero_le _
  | succ k ih =>
    rw [aU]
    rcases tV s (aU s k) with h | h
    · rw [h]; exact ih
    · exact h.2.2.2.2
theorem mG (s : ByteArray) {a b : Nat} (h : a ≤ b) : aU s a ≤ aU s b := by
  induction h with
  | refl => exact Nat.le_refl _
  | step _ ih => rw [aU]; omega
theorem mP {s : ByteArray} {N a b : Nat} (h : ∀ k, k < N → 0 < (cL s (aU s k)).2) (hab : a < b) (hb : b ≤ N) : aU s a < aU s b := by
  have h1 := h a (by omega)
  have h2 : aU s (a + 1) ≤ aU s b := mG s hab
  rw [aU] at h2
  omega
theorem tA {s : ByteArray} {a : Nat} (h : 0 < (cL s a).2) : a + (cL s a).2 ≤ s.size ∧ ((cL s a).1 < 128 → (cL s a).2 = 1 ∧ (sb s a : Int) = (cL s a).1) ∧
    (128 ≤ (cL s a).1 → 128 ≤ sb s a ∧ 128 ≤ sb s (a + (cL s a).2 - 1)) ∧ 0 ≤ (cL s a).1 := by
  by_cases ha : a < s.size
  · rcases gW s a ha with ⟨w, h1, h2, h3, hh, -, h4, h5, -⟩ | ⟨h1, -⟩
    · rw [(pM h1 h2 h3 hh).1]
      refine ⟨h3, ?_, ?_, h4⟩
      all_goals
        have e : w = 1 ∨ w = 2 ∨ w = 3 ∨ w = 4 := by omega
        rcases e with rfl | rfl | rfl | rfl
        · have := (hit1 s a).1 hh
          intro hg
          rw [show eI s a 1 = (sb s a : Int) from by simp [eI]] at hg ⊢
          dsimp only
          omega
        · have := (hit2 s a).1 hh
          intro hg
          simp only [eI, if_true, show (2 : Nat) ≠ 1 from by decide, if_false, show a + 2 - 1 = a + 1 from by omega] at hg ⊢
          omega
        · have := (hit3 s a).1 hh
          intro hg
          simp only [eI, if_true, show (3 : Nat) ≠ 1 from by decide, show (3 : Nat) ≠ 2 from by decide, if_false, show a + 3 - 1 = a + 2 from by omega] at hg ⊢
          omega
        · have := (hit4 s a).1 hh
          intro hg
          simp only [eI, if_true, show (4 : Nat) ≠ 1 from by decide, show (4 : Nat) ≠ 2 from by decide, show (4 : Nat) ≠ 3 from by decide, if_false, show a + 4 - 1 = a + 3 from by omega] at hg ⊢
          omega
    · rw [pE h1] at h; cases h
  · rw [pL (by omega)] at h; cases h
def PD (s : ByteArray) (j : Int) : Prop := 0 ≤ j ∧ j < s.size ∧ iH (sb s j.toNat)
instance (s : ByteArray) (j : Int) : Decidable (PD s j) := by unfold PD; infer_instance
def GoesB (s : ByteArray) (c : In) (i : Nat) : Prop := c.op = 3 ∨ c.op = 4 ∨ c.op = 10 ∨ (c.op = 5 ∧ i = 0) ∨ (c.op = 6 ∧ i = s.size) ∨ (c.op = 7 ∧ (i = 0 ∨ sb s (i - 1) = 10)) ∨ (c.op = 8 ∧ (i = s.size ∨ sb s i = 10)) ∨
  (c.op = 9 ∧ (¬ (PD s ((i : Int) - 1) ↔ PD s i) ↔ c.arg = 0))
section
variable {x : Rx} {l : List In} {n : Nat}
end
section
variable {l : List In} {s : ByteArray} {i : Nat} {init ls out : List Nat} {k : Nat}
end
structure Fl where
  fold : Bool
  lines : Bool
  dots : Bool
  lazy : Bool
structure PS where
  pos : Nat
  now : Fl
  opn : Nat
  names : List ByteArray
abbrev PX (α : Type) := Except Int (α × PS)
abbrev emp : ByteArray := ByteArray.mk #[]
def rxK (k : Int) : Rx := .mk k 0 [] 0 0 false 0 emp []
def nA (c : Int) : Rx := .mk 2 c [] 0 0 false 0 emp []
def kS (l : List (Int × Int)) : Rx := .mk 3 0 l 0 0 false 0 emp []
def zH (k : Int) (l : List Rx) : Rx := .mk k 0 [] 0 0 false 0 emp l
def lM (lo hi : Int) (z : Bool) (x : Rx) : Rx := .mk 6 0 [] lo hi z 0 emp [x]
def zI (n : Int) (nm : ByteArray) (x : Rx) : Rx := .mk 7 0 [] 0 0 false n nm [x]
def oA (k : Int) : List Rx → Rx
  | [] => rxK 1
  | [x] => x
  | l => zH k l
noncomputable def jX (S : Int → Prop) : Rx := match iA S with
  | [(a, b)] => if a = b then nA a else kS [(a, b)]
  | l => kS l
def oH (S : Int → Prop) : Int → Prop := fun c => S c ∨ (97 ≤ c ∧ c ≤ 122 ∧ S (c - 32)) ∨ (65 ≤ c ∧ c ≤ 90 ∧ S (c + 32))
def lO (S : Int → Prop) : Int → Prop := fun c => 0 ≤ c ∧ c ≤ 1114111 ∧ ¬ S c
noncomputable def lP (f : Fl) (c : Int) : Rx := jX (if f.fold = true then oH (fun x => x = c) else fun x => x = c)
def isB (s : ByteArray) (i b : Nat) : Prop := i < s.size ∧ sb s i = b
instance (s : ByteArray) (i b : Nat) : Decidable (isB s i b) := by unfold isB; infer_instance
def IW (c : Nat) : Prop := 48 ≤ c ∧ c ≤ 57
instance (c : Nat) : Decidable (IW c) := by unfold IW; infer_instance
def iK (s : ByteArray) : Nat → Nat → Int → Int × Nat
  | 0, i, n => (n, i)
  | f + 1, i, n => if i < s.size ∧ IW (sb s i) then iK s f (i + 1) (min (n * 10 + ((sb s i : Int) - 48)) 1001) else (n, i)
def kY (r : ByteArray) : Int × Int × Nat :=
  if sb r 0 = 42 then (0, -1, 1) else if sb r 0 = 43 then (1, -1, 1) else if sb r 0 = 63 then (0, 1, 1) else if sb r 0 ≠ 123 then (0, 0, 0)
  else if 1 < (iK r r.size 1 0).2 ∧ isB r (iK r r.size 1 0).2 44 then
    if isB r (iK r r.size ((iK r r.size 1 0).2 + 1) 0).2 125 then
      ((iK r r.size 1 0).1, (if (iK r r.size ((iK r r.size 1 0).2 + 1) 0).2 = (iK r r.size 1 0).2 + 1 then -1 else (iK r r.size ((iK r r.size 1 0).2 + 1) 0).1), (iK r r.size ((iK r r.size 1 0).2 + 1) 0).2 + 1)
    else (0, 0, 0)
  else if (iK r r.size 1 0).2 = 1 ∨ ¬ isB r (iK r r.size 1 0).2 125 then (0, 0, 0)
  else ((iK r r.size 1 0).1, (iK r r.size 1 0).1, (iK r r.size 1 0).2 + 1)
def nS (c : Nat) : Option Nat := if 48 ≤ c ∧ c ≤ 57 then some (c - 48) else if 97 ≤ c ∧ c ≤ 102 then some (c - 97 + 10) else if 65 ≤ c ∧ c ≤ 70 then some (c - 65 + 10) else none
def gL (s : ByteArray) (i : Nat) : Except Int (Nat × Nat) := if i < s.size then (match nS (sb s i) with | some d => .ok (d, i + 1) | none => .error 83) else .error 83
def kG (s : ByteArray) : Nat → Nat → Nat → Except Int (Nat × Nat)
  | 0, n, i => .error 83
  | f + 1, n, i => if isB s i 125 then .ok (n, i + 1) else match gL s i with
    | .error e => .error e
    | .ok (d, j) => if 1114111 < n * 16 + d then .error 83 else kG s f (n * 16 + d) j
def kT (s : ByteArray) (i : Nat) : Except Int (Nat × Nat) :=
  if isB s i 123 then (match gL s (i + 1) with | .error e => .error e | .ok (d, j) => kG s (s.size + 1 - j) d j)
  else match gL s i with
    | .error e => .error e
    | .ok (a, j) => match gL s j with | .error e => .error e | .ok (b, k) => .ok (a * 16 + b, k)
def uA (c : Nat) : Option Nat := if c = 97 then some 7 else if c = 102 then some 12 else if c = 116 then some 9 else if c = 110 then some 10 else if c = 114 then some 13 else if c = 118 then some 11 else none
def lN (s : ByteArray) (i : Nat) : Except Int (Nat × Nat) :=
  if s.size ≤ i + 1 then .error 83 else match uA (sb s (i + 1)) with
    | some v => .ok (v, i + 2)
    | none => if sb s (i + 1) = 120 then kT s (i + 2) else if 128 ≤ sb s (i + 1) ∨ (iH (sb s (i + 1)) ∧ sb s (i + 1) ≠ 95) then .error 83 else .ok (sb s (i + 1), i + 2)
def rs (l : List (Int × Int)) : Int → Prop := fun c => InR c l
def tW (c : Nat) : Option (Int → Prop) :=
  if c = 100 then some (rs [(48, 57)]) else if c = 115 then some (rs [(9, 10), (12, 13), (32, 32)]) else if c = 119 then some (rs [(48, 57), (65, 90), (95, 95), (97, 122)])
  else if c = 68 then some (lO (rs [(48, 57)])) else if c = 83 then some (lO (rs [(9, 10), (12, 13), (32, 32)])) else if c = 87 then some (lO (rs [(48, 57), (65, 90), (95, 95), (97, 122)])) else none
def asc (l : List Nat) : ByteArray := bstr l
def fW (n : ByteArray) : Option (Int → Prop) :=
  if n = asc [97, 108, 110, 117, 109] then some (rs [(48, 57), (65, 90), (97, 122)])
  else if n = asc [97, 108, 112, 104, 97] then some (rs [(65, 90), (97, 122)])
  else if n = asc [97, 115, 99, 105, 105] then some (rs [(0, 127)])
  else if n = asc [98, 108, 97, 110, 107] then some (rs [(9, 9), (32, 32)])
  else if n = asc [99, 110, 116, 114, 108] then some (rs [(0, 31), (127, 127)])
  else if n = asc [100, 105, 103, 105, 116] then some (rs [(48, 57)])
  else if n = asc [103, 114, 97, 112, 104] then some (rs [(33, 126)])
  else if n = asc [108, 111, 119, 101, 114] then some (rs [(97, 122)])
  else if n = asc [112, 114, 105, 110, 116] then some (rs [(32, 126)])
  else if n = asc [112, 117, 110, 99, 116] then some (rs [(33, 47), (58, 64), (91, 96), (123, 126)])
  else if n = asc [115, 112, 97, 99, 101] then some (rs [(9, 13), (32, 32)])
  else if n = asc [117, 112, 112, 101, 114] then some (rs [(65, 90)])
  else if n = asc [119, 111, 114, 100] then some (rs [(48, 57), (65, 90), (95, 95), (97, 122)])
  else if n = asc [120, 100, 105, 103, 105, 116] then some (rs [(48, 57), (65, 70), (97, 102)]) else none
def kZ (s : ByteArray) (i : Nat) : Except Int (Int × Nat) :=
  if sb s i = 92 then (match lN s i with | .ok (v, j) => .ok ((v : Int), j) | .error e => .error e) else .ok ((cL s i).1, i + (cL s i).2)
def jL (s : ByteArray) (a b : Nat) : Nat → Nat → Option Nat
  | 0, _ => none
  | f + 1, j => if j + 1 < s.size ∧ sb s j = a ∧ sb s (j + 1) = b then some j else jL s a b f (j + 1)
def unS (S T : Int → Prop) : Int → Prop := fun c => S c ∨ T c
def rgS (lo hi : Int) : Int → Prop := fun c => lo ≤ c ∧ c ≤ hi
abbrev PR := Except Int ((Int → Prop) × Nat)
noncomputable def iP (s : ByteArray) (i : Nat) : PR := match kZ s i with
  | .error e => .error e
  | .ok (lo, j) => if isB s j 45 ∧ j + 1 < s.size ∧ sb s (j + 1) ≠ 93 then
      (match kZ s (j + 1) with | .error e => .error e | .ok (hi, k) => if hi < lo then .error 81 else .ok (rgS lo hi, k))
    else .ok (rgS lo lo, j)
noncomputable def lD (s : ByteArray) (i : Nat) : PR :=
  if i + 1 < s.size ∧ sb s i = 92 then (match tW (sb s (i + 1)) with | some S => .ok (S, i + 2) | none => iP s i) else iP s i
noncomputable def jD (s : ByteArray) (i : Nat) : PR :=
  if isB s i 91 ∧ isB s (i + 1) 58 then
    (match jL s 58 93 s.size (i + 2) with
    | none => lD s i
    | some j =>
      if i + 2 < j ∧ sb s (i + 2) = 94 then (match fW (s.extract (i + 3) j) with | none => .error 81 | some S => .ok (lO S, j + 2))
      else (match fW (s.extract (i + 2) j) with | none => .error 81 | some S => .ok (S, j + 2)))
  else lD s i
noncomputable def gB (s : ByteArray) : Nat → Bool → (Int → Prop) → Nat → PR
  | 0, _, _, _ => .error 81
  | f + 1, fst, S, i => if s.size ≤ i then .error 81 else if fst = false ∧ sb s i = 93 then .ok (S, i + 1) else match jD s i with
    | .error e => .error e
    | .ok (T, j) => gB s f false (unS S T) j
noncomputable def lE (s : ByteArray) (fl : Fl) (i : Nat) : Except Int (Rx × Nat) :=
  match gB s (s.size + 1) true (fun _ => False) (if isB s i 94 then i + 1 else i) with
  | .error e => .error e
  | .ok (S, j) => .ok (jX (if isB s i 94 then lO (if fl.fold = true then oH S else S) else if fl.fold = true then oH S else S), j)
structure Opn where
  size : Nat
  name : ByteArray
  thn : Fl
  capt : Bool
  sett : Bool
  err : Int
def kE (s : ByteArray) : Nat → Nat → Nat
  | 0, j => j
  | f + 1, j => if j < s.size ∧ iH (sb s j) then kE s f (j + 1) else j
def mE (s : ByteArray) (i h : Nat) (fl : Fl) : Opn :=
  if kE s s.size (i + h) = i + h ∨ ¬ isB s (kE s s.size (i + h)) 62 then ⟨0, emp, fl, false, false, 85⟩
  else ⟨kE s s.size (i + h) + 1 - i, s.extract (i + h) (kE s s.size (i + h)), fl, true, false, 0⟩
def fT (s : ByteArray) (i : Nat) : Nat → Nat → Bool → Int → Bool → Fl → Opn
  | 0, _, _, _, _, fl => ⟨0, emp, fl, false, false, 84⟩
  | f + 1, j, b, n, m, fl =>
    if s.size ≤ j then ⟨0, emp, fl, false, false, 84⟩
    else if sb s j = 105 then fT s i f (j + 1) b (n + 1) m { fl with fold := b }
    else if sb s j = 109 then fT s i f (j + 1) b (n + 1) m { fl with lines := b }
    else if sb s j = 115 then fT s i f (j + 1) b (n + 1) m { fl with dots := b }
    else if sb s j = 85 then fT s i f (j + 1) b (n + 1) m { fl with lazy := b }
    else if sb s j = 45 then (if m = true then ⟨0, emp, fl, false, false, 84⟩ else fT s i f (j + 1) false 0 true fl)
    else if sb s j = 58 ∨ sb s j = 41 then ⟨j + 1 - i, emp, fl, false, decide (sb s j = 41), if n = 0 then 84 else 0⟩
    else ⟨0, emp, fl, false, false, 84⟩
def eT (s : ByteArray) (i : Nat) (fl : Fl) : Opn :=
  if ¬ (isB s i 40 ∧ isB s (i + 1) 63) then ⟨1, emp, fl, true, false, 0⟩
  else if isB s (i + 2) 80 ∧ isB s (i + 3) 60 then mE s i 4 fl
  else if isB s (i + 2) 60 then mE s i 3 fl
  else if isB s (i + 2) 58 then ⟨3, emp, fl, false, false, 0⟩
  else fT s i s.size (i + 2) true 0 false fl
abbrev PL := PX (List Rx)
open Classical in
noncomputable def mZ (s : ByteArray) (ex : PS → PX Rx) (st : PS) : PL :=
  let o := eT s st.pos st.now
  if o.err = 0 ∧ o.sett = true then .ok ([], { st with pos := st.pos + o.size, now := o.thn })
  else if st.opn = 250 then .error 3
  else if o.err ≠ 0 then .error o.err
  else if o.capt = true ∧ (st.names.length = 100 ∨ (o.name ≠ emp ∧ o.name ∈ st.names)) then .error 85
  else match ex ⟨st.pos + o.size, o.thn, st.opn + 1, if o.capt = true then st.names ++ [o.name] else st.names⟩ with
    | .error e => .error e
    | .ok (x, st2) => if isB s st2.pos 41 then
        .ok ([if o.capt = true then zI ((st.names.length : Int) + 1) o.name x else x], { st2 with pos := st2.pos + 1, opn := st2.opn - 1, now := st.now })
      else .error 80
noncomputable def pH (s : ByteArray) (fl : Fl) (e : Nat) : Nat → List Rx → Nat → List Rx × Nat
  | 0, l, i => (l, i)
  | f + 1, l, i => if i < e then pH s fl e f (l ++ [lP fl (cL s i).1]) (i + (cL s i).2) else (l, i)
noncomputable def qG (s : ByteArray) (st : PS) : PL := match jL s 92 69 s.size (st.pos + 2) with
  | some e => .ok ((pH s st.now e s.size [] (st.pos + 2)).1, { st with pos := (pH s st.now e s.size [] (st.pos + 2)).2 + 2 })
  | none => .ok ((pH s st.now s.size s.size [] (st.pos + 2)).1, { st with pos := (pH s st.now s.size s.size [] (st.pos + 2)).2 })
noncomputable def gJ (s : ByteArray) (st : PS) : PL :=
  if s.size ≤ st.pos + 1 then .error 83
  else if sb s (st.pos + 1) = 65 then .ok ([rxK 8], { st with pos := st.pos + 2 })
  else if sb s (st.pos + 1) = 122 then .ok ([rxK 9], { st with pos := st.pos + 2 })
  else if sb s (st.pos + 1) = 98 then .ok ([rxK 12], { st with pos := st.pos + 2 })
  else if sb s (st.pos + 1) = 66 then .ok ([rxK 13], { st with pos := st.pos + 2 })
  else if sb s (st.pos + 1) = 81 then qG s st
  else match tW (sb s (st.pos + 1)) with
    | some S => .ok ([jX S], { st with pos := st.pos + 2 })
    | none => match lN s st.pos with
      | .error e => .error e
      | .ok (v, j) => .ok ([lP st.now v], { st with pos := j })
noncomputable def jR (s : ByteArray) (st : PS) : PL :=
  .ok ([if (cL s st.pos).1 = 46 then (if st.now.dots = true then jX (rs [(0, 1114111)]) else jX (rs [(0, 9), (11, 1114111)]))
    else if (cL s st.pos).1 = 94 then rxK (if st.now.lines = true then 10 else 8)
    else if (cL s st.pos).1 = 36 then rxK (if st.now.lines = true then 11 else 9)
    else lP st.now (cL s st.pos).1], { st with pos := st.pos + (cL s st.pos).2 })
noncomputable def fQ (s : ByteArray) (ex : PS → PX Rx) (st : PS) : PL :=
  if sb s st.pos = 40 then mZ s ex st
  else if sb s st.pos = 91 then (match lE s st.now (st.pos + 1) with | .error e => .error e | .ok (x, j) => .ok ([x], { st with pos := j }))
  else if sb s st.pos = 92 then gJ s st
  else jR s st
noncomputable def iR (s : ByteArray) (ex : PS → PX Rx) : Nat → List Rx → Bool → PS → PX Rx
  | 0, l, ah, st => .ok (oA 4 l, st)
  | f + 1, l, ah, st =>
    if s.size ≤ st.pos ∨ sb s st.pos = 124 ∨ sb s st.pos = 41 then .ok (oA 4 l, st)
    else
      let r := kY (s.extract st.pos s.size)
      if r.2.2 = 0 then (match fQ s ex st with
        | .error e => .error e
        | .ok (g, st2) => iR s ex f (l ++ g) (decide (0 < g.length)) st2)
      else if ah = false ∨ 1000 < r.1 ∨ 1000 < r.2.1 ∨ (0 ≤ r.2.1 ∧ r.2.1 < r.1) then .error 82
      else if isB s (st.pos + r.2.2) 63 then iR s ex f (l.dropLast ++ [lM r.1 r.2.1 (!st.now.lazy) (l.getLastD (rxK 1))]) false { st with pos := st.pos + r.2.2 + 1 }
      else iR s ex f (l.dropLast ++ [lM r.1 r.2.1 st.now.lazy (l.getLastD (rxK 1))]) false { st with pos := st.pos + r.2.2 }
noncomputable def pJ (s : ByteArray) (ex : PS → PX Rx) : Nat → List Rx → PS → PX Rx
  | 0, l, st => .ok (oA 5 l, st)
  | f + 1, l, st => if isB s st.pos 124 then (match iR s ex (s.size + 1) [] false { st with pos := st.pos + 1 } with
      | .error e => .error e
      | .ok (x, st2) => pJ s ex f (l ++ [x]) st2)
    else .ok (oA 5 l, st)
noncomputable def nC (s : ByteArray) (ex : PS → PX Rx) (st : PS) : PX Rx := match iR s ex (s.size + 1) [] false st with
  | .error e => .error e
  | .ok (x, st2) => pJ s ex (s.size + 1) [x] st2
noncomputable def oL (s : ByteArray) : Nat → PS → PX Rx
  | 0 => fun st => nC s (fun _ => .error 3) st
  | n + 1 => fun st => nC s (oL s n) st
noncomputable def iV (s : ByteArray) : Except Int Rx := open Classical in
  if 4096 < s.size then .error 1 else if ¬ ∃ N, Utf s N then .error 4
  else match oL s 250 ⟨0, ⟨false, false, false, false⟩, 0, []⟩ with
    | .error e => .error e
    | .ok (x, st) => if st.pos < s.size then .error 80 else .ok x
end Go.Proofs.YtljadkcojnlioaaGreatDoor
namespace Go.Proofs.YtljadkcojnlioaaGreatDoor
open Go.RowKit Go.W
attribute [local irreducible] Decidable.decide
theorem eA : eU Tryz.prog 64 0 = some 0 := by kernel_rfl
theorem bP : eU Tryz.prog 64 1 = some 1 := by kernel_rfl
abbrev rdc (s : ByteArray) (st : PS) (a : Option Addr) (c : Nat) : Array Value := #[.string s, iv (st.pos : Nat), .bool st.now.fold, .bool st.now.lines, .bool st.now.dots, .bool st.now.lazy, iv (st.opn : Nat), .slice a st.names.length c]
structure RdAt (w : World) (b : Nat) (s : ByteArray) (st : PS) (a : Option Addr) (c : Nat) (ob : Option Nat) : Prop where
  blk : w.heap[b]? = some (.cells (rdc s st a c) 64 (0, 0))
  own : OwnS w 9 1 a st.names.length c (st.names.map sv) ob
  ne : ∀ g, ob = some g → g ≠ b
theorem RdAt.ap {w : World} {b : Nat} {s : ByteArray} {st : PS} {a : Option Addr} {c : Nat} {ob : Option Nat} (h : RdAt w b s st a c ob) : Apart (some b) ob := fun g h1 h2 => by cases h1; exact h.ne b h2 rfl
def adv (st : PS) (n : Nat) : PS := { st with pos := st.pos + n }
theorem oK {w : World} {b : Nat} {s : ByteArray} {st : PS} {a : Option Addr} {c : Nat} {ob : Option Nat} (hR : RdAt w b s st a c ob) (hs : s.size ≤ 1000000) (ch : Nat) (hc : ch < 256) :
    Calls Tryz.prog 60 #[.pointer (some ⟨b, 0, none⟩), .int .u8 (ch : Nat)] w (Ret fun v w' => v = .bool (decide (isB s st.pos ch)) ∧ Evo [b] w w' ∧ RdAt w' b s (if isB s st.pos ch then adv st 1 else st) a c ob) := by
  have hap := hR.ap; refine bE (N := 35) Tryz.func60 rfl rfl rfl ?_; refine csr (wan (aM (aM ?_))); refine eK (by kernel_rfl) (by kernel_rfl) ?_; refine bG (fun _ B => bC rfl) ?_; refine bG (fun _ B => aH rfl) ?_; refine bG (fun _ B => aD rfl bP) ?_; refine bG (fun _ B => aX rfl bD (bI (B.blk0 hR.blk) rfl)) ?_; refine bG (fun _ B => bC rfl) ?_; refine bG (fun _ B => aH rfl) ?_; refine bG (fun _ B => aD rfl eA) ?_; refine bG (fun _ B => aX rfl dG (bI (B.blk0 hR.blk) rfl)) ?_; refine bG (fun _ B => cQ rfl Tryz.underlying9 rfl) ?_; refine bG (fun _ B => dA rfl rfl) ?_; refine bG (fun _ B => bC rfl) ?_; refine kC (t := 15) rfl (fun D => ?_) (fun D => ?_)
  ·have hlt : st.pos < s.size := by omega
   refine qlg ?_; refine bG (fun _ B => bC rfl) ?_; refine qlg ?_; refine bG (fun _ B => aH rfl) ?_; refine qlg ?_; refine bG (fun _ B => aD rfl eA) ?_; refine qlg ?_; refine bG (fun _ B => aX rfl dG (bI (B.blk0 hR.blk) rfl)) ?_; refine qlg ?_; refine bG (fun _ B => bC rfl) ?_; refine qlg ?_; refine bG (fun _ B => aH rfl) ?_; refine qlg ?_; refine bG (fun _ B => aD rfl bP) ?_; refine qlg ?_; refine bG (fun _ B => aX rfl bD (bI (B.blk0 hR.blk) rfl)) ?_; refine qlg ?_; refine bG (fun _ B => fN (n := st.pos) rfl rfl Tryz.underlying9 rfl hlt) ?_; refine qlg ?_; refine bG (fun _ B => bC rfl) ?_; refine qlg ?_; refine bG (fun _ B => kK rfl rfl) ?_; refine bG (fun _ B => eP rfl rfl) ?_; refine eN (fun U B => aC ?_); have G := (Evo.refl [b] w).then B; have F := B.blk0 hR.blk; have H := hR.own.evo0 B; refine aZ rfl (fun E => ?_) (fun E => ?_)
   ·refine csr (aA (aB (aH rfl) (wfl rfl bP rfl bD F rfl ?_))); refine aB (aI rfl rfl (by omega) (by omega)) ?_; refine aB (aH rfl) (aB (aD rfl bP) (bJ rfl rfl (rfl) bY F rfl fun w6 I J => ?_)); have L := H.evo J hap.symm.own1
    try simp only [cH, Nat.reduceAdd] at I
    refine wnn (csr (wan (aK (aE (br1 ?_))))); have hb : isB s st.pos ch := ⟨hlt, by omega⟩; refine ⟨congrArg Value.bool (decide_eq_true hb).symm, (G.step J (fun y hy => .inl hy)), ?_⟩
    rw [if_pos hb]; exact ⟨I, L, hR.ne⟩
   refine aN (aC (csr (wan (aK (br1 ?_)))))
   have hb : ¬ isB s st.pos ch := fun h => by first | exact D (by have := h.1; omega) | exact E (by have := h.2; omega)
   refine ⟨congrArg Value.bool (decide_eq_false hb).symm, G, ?_⟩
   rw [if_neg hb]; exact ⟨F, H, hR.ne⟩
  refine qln ?_; refine qln ?_; refine qln ?_; refine qln ?_; refine qln ?_; refine qln ?_; refine qln ?_; refine qln ?_; refine qln ?_; refine qln ?_; refine qln ?_; refine bG (fun _ B => eZ rfl rfl) ?_; refine eN (fun U B => aC ?_); have M := B.blk0 hR.blk; have O := hR.own.evo0 B; refine cF rfl ?_; refine aN (aC (csr (wan (aK (br1 ?_)))))
  have hb : ¬ isB s st.pos ch := fun h => by first | exact D (by have := h.1; omega) | exact E (by have := h.2; omega)
  refine ⟨congrArg Value.bool (decide_eq_false hb).symm, ((Evo.refl [b] w).then B), ?_⟩
  rw [if_neg hb]; exact ⟨M, O, hR.ne⟩
theorem dJ : dW Tryz.prog 37 := ⟨_, Tryz.func37, by kernel_rfl, by kernel_rfl⟩
theorem lQ {r : Int} (h0 : -2147483648 ≤ r) (h1 : r ≤ 2147483647) : IntKind.i64.min ≤ r ∧ r ≤ IntKind.i64.max := by
  constructor <;> simp [IntKind.min, IntKind.max, IntKind.signed, IntKind.bits] <;> omega
theorem hexd_no {s : ByteArray} {i : Nat} (h : ¬ i < s.size) : gL s i = .error 83 := by unfold gL; rw [if_neg h]
theorem pO {s : ByteArray} {i d : Nat} (h : i < s.size) (hd : nS (sb s i) = some d) : gL s i = .ok (d, i + 1) := by unfold gL; rw [if_pos h, hd]
theorem mJ {s : ByteArray} {i : Nat} (h : i < s.size) (hd : nS (sb s i) = none) : gL s i = .error 83 := by unfold gL; rw [if_pos h, hd]
theorem tY {z : Int} {d : Nat} (h : z = d) : Value.int .i64 z = iv (d : Nat) := by rw [h]
theorem pV {w : World} {b : Nat} {s : ByteArray} {st : PS} {a : Option Addr} {c : Nat} {ob : Option Nat} (hR : RdAt w b s st a c ob) (hs : s.size ≤ 1000000) :
    Calls Tryz.prog 161 #[.pointer (some ⟨b, 0, none⟩)] w (RetP (fun v w' => ∃ d, gL s st.pos = .ok (d, st.pos + 1) ∧ v = iv (d : Nat) ∧ Evo [b] w w' ∧ RdAt w' b s (adv st 1) a c ob) (fun v w' => gL s st.pos = .error 83 ∧ v = flt 83 ∧ Evo [b] w w')) := by
  have hap := hR.ap; have hb9 := iC s st.pos; refine bE (N := 63) Tryz.func161 rfl rfl rfl ?_; refine csr (wan (aM (aM ?_))); refine eK (by kernel_rfl) (by kernel_rfl) ?_; refine bG (fun _ E => bC rfl) ?_; refine bG (fun _ E => aH rfl) ?_; refine bG (fun _ E => aD rfl bP) ?_; refine bG (fun _ E => aX rfl bD (bI (E.blk0 hR.blk) rfl)) ?_; refine bG (fun _ E => bC rfl) ?_; refine bG (fun _ E => aH rfl) ?_; refine bG (fun _ E => aD rfl eA) ?_; refine bG (fun _ E => aX rfl dG (bI (E.blk0 hR.blk) rfl)) ?_; refine bG (fun _ E => cQ rfl Tryz.underlying9 rfl) ?_; refine bG (fun _ E => dA rfl rfl) ?_; refine eN (fun Z E => aC ?_); have U := (Evo.refl [b] w).then E; have M := E.blk0 hR.blk; refine aZ rfl (fun V => ?_) (fun V => ?_)
  ·have hlt : st.pos < s.size := by omega
   refine aM ?_; refine eK (by kernel_rfl) (by kernel_rfl) ?_; refine bG (fun _ D => bC rfl) ?_; refine bG (fun _ D => aH rfl) ?_; refine bG (fun _ D => aD rfl eA) ?_; refine bG (fun _ D => aX rfl dG (bI (D.blk0 M) rfl)) ?_; refine bG (fun _ D => bC rfl) ?_; refine bG (fun _ D => aH rfl) ?_; refine bG (fun _ D => aD rfl bP) ?_; refine bG (fun _ D => aX rfl bD (bI (D.blk0 M) rfl)) ?_; refine bG (fun _ D => fN (n := st.pos) rfl rfl Tryz.underlying9 rfl hlt) ?_; refine bG (fun _ D => cR rfl) ?_; refine eN (fun a0 D => aC ?_); refine csr (aA (aB (aH rfl) (wfl rfl bP rfl bD (D.blk0 M) rfl ?_))); refine aB (aI rfl rfl (by omega) (by omega)) ?_; refine aB (aH rfl) (aB (aD rfl bP) (bJ rfl rfl (rfl) bY (D.blk0 M) rfl fun a1 F O => ?_)); have B := (U.then D).step O (fun y hy => .inl hy); have G := ((hR.own.evo0 E).evo0 D).evo O hap.symm.own1
   try simp only [cH, Nat.reduceAdd] at F
   refine wnn (bK (csr (aA (aB (dQ rfl rfl) ?_)))); refine aA (bH (t := 33) rfl (fun W => ?_) (fun W => ?_))
   ·refine aW (aA (aW (aB (dM rfl rfl) ?_))); refine bW (wan (aZ rfl (fun Y => ?_) (fun Y => ?_)))
    ·refine csr (aA ?_); refine aB (mK rfl rfl (by omega) (by omega)) ?_; refine aB (fM rfl Tryz.underlying5 Tryz.underlying3 (lQ (by omega) (by omega)).1 (lQ (by omega) (by omega)).2) ?_; refine wan (aK (aO (aE (cU (br1 ?_)))))
     exact ⟨_, pO hlt (by unfold nS; rw [if_pos (by omega)]), tY (by omega), B, F, G, hR.ne⟩
    refine csr (aA (aB (dQ rfl rfl) ?_)); refine aA (bH (t := 43) rfl (fun J => ?_) (fun J => ?_))
    ·refine aW (aA (aW (aB (dM rfl rfl) ?_))); refine bW (wan (aZ rfl (fun L => ?_) (fun L => ?_)))
     ·refine csr (aA ?_); refine aB (mK rfl rfl (by omega) (by omega)) ?_; refine aB (fM rfl Tryz.underlying5 Tryz.underlying3 (lQ (by omega) (by omega)).1 (lQ (by omega) (by omega)).2) ?_; refine aB (aI rfl rfl (by omega) (by omega)) ?_; refine wan (aK (aO (aE (cU (br1 ?_)))))
      exact ⟨_, pO hlt (by unfold nS; rw [if_neg (by omega), if_pos (by omega)]), tY (by omega), B, F, G, hR.ne⟩
     refine csr (aA (aB (dQ rfl rfl) ?_)); refine aA (bH (t := 54) rfl (fun H => ?_) (fun H => ?_))
     ·refine aW (aA (aW (aB (dM rfl rfl) ?_))); refine bW (wan (aZ rfl (fun I => ?_) (fun I => ?_)))
      ·refine csr (aA ?_); refine aB (mK rfl rfl (by omega) (by omega)) ?_; refine aB (fM rfl Tryz.underlying5 Tryz.underlying3 (lQ (by omega) (by omega)).1 (lQ (by omega) (by omega)).2) ?_; refine aB (aI rfl rfl (by omega) (by omega)) ?_; refine wan (aK (aO (aE (cU (br1 ?_)))))
       exact ⟨_, pO hlt (by unfold nS; rw [if_neg (by omega), if_neg (by omega), if_pos (by omega)]), tY (by omega), B, F, G, hR.ne⟩
      refine aN (aQ (aC (csr (cT (vs := [_]) dJ rfl (fU 83) rfl ?_ ?_))))
      ·intro pv wp hpp; obtain ⟨rfl, hpe⟩ := hpp
       exact And.intro rfl ⟨_, rfl, mJ hlt (by unfold nS; rw [if_neg (by omega), if_neg (by omega), if_neg (by omega)]), rfl, (B).then hpe⟩
      intro _ _ hF; exact hF.elim
     refine aP (aP (bR (wan (cF rfl ?_)))); refine aN (aQ (aC (csr (cT (vs := [_]) dJ rfl (fU 83) rfl ?_ ?_))))
     ·intro pv wp hpp; obtain ⟨rfl, hpe⟩ := hpp
      exact And.intro rfl ⟨_, rfl, mJ hlt (by unfold nS; rw [if_neg (by omega), if_neg (by omega), if_neg (by omega)]), rfl, (B).then hpe⟩
     intro _ _ hF; exact hF.elim
    refine aP (aP (bR (wan (cF rfl ?_)))); refine csr (aA (aB (dQ rfl rfl) ?_)); refine aA (bH (t := 54) rfl (fun H => ?_) (fun H => ?_))
    ·refine aW (aA (aW (aB (dM rfl rfl) ?_))); refine bW (wan (aZ rfl (fun I => ?_) (fun I => ?_)))
     ·refine csr (aA ?_); refine aB (mK rfl rfl (by omega) (by omega)) ?_; refine aB (fM rfl Tryz.underlying5 Tryz.underlying3 (lQ (by omega) (by omega)).1 (lQ (by omega) (by omega)).2) ?_; refine aB (aI rfl rfl (by omega) (by omega)) ?_; refine wan (aK (aO (aE (cU (br1 ?_)))))
      exact ⟨_, pO hlt (by unfold nS; rw [if_neg (by omega), if_neg (by omega), if_pos (by omega)]), tY (by omega), B, F, G, hR.ne⟩
     refine aN (aQ (aC (csr (cT (vs := [_]) dJ rfl (fU 83) rfl ?_ ?_))))
     ·intro pv wp hpp; obtain ⟨rfl, hpe⟩ := hpp
      exact And.intro rfl ⟨_, rfl, mJ hlt (by unfold nS; rw [if_neg (by omega), if_neg (by omega), if_neg (by omega)]), rfl, (B).then hpe⟩
     intro _ _ hF; exact hF.elim
    refine aP (aP (bR (wan (cF rfl ?_)))); refine aN (aQ (aC (csr (cT (vs := [_]) dJ rfl (fU 83) rfl ?_ ?_))))
    ·intro pv wp hpp; obtain ⟨rfl, hpe⟩ := hpp
     exact And.intro rfl ⟨_, rfl, mJ hlt (by unfold nS; rw [if_neg (by omega), if_neg (by omega), if_neg (by omega)]), rfl, (B).then hpe⟩
    intro _ _ hF; exact hF.elim
   refine aP (aP (bR (wan (cF rfl ?_)))); refine csr (aA (aB (dQ rfl rfl) ?_)); refine aA (bH (t := 43) rfl (fun J => ?_) (fun J => ?_))
   ·refine aW (aA (aW (aB (dM rfl rfl) ?_))); refine bW (wan (aZ rfl (fun L => ?_) (fun L => ?_)))
    ·refine csr (aA ?_); refine aB (mK rfl rfl (by omega) (by omega)) ?_; refine aB (fM rfl Tryz.underlying5 Tryz.underlying3 (lQ (by omega) (by omega)).1 (lQ (by omega) (by omega)).2) ?_; refine aB (aI rfl rfl (by omega) (by omega)) ?_; refine wan (aK (aO (aE (cU (br1 ?_)))))
     exact ⟨_, pO hlt (by unfold nS; rw [if_neg (by omega), if_pos (by omega)]), tY (by omega), B, F, G, hR.ne⟩
    refine csr (aA (aB (dQ rfl rfl) ?_)); refine aA (bH (t := 54) rfl (fun H => ?_) (fun H => ?_))
    ·refine aW (aA (aW (aB (dM rfl rfl) ?_))); refine bW (wan (aZ rfl (fun I => ?_) (fun I => ?_)))
     ·refine csr (aA ?_); refine aB (mK rfl rfl (by omega) (by omega)) ?_; refine aB (fM rfl Tryz.underlying5 Tryz.underlying3 (lQ (by omega) (by omega)).1 (lQ (by omega) (by omega)).2) ?_; refine aB (aI rfl rfl (by omega) (by omega)) ?_; refine wan (aK (aO (aE (cU (br1 ?_)))))
      exact ⟨_, pO hlt (by unfold nS; rw [if_neg (by omega), if_neg (by omega), if_pos (by omega)]), tY (by omega), B, F, G, hR.ne⟩
     refine aN (aQ (aC (csr (cT (vs := [_]) dJ rfl (fU 83) rfl ?_ ?_))))
     ·intro pv wp hpp; obtain ⟨rfl, hpe⟩ := hpp
      exact And.intro rfl ⟨_, rfl, mJ hlt (by unfold nS; rw [if_neg (by omega), if_neg (by omega), if_neg (by omega)]), rfl, (B).then hpe⟩
     intro _ _ hF; exact hF.elim
    refine aP (aP (bR (wan (cF rfl ?_)))); refine aN (aQ (aC (csr (cT (vs := [_]) dJ rfl (fU 83) rfl ?_ ?_))))
    ·intro pv wp hpp; obtain ⟨rfl, hpe⟩ := hpp
     exact And.intro rfl ⟨_, rfl, mJ hlt (by unfold nS; rw [if_neg (by omega), if_neg (by omega), if_neg (by omega)]), rfl, (B).then hpe⟩
    intro _ _ hF; exact hF.elim
   refine aP (aP (bR (wan (cF rfl ?_)))); refine csr (aA (aB (dQ rfl rfl) ?_)); refine aA (bH (t := 54) rfl (fun H => ?_) (fun H => ?_))
   ·refine aW (aA (aW (aB (dM rfl rfl) ?_))); refine bW (wan (aZ rfl (fun I => ?_) (fun I => ?_)))
    ·refine csr (aA ?_); refine aB (mK rfl rfl (by omega) (by omega)) ?_; refine aB (fM rfl Tryz.underlying5 Tryz.underlying3 (lQ (by omega) (by omega)).1 (lQ (by omega) (by omega)).2) ?_; refine aB (aI rfl rfl (by omega) (by omega)) ?_; refine wan (aK (aO (aE (cU (br1 ?_)))))
     exact ⟨_, pO hlt (by unfold nS; rw [if_neg (by omega), if_neg (by omega), if_pos (by omega)]), tY (by omega), B, F, G, hR.ne⟩
    refine aN (aQ (aC (csr (cT (vs := [_]) dJ rfl (fU 83) rfl ?_ ?_))))
    ·intro pv wp hpp; obtain ⟨rfl, hpe⟩ := hpp
     exact And.intro rfl ⟨_, rfl, mJ hlt (by unfold nS; rw [if_neg (by omega), if_neg (by omega), if_neg (by omega)]), rfl, (B).then hpe⟩
    intro _ _ hF; exact hF.elim
   refine aP (aP (bR (wan (cF rfl ?_)))); refine aN (aQ (aC (csr (cT (vs := [_]) dJ rfl (fU 83) rfl ?_ ?_))))
   ·intro pv wp hpp; obtain ⟨rfl, hpe⟩ := hpp
    exact And.intro rfl ⟨_, rfl, mJ hlt (by unfold nS; rw [if_neg (by omega), if_neg (by omega), if_neg (by omega)]), rfl, (B).then hpe⟩
   intro _ _ hF; exact hF.elim
  refine aN (aC (csr (cT (vs := [_]) dJ rfl (fU 83) rfl ?_ ?_)))
  ·intro pv wp hpp; obtain ⟨rfl, hpe⟩ := hpp; exact And.intro rfl ⟨_, rfl, hexd_no (by omega), rfl, (U).then hpe⟩
  intro _ _ hF; exact hF.elim
theorem oP : dW Tryz.prog 161 := ⟨_, Tryz.func161, by kernel_rfl, by kernel_rfl⟩
theorem jO : dW Tryz.prog 60 := ⟨_, Tryz.func60, by kernel_rfl, by kernel_rfl⟩
def jY (st : PS) (j : Nat) : PS := { st with pos := j }
theorem AM (s : ByteArray) (i : Nat) : gL s i = .error 83 ∨ ∃ d, d < 16 ∧ i < s.size ∧ gL s i = .ok (d, i + 1) := by
  unfold gL
  by_cases h : i < s.size
  · rw [if_pos h]
    unfold nS
    split
    · rename_i d hd
      refine .inr ⟨d, ?_, h, rfl⟩
      split at hd
      · cases hd; omega
      · split at hd
        · cases hd; omega
        · split at hd
          · cases hd; omega
          · cases hd
    · exact .inl rfl
  · rw [if_neg h]; exact .inl rfl
theorem uX {r : Int} (h0 : -2147483648 ≤ r) (h1 : r ≤ 2147483647) : IntKind.i32.min ≤ r ∧ r ≤ IntKind.i32.max := by
  constructor <;> simp [IntKind.min, IntKind.max, IntKind.signed, IntKind.bits] <;> omega
theorem VM {s : ByteArray} {n i : Nat} (hi : i ≤ s.size) (h : isB s i 125) : kG s (s.size + 1 - i) n i = .ok (n, i + 1) := by
  rw [show s.size + 1 - i = (s.size - i) + 1 by omega, kG, if_pos h]
theorem VL {s : ByteArray} {n i : Nat} (hi : i ≤ s.size) (h : ¬ isB s i 125) (he : gL s i = .error 83) : kG s (s.size + 1 - i) n i = .error 83 := by
  rw [show s.size + 1 - i = (s.size - i) + 1 by omega, kG, if_neg h, he]
theorem VN {s : ByteArray} {n i d : Nat} (hi : i ≤ s.size) (h : ¬ isB s i 125) (he : gL s i = .ok (d, i + 1)) (hb : 1114111 < n * 16 + d) : kG s (s.size + 1 - i) n i = .error 83 := by
  rw [show s.size + 1 - i = (s.size - i) + 1 by omega, kG, if_neg h, he]
  show (if 1114111 < n * 16 + d then _ else _) = _
  rw [if_pos hb]
theorem hexl_go {s : ByteArray} {n i d : Nat} (hi : i < s.size) (h : ¬ isB s i 125) (he : gL s i = .ok (d, i + 1)) (hb : ¬ 1114111 < n * 16 + d) : kG s (s.size + 1 - i) n i = kG s (s.size + 1 - (i + 1)) (n * 16 + d) (i + 1) := by
  rw [show s.size + 1 - i = (s.size + 1 - (i + 1)) + 1 by omega, kG, if_neg h, he]
  show (if 1114111 < n * 16 + d then _ else _) = _
  rw [if_neg hb]
theorem yT {s : ByteArray} {i d j : Nat} (h : gL s i = .ok (d, j)) : d < 16 := by
  rcases AM s i with e | ⟨d', h1, _, e⟩ <;> rw [e] at h <;> cases h
  exact h1
theorem hex_a {s : ByteArray} {i : Nat} (h : ¬ isB s i 123) (e : gL s i = .error 83) : kT s i = .error 83 := by unfold kT; rw [if_neg h, e]
theorem hex_b {s : ByteArray} {i d : Nat} (h : ¬ isB s i 123) (e : gL s i = .ok (d, i + 1)) (e2 : gL s (i + 1) = .error 83) : kT s i = .error 83 := by
  unfold kT; rw [if_neg h, e]; show (match gL s (i + 1) with | .error e => _ | .ok (b, k) => _) = _; rw [e2]
theorem hex_c {s : ByteArray} {i d f : Nat} (h : ¬ isB s i 123) (e : gL s i = .ok (d, i + 1)) (e2 : gL s (i + 1) = .ok (f, i + 1 + 1)) : kT s i = .ok (d * 16 + f, i + 1 + 1) := by
  unfold kT; rw [if_neg h, e]; show (match gL s (i + 1) with | .error e => _ | .ok (b, k) => _) = _; rw [e2]
theorem hex_d {s : ByteArray} {i : Nat} (h : isB s i 123) (e : gL s (i + 1) = .error 83) : kT s i = .error 83 := by unfold kT; rw [if_pos h, e]
theorem hex_e {s : ByteArray} {i d : Nat} (h : isB s i 123) (e : gL s (i + 1) = .ok (d, i + 1 + 1)) : kT s i = kG s (s.size + 1 - (i + 1 + 1)) d (i + 1 + 1) := by unfold kT; rw [if_pos h, e]
structure HxG where
  n : Nat
  p : Nat
structure HxI (w : World) (b : Nat) (s : ByteArray) (st : PS) (a : Option Addr) (c : Nat) (ob : Option Nat) (x : HxG) : Prop where
  hp : x.p ≤ s.size
  hn : x.n ≤ 1114111
  hr : RdAt w b s (jY st x.p) a c ob
  eq : kT s st.pos = kG s (s.size + 1 - x.p) x.n x.p
theorem OF {s : ByteArray} {i d j : Nat} (h : gL s i = .ok (d, j)) : i < s.size := by
  rcases AM s i with e | ⟨d', _, h1, e⟩ <;> rw [e] at h <;> cases h
  exact h1
theorem hex_ok {w : World} {b : Nat} {s : ByteArray} {st : PS} {a : Option Addr} {c : Nat} {ob : Option Nat} (hR : RdAt w b s st a c ob) (hs : s.size ≤ 1000000) :
    Calls Tryz.prog 149 #[.pointer (some ⟨b, 0, none⟩)] w (RetP (fun v w' => ∃ n j, kT s st.pos = .ok (n, j) ∧ v = .int .i32 (n : Nat) ∧ Evo [b] w w' ∧ RdAt w' b s (jY st j) a c ob) (fun v w' => kT s st.pos = .error 83 ∧ v = flt 83 ∧ Evo [b] w w')) := by
  have hap := hR.ap; refine bE (N := 33) Tryz.func149 rfl rfl rfl ?_; refine csr (wan (aM (csr (aA ?_)))); refine aG (vs := [_, _]) jO rfl (oK hR hs 123 (by decide)) rfl ?_; rintro _ w1 ⟨rfl, Y, F⟩; have G := (Evo.refl [b] w).step Y (fun y hy => .inl hy); refine aB (mS rfl) ?_; refine wnn (aZ rfl (fun D => ?_) (fun D => ?_))
  ·rw [if_neg D] at F; refine csr (aA (cT (vs := [_]) oP rfl (pV F hs) rfl ?_ ?_))
   ·intro pv wp hpp; obtain ⟨hpe, rfl, hpw⟩ := hpp; exact And.intro rfl ⟨_, rfl, hex_a D hpe, rfl, (G).step hpw (fun y hy => .inl hy)⟩
   rintro _ w4 ⟨d1, hd1, rfl, Z, a0⟩; have J := G.step Z (fun y hy => .inl hy); have hl1 := yT hd1; refine aA (cT (vs := [_]) oP rfl (pV a0 hs) rfl ?_ ?_)
   ·intro pv wp hpp; obtain ⟨hpe, rfl, hpw⟩ := hpp; exact And.intro rfl ⟨_, rfl, hex_b D hd1 hpe, rfl, (J).step hpw (fun y hy => .inl hy)⟩
   rintro _ w7 ⟨d2, hd2, rfl, a1, a2⟩; have hl2 := yT hd2; refine bN (wan (csr (aA ?_))); refine aB (lW rfl rfl (by omega) (by omega)) ?_; refine aA ?_; refine aB (aI rfl rfl (by omega) (by omega)) ?_; refine aB (fM rfl Tryz.underlying3 Tryz.underlying21 (uX (by omega) (by omega)).1 (uX (by omega) (by omega)).2) ?_; refine wan (aK (aE (cU (br1 ?_)))); exact ⟨_, _, hex_c D hd1 hd2, (by congr 1), (J.step a1 (fun y hy => .inl hy)), a2⟩
  have hb8 : isB s st.pos 123 := Classical.not_not.1 D; rw [if_pos hb8] at F; refine aN (aC (csr (aA (cT (vs := [_]) oP rfl (pV F hs) rfl ?_ ?_))))
  ·intro pv wp hpp; obtain ⟨hpe, rfl, hpw⟩ := hpp; exact And.intro rfl ⟨_, rfl, hex_d hb8 hpe, rfl, (G).step hpw (fun y hy => .inl hy)⟩
  rintro _ a6 ⟨d1, hd1, rfl, M, a3⟩; have hl1 := yT hd1; have hin := OF hd1; refine wan (aM (bK ?_))
  refine dL (α := HxG) (⟨d1, st.pos + 1 + 1⟩) (fun x => [(5, .int .i64 (x.n : Nat))]) [(0, _), (2, _)] (fun x wr => Evo [b] w wr ∧ (HxI wr b s st a c ob x)) (fun x => s.size + 1 - x.p) ⟨rfl, trivial⟩ ⟨rfl, rfl, trivial⟩ ⟨(G.step M (fun y hy => .inl hy)), ⟨by show st.pos + 1 + 1 ≤ _; have : st.pos + 1 < s.size := hin; omega, by show d1 ≤ _; omega, a3, hex_e hb8 hd1⟩⟩ ?_
  rintro ⟨n, p⟩ wr13 ⟨O, ⟨hp9, a4, L, heq⟩⟩; show CW _ _ _ _ [(5, .int .i64 (n : Nat)), (0, _), (2, _)] _
  try dsimp only at hp9 a4 L heq
  refine aM (csr (aA ?_)); refine aG (vs := [_, _]) jO rfl (oK L hs 125 (by decide)) rfl ?_; rintro _ a7 ⟨rfl, U, H⟩; have E := O.step U (fun y hy => .inl hy); refine aB (mS rfl) ?_; refine wnn (aZ rfl (fun B => ?_) (fun B => ?_))
  ·rw [if_neg B] at H; refine aN (aC (bK (csr (aA ?_)))); refine aB (lW rfl rfl (by omega) (by omega)) ?_; refine aA (cT (vs := [_]) oP rfl (pV H hs) rfl ?_ ?_)
   ·intro pv wp hpp; obtain ⟨hpe, rfl, hpw⟩ := hpp; exact And.intro rfl ⟨_, rfl, heq.trans (VL hp9 B hpe), rfl, (E).step hpw (fun y hy => .inl hy)⟩
   rintro _ a8 ⟨d2, hd2, rfl, V, a5⟩; have I := E.step V (fun y hy => .inl hy); have hl2 := yT hd2; have hin2 : p < s.size := OF hd2; refine aB (aI rfl rfl (by omega) (by omega)) ?_; refine wan (csr (aA (aB (eW rfl rfl) ?_))); refine wnn (aZ rfl (fun W => ?_) (fun W => ?_))
   ·refine aF (cT (vs := [_]) dJ rfl (fU 83) rfl ?_ ?_)
    ·intro pv wp hpp; obtain ⟨rfl, hpw⟩ := hpp; exact And.intro rfl ⟨_, rfl, heq.trans (VN hp9 B hd2 (by omega)), rfl, (I).then hpw⟩
    intro _ _ hF; exact hF.elim
   refine aN (aQ (aY ?_)); refine ⟨⟨n * 16 + d2, p + 1⟩, ?_, ⟨rfl, trivial⟩, ⟨rfl, rfl, trivial⟩, I, ?_⟩
   · (try dsimp only); omega
   try dsimp only
   exact ⟨by show p + 1 ≤ _; omega, by show n * 16 + d2 ≤ _; omega, a5, heq.trans (hexl_go hin2 B hd2 (by omega))⟩
  have hb22 : isB s (jY st p).pos 125 := Classical.not_not.1 B; rw [if_pos hb22] at H; refine cW (bS (bS (cV (aC ?_)))); refine csr (aA ?_); refine aB (fM rfl Tryz.underlying3 Tryz.underlying21 (uX (by omega) (by omega)).1 (uX (by omega) (by omega)).2) ?_; refine wan (aK (cU (br1 ?_))); exact ⟨_, _, heq.trans (VM hp9 hb22), rfl, E, H⟩
end Go.Proofs.YtljadkcojnlioaaGreatDoor
namespace Go.Proofs.YtljadkcojnlioaaGreatDoor
open Go.RowKit Go.W
def yF (g : Int × Int) : List Value := [.int .i32 g.1, .int .i32 g.2]
def cS (l : List (Int × Int)) : List Value := l.flatMap yF
theorem pU (g : Int × Int) (l : List (Int × Int)) : cS (g :: l) = .int .i32 g.1 :: .int .i32 g.2 :: cS l := rfl
theorem dH (l m : List (Int × Int)) : cS (l ++ m) = cS l ++ cS m := List.flatMap_append
theorem jQ : ∀ l : List (Int × Int), (cS l).length = l.length * 2
  | [] => rfl
  | g :: l => by rw [pU, List.length_cons, List.length_cons, jQ l, List.length_cons]; omega
theorem tU : ∀ {l : List (Int × Int)} {i : Nat} (h : i < l.length), (cS l)[i * 2]? = some (.int .i32 l[i].1) ∧ (cS l)[i * 2 + 1]? = some (.int .i32 l[i].2)
  | g :: l, 0, h => ⟨rfl, rfl⟩
  | g :: l, i + 1, h => by
    have := tU (l := l) (i := i) (by simpa using h)
    rw [pU, show (i + 1) * 2 = i * 2 + 1 + 1 by omega]
    exact this
theorem nE : ∀ l : List (Int × Int), AllOne (cS l)
  | [] => trivial
  | g :: l => ⟨rfl, rfl, nE l⟩
section
variable {w : World} {e : TypeId} {a : Option Addr} {n c : Nat} {l : List (Int × Int)} {ob : Option Nat}
theorem lK (h : OwnS w e 2 a n c (cS l) ob) : n = l.length := by have := h.length; rw [jQ] at this; omega
theorem iL (h : OwnS w e 2 a n c (cS l) ob) {i : Nat} (hi : i < l.length) : ∃ g, ob = some g ∧ a = some ⟨g, 0, none⟩ ∧ CellsAt w g (0 + i * 2) (yF l[i]) := by
  have hn := lK h
  obtain ⟨g, hg, ha, hc⟩ := h.cells (by omega)
  refine ⟨g, hg, ha, fun j v hj => ?_⟩
  obtain ⟨h0, h1⟩ := tU hi
  match j, hj with
  | 0, hj => cases hj; have := hc _ _ h0; simpa using this
  | 1, hj => cases hj; have := hc _ _ h1; simpa [Nat.add_assoc] using this
  | j + 2, hj => cases hj
theorem TY (h : OwnS w e 2 a n c (cS l) ob) : (a = none ∧ n = 0 ∧ l = [] ∧ ob = none) ∨ ∃ g, a = some ⟨g, 0, none⟩ ∧ ob = some g := by
  have hn := lK h
  rcases h.2 with ⟨h1, h2, h3⟩ | ⟨g, cap, cur, hg, hv, _⟩
  · cases h1; exact .inl ⟨rfl, rfl, List.length_eq_zero_iff.1 hn.symm, h3⟩
  · cases hv; exact .inr ⟨g, rfl, hg⟩
theorem own_rrg (h : OwnS w e 2 a n c (cS l) ob) {X : List Nat} (hx : ∀ g, ob = some g → g ∉ X) : RSl 2 RRg X w (.slice a l.length c) l := by
  have hn := lK h
  refine ⟨a, c, rfl, by rw [← hn]; exact h.le, fun k hk => ?_⟩
  obtain ⟨g, hg, ha, hc⟩ := iL h hk
  exact ⟨g, 0, _, ha, hx g hg, rfl, hc, rfl⟩
end
theorem sE (l : List (Int × Int)) : Sort.flatK yF 2 l.toArray = (cS l).toArray := by
  apply Array.ext
  · simp [jQ]
  · intro t h1 h2
    have h3 : t < l.length * 2 := by simpa [jQ] using h2
    have h4 := Sort.get_flatK yF 2 l.toArray t (by simpa using h3)
    rw [getElem!_pos _ t h1] at h4
    rw [h4]
    have h5 : t / 2 < l.length := by omega
    have h6 : (l.toArray)[t / 2]! = l[t / 2] := by simp [h5]
    rw [h6]
    obtain ⟨g0, g1⟩ := tU h5
    rcases Nat.mod_two_eq_zero_or_one t with hm | hm <;> rw [hm]
    · rw [show t / 2 * 2 = t by omega] at g0
      show (Value.int .i32 l[t / 2].1) = _
      simp only [List.getElem_toArray]
      exact (Option.some.inj ((List.getElem?_eq_getElem (by rw [jQ]; exact h3)).symm.trans g0)).symm
    · rw [show t / 2 * 2 + 1 = t by omega] at g1
      show (Value.int .i32 l[t / 2].2) = _
      simp only [List.getElem_toArray]
      exact (Option.some.inj ((List.getElem?_eq_getElem (by rw [jQ]; exact h3)).symm.trans g1)).symm
theorem WJ (w : World) (g n : Nat) (d : Array Value) (os : Array Obj) : Evo [g] w (Sort.grow (Sort.putRow id (Sort.ahead w n) g 0 d) os) := by
  refine ⟨rfl, rfl, rfl, ?_, fun b hb hx => ?_⟩
  · simp [Sort.grow, Sort.putRow, Sort.mapBlock, Sort.ahead]
  · have hne : g ≠ b := fun e => hx (by simp [e])
    simp only [Sort.grow, Sort.putRow, Sort.mapBlock, Sort.ahead]
    rw [Array.getElem?_append_left (by simpa using hb), Array.getElem?_modify, if_neg hne]
theorem SL {w : World} {g : Nat} {cur : Array Value} {e : TypeId} (hb : w.heap[g]? = some (.cells cur e (0, 0))) (n : Nat) (d : Array Value) (os : Array Obj) :
    (Sort.grow (Sort.putRow id (Sort.ahead w n) g 0 d) os).heap[g]? = some (.cells (Sort.putCells id 0 d cur) e (0, 0)) := by
  have hlt := fF hb
  simp only [Sort.grow, Sort.putRow, Sort.mapBlock, Sort.ahead]
  rw [Array.getElem?_append_left (by simpa using hlt), Array.getElem?_modify, if_pos rfl, hb]
  rfl
theorem zR (cur : Array Value) (ds : List Value) (hc : ds.length ≤ cur.size) : (Sort.putCells id 0 ds.toArray cur).toList.take ds.length = ds := by
  apply List.ext_getElem?
  intro k
  by_cases hk : k < ds.length
  · rw [List.getElem?_take, if_pos hk]
    simp only [Sort.putCells, Array.getElem?_toList, Array.getElem?_mapIdx, List.getElem?_map]
    have h1 : k < cur.size := by omega
    simp [h1, hk]
  · rw [List.getElem?_eq_none (by simp; omega), List.getElem?_eq_none (by omega)]
theorem QD {w : World} {e : TypeId} {g n c sz : Nat} {xs ds : List Value} (h : OwnS w e sz (some ⟨g, 0, none⟩) n c xs (some g)) (hd : ds.length = n * sz) (q : Nat) (os : Array Obj) :
    OwnS (Sort.grow (Sort.putRow id (Sort.ahead w q) g 0 ds.toArray) os) e sz (some ⟨g, 0, none⟩) n c ds (some g) := by
  refine ⟨hd, ?_⟩
  rcases h.2 with ⟨h1, _⟩ | ⟨g', cap, cur, hg, hv, hb, hn, hc, hs, ht⟩
  · cases h1
  · cases hg; cases hv
    have hle : n * sz ≤ c * sz := Nat.mul_le_mul_right sz hn
    refine .inr ⟨g, c, _, rfl, rfl, SL hb q ds.toArray os, hn, hc, by simpa [Sort.putCells] using hs, ?_⟩
    rw [← hd]
    exact zR cur ds (by omega)
theorem LI {w : World} {e : TypeId} {g n c : Nat} {l : List (Int × Int)} (h : OwnS w e 2 (some ⟨g, 0, none⟩) n c (cS l) (some g)) : Sort.HoldsK yF 2 w g 0 l.toArray := fun j hj => by
  rw [sE] at hj ⊢
  have hj' : j < (cS l).length := by simpa using hj
  have hl := h.length
  rcases h.2 with ⟨h1, _⟩ | ⟨g', cap, cur, hg, hv, hb, hn, hc, hs, ht⟩
  · cases h1
  · cases hg; cases hv
    constructor
    · refine iS hb ?_
      have h1 : (cur.toList.take (n * 2))[j]? = some (cS l)[j] := by rw [ht]; exact List.getElem?_eq_getElem hj'
      rw [List.getElem?_take, if_pos (by omega)] at h1
      rw [Nat.zero_add]
      simpa [hj'] using h1
    · simp [World.frozen?, hb]
end Go.Proofs.YtljadkcojnlioaaGreatDoor
namespace Go.Proofs.YtljadkcojnlioaaGreatDoor
open Go.RowKit Go.W
attribute [local irreducible] Decidable.decide
theorem cX : BS Tryz.prog 24 24 = some (56, 2, 8) := by kernel_rfl
theorem eE : Build Tryz.prog 56 #[(0, 1), (1, 1)] #[.int .i32 0, .int .i32 0] := ⟨_, .agg #[.int .i32 0, .int .i32 0], Tryz.underlying56, by kernel_rfl, rfl, fun w => by kernel_rfl⟩
theorem qF : vE Tryz.prog 67 = some 1 := by kernel_rfl
theorem dE : rV Tryz.prog 24 = some (56, 2) := by kernel_rfl
def Vr (l : List (Int × Int)) : Prop := ∀ g, g ∈ l → 0 ≤ g.1 ∧ g.1 ≤ g.2 ∧ g.2 ≤ 1114111
def nB : List Int → List (Int × Int)
  | a :: b :: r => (a, b) :: nB r
  | _ => []
theorem CJ : ∀ (l : List Int), (nB l).length = l.length / 2
  | [] => rfl
  | [a] => by rw [show nB [a] = [] from rfl]; simp
  | a :: b :: r => by rw [nB, List.length_cons, CJ r]; simp only [List.length_cons]; omega
theorem CK : ∀ {l : List Int} {k : Nat} (h : k < (nB l).length) (h0 : 2 * k < l.length) (h1 : 2 * k + 1 < l.length), (nB l)[k] = (l[2 * k], l[2 * k + 1])
  | [], k, h, _, _ => by cases h
  | [a], k, h, _, _ => by cases h
  | a :: b :: r, 0, h, _, _ => rfl
  | a :: b :: r, k + 1, h, h0, h1 => by
    have := CK (l := r) (k := k) (by rw [nB] at h; simpa using h) (by simp only [List.length_cons] at h0; omega) (by simp only [List.length_cons] at h1; omega)
    have h2 : (nB (a :: b :: r))[k + 1] = (nB r)[k]'(by rw [nB] at h; simpa using h) := rfl
    rw [h2, this]
    simp only [show 2 * (k + 1) = 2 * k + 1 + 1 by omega, List.getElem_cons_succ]
theorem mD (l : List (Int × Int)) (a b : Int) : cS (l ++ [(a, b)]) = cS l ++ [.int .i32 a, .int .i32 b] := by rw [dH]; rfl
abbrev i32v (l : List Int) : List Value := l.map fun c => Value.int .i32 c
theorem HU {w : World} {e : TypeId} {a : Option Addr} {n c : Nat} {ys : List Int} {ob : Option Nat} (h : OwnS w e 1 a n c (i32v ys) ob) {k : Nat} (hk : k < ys.length) : ∃ g, ob = some g ∧ a = some ⟨g, 0, none⟩ ∧ w.cell? ⟨g, 0 + k * 1, none⟩ = some (.int .i32 ys[k]) := by
  have hl : ys.length = n * 1 := by have := h.length; simpa using this
  obtain ⟨g, hg, ha, hc⟩ := h.cells (by omega)
  refine ⟨g, hg, ha, ?_⟩
  rw [Nat.mul_one]
  exact hc k _ (by simp [hk])
structure SpG where
  k : Nat
  sa : Option Addr
  sc : Nat
  so : Option Nat
structure SpI (w wr : World) (n : Nat) (l : List (Int × Int)) (a : Option Addr) (c : Nat) (ob : Option Nat) : Prop where
  hk : n = l.length
  own : OwnS wr 56 2 a n c (cS l) ob
  ge : Ge w ob
theorem CZ {w : World} {a : Option Addr} {c : Nat} {l : List (Int × Int)} {ob : Option Nat} (hO : OwnS w 56 2 a l.length c (cS l) ob) (hl : l.length ≤ 1000000) :
    Calls Tryz.prog 148 #[.slice a l.length c] w (Ret fun v w' => ∃ a' c' ob', v = .slice a' l.length c' ∧ OwnS w' 56 2 a' l.length c' (cS l) ob' ∧ Ge w ob' ∧ Evo [] w w') := by
  refine bE (N := 8) Tryz.func148 rfl rfl rfl ?_; refine csr (wan (aM (csr (aA (aB (ex_eqSl rfl rfl Tryz.underlying24) ?_))))); refine wnn (eO rfl (fun D => ?_) (fun D => ?_))
  ·refine csr (wan (aK (aE (br1 ?_))))
   obtain ⟨rfl, h1, rfl, rfl⟩ := (TY hO).resolve_right (fun ⟨g, h, _⟩ => by rw [h] at D; cases D)
   exact ⟨none, 0, none, rfl, OwnS.nil _ _ _, Ge.nil _, (Evo.refl [] w)⟩
  refine aN (aC (csr (bL (vs := []) rfl dE rfl rfl rfl rfl fun b1 w2 B H I => ?_))); have F := Ge.new (Evo.refl [] w) H; have E := (Evo.refl [] w).then I; refine aA ?_; refine cM rfl rfl rfl rfl cX B (Src.ofOwn (hO.evo0 E) (nE l)) (by omega) fun a2 c2 L ob2 J G hob16 => ?_; refine wan (aK (br1 ?_)); have B := J; rw [Nat.zero_add] at B; exact ⟨a2, c2, ob2, by rw [Nat.zero_add], by simpa using B, (F.app E hob16), (E.step G F.mem)⟩
theorem iB {w : World} {a : Option Addr} {n c : Nat} {es : List Int} {ob : Option Nat} (hO : OwnS w 21 1 a n c (i32v es) ob) (hl : es.length ≤ 1000) :
    Calls Tryz.prog 114 #[.slice a n c] w (Ret fun v w' => ∃ a' c' ob', v = .slice a' (nB es).length c' ∧ OwnS w' 56 2 a' (nB es).length c' (cS (nB es)) ob' ∧ Ge w ob' ∧ Evo [] w w') := by
  have hn : n = es.length := by have := hO.length; simp at this; omega
  subst hn; have hpl := CJ es; refine bE (N := 26) Tryz.func114 rfl rfl rfl ?_; refine csr (wan (csr (wan (aM (csr (wan (bK ?_))))))); refine dL (α := SpG) (⟨0, none, 0, none⟩) (fun x => [(3, .slice x.sa x.k x.sc), (4, .int .i64 ((2 * x.k : Nat) : Int))]) [(0, _), (2, _)] (fun x wr => Evo [] w wr ∧ (x.k ≤ (nB es).length ∧ SpI w wr x.k ((nB es).take x.k) x.sa x.sc x.so)) (fun x => (nB es).length - x.k) ⟨rfl, rfl, trivial⟩ ⟨rfl, rfl, trivial⟩ ⟨(Evo.refl [] w), ⟨Nat.zero_le _, by simp, OwnS.nil _ _ _, Ge.nil _⟩⟩ ?_; rintro ⟨k, sa, sc, so⟩ wr1 ⟨H, ⟨hk, hkl, hown, hge⟩⟩; show CW _ _ _ _ [(3, .slice sa k sc), (4, .int .i64 ((2 * k : Nat) : Int)), (0, _), (2, _)] _
  try dsimp only at hk hkl hown hge
  refine aM (csr (aA ?_)); refine aB (aI rfl rfl (by omega) (by omega)) ?_; refine aA (aB (bM rfl Tryz.underlying67 rfl) ?_); refine aB (dA rfl rfl) ?_; refine wnn (aZ rfl (fun J => ?_) (fun J => ?_))
  ·have h0 : 2 * k < es.length := by omega
   have h1 : 2 * k + 1 < es.length := by omega
   have hk' : k < (nB es).length := by omega
   obtain ⟨g0, hg0, ha0, L⟩ := HU hO h0; obtain ⟨g1, hg1, ha1, M⟩ := HU hO h1; refine aN (aC (aM (bK ?_))); refine fR (fun w0 w' => Evo so.toList w0 w') (by kernel_rfl) (fun w3 I => ?_); have D := H.then I; refine aet 0 rfl (fun _ hS => bC rfl) (Evo.refl so.toList w3) ?_; refine aet 1 rfl (fun _ hS => bC rfl) (Evo.refl so.toList w3) ?_; refine aet 2 rfl (fun _ hS => bC rfl) (Evo.refl so.toList w3) ?_; refine aet 3 rfl (fun _ hS => eC (n := 2 * k) rfl (by rfl) ha0 qF h0) (Evo.refl so.toList w3) ?_; refine aet 4 rfl (fun _ hS => aX rfl cD (((D.step hS (hge.mem))).cell L (by simp))) (Evo.refl so.toList w3) ?_; refine aet 5 rfl (fun _ hS => bC rfl) (Evo.refl so.toList w3) ?_; refine aet 6 rfl (fun _ hS => bC rfl) (Evo.refl so.toList w3) ?_; refine aet 7 rfl (fun _ hS => aI rfl rfl (by omega) (by omega)) (Evo.refl so.toList w3) ?_; refine aet 8 rfl (fun _ hS => eC (n := 2 * k + 1) rfl (by rfl) ha1 qF h1) (Evo.refl so.toList w3) ?_; refine aet 9 rfl (fun _ hS => aX rfl cD (((D.step hS (hge.mem))).cell M (by simp))) (Evo.refl so.toList w3) ?_
   refine aet 10 rfl (fun _ hS => cI (vs := [(0, _), (1, _)]) eE rfl (cells := [_, _]) rfl) (Evo.refl so.toList w3) ?_; refine cA [11] (by kernel_rfl) rfl ⟨?_, trivial⟩; refine cG rfl ?_; refine bL (vs := [_]) rfl dE rfl rfl rfl rfl fun b7 w8 O V B => ?_; have E := (Evo.refl so.toList w3).then B; refine aR (bV (.inl E) ?_); refine cA [12] (by kernel_rfl) rfl ⟨?_, trivial⟩; refine cG rfl ?_; refine cM rfl rfl rfl rfl cX ((hown.evo0 I).evo0 B) (Src.ofOwn O ⟨rfl, rfl, trivial⟩) (by omega) fun a2 c2 W ob2 U F hob24 => ?_; have G := E.step F (fun y hy => .inl hy); refine aR (bV (.inl G) ?_); refine aet 13 rfl (fun _ hS => cR rfl) G ?_; refine dB (by kernel_rfl) (aQ (aC ?_)); refine aF (aA ?_); refine aB (aI rfl rfl (by omega) (by omega)) ?_; refine bN (aR (aY ?_)); refine ⟨⟨k + 1, a2, c2, ob2⟩, ?_, ⟨rfl, rfl, trivial⟩, ⟨rfl, rfl, trivial⟩, ((D.then B).step F hge.mem), ?_⟩
   · (try dsimp only); omega
   try dsimp only
   refine ⟨hk', ⟨by rw [List.length_take]; omega, ?_, (hge.app (D.then B) hob24)⟩⟩
   rw [List.take_add_one, List.getElem?_eq_getElem hk', CK hk' h0 h1, Option.toList_some, mD]; exact U
  refine cW (bS (bS (cV (aC ?_)))); refine csr (aA (wan (aK (br1 ?_))))
  obtain rfl : k = (nB es).length := by omega
  rw [List.take_length] at hown; exact ⟨sa, sc, so, rfl, hown, hge, H⟩
open Go.Shelf Go.Lib Go.Sort in
section
def cl (z : Int) : Int := max 0 (min z 1114111)
def FD (g : Int × Int) : List Value := yF (cl g.1, cl g.2)
def cmC (x y : Int × Int) : Int := cl x.1 - cl y.1
theorem OU {z : Int} (h0 : 0 ≤ z) (h1 : z ≤ 1114111) : cl z = z := by unfold cl; omega
theorem cl_b (z : Int) : 0 ≤ cl z ∧ cl z ≤ 1114111 := by unfold cl; omega
set_option maxHeartbeats 1000000 in
theorem clos_ok (x y : Int × Int) (W : World) : Calls Tryz.prog 152 #[.agg (FD x).toArray, .agg (FD y).toArray] W fun e w' => e = .returned (.int .i64 (cmC x y)) ∧ ∃ q os', w' = Sort.grow (W.drewN q) os' := by
  have hx := cl_b x.1
  have hy := cl_b y.1
  unfold FD yF cmC
  generalize cl x.1 = p at *
  generalize cl y.1 = q at *
  generalize cl x.2 = p' at *
  generalize cl y.2 = q' at *
  show Calls Tryz.prog 152 #[.agg #[.int .i32 p, .int .i32 p'], .agg #[.int .i32 q, .int .i32 q']] W _
  go_enter Tryz.func152, Tryz.ntmps152
  go_wp2
  go_ret
  refine ⟨?_, 0, _, by rw [Sort.alloc_eq_grow, Sort.alloc_eq_grow, Sort.grow_grow]; rfl⟩
  rfl
end
theorem WT {l : List (Int × Int)} (h : Vr l) : l.map (fun g => (cl g.1, cl g.2)) = l := by
  conv => rhs; rw [← List.map_id l]
  refine List.map_congr_left fun g hg => ?_
  have := h g hg
  rw [OU (by omega) (by omega), OU (by omega) (by omega)]; rfl
theorem AW (l : List (Int × Int)) : Sort.flatK FD 2 l.toArray = (cS (l.map fun g => (cl g.1, cl g.2))).toArray := by
  rw [← sE]
  unfold Sort.flatK
  apply Array.ext
  · simp
  · intro t h1 h2
    have h3 : t < l.length * 2 := by simpa using h1
    have h5 : t / 2 < l.length := by omega
    simp [h5]
    rfl
theorem DI {l m : List (Int × Int)} (h : m.Perm l) (hv : Vr l) : Vr m := fun g hg => hv g (h.mem_iff.1 hg)
theorem NV (x y : Int × Int) : Go.Proofs.ltOf cmC x y = decide (cl x.1 < cl y.1) := by unfold Go.Proofs.ltOf cmC; exact decide_eq_decide.2 (by omega)
theorem swo_cm : Sort.SWO (Go.Proofs.ltOf cmC) where
  irrefl x := by rw [NV]; simp
  trans x y z h1 h2 := by rw [NV] at *; simp at *; omega
  ntrans x y z h1 h2 := by rw [NV] at *; simp at *; omega
theorem RZ {w : World} {a : Option Addr} {c : Nat} {l : List (Int × Int)} {ob : Option Nat} (hO : OwnS w 56 2 a l.length c (cS l) ob) (hv : Vr l) (hl : l.length ≤ 1000000) :
    Calls Tryz.prog 151 #[.slice a l.length c, .func (.func 152) #[] #[]] w (Ret fun v w' => v = .tuple #[] ∧ ∃ m, m.Perm l ∧ (∀ i j (hij : i < j) (hj : j < m.length), m[i].1 ≤ m[j].1) ∧ OwnS w' 56 2 a l.length c (cS m) ob ∧ Evo ob.toList w w') := by
  rcases TY hO with ⟨rfl, hn, rfl, rfl⟩ | ⟨g, rfl, rfl⟩
  · refine (Go.Proofs.AnyF.slices_SortFunc_none { BG with } none c (.func (.func 152) #[] #[]) w).mono ?_
    rintro e w' ⟨rfl, rfl⟩
    exact ⟨_, rfl, rfl, [], .refl _, (fun i j hij hj => by cases hj), hO, Evo.refl _ _⟩
  · have eg : ∀ args w, (callFunc 152 args).run Tryz.prog w = .ok (.enter 152 args) w := enters_of Tryz.func152 (by kernel_rfl) rfl
    have hH : Sort.HoldsK FD 2 w g 0 l.toArray := by
      have := LI hO
      unfold Sort.HoldsK at *
      rw [AW, WT hv]; rw [sE] at this; exact this
    have hcon := Go.Proofs.AnyQ.slices_SortFunc BG 2 Tryz.isAgg56 Tryz.sizeOf56 FD (fun _ => rfl) (fun x v hv => by simp [FD, yF] at hv; rcases hv with rfl | rfl <;> rfl) cmC swo_cm 152 #[] g 0 c l.toArray w eg (fun _ _ _ _ x y => clos_ok x y _) hH hO.lt (by simp; omega)
    refine Calls.mono hcon ?_
    rintro e w' ⟨rfl, d', q, os, hp, hs, rfl⟩
    obtain ⟨h1, h2, h3⟩ := hp
    have hperm : d'.toList.Perm l := by
      have e1 : d'.extract 0 l.toArray.size = d' := by rw [← h1, Array.extract_size]
      have e2 : l.toArray.extract 0 l.toArray.size = l.toArray := Array.extract_size
      rw [e1, e2] at h3
      exact h3
    have hvm := DI hperm hv
    have hlen : d'.toList.length = l.length := by simpa using h1
    refine ⟨_, rfl, rfl, d'.toList, hperm, fun i j hij hj => ?_, ?_, ?_⟩
    · have hjs : j < d'.size := by simpa using hj
      have h5 := hs i j (Nat.zero_le _) hij (by rw [← h1]; exact hjs)
      rw [NV, decide_eq_false_iff_not] at h5
      have h6 := hvm _ (List.getElem_mem hj)
      have h7 := hvm _ (List.getElem_mem (show i < d'.toList.length by omega))
      have e1 : d'[j]! = d'.toList[j] := by rw [getElem!_pos d' j hjs]; simp
      have e2 : d'[i]! = d'.toList[i] := by rw [getElem!_pos d' i (by omega)]; simp
      rw [e1, e2, OU (by omega) (by omega), OU (by omega) (by omega)] at h5
      omega
    · have h8 := QD hO (ds := cS d'.toList) (by rw [jQ, hlen]) q os
      have e3 : Sort.flatK FD 2 d' = (cS d'.toList).toArray := by
        have := AW d'.toList
        rw [WT hvm] at this
        simpa using this
      show OwnS (Sort.grow (Sort.putRow id (Sort.ahead w q) g 0 (Sort.flatK FD 2 d')) os) _ _ _ _ _ _ _
      rw [e3]
      exact h8
    · exact WJ w g q _ os
theorem vN : dW Tryz.prog 148 := ⟨_, Tryz.func148, by kernel_rfl, by kernel_rfl⟩
theorem FZ : dW Tryz.prog 151 := ⟨_, Tryz.func151, by kernel_rfl, by kernel_rfl⟩
structure MgP (m : List (Int × Int)) (k : Nat) (o : List (Int × Int)) : Prop where
  hk : k ≤ m.length
  can : uF o
  eq : ∀ c, InR c o ↔ InR c (m.take k)
  le : ∀ g, g ∈ o → ∀ i (h : i < m.length), k ≤ i → g.1 ≤ m[i].1
  len : o.length ≤ k
theorem IB (m : List (Int × Int)) : MgP m 0 [] := ⟨Nat.zero_le _, trivial, fun c => by simp, (fun g h => by cases h), Nat.le_refl _⟩
theorem IG {m : List (Int × Int)} {k : Nat} (h : k < m.length) (c : Int) : InR c (m.take (k + 1)) ↔ InR c (m.take k) ∨ (m[k].1 ≤ c ∧ c ≤ m[k].2) := by
  rw [List.take_add_one, List.getElem?_eq_getElem h, Option.toList_some, mR, lB]
section
variable {m : List (Int × Int)} {k : Nat} {o : List (Int × Int)}
theorem LQ (h : MgP m k o) (hk : k < m.length) (hv : Vr m) (hs : ∀ i j (hij : i < j) (hj : j < m.length), m[i].1 ≤ m[j].1) (ho : o = [] ∨ ∃ o' g, o = o' ++ [g] ∧ ¬ m[k].1 ≤ g.2 + 1) : MgP m (k + 1) (o ++ [m[k]]) := by
  have hx := hv _ (List.getElem_mem hk)
  refine ⟨hk, ?_, fun c => ?_, fun g hg i hi hki => ?_, by rw [List.length_append]; have := h.len; simp; omega⟩
  · rcases ho with rfl | ⟨o', g, rfl, hn⟩
    · exact sJ hx.1 hx.2.1 hx.2.2
    · exact ((JB h.can (h.le g (by simp) k hk (Nat.le_refl _)) hx.2.1 hx.2.2).2 hn).1
  · rw [mR, lB, IG hk, h.eq]
  · rcases List.mem_append.1 hg with hg | hg
    · exact h.le g hg i hi (by omega)
    · rw [List.mem_singleton.1 hg]; exact hs k i (by omega) hi
theorem UV {o' : List (Int × Int)} {g : Int × Int} (h : MgP m k (o' ++ [g])) (hk : k < m.length) (hv : Vr m) (hn : m[k].1 ≤ g.2 + 1) : MgP m (k + 1) (o' ++ [(g.1, max g.2 m[k].2)]) := by
  have hx := hv _ (List.getElem_mem hk)
  have h1 := (JB h.can (h.le g (by simp) k hk (Nat.le_refl _)) hx.2.1 hx.2.2).1 hn
  refine ⟨hk, h1.1, fun c => by rw [h1.2, IG hk, h.eq], fun g' hg i hi hki => ?_, by have := h.len; simp at this ⊢; omega⟩
  rcases List.mem_append.1 hg with hg | hg
  · exact h.le g' (by simp [hg]) i hi (by omega)
  · rw [List.mem_singleton.1 hg]; exact h.le g (by simp) i hi (by omega)
theorem UW (h : MgP m k o) (hk : m.length ≤ k) {l : List (Int × Int)} (hp : m.Perm l) {S : Int → Prop} (hS : ∀ c, InR c l ↔ S c) : o = iA S := by
  refine (nT h.can fun c => ?_).symm
  rw [h.eq, List.take_of_length_le hk, AK hp, hS]
end
theorem zQ (o : List (Int × Int)) (g : Int × Int) (z : Int) (j : Nat) (hj : j = 0 + o.length * 2 + 1) : (cS (o ++ [g])).set j (.int .i32 z) = cS (o ++ [(g.1, z)]) := by
  subst hj
  obtain ⟨a, b⟩ := g
  rw [mD, mD, List.set_append_right _ _ (by rw [jQ]; omega), jQ, show 0 + o.length * 2 + 1 - o.length * 2 = 1 by omega]
  rfl
theorem MU {l : List (Int × Int)} (h : 0 < l.length) : ∃ o g, l = o ++ [g] ∧ o.length = l.length - 1 := by
  rcases List.eq_nil_or_concat l with rfl | ⟨o, g, rfl⟩
  · cases h
  · exact ⟨o, g, by simp, by simp⟩
structure MgG where
  k : Nat
  n : Nat
  o : List (Int × Int)
  sa : Option Addr
  sc : Nat
  so : Option Nat
structure MgI (w wr : World) (m : List (Int × Int)) (a1 : Option Addr) (c1 : Nat) (ob1 : Option Nat) (x : MgG) : Prop where
  p : MgP m x.k x.o
  cl : OwnS wr 56 2 a1 m.length c1 (cS m) ob1
  own : OwnS wr 56 2 x.sa x.n x.sc (cS x.o) x.so
  ge : Ge w x.so
  gc : Ge w ob1
  ap : Apart ob1 x.so
theorem gM {a b : Int} : (if a < b then b else a) = max a b := by omega
def RsOut (w w' : World) (v : Value) (S : Int → Prop) (n : Nat) : Prop := ∃ a c ob, v = .slice a (iA S).length c ∧ OwnS w' 56 2 a (iA S).length c (cS (iA S)) ob ∧ Ge w ob ∧ (iA S).length ≤ n ∧ uF (iA S) ∧ (∀ c, InR c (iA S) ↔ S c) ∧ Evo [] w w'
theorem wP {w : World} {a : Option Addr} {c : Nat} {l : List (Int × Int)} {ob : Option Nat} (hO : OwnS w 56 2 a l.length c (cS l) ob) (hv : Vr l) (hl : l.length ≤ 1000000) {S : Int → Prop} (hS : ∀ c, InR c l ↔ S c) :
    Calls Tryz.prog 136 #[.slice a l.length c] w (Ret fun v w' => RsOut w w' v S l.length) := by
  refine bE (N := 53) Tryz.func136 rfl rfl rfl ?_; refine csr (wan (csr (aA (aG (vs := [_]) vN rfl (CZ hO hl) rfl ?_)))); rintro _ w1 ⟨a1, c1, ob1, rfl, c7, hg1, c8⟩; refine wan (csr (aA (aG (vs := [_, _]) FZ rfl (RZ c7 hv hl) rfl ?_))); rintro _ w5 ⟨rfl, m, hpm, hsm, b6, c9⟩; have hml := hpm.length_eq; have hvm := DI hpm hv; rw [← hml] at b6; refine wnn (csr (wan (aM (csr (aA (aB (bM rfl Tryz.underlying24 rfl) ?_)))))); refine aA (wnn (bK (dL (α := MgG) (⟨0, 0, [], none, 0, none⟩) (fun x => [(3, .slice x.sa x.n x.sc), (13, .int .i64 (x.k : Nat))]) [(2, _), (11, _), (12, _)] (fun x wr => Evo [] w wr ∧ (MgI w wr m a1 c1 ob1 x)) (fun x => m.length - x.k) ⟨rfl, rfl, trivial⟩ ⟨rfl, rfl, rfl, trivial⟩ ⟨(((Evo.refl [] w).then c8).step c9 (Ge.fresh (Evo.refl [] w) hg1).mem), ⟨IB m, b6, OwnS.nil _ _ _, Ge.nil _, hg1, Apart.nil _⟩⟩ ?_))); rintro ⟨k, n, o, sa, sc, so⟩ wr8 ⟨a5, ⟨hp, hcl, hown, hge, hgc, hap⟩⟩; show CW _ _ _ _ [(3, .slice sa n sc), (13, .int .i64 (k : Nat)), (2, _), (11, _), (12, _)] _
  try dsimp only at hp hcl hown hge hgc hap
  have M := Evo.refl ([]) wr8; have hon := lK hown; have hpl := hp.len; have hpk := hp.hk
  try dsimp only at hpl hpk
  refine csr (aB (dA rfl rfl) ?_); refine wnn (aM (aZ rfl (fun b8 => ?_) (fun b8 => ?_)))
  ·have hk' : k < m.length := by omega
   have hvk := hvm _ (List.getElem_mem hk'); obtain ⟨g1, hg1', ha1, d0⟩ := iL hcl hk'; refine aN (aC (aM (bK (csr ?_)))); refine aB (eC (n := k) rfl rfl ha1 cK (by omega)) ?_; refine aB (eB rfl gK eH (vs := [_, _]) rfl (d0.evo M (by simp))) ?_; refine cO rfl nX fun d4 d5 b9 H I => ?_; have a6 := Apart.new (Lt.own hown) H; refine aV rfl rfl eH b9 rfl rfl ⟨rfl, rfl, trivial⟩ fun d6 E J => ?_; have O := (a5.then I).step J (Ge.new a5 H).mem1; have a7 := (M.then I).step J (Ge.new M H).mem1; have U := (hown.evo0 I).evo J a6.own1; have V := (hcl.evo0 I).evo J (Apart.new (Lt.own hcl) H).own1
   try simp only [cH, Nat.reduceAdd] at E
   refine wnn (aM (csr (aA (aB (bM rfl Tryz.underlying24 rfl) ?_)))); refine wan (aM ?_); refine eK (by kernel_rfl) (by kernel_rfl) ?_; refine bG (fun _ B => bC rfl) ?_; refine bG (fun _ B => eW rfl rfl) ?_; refine bG (fun _ B => bC rfl) ?_; refine kC (t := 21) rfl (fun c0 => ?_) (fun c0 => ?_)
   ·have h0 : 0 < o.length := by omega
    obtain ⟨o', q, hoq, hol⟩ := MU h0; subst hoq
    have hol2 : (o' ++ [q]).length = o'.length + 1 := by simp
    have hqb := wZ (x := q) hp.can; obtain ⟨gq, hgq, haq, hcq⟩ := iL hown (i := o'.length) (by omega); rw [List.getElem_concat_length (h := rfl)] at hcq; refine qlg ?_; refine bG (fun _ B => aD rfl dP) ?_; refine qlg ?_; refine bG (fun _ B => aX rfl cD (bI (B.blk0 E) rfl)) ?_; refine qlg ?_; refine bG (fun _ B => bC rfl) ?_; refine qlg ?_; refine bG (fun _ B => bC rfl) ?_; refine qlg ?_; refine bG (fun _ B => dX rfl rfl (by omega) (by omega)) ?_; refine qlg ?_; refine bG (fun _ B => bZ (n := o'.length) rfl rfl haq (by omega) cK (by omega)) ?_; refine qlg ?_; refine bG (fun _ B => aD rfl dF) ?_; refine qlg ?_; refine bG (fun _ B => aX rfl cD (((a7.then B)).cell (hcq 1 _ rfl) (by simp))) ?_; refine qlg ?_; refine bG (fun _ B => fA rfl rfl (by omega) (by omega)) ?_; refine qlg ?_; refine bG (fun _ B => dM rfl rfl) ?_; refine bG (fun _ B => eP rfl rfl) ?_; refine eN (fun c3 B => aC ?_); refine aZ rfl (fun W => ?_) (fun W => ?_)
    ·refine aM ?_; refine fR (fun w0 w' => Evo so.toList w0 w') (by kernel_rfl) (fun D F => ?_); have Y := (U.evo0 B).evo0 F; refine aet 0 rfl (fun _ hS => bC rfl) (Evo.refl so.toList D) ?_; refine aet 1 rfl (fun _ hS => bC rfl) (Evo.refl so.toList D) ?_; refine aet 2 rfl (fun _ hS => dX rfl rfl (by omega) (by omega)) (Evo.refl so.toList D) ?_; refine aet 3 rfl (fun _ hS => bC rfl) (Evo.refl so.toList D) ?_; refine aet 4 rfl (fun _ hS => bC rfl) (Evo.refl so.toList D) ?_; refine aet 5 rfl (fun _ hS => dX rfl rfl (by omega) (by omega)) (Evo.refl so.toList D) ?_; refine aet 6 rfl (fun _ hS => bZ (n := o'.length) rfl rfl haq (by omega) cK (by omega)) (Evo.refl so.toList D) ?_; refine aet 7 rfl (fun _ hS => aD rfl dF) (Evo.refl so.toList D) ?_; refine aet 9 rfl (fun _ hS => aD rfl dF) (Evo.refl so.toList D) ?_; refine aet 10 rfl (fun _ hS => aX rfl cD (bI (hS.blk (F.blk0 (B.blk0 E)) (a6.symm.nmem)) rfl)) (Evo.refl so.toList D) ?_; refine cA [8] (by kernel_rfl) rfl ⟨?_, trivial⟩; refine cG rfl ?_
     refine aB (aX rfl cD ((((a7.then B).then F)).cell (hcq 1 _ rfl) (by simp))) ?_; refine aR (bV (.inl (Evo.refl so.toList D)) ?_); refine cA [11] (by kernel_rfl) rfl ⟨?_, trivial⟩; refine cG rfl ?_; refine aB (lL rfl rfl) ?_; refine aR (bV (.inl (Evo.refl so.toList D)) ?_); refine aet 12 rfl (fun _ hS => bZ (n := o'.length) rfl rfl haq (by omega) cK (by omega)) (Evo.refl so.toList D) ?_; refine aet 13 rfl (fun _ hS => aD rfl dF) (Evo.refl so.toList D) ?_; refine cA [14] (by kernel_rfl) rfl ⟨?_, trivial⟩; refine cG rfl ?_
     obtain ⟨g54, cur45, hg46, hx47, hcu48, hcs49, -⟩ := Y.at (by omega)
     rw [haq] at hx47; cases hx47
     refine qX rfl rfl (rfl) gP hcu48 (Y.inb hcs49 (k := o'.length) (j := 1) (by omega) (by omega) (by omega)) fun d7 c4 G => ?_; replace G := oC hg46 G; refine aR (bV (.inl ((Evo.refl so.toList D).step G (fun y hy => .inl hy))) ?_); refine dB (by kernel_rfl) (aC ?_); refine cW (bS (cV (aC ?_))); refine aF ?_; refine aB (aI rfl rfl (by omega) (by omega)) ?_; refine aA (aR (aY ?_)); refine ⟨⟨k + 1, n, o' ++ [(q.1, max q.2 m[k].2)], sa, sc, so⟩, ?_, ⟨rfl, rfl, trivial⟩, ⟨rfl, rfl, rfl, trivial⟩, (((O.then B).then F).step G hge.mem), ?_⟩
     · (try dsimp only); omega
     try dsimp only
     have b7 := (Y.set' hg46 hcu48 c4); rw [zQ _ _ _ _ rfl, gM] at b7; exact ⟨UV hp hk' hvm W, (((V.evo0 B).evo0 F).evo G hap.own), b7, hge, hgc, hap⟩
    refine aN (aC (aF (aA (aB (bX rfl gK eH (B.blk0 E) rfl) (bL (vs := [_]) rfl dE rfl rfl rfl rfl fun d8 d9 c5 d1 Z => ?_))))); have a8 := (O.then B).then Z; have a9 := (V.evo0 B).evo0 Z
    refine cM rfl rfl rfl rfl cX ((U.evo0 B).evo0 Z) (Src.ofOwn c5 ⟨rfl, rfl, trivial⟩) (by have := hp.len; omega) fun a2 c2 e0 ob2 b4 b5 hob81 => ?_
    refine bN (aR (aQ (aC (aF ?_)))); refine aB (aI rfl rfl (by omega) (by omega)) ?_; refine aA (aR (aY ?_)); refine ⟨⟨k + 1, n + 1, (o' ++ [q]) ++ [m[k]], a2, c2, ob2⟩, ?_, ⟨rfl, rfl, trivial⟩, ⟨rfl, rfl, rfl, trivial⟩, (a8.step b5 hge.mem), ?_⟩
    · (try dsimp only); omega
    try dsimp only
    refine ⟨LQ hp hk' hvm hsm (.inr ⟨o', q, rfl, W⟩), (a9.evo b5 hap.own), ?_, (hge.app a8 hob81), hgc, (hap.app (Lt.own a9) hob81)⟩
    rw [dH]; exact b4
   refine qln ?_; refine qln ?_; refine qln ?_; refine qln ?_; refine qln ?_; refine qln ?_; refine qln ?_; refine qln ?_; refine qln ?_; refine qln ?_; refine bG (fun _ B => eZ rfl rfl) ?_; refine eN (fun c3 B => aC ?_); refine cF rfl ?_; refine aN (aC (aF (aA (aB (bX rfl gK eH (B.blk0 E) rfl) (bL (vs := [_]) rfl dE rfl rfl rfl rfl fun e1 e2 c6 d2 L => ?_))))); have a0 := (O.then B).then L; have a3 := (V.evo0 B).evo0 L
   refine cM rfl rfl rfl rfl cX ((U.evo0 B).evo0 L) (Src.ofOwn c6 ⟨rfl, rfl, trivial⟩) (by have := hp.len; omega) fun a2 c2 d3 ob2 b4 a4 hob117 => ?_
   refine bN (aR (aQ (aC (aF ?_)))); refine aB (aI rfl rfl (by omega) (by omega)) ?_; refine aA (aR (aY ?_)); refine ⟨⟨k + 1, n + 1, o ++ [m[k]], a2, c2, ob2⟩, ?_, ⟨rfl, rfl, trivial⟩, ⟨rfl, rfl, rfl, trivial⟩, (a0.step a4 hge.mem), ?_⟩
   · (try dsimp only); omega
   try dsimp only
   refine ⟨LQ hp hk' hvm hsm (.inl (List.length_eq_zero_iff.1 (by omega))), (a3.evo a4 hap.own), ?_, (hge.app a0 hob117), hgc, (hap.app (Lt.own a3) hob117)⟩
   rw [dH]; exact b4
  refine cW (bS (bS (cV (aC ?_)))); refine csr (aA (wan (aK (br1 ?_)))); have e := UW hp (by omega) hpm hS; subst e; subst hon; exact ⟨sa, sc, so, rfl, hown, hge, by omega, hp.can, fun c => by rw [hp.eq, List.take_of_length_le (by omega), AK hpm, hS], a5⟩
theorem rM : dW Tryz.prog 136 := ⟨_, Tryz.func136, by kernel_rfl, by kernel_rfl⟩
structure NgG where
  k : Nat
  n : Nat
  o : List (Int × Int)
  nx : Int
  sa : Option Addr
  sc : Nat
  so : Option Nat
structure NgI (w wr : World) (m : List (Int × Int)) (a1 : Option Addr) (c1 : Nat) (ob1 : Option Nat) (x : NgG) : Prop where
  hk : x.k ≤ m.length
  eq : x.o ++ lV x.nx (m.drop x.k) = lV 0 m
  b0 : 0 ≤ x.nx
  b1 : x.nx ≤ 1114112
  len : x.n ≤ x.k
  cl : OwnS wr 56 2 a1 m.length c1 (cS m) ob1
  own : OwnS wr 56 2 x.sa x.n x.sc (cS x.o) x.so
  ge : Ge w x.so
  gc : Ge w ob1
  ap : Apart ob1 x.so
theorem CQ (b : Int) {m : List (Int × Int)} {k : Nat} (h : k < m.length) : lV b (m.drop k) = (if b < m[k].1 then [(b, m[k].1 - 1)] else []) ++ lV (m[k].2 + 1) (m.drop (k + 1)) := by
  rw [List.drop_eq_getElem_cons h, lV]
theorem OV {m : List (Int × Int)} (h : uF m) : ∀ {k : Nat} (hk : k < m.length), 0 ≤ m[k].1 ∧ m[k].1 ≤ m[k].2 ∧ m[k].2 ≤ 1114111 := by
  have key : ∀ {m : List (Int × Int)} {b : Int}, 0 ≤ b → jK b m → ∀ {k : Nat} (hk : k < m.length), 0 ≤ m[k].1 ∧ m[k].1 ≤ m[k].2 ∧ m[k].2 ≤ 1114111 := by
    intro m
    induction m with
    | nil => intro b _ _ k hk; cases hk
    | cons g m ih =>
      intro b hb hc k hk
      rw [jK] at hc
      cases k with
      | zero => exact ⟨by show 0 ≤ g.1; omega, hc.2.1, hc.2.2.1⟩
      | succ k => exact ih (b := g.2 + 2) (by omega) hc.2.2.2 (by simpa using hk)
  intro k hk
  exact key (Int.le_refl _) h hk
theorem oD {m : List (Int × Int)} (h : uF m) : Vr m := fun g hg => by
  obtain ⟨k, hk, rfl⟩ := List.getElem_of_mem hg
  exact OV h hk
theorem qO {m : List (Int × Int)} {S : Int → Prop} (h : uF m) (hS : ∀ c, InR c m ↔ S c) : uF (lV 0 m) ∧ (∀ c, InR c (lV 0 m) ↔ lO S c) ∧ lV 0 m = iA (lO S) := by
  obtain ⟨h1, h2⟩ := EY (b := 0) (d := 0) (Int.le_refl _) (Int.le_refl _) h
  have h3 : ∀ c, InR c (lV 0 m) ↔ lO S c := fun c => by rw [h2, hS]; exact Iff.rfl
  exact ⟨h1, h3, (nT h1 h3).symm⟩
theorem nF {w : World} {a : Option Addr} {c : Nat} {l : List (Int × Int)} {ob : Option Nat} (hO : OwnS w 56 2 a l.length c (cS l) ob) (hv : Vr l) (hl : l.length ≤ 1000000) {S : Int → Prop} (hS : ∀ c, InR c l ↔ S c) :
    Calls Tryz.prog 131 #[.slice a l.length c] w (Ret fun v w' => RsOut w w' v (lO S) (l.length + 1)) := by
  refine bE (N := 38) Tryz.func131 rfl rfl rfl ?_; refine csr (wan (csr (wan (csr (wan (aM (csr ?_))))))); refine aA (aG (vs := [_]) rM rfl (wP hO hv hl hS) rfl ?_); rintro _ w1 ⟨a1, c1, ob1, rfl, a8, hg1, hml, hcan, heqS, a9⟩
  generalize hm : iA S = m at *
  refine aB (bM rfl Tryz.underlying24 rfl) ?_; refine aA (wnn (bK ?_))
  refine dL (α := NgG) (⟨0, 0, [], 0, none, 0, none⟩) (fun x => [(3, .slice x.sa x.n x.sc), (10, .int .i64 (x.k : Nat)), (4, .int .i32 x.nx)]) [(2, _), (8, _), (9, _)] (fun x wr => Evo [] w wr ∧ (NgI w wr m a1 c1 ob1 x)) (fun x => m.length - x.k) ⟨rfl, rfl, rfl, trivial⟩ ⟨rfl, rfl, rfl, trivial⟩ ⟨((Evo.refl [] w).then a9), ⟨Nat.zero_le _, rfl, Int.le_refl _, (by show (0 : Int) ≤ 1114112; omega), Nat.le_refl _, a8, OwnS.nil _ _ _, Ge.nil _, hg1, Apart.nil _⟩⟩ ?_
  rintro ⟨k, n, o, nx, sa, sc, so⟩ wr5 ⟨G, ⟨hk, heq, hb0, hb1, hlen, hcl, hown, hge, hgc, hap⟩⟩; show CW _ _ _ _ [(3, .slice sa n sc), (10, .int .i64 (k : Nat)), (4, .int .i32 nx), (2, _), (8, _), (9, _)] _
  try dsimp only at hk heq hb0 hb1 hlen hcl hown hge hgc hap
  refine csr (aB (dA rfl rfl) ?_); refine wnn (aM (aZ rfl (fun Z => ?_) (fun Z => ?_)))
  ·have hk' : k < m.length := by omega
   have hmk := OV hcan hk'; obtain ⟨g1, hg1', ha1, b4⟩ := iL hcl hk'; have hgc0 := CQ nx hk'; refine aN (aC (aM (bK (csr ?_)))); refine aB (eC (n := k) rfl rfl ha1 cK (by omega)) ?_; refine aB (eB rfl gK eH (vs := [_, _]) rfl (b4.evo (Evo.refl ([]) wr5) (by simp))) ?_; refine cO rfl nX fun b8 w9 a0 H I => ?_; have V := Apart.new (Lt.own hown) H; refine aV rfl rfl eH a0 rfl rfl ⟨rfl, rfl, trivial⟩ fun b7 E J => ?_; have L := (G.then I).step J (Ge.new G H).mem1; have W := (hown.evo0 I).evo J V.own1; have M := (hcl.evo0 I).evo J (Apart.new (Lt.own hcl) H).own1
   try simp only [cH, Nat.reduceAdd] at E
   refine wnn (aM (csr (wfl rfl dP rfl cD E rfl (aA (aB (eW rfl rfl) ?_))))); refine wnn (aZ rfl (fun a3 => ?_) (fun a3 => ?_))
   ·refine aF (aA (aA (wfl rfl dP rfl cD E rfl ?_))); refine aB (dY rfl rfl (by omega) (by omega)) ?_; refine aB (cI (vs := [(0, _), (1, _)]) eE rfl (cells := [_, _]) rfl) ?_; refine bL (vs := [_]) rfl dE rfl rfl rfl rfl fun b9 c0 a4 b5 D => ?_; refine cM rfl rfl rfl rfl cX (W.evo0 D) (Src.ofOwn a4 ⟨rfl, rfl, trivial⟩) (by omega) fun a2 c2 c3 ob2 Y O hob49 => ?_; refine wan (aF (wfl rfl dF rfl cD (O.blk (D.blk0 E) V.symm.nmem) rfl ?_)); refine aB (fA rfl rfl (by omega) (by omega)) ?_; refine bN (aR (aQ (aC (aF ?_)))); refine aB (aI rfl rfl (by omega) (by omega)) ?_; refine aA (aR (aY ?_)); refine ⟨⟨k + 1, n + 1, o ++ [(nx, m[k].1 - 1)], m[k].2 + 1, a2, c2, ob2⟩, ?_, ⟨rfl, rfl, rfl, trivial⟩, ⟨rfl, rfl, rfl, trivial⟩, ((L.then D).step O hge.mem), ?_⟩
    · (try dsimp only); omega
    try dsimp only
    refine ⟨hk', ?_, (by show 0 ≤ m[k].2 + 1; omega), (by show m[k].2 + 1 ≤ 1114112; omega), (by show n + 1 ≤ k + 1; omega), ((M.evo0 D).evo O hap.own), ?_, (hge.app (L.then D) hob49), hgc, (hap.app (Lt.own (M.evo0 D)) hob49)⟩
    · rw [← heq, hgc0, if_pos (by omega), List.append_assoc]
    · rw [mD]; exact Y
   refine aN (aC (aF (wfl rfl dF rfl cD E rfl ?_))); refine aB (fA rfl rfl (by omega) (by omega)) ?_; refine bN (aR (aQ (aC (aF ?_)))); refine aB (aI rfl rfl (by omega) (by omega)) ?_; refine aA (aR (aY ?_)); refine ⟨⟨k + 1, n, o, m[k].2 + 1, sa, sc, so⟩, ?_, ⟨rfl, rfl, rfl, trivial⟩, ⟨rfl, rfl, rfl, trivial⟩, L, ?_⟩
   · (try dsimp only); omega
   try dsimp only
   refine ⟨hk', ?_, (by show 0 ≤ m[k].2 + 1; omega), (by show m[k].2 + 1 ≤ 1114112; omega), (by show n ≤ k + 1; omega), M, W, hge, hgc, hap⟩
   rw [← heq, hgc0, if_neg (by omega), List.nil_append]
  refine cW (bS (bS (cV (aC ?_)))); refine aM (csr (aA (aB (dM rfl rfl) ?_))); refine wnn (aZ rfl (fun a5 => ?_) (fun a5 => ?_))
  ·refine aF (aA (aA (aB (cI (vs := [(0, _), (1, _)]) eE rfl (cells := [_, _]) rfl) ?_))); refine bL (vs := [_]) rfl dE rfl rfl rfl rfl fun c4 c5 a6 b6 U => ?_; refine cM rfl rfl rfl rfl cX (hown.evo0 U) (Src.ofOwn a6 ⟨rfl, rfl, trivial⟩) (by omega) fun a2 c2 c6 ob2 Y a7 hob78 => ?_; refine wan (csr (aA (wan (aK (br1 ?_))))); obtain ⟨h1, h2, h3⟩ := qO hcan heqS; rw [List.drop_eq_nil_of_le (by omega), lV, if_pos (by omega)] at heq; have B : OwnS _ _ 2 _ _ _ (cS o ++ cS [(nx, 1114111)]) _ := Y; rw [← dH, heq] at B; have F := lK B; rw [h3] at B F h1 h2
   exact ⟨a2, c2, ob2, by rw [F], by rw [← F]; exact B, (hge.app (G.then U) hob78), by omega, h1, h2, ((G.then U).step a7 hge.mem)⟩
  refine aN (aC (csr (aA (wan (aK (br1 ?_)))))); obtain ⟨h1, h2, h3⟩ := qO hcan heqS; rw [List.drop_eq_nil_of_le (by omega), lV, if_neg (by omega), List.append_nil] at heq; have B := hown; rw [heq] at B; have F := lK B; rw [h3] at B F h1 h2
  exact ⟨sa, sc, so, by rw [F], by rw [← F]; exact B, hge, by omega, h1, h2, G⟩
mutual
def OT : Rx → World → List Value → List Nat → Prop
  | .mk k r rs mn mx lz cp nm ks, w, vs, bs => ∃ (ra : Option Addr) (rc : Nat) (rb : Option Nat) (ka : Option Addr) (kc : Nat) (kb : Option Nat) (cs : List Value) (bk : List Nat),
    vs = [iv k, .int .i32 r, .slice ra rs.length rc, iv mn, iv mx, .bool lz, iv cp, .string nm, .slice ka ks.length kc] ∧ OwnS w 56 2 ra rs.length rc (cS rs) rb ∧ OwnS w 27 9 ka ks.length kc cs kb ∧ OTs ks w cs bk ∧
    bs = rb.toList ++ (kb.toList ++ bk) ∧ rs.length ≤ 1000000 ∧ nm.size ≤ 1000000 ∧ ks.length ≤ 1000000
def OTs : List Rx → World → List Value → List Nat → Prop
  | [], _, cs, bs => cs = [] ∧ bs = []
  | x :: l, w, cs, bs => ∃ (vs cs' : List Value) (b1 b2 : List Nat), cs = vs ++ cs' ∧ bs = b1 ++ b2 ∧ OT x w vs b1 ∧ OTs l w cs' b2
end
theorem EK {w : World} {e : TypeId} {sz : Nat} {a : Option Addr} {n c : Nat} {xs : List Value} {ob : Option Nat} (h : OwnS w e sz a n c xs ob) : ∀ b, b ∈ ob.toList → b < w.heap.size := fun b hb => by
  cases ob with
  | none => cases hb
  | some g => rw [List.mem_singleton.1 hb]; exact h.lt
mutual
theorem OT.evo : ∀ {x : Rx} {w w' : World} {vs : List Value} {bs X : List Nat}, OT x w vs bs → Evo X w w' → (∀ b, b ∈ bs → b ∉ X) → OT x w' vs bs
  | .mk k r rs mn mx lz cp nm ks, w, w', vs, bs, X, h, he, hx => by
    rw [OT] at h ⊢
    obtain ⟨ra, rc, rb, ka, kc, kb, cs, bk, h1, h2, h3, h4, rfl, h5⟩ := h
    exact ⟨ra, rc, rb, ka, kc, kb, cs, bk, h1, h2.evo he (fun g hg => hx g (by simp [hg])), h3.evo he (fun g hg => hx g (by simp [hg])), OTs.evo h4 he (fun b hb => hx b (by simp [hb])), rfl, h5⟩
theorem OTs.evo : ∀ {l : List Rx} {w w' : World} {cs : List Value} {bs X : List Nat}, OTs l w cs bs → Evo X w w' → (∀ b, b ∈ bs → b ∉ X) → OTs l w' cs bs
  | [], w, w', cs, bs, X, h, he, hx => by rw [OTs] at h ⊢; exact h
  | x :: l, w, w', cs, bs, X, h, he, hx => by
    rw [OTs] at h ⊢
    obtain ⟨vs, cs', b1, b2, h1, rfl, h3, h4⟩ := h
    exact ⟨vs, cs', b1, b2, h1, rfl, OT.evo h3 he (fun b hb => hx b (by simp [hb])), OTs.evo h4 he (fun b hb => hx b (by simp [hb]))⟩
end
mutual
theorem OT.lt : ∀ {x : Rx} {w : World} {vs : List Value} {bs : List Nat}, OT x w vs bs → ∀ b, b ∈ bs → b < w.heap.size
  | .mk k r rs mn mx lz cp nm ks, w, vs, bs, h => by
    rw [OT] at h
    obtain ⟨ra, rc, rb, ka, kc, kb, cs, bk, h1, h2, h3, h4, rfl, h5⟩ := h
    intro b hb
    rcases List.mem_append.1 hb with hb | hb
    · exact EK h2 b hb
    · rcases List.mem_append.1 hb with hb | hb
      · exact EK h3 b hb
      · exact OTs.lt h4 b hb
theorem OTs.lt : ∀ {l : List Rx} {w : World} {cs : List Value} {bs : List Nat}, OTs l w cs bs → ∀ b, b ∈ bs → b < w.heap.size
  | [], w, cs, bs, h => by rw [OTs] at h; rw [h.2]; exact fun b hb => by cases hb
  | x :: l, w, cs, bs, h => by
    rw [OTs] at h
    obtain ⟨vs, cs', b1, b2, h1, rfl, h3, h4⟩ := h
    intro b hb
    rcases List.mem_append.1 hb with hb | hb
    · exact OT.lt h3 b hb
    · exact OTs.lt h4 b hb
end
theorem OT.nine {x : Rx} {w : World} {vs : List Value} {bs : List Nat} (h : OT x w vs bs) : ∃ ra rc ka kc, vs = [iv x.kind, .int .i32 x.r, .slice ra x.ranges.length rc, iv x.min, iv x.max, .bool x.lazy, iv x.cap, .string x.name, .slice ka x.kids.length kc] := by
  cases x with
  | mk k r rs mn mx lz cp nm ks =>
    rw [OT] at h
    obtain ⟨ra, rc, rb, ka, kc, kb, cs, bk, h1, _⟩ := h
    exact ⟨ra, rc, ka, kc, h1⟩
theorem OT.len {x : Rx} {w : World} {vs : List Value} {bs : List Nat} (h : OT x w vs bs) : vs.length = 9 := by
  obtain ⟨ra, rc, ka, kc, rfl⟩ := h.nine; rfl
theorem OT.one {x : Rx} {w : World} {vs : List Value} {bs : List Nat} (h : OT x w vs bs) : AllOne vs := by
  obtain ⟨ra, rc, ka, kc, rfl⟩ := h.nine; exact ⟨rfl, rfl, rfl, rfl, rfl, rfl, rfl, rfl, rfl, trivial⟩
theorem BE : ∀ {l m : List Value}, AllOne l → AllOne m → AllOne (l ++ m)
  | [], m, _, h => h
  | v :: l, m, h, h2 => ⟨h.1, BE h.2 h2⟩
theorem OTs.len : ∀ {l : List Rx} {w : World} {cs : List Value} {bs : List Nat}, OTs l w cs bs → cs.length = l.length * 9
  | [], w, cs, bs, h => by rw [OTs] at h; rw [h.1]; rfl
  | x :: l, w, cs, bs, h => by
    rw [OTs] at h
    obtain ⟨vs, cs', b1, b2, rfl, rfl, h3, h4⟩ := h
    rw [List.length_append, h3.len, OTs.len h4, List.length_cons]; omega
theorem OTs.one : ∀ {l : List Rx} {w : World} {cs : List Value} {bs : List Nat}, OTs l w cs bs → AllOne cs
  | [], w, cs, bs, h => by rw [OTs] at h; rw [h.1]; trivial
  | x :: l, w, cs, bs, h => by
    rw [OTs] at h
    obtain ⟨vs, cs', b1, b2, rfl, rfl, h3, h4⟩ := h
    exact BE h3.one (OTs.one h4)
theorem OTs.nil (w : World) : OTs [] w [] [] := by rw [OTs]; exact ⟨rfl, rfl⟩
theorem OTs.single {x : Rx} {w : World} {vs : List Value} {bs : List Nat} (h : OT x w vs bs) : OTs [x] w vs bs := by
  rw [OTs]; exact ⟨vs, [], bs, [], by simp, by simp, h, OTs.nil w⟩
theorem OTs.app : ∀ {l m : List Rx} {w : World} {cs cs' : List Value} {bs bs' : List Nat}, OTs l w cs bs → OTs m w cs' bs' → OTs (l ++ m) w (cs ++ cs') (bs ++ bs')
  | [], m, w, cs, cs', bs, bs', h, h2 => by rw [OTs] at h; rw [h.1, h.2]; exact h2
  | x :: l, m, w, cs, cs', bs, bs', h, h2 => by
    rw [OTs] at h
    obtain ⟨vs, ct, b1, b2, rfl, rfl, h3, h4⟩ := h
    show OTs (x :: (l ++ m)) w _ _
    rw [OTs]
    exact ⟨vs, ct ++ cs', b1, b2 ++ bs', List.append_assoc .., List.append_assoc .., h3, OTs.app h4 h2⟩
theorem OTs.parts : ∀ {l m : List Rx} {w : World} {cs : List Value} {bs : List Nat}, OTs (l ++ m) w cs bs → ∃ c1 c2 b1 b2, cs = c1 ++ c2 ∧ bs = b1 ++ b2 ∧ OTs l w c1 b1 ∧ OTs m w c2 b2
  | [], m, w, cs, bs, h => ⟨[], cs, [], bs, rfl, rfl, OTs.nil w, h⟩
  | x :: l, m, w, cs, bs, h => by
    have h' : OTs (x :: (l ++ m)) w cs bs := h
    rw [OTs] at h'
    obtain ⟨vs, ct, b1, b2, rfl, rfl, h3, h4⟩ := h'
    obtain ⟨c1, c2, d1, d2, rfl, rfl, h5, h6⟩ := OTs.parts h4
    exact ⟨vs ++ c1, c2, b1 ++ d1, d2, (List.append_assoc ..).symm, (List.append_assoc ..).symm, by rw [OTs]; exact ⟨vs, c1, b1, d1, rfl, rfl, h3, h5⟩, h6⟩
theorem OTs.one' {x : Rx} {w : World} {cs : List Value} {bs : List Nat} (h : OTs [x] w cs bs) : OT x w cs bs := by
  rw [OTs] at h
  obtain ⟨vs, ct, b1, b2, rfl, rfl, h3, h4⟩ := h
  rw [OTs] at h4
  rw [h4.1, h4.2, List.append_nil, List.append_nil]; exact h3
structure Fr (w : World) (bs : List Nat) : Prop where
  nd : bs.Nodup
  ge : ∀ b, b ∈ bs → w.heap.size ≤ b
theorem Fr.nil (w : World) : Fr w [] := ⟨List.nodup_nil, fun b h => by cases h⟩
theorem Fr.app {w w1 : World} {b1 b2 : List Nat} (h1 : Fr w b1) (h2 : Fr w1 b2) (hw : w.heap.size ≤ w1.heap.size) (hl : ∀ b, b ∈ b1 → b < w1.heap.size) : Fr w (b1 ++ b2) where
  nd := List.nodup_append.2 ⟨h1.nd, h2.nd, fun a ha b hb e => by have := hl a ha; have := h2.ge b hb; omega⟩
  ge := fun b hb => by
    rcases List.mem_append.1 hb with hb | hb
    · exact h1.ge b hb
    · have := h2.ge b hb; omega
theorem Fr.older {w w1 : World} {bs : List Nat} (h : Fr w1 bs) (hw : w.heap.size ≤ w1.heap.size) : Fr w bs := ⟨h.nd, fun b hb => Nat.le_trans hw (h.ge b hb)⟩
def TOut (w w' : World) (v : Value) (x : Rx) : Prop := ∃ vs bs, v = .agg vs.toArray ∧ OT x w' vs bs ∧ Fr w bs
theorem VV {w : World} {ob : Option Nat} (h : Ge w ob) : Fr w ob.toList := by
  cases ob with
  | none => exact Fr.nil w
  | some g => exact ⟨List.nodup_cons.2 ⟨by simp, List.nodup_nil⟩, fun b hb => by rw [List.mem_singleton.1 hb]; exact h g rfl⟩
theorem rE (k : Int) (w : World) : OT (rxK k) w [iv k, .int .i32 0, .slice none 0 0, iv 0, iv 0, .bool false, iv 0, .string ByteArray.empty, .slice none 0 0] [] := by
  unfold rxK
  rw [OT]
  exact ⟨none, 0, none, none, 0, none, [], [], rfl, OwnS.nil _ _ _, OwnS.nil _ _ _, OTs.nil w, rfl, by simp, by show (0 : Nat) ≤ 1000000; omega, by simp⟩
theorem EL (c : Int) (w : World) : OT (nA c) w [iv 2, .int .i32 c, .slice none 0 0, iv 0, iv 0, .bool false, iv 0, .string ByteArray.empty, .slice none 0 0] [] := by
  unfold nA
  rw [OT]
  exact ⟨none, 0, none, none, 0, none, [], [], rfl, OwnS.nil _ _ _, OwnS.nil _ _ _, OTs.nil w, rfl, by simp, by show (0 : Nat) ≤ 1000000; omega, by simp⟩
theorem AA {l : List (Int × Int)} {w : World} {a : Option Addr} {n c : Nat} {ob : Option Nat} (h : OwnS w 56 2 a n c (cS l) ob) (hl : l.length ≤ 1000000) : OT (kS l) w [iv 3, .int .i32 0, .slice a n c, iv 0, iv 0, .bool false, iv 0, .string ByteArray.empty, .slice none 0 0] ob.toList := by
  obtain rfl := lK h
  unfold kS
  rw [OT]
  exact ⟨a, c, ob, none, 0, none, [], [], rfl, h, OwnS.nil _ _ _, OTs.nil w, by simp, hl, by show (0 : Nat) ≤ 1000000; omega, by simp⟩
theorem KL : nU Tryz.prog 170 = some true := by kernel_rfl
theorem oO : iJ Tryz.prog 170 = some 2 := by kernel_rfl
theorem rK : pF Tryz.prog 170 = some #[.int .i32 0, .int .i32 0] := by kernel_rfl
theorem FO : pF Tryz.prog 171 = some #[.int .i32 0, .int .i32 0, .int .i32 0, .int .i32 0] := by kernel_rfl
def qQ (j : Nat) : Int × Int := if j = 0 then (65, 32) else (97, -32)
theorem VP (j : Nat) : (qQ j).1 = 65 ∧ (qQ j).2 = 32 ∨ (qQ j).1 = 97 ∧ (qQ j).2 = -32 := by
  unfold qQ
  split
  · exact .inl ⟨rfl, rfl⟩
  · exact .inr ⟨rfl, rfl⟩
def fH (h x : Int × Int) : List (Int × Int) := if max x.1 h.1 ≤ min x.2 (h.1 + 25) then [(max x.1 h.1 + h.2, min x.2 (h.1 + 25) + h.2)] else []
def oI (x : Int × Int) : Nat → List (Int × Int)
  | 0 => []
  | j + 1 => oI x j ++ fH (qQ j) x
def pY (l : List (Int × Int)) : List (Int × Int) := l.flatMap fun x => oI x 2
theorem IM {h x : Int × Int} {c : Int} : InR c (fH h x) ↔ (h.1 + h.2 ≤ c ∧ c ≤ h.1 + 25 + h.2 ∧ x.1 ≤ c - h.2 ∧ c - h.2 ≤ x.2) := by
  unfold fH
  split
  · rw [lB]; show max x.1 h.1 + h.2 ≤ c ∧ c ≤ min x.2 (h.1 + 25) + h.2 ↔ _; omega
  · refine ⟨fun h => (kU c h).elim, fun h => ?_⟩
    omega
theorem AO {x : Int × Int} {c : Int} : InR c (oI x 2) ↔ (97 ≤ c ∧ c ≤ 122 ∧ x.1 ≤ c - 32 ∧ c - 32 ≤ x.2) ∨ (65 ≤ c ∧ c ≤ 90 ∧ x.1 ≤ c + 32 ∧ c + 32 ≤ x.2) := by
  show InR c ((([] : List (Int × Int)) ++ fH (65, 32) x) ++ fH (97, -32) x) ↔ _
  rw [List.nil_append, mR, IM, IM]
  show (65 + 32 ≤ c ∧ c ≤ 65 + 25 + 32 ∧ x.1 ≤ c - 32 ∧ c - 32 ≤ x.2) ∨ (97 + -32 ≤ c ∧ c ≤ 97 + 25 + -32 ∧ x.1 ≤ c - -32 ∧ c - -32 ≤ x.2) ↔ _
  omega
theorem foldL_in {l : List (Int × Int)} {c : Int} : InR c (l ++ pY l) ↔ oH (fun c => InR c l) c := by
  rw [mR]
  unfold oH pY
  constructor
  · rintro (h | ⟨g, hg, h⟩)
    · exact .inl h
    · obtain ⟨x, hx, hgx⟩ := List.mem_flatMap.1 hg
      have h2 := AO.1 ⟨g, hgx, h⟩
      rcases h2 with h2 | h2
      · exact .inr (.inl ⟨h2.1, h2.2.1, x, hx, h2.2.2⟩)
      · exact .inr (.inr ⟨h2.1, h2.2.1, x, hx, h2.2.2⟩)
  · rintro (h | ⟨h1, h2, x, hx, h3⟩ | ⟨h1, h2, x, hx, h3⟩)
    · exact .inl h
    · obtain ⟨g, hg, h4⟩ := AO.2 (.inl ⟨h1, h2, h3⟩)
      exact .inr ⟨g, List.mem_flatMap.2 ⟨x, hx, hg⟩, h4⟩
    · obtain ⟨g, hg, h4⟩ := AO.2 (.inr ⟨h1, h2, h3⟩)
      exact .inr ⟨g, List.mem_flatMap.2 ⟨x, hx, hg⟩, h4⟩
theorem IL {j : Nat} {x : Int × Int} : Vr (fH (qQ j) x) := fun g hg => by
  have hc := VP j
  unfold fH at hg
  split at hg
  · rw [List.mem_singleton.1 hg]
    show 0 ≤ max x.1 (qQ j).1 + (qQ j).2 ∧ max x.1 (qQ j).1 + (qQ j).2 ≤ min x.2 ((qQ j).1 + 25) + (qQ j).2 ∧ _ ≤ (1114111 : Int)
    omega
  · cases hg
theorem AP {l : List (Int × Int)} : Vr (pY l) := fun g hg => by
  obtain ⟨x, hx, hgx⟩ := List.mem_flatMap.1 hg
  have hgx' : g ∈ (([] : List (Int × Int)) ++ fH (qQ 0) x) ++ fH (qQ 1) x := hgx
  rw [List.nil_append] at hgx'
  rcases List.mem_append.1 hgx' with h | h
  · exact IL g h
  · exact IL g h
theorem LX {l : List (Int × Int)} {k : Nat} (h : k < l.length) : pY (l.take (k + 1)) = pY (l.take k) ++ oI l[k] 2 := by
  unfold pY
  rw [List.take_add_one, List.getElem?_eq_getElem h, List.flatMap_append]; simp
theorem QS (h x : Int × Int) : (fH h x).length ≤ 1 := by unfold fH; split <;> simp
theorem wT (x : Int × Int) : ∀ j, (oI x j).length ≤ j
  | 0 => Nat.le_refl _
  | j + 1 => by rw [oI, List.length_append]; have := wT x j; have := QS (qQ j) x; omega
structure FoG where
  k : Nat
  n : Nat
  sa : Option Addr
  sc : Nat
  so : Option Nat
structure FoI (w wr : World) (l o : List (Int × Int)) (a : Option Addr) (c : Nat) (ob : Option Nat) (x : FoG) (m : Nat) : Prop where
  hk : x.k ≤ m
  cl : OwnS wr 56 2 a l.length c (cS l) ob
  own : OwnS wr 56 2 x.sa x.n x.sc (cS o) x.so
  ge : Ge w x.so
  ap : Apart ob x.so
structure FiG where
  j : Nat
  n2 : Nat
  sa2 : Option Addr
  sc2 : Nat
  so2 : Option Nat
structure FiI (w wr : World) (l o : List (Int × Int)) (a : Option Addr) (c : Nat) (ob : Option Nat) (q : Nat) (g : Int × Int) (x : FiG) : Prop where
  hj : x.j ≤ 2
  cl : OwnS wr 56 2 a l.length c (cS l) ob
  own : OwnS wr 56 2 x.sa2 x.n2 x.sc2 (cS o) x.so2
  ge : Ge w x.so2
  ap : Apart ob x.so2
  b5 : wr.heap[q]? = some (.cells #[.int .i32 g.1, .int .i32 g.2] 56 (0, 0))
  s5 : Ge w (some q)
  ap5 : Apart (some q) x.so2
theorem gE {h x : Int × Int} (hc : max x.1 h.1 ≤ min x.2 (h.1 + 25)) : fH h x = [(max x.1 h.1 + h.2, min x.2 (h.1 + 25) + h.2)] := by unfold fH; rw [if_pos hc]
theorem iD {h x : Int × Int} (hc : ¬ max x.1 h.1 ≤ min x.2 (h.1 + 25)) : fH h x = [] := by unfold fH; rw [if_neg hc]
theorem gS {a b : Int} : (if b < a then b else a) = min a b := by omega
theorem zD {l m : List (Int × Int)} (h : Vr l) (h2 : Vr m) : Vr (l ++ m) := fun g hg => (List.mem_append.1 hg).elim (h g) (h2 g)
theorem wU : ∀ l : List (Int × Int), (pY l).length ≤ 2 * l.length
  | [] => Nat.le_refl _
  | x :: l => by
    have h1 : pY (x :: l) = oI x 2 ++ pY l := List.flatMap_cons
    rw [h1, List.length_append, List.length_cons]; have := wU l; have := wT x 2; omega
theorem RsOut.evo {w w' : World} {v : Value} {S : Int → Prop} {n : Nat} (h : RsOut w w' v S n) : Evo [] w w' := by obtain ⟨_, _, _, _, _, _, _, _, _, h⟩ := h; exact h
theorem xM {S T : Int → Prop} (h : ∀ c, S c ↔ T c) (c : Int) : oH S c ↔ oH T c := by unfold oH; rw [h, h, h]
theorem QB {j : Nat} (hj : j < 2) (w : World) : (part 170 #[.int .i32 65, .int .i32 32, .int .i32 97, .int .i32 (-32)] (j * 2)).run Tryz.prog w = .ok (.agg #[.int .i32 (qQ j).1, .int .i32 (qQ j).2]) w := by
  rw [PP w KL oO]
  match j, hj with
  | 0, _ => rfl
  | 1, _ => rfl
theorem CR {w : World} {a : Option Addr} {c : Nat} {l : List (Int × Int)} {ob : Option Nat} (hO : OwnS w 56 2 a l.length c (cS l) ob) (hv : Vr l) (hl : l.length ≤ 300000) {S : Int → Prop} (hS : ∀ c, InR c l ↔ S c) :
    Calls Tryz.prog 130 #[.slice a l.length c] w (Ret fun v w' => RsOut w w' v (oH S) (3 * l.length)) := by
  refine bE (N := 54) Tryz.func130 rfl rfl rfl ?_; refine csr (wan (csr (aA ?_))); refine aG (vs := [_]) vN rfl (CZ hO (by omega)) rfl ?_; rintro _ w1 ⟨a1, c1, ob1, rfl, d0, hg1, c0⟩; refine wan (aM (csr (aA (aB (bM rfl Tryz.underlying24 rfl) ?_)))); refine aA (wnn (bK ?_))
  refine dL (α := FoG) (⟨0, l.length, a1, c1, ob1⟩) (fun x => [(3, .slice x.sa x.n x.sc), (14, .int .i64 (x.k : Nat))]) [(2, _), (12, _), (13, _)] (fun x wr => Evo [] w wr ∧ (FoI w wr l (l ++ pY (l.take x.k)) a c ob x l.length ∧ x.n ≤ l.length + 2 * x.k)) (fun x => l.length - x.k) ⟨rfl, rfl, trivial⟩ ⟨rfl, rfl, rfl, trivial⟩ ⟨((Evo.refl [] w).then c0), ⟨⟨Nat.zero_le _, (hO.evo0 c0), by simp [pY]; exact d0, hg1, (Apart.fresh (Lt.own hO) hg1)⟩, Nat.le_refl _⟩⟩ ?_
  rintro ⟨k, n, sa, sc, so⟩ wr7 ⟨a3, ⟨⟨hk, hcl, hown, hge, hap⟩, hnl⟩⟩; show CW _ _ _ _ [(3, .slice sa n sc), (14, .int .i64 (k : Nat)), (2, _), (12, _), (13, _)] _
  try dsimp only at hk hcl hown hge hap hnl
  refine csr (aB (dA rfl rfl) ?_); refine wnn (aM (aZ rfl (fun c3 => ?_) (fun c3 => ?_)))
  ·have hk' : k < l.length := by omega
   have hlk := hv _ (List.getElem_mem hk'); obtain ⟨g1, hg1', ha1, d1⟩ := iL hcl hk'; refine aN (aC (aM (bK (csr ?_)))); refine aB (eC (n := k) rfl rfl ha1 cK (by omega)) ?_; refine aB (eB rfl gK eH (vs := [_, _]) rfl (d1.evo (Evo.refl ([]) wr7) (by simp))) ?_; refine cO rfl nX fun b5 d9 c4 L a4 => ?_; have d2 := L; have a8 := Apart.new (Lt.own hown) L; refine aV rfl rfl eH c4 rfl rfl ⟨rfl, rfl, trivial⟩ fun e0 b4 a5 => ?_
   try simp only [cH, Nat.reduceAdd] at b4
   refine wnn (csr ?_); refine aB (tD (vs := [(0, _), (1, _)]) Tryz.underlying170 rK gP rfl (cells := #[.int .i32 65, .int .i32 32]) (by kernel_rfl)) ?_; refine aB (tD (vs := [(0, _), (1, _)]) Tryz.underlying170 rK gP rfl (cells := #[.int .i32 97, .int .i32 (-32)]) (by kernel_rfl)) ?_; refine aB (tD (vs := [(0, _), (1, _)]) Tryz.underlying171 FO oO rfl (cells := #[.int .i32 65, .int .i32 32, .int .i32 97, .int .i32 (-32)]) (by kernel_rfl)) ?_; refine aA (wnn (bK ?_))
   refine dL (α := FiG) (⟨0, n, sa, sc, so⟩) (fun x => [(3, .slice x.sa2 x.n2 x.sc2), (21, .int .i64 (x.j : Nat))]) [(2, _), (5, _), (12, _), (13, _), (14, _), (20, _)] (fun x wr => Evo [] w wr ∧ (FiI w wr l (l ++ pY (l.take k) ++ oI l[k] x.j) a c ob b5 l[k] x ∧ x.n2 ≤ n + x.j)) (fun x => 2 - x.j) ⟨rfl, rfl, trivial⟩ ⟨rfl, rfl, rfl, rfl, rfl, rfl, trivial⟩ ⟨((a3.then a4).step a5 (Ge.new a3 L).mem1), ⟨⟨Nat.zero_le _, ((hcl.evo0 a4).evo a5 (Apart.new (Lt.own hcl) L).own1), by simp [oI]; exact ((hown.evo0 a4).evo a5 a8.own1), hge, hap, b4, (Ge.new a3 L), a8.symm⟩, Nat.le_refl _⟩⟩ ?_
   rintro ⟨j, n2, sa2, sc2, so2⟩ wr29 ⟨a6, ⟨⟨hj, hcl2, hown2, hge2, hap2, hb52, M, hap5⟩, hnl2⟩⟩; show CW _ _ _ _ [(3, .slice sa2 n2 sc2), (21, .int .i64 (j : Nat)), (2, _), (5, _), (12, _), (13, _), (14, _), (20, _)] _
   try dsimp only at hj hcl2 hown2 hge2 hap2 hb52 M hap5 hnl2
   refine csr (aB (dA rfl rfl) ?_); refine wnn (aM (aZ rfl (fun c5 => ?_) (fun c5 => ?_)))
   ·have hj' : j < 2 := by omega
    have hhc := VP j; refine aN (aC (aM (bK (csr ?_)))); refine aB (OP (n := j) rfl rfl Tryz.underlying171 rfl (by omega) oO (QB hj')) ?_; refine cO rfl rK fun b7 e1 c6 O W => ?_; have d3 := O; refine aV rfl rfl oO c6 rfl rfl ⟨rfl, rfl, trivial⟩ fun e2 b6 Y => ?_
    try simp only [cH, Nat.reduceAdd] at b6
    refine wnn (aM ?_); refine fR (fun w0 w' => Evo [] w0 w') (by kernel_rfl) (fun B U => ?_); have H := ((a6.then W).step Y (Ge.new a6 O).mem1).then U; have Z := ((hown2.evo0 W).evo Y (Apart.new (Lt.own hown2) O).own1).evo0 U; have I := ((hcl2.evo0 W).evo Y (Apart.new (Lt.own hcl2) O).own1).evo0 U; have E := U.blk0 (Y.blk (W.blk0 hb52) (Apart.new (Lt.blk hb52) O).nmem1); have J := U.blk0 b6; refine aet 0 rfl (fun _ hS => aD rfl dP) (Evo.refl [] B) ?_; refine aet 1 rfl (fun _ hS => aX rfl cD (bI (hS.blk0 E) rfl)) (Evo.refl [] B) ?_; refine aet 2 rfl (fun _ hS => kL (n := 0) rfl rfl Tryz.underlying170 rfl (by omega) gP) (Evo.refl [] B) ?_; refine aet 3 rfl (fun _ hS => aX rfl cD (bI (hS.blk0 J) rfl)) (Evo.refl [] B) ?_; refine aet 5 rfl (fun _ hS => aD rfl dF) (Evo.refl [] B) ?_; refine aet 6 rfl (fun _ hS => aX rfl cD (bI (hS.blk0 E) rfl)) (Evo.refl [] B) ?_; refine aet 7 rfl (fun _ hS => kL (n := 0) rfl rfl Tryz.underlying170 rfl (by omega) gP) (Evo.refl [] B) ?_; refine aet 8 rfl (fun _ hS => aX rfl cD (bI (hS.blk0 J) rfl)) (Evo.refl [] B) ?_
    refine aet 9 rfl (fun _ hS => fA rfl rfl (by omega) (by omega)) (Evo.refl [] B) ?_; refine cA [4, 10] (by kernel_rfl) rfl ⟨?_, ?_, trivial⟩
    ·refine cG rfl ?_; refine aB (lL rfl rfl) ?_; refine aR (bV (.inl (Evo.refl [] B)) ?_); refine aet 11 rfl (fun _ hS => cR rfl) (Evo.refl [] B) ?_; refine cA [10] (by kernel_rfl) rfl ⟨?_, trivial⟩; refine cG rfl ?_; refine aB (lH rfl rfl) ?_; refine aR (bV (.inl (Evo.refl [] B)) ?_); refine aet 12 rfl (fun _ hS => cR rfl) (Evo.refl [] B) ?_; refine dB (by kernel_rfl) (aC ?_); refine csr (aA (aA (aB (dM rfl rfl) ?_))); refine wnn (aZ rfl (fun D => ?_) (fun D => ?_))
     ·refine aF (aA (aA ?_)); refine aB (kL (n := 1) rfl rfl Tryz.underlying170 rfl (by omega) gP) ?_; refine aB (aX rfl cD (bI J rfl)) ?_; refine aB (fA rfl rfl (by omega) (by omega)) ?_; refine aA ?_; refine aB (kL (n := 1) rfl rfl Tryz.underlying170 rfl (by omega) gP) ?_; refine aB (aX rfl cD (bI J rfl)) ?_; refine aB (fA rfl rfl (by omega) (by omega)) ?_; refine aB (cI (vs := [(0, _), (1, _)]) eE rfl (cells := [_, _]) rfl) ?_; refine bL (vs := [_]) rfl dE rfl rfl rfl rfl fun e3 e4 c7 d5 F => ?_; refine cM rfl rfl rfl rfl cX (Z.evo0 F) (Src.ofOwn c7 ⟨rfl, rfl, trivial⟩) (by omega) fun a2 c2 e5 ob2 b8 a7 hob78 => ?_; refine bN (aR (aQ (aC (aF ?_)))); refine aB (aI rfl rfl (by omega) (by omega)) ?_; refine aA (aR (aY ?_)); refine ⟨⟨j + 1, n2 + 1, a2, c2, ob2⟩, ?_, ⟨rfl, rfl, trivial⟩, ⟨rfl, rfl, rfl, rfl, rfl, rfl, trivial⟩, ((H.then F).step a7 hge2.mem), ?_⟩
      · (try dsimp only); omega
      try dsimp only
      refine ⟨⟨hj', ((I.evo0 F).evo a7 hap2.own), ?_, (hge2.app (H.then F) hob78), (hap2.app (Lt.own (I.evo0 F)) hob78), (a7.blk (F.blk0 E) hap5.nmem), M, (hap5.app (Lt.blk (F.blk0 E)) hob78)⟩, (by show n2 + 1 ≤ n + (j + 1); omega)⟩
      simp only [gM, gS] at D; rw [oI, ← List.append_assoc, dH _ (fH (qQ j) l[k]), gE D]; have V := b8; simp only [gM, gS] at V; exact V
     refine aN (aQ (aC (aF ?_))); refine aB (aI rfl rfl (by omega) (by omega)) ?_; refine aA (aR (aY ?_)); refine ⟨⟨j + 1, n2, sa2, sc2, so2⟩, ?_, ⟨rfl, rfl, trivial⟩, ⟨rfl, rfl, rfl, rfl, rfl, rfl, trivial⟩, H, ?_⟩
     · (try dsimp only); omega
     try dsimp only
     simp only [gM, gS] at D
     refine ⟨⟨hj', I, ?_, hge2, hap2, E, M, hap5⟩, (by show n2 ≤ n + (j + 1); omega)⟩
     rw [oI, iD D, List.append_nil]; exact Z
    refine cG rfl ?_; refine aB (lH rfl rfl) ?_; refine aR (bV (.inl (Evo.refl [] B)) ?_); refine cA [4] (by kernel_rfl) rfl ⟨?_, trivial⟩; refine cG rfl ?_; refine aB (lL rfl rfl) ?_; refine aR (bV (.inl (Evo.refl [] B)) ?_); refine aet 11 rfl (fun _ hS => cR rfl) (Evo.refl [] B) ?_; refine aet 12 rfl (fun _ hS => cR rfl) (Evo.refl [] B) ?_; refine dB (by kernel_rfl) (aC ?_); refine csr (aA (aA (aB (dM rfl rfl) ?_))); refine wnn (aZ rfl (fun D => ?_) (fun D => ?_))
    ·refine aF (aA (aA ?_)); refine aB (kL (n := 1) rfl rfl Tryz.underlying170 rfl (by omega) gP) ?_; refine aB (aX rfl cD (bI J rfl)) ?_; refine aB (fA rfl rfl (by omega) (by omega)) ?_; refine aA ?_; refine aB (kL (n := 1) rfl rfl Tryz.underlying170 rfl (by omega) gP) ?_; refine aB (aX rfl cD (bI J rfl)) ?_; refine aB (fA rfl rfl (by omega) (by omega)) ?_; refine aB (cI (vs := [(0, _), (1, _)]) eE rfl (cells := [_, _]) rfl) ?_; refine bL (vs := [_]) rfl dE rfl rfl rfl rfl fun e6 e7 c8 d6 G => ?_; refine cM rfl rfl rfl rfl cX (Z.evo0 G) (Src.ofOwn c8 ⟨rfl, rfl, trivial⟩) (by omega) fun a2 c2 d7 ob2 b8 a0 hob110 => ?_; refine bN (aR (aQ (aC (aF ?_)))); refine aB (aI rfl rfl (by omega) (by omega)) ?_; refine aA (aR (aY ?_)); refine ⟨⟨j + 1, n2 + 1, a2, c2, ob2⟩, ?_, ⟨rfl, rfl, trivial⟩, ⟨rfl, rfl, rfl, rfl, rfl, rfl, trivial⟩, ((H.then G).step a0 hge2.mem), ?_⟩
     · (try dsimp only); omega
     try dsimp only
     refine ⟨⟨hj', ((I.evo0 G).evo a0 hap2.own), ?_, (hge2.app (H.then G) hob110), (hap2.app (Lt.own (I.evo0 G)) hob110), (a0.blk (G.blk0 E) hap5.nmem), M, (hap5.app (Lt.blk (G.blk0 E)) hob110)⟩, (by show n2 + 1 ≤ n + (j + 1); omega)⟩
     simp only [gM, gS] at D; rw [oI, ← List.append_assoc, dH _ (fH (qQ j) l[k]), gE D]; have V := b8; simp only [gM, gS] at V; exact V
    refine aN (aQ (aC (aF ?_))); refine aB (aI rfl rfl (by omega) (by omega)) ?_; refine aA (aR (aY ?_)); refine ⟨⟨j + 1, n2, sa2, sc2, so2⟩, ?_, ⟨rfl, rfl, trivial⟩, ⟨rfl, rfl, rfl, rfl, rfl, rfl, trivial⟩, H, ?_⟩
    · (try dsimp only); omega
    try dsimp only
    simp only [gM, gS] at D
    refine ⟨⟨hj', I, ?_, hge2, hap2, E, M, hap5⟩, (by show n2 ≤ n + (j + 1); omega)⟩
    rw [oI, iD D, List.append_nil]; exact Z
   refine cW (bS (bS (cV (aQ (aC ?_))))); refine aF ?_; refine aB (aI rfl rfl (by omega) (by omega)) ?_; refine aA (aR (aY ?_)); refine ⟨⟨k + 1, n2, sa2, sc2, so2⟩, ?_, ⟨rfl, rfl, trivial⟩, ⟨rfl, rfl, rfl, trivial⟩, a6, ?_⟩
   · (try dsimp only); omega
   try dsimp only
   obtain rfl : j = 2 := by omega
   refine ⟨⟨hk', hcl2, ?_, hge2, hap2⟩, (by show n2 ≤ l.length + 2 * (k + 1); omega)⟩
   rw [LX hk', ← List.append_assoc]; exact hown2
  rw [List.take_of_length_le (show l.length ≤ k by omega)] at hown; have hfl := wU l; have d4 := lK hown; subst d4; refine cW (bS (bS (cV (aC ?_)))); refine csr (aA ?_)
  refine aG (vs := [_]) rM rfl (wP hown (zD hv AP) (by rw [List.length_append]; omega) (fun c => foldL_in.trans (xM hS c))) rfl ?_
  rintro rv d8 hR; have b9 := hR.evo; refine wan (aK (br1 ?_)); obtain ⟨a9, c9, ob9, rfl, V, hg9, hl9, hcan9, heq9, hev9⟩ := hR
  exact ⟨a9, c9, ob9, rfl, V, Ge.fresh a3 hg9, by rw [List.length_append] at hl9; have := wU l; omega, hcan9, heq9, (a3.then b9)⟩
theorem cB : Build Tryz.prog 27 #[(0, 1), (1, 1), (2, 1), (3, 1), (4, 1), (5, 1), (6, 1), (7, 1), (8, 1)] #[.int .i64 0, .int .i32 0, .slice none 0 0, .int .i64 0, .int .i64 0, .bool false, .int .i64 0, .string ByteArray.empty, .slice none 0 0] := ⟨_, .agg #[.int .i64 0, .int .i32 0, .slice none 0 0, .int .i64 0, .int .i64 0, .bool false, .int .i64 0, .string ByteArray.empty, .slice none 0 0], Tryz.underlying27, by kernel_rfl, rfl, fun w => by kernel_rfl⟩
theorem dZ : dW Tryz.prog 114 := ⟨_, Tryz.func114, by kernel_rfl, by kernel_rfl⟩
theorem lJ : dW Tryz.prog 131 := ⟨_, Tryz.func131, by kernel_rfl, by kernel_rfl⟩
theorem dT : rV Tryz.prog 67 = some (21, 1) := by kernel_rfl
def BI (w w' : World) (v : Value) (S : Int → Prop) (n : Nat) : Prop := ∃ a c ob l, v = .slice a l.length c ∧ OwnS w' 56 2 a l.length c (cS l) ob ∧ Ge w ob ∧ Vr l ∧ (∀ c, InR c l ↔ S c) ∧ l.length ≤ n
theorem RsOut.set {X : List Nat} {w0 w w' : World} {v : Value} {S : Int → Prop} {n : Nat} (h : RsOut w w' v S n) (he : Evo X w0 w) : BI w0 w' v S n := by
  obtain ⟨a, c, ob, h1, h2, h3, h4, h5, h6, -⟩ := h
  exact ⟨a, c, ob, iA S, h1, h2, Ge.fresh he h3, oD h5, h6, h4⟩
theorem uR {S : Int → Prop} {m : List (Int × Int)} (e : iA S = m) (h1 : m.length = 1) (h2 : (m[0]'(by omega)).1 = (m[0]'(by omega)).2) : jX S = nA (m[0]'(by omega)).1 := by
  obtain ⟨⟨a, b⟩, rfl⟩ := List.length_eq_one_iff.1 h1
  have h2' : a = b := h2
  unfold jX
  rw [e]
  show (if a = b then nA a else kS [(a, b)]) = _
  rw [if_pos h2']; rfl
theorem qN {S : Int → Prop} {m : List (Int × Int)} (e : iA S = m) (h : ∀ h1 : m.length = 1, ¬ (m[0]'(by omega)).1 = (m[0]'(by omega)).2) : jX S = kS m := by
  unfold jX
  rw [e]
  match m, h with
  | [], h => rfl
  | [(a, b)], h =>
    have h2 : ¬ a = b := h rfl
    show (if a = b then nA a else kS [(a, b)]) = _
    rw [if_neg h2]
  | a :: b :: l, h => rfl
theorem or_c : ∀ c : Nat, c < 256 → ((c ||| 32 = 100 → c = 68 ∨ c = 100) ∧ (c ||| 32 = 115 → c = 83 ∨ c = 115) ∧ (c ||| 32 = 119 → c = 87 ∨ c = 119)) ∧ (c ||| 32 ≠ 100 → c ≠ 68 ∧ c ≠ 100) ∧ (c ||| 32 ≠ 115 → c ≠ 83 ∧ c ≠ 115) ∧ (c ||| 32 ≠ 119 → c ≠ 87 ∧ c ≠ 119) := by
  have h : ∀ c : Fin 256, ((c.1 ||| 32 = 100 → c.1 = 68 ∨ c.1 = 100) ∧ (c.1 ||| 32 = 115 → c.1 = 83 ∨ c.1 = 115) ∧ (c.1 ||| 32 = 119 → c.1 = 87 ∨ c.1 = 119)) ∧ (c.1 ||| 32 ≠ 100 → c.1 ≠ 68 ∧ c.1 ≠ 100) ∧ (c.1 ||| 32 ≠ 115 → c.1 ≠ 83 ∧ c.1 ≠ 115) ∧ (c.1 ||| 32 ≠ 119 → c.1 ≠ 87 ∧ c.1 ≠ 119) := by decide +kernel
  exact fun c hc => h ⟨c, hc⟩
theorem jC {l : List (Int × Int)} (h : l.all (fun g => decide (0 ≤ g.1) && decide (g.1 ≤ g.2) && decide (g.2 ≤ 1114111)) = true) : Vr l := fun g hg => by
  have := List.all_eq_true.1 h g hg
  simp only [Bool.and_eq_true, decide_eq_true_eq] at this
  exact ⟨this.1.1, this.1.2, this.2⟩
theorem mI {c : Nat} (h : c ≠ 100 ∧ c ≠ 115 ∧ c ≠ 119 ∧ c ≠ 68 ∧ c ≠ 83 ∧ c ≠ 87) : tW c = none := by
  unfold tW; rw [if_neg h.1, if_neg h.2.1, if_neg h.2.2.1, if_neg h.2.2.2.1, if_neg h.2.2.2.2.1, if_neg h.2.2.2.2.2]
def LetOut (w w' : World) (v : Value) (o : Option (Int → Prop)) : Prop := (o = none ∧ v = .tuple #[.slice none 0 0, .bool false]) ∨ ∃ S v', o = some S ∧ v = .tuple #[v', .bool true] ∧ BI w w' v' S 8
theorem oM {w : World} {a : Option Addr} {c : Nat} {l : List (Int × Int)} {ob : Option Nat} (hO : OwnS w 56 2 a l.length c (cS l) ob) (hv : Vr l) (hl : l.length ≤ 1000000) {S : Int → Prop} (hS : ∀ c, InR c l ↔ S c) :
    Calls Tryz.prog 113 #[.slice a l.length c] w (Ret fun v w' => TOut w w' v (jX S) ∧ Evo [] w w') := by
  refine bE (N := 26) Tryz.func113 rfl rfl rfl ?_; refine csr (cO rfl dC fun b2 w1 G Z a4 => ?_); have a5 := Z; have H := Ge.new (Evo.refl [] w) Z; have D := (Evo.refl [] w).then a4; refine wnn (csr (aA (aG (vs := [_]) rM rfl (wP (hO.evo0 D) hv hl hS) rfl ?_))); rintro _ w7 ⟨a1, c1, ob1, rfl, I, hg1, hml, hcan, heqS, F⟩; have a0 := Apart.fresh (Lt.blk G) hg1
  generalize hm : iA S = m at *
  refine wan (aM (aM ?_)); refine eK (by kernel_rfl) (by kernel_rfl) ?_; refine bG (fun _ B => bC rfl) ?_; refine bG (fun _ B => bM rfl Tryz.underlying24 rfl) ?_; refine bG (fun _ B => kK rfl rfl) ?_; refine bG (fun _ B => bC rfl) ?_; refine kC (t := 8) rfl (fun a6 => ?_) (fun a6 => ?_)
  ·have hm1 : m.length = 1 := by omega
   obtain ⟨g1, hg1', ha1, J⟩ := iL I (i := 0) (by omega); refine qlg ?_; refine bG (fun _ B => bC rfl) ?_; refine qlg ?_; refine bG (fun _ B => eC (n := 0) rfl rfl ha1 cK (by omega)) ?_; refine qlg ?_; refine bG (fun _ B => aD rfl dP) ?_; refine qlg ?_; refine bG (fun _ B => aX rfl cD ((((Evo.refl ([]) w7).then B)).cell (J 0 _ rfl) (by simp))) ?_; refine qlg ?_; refine bG (fun _ B => bC rfl) ?_; refine qlg ?_; refine bG (fun _ B => eC (n := 0) rfl rfl ha1 cK (by omega)) ?_; refine qlg ?_; refine bG (fun _ B => aD rfl dF) ?_; refine qlg ?_; refine bG (fun _ B => aX rfl cD ((((Evo.refl ([]) w7).then B)).cell (J 1 _ rfl) (by simp))) ?_; refine qlg ?_; refine bG (fun _ B => kK rfl rfl) ?_; refine bG (fun _ B => eP rfl rfl) ?_; refine eN (fun a2 B => aC ?_); have L := (D.then F).then B; have M := B.blk0 (F.blk0 G); refine aZ rfl (fun E => ?_) (fun E => ?_)
   ·refine csr (aA ?_); refine aB (eC (n := 0) rfl rfl ha1 cK (by omega)) ?_; refine aB (aD rfl dP) ?_; refine aB (aX rfl cD ((((Evo.refl ([]) w7).then B)).cell (J 0 _ rfl) (by simp))) ?_; refine aB (cI (vs := [(0, _), (1, _)]) cB rfl (cells := [_, _, _, _, _, _, _, _, _]) rfl) ?_; refine aV rfl rfl aJ M rfl rfl ⟨rfl, rfl, rfl, rfl, rfl, rfl, rfl, rfl, rfl, trivial⟩ fun a7 O a3 => ?_
    try simp only [cH, Nat.reduceAdd] at O
    refine wnn (aK (aE (bT rfl (ResOk.cellA rfl bF aJ O rfl) ?_))); refine ⟨?_, (L.step a3 H.mem1)⟩; rw [uR hm hm1 (by simpa using E)]; exact ⟨_, [], rfl, EL _ _, Fr.nil _⟩
   refine aN (aC (csr (aA (aB (cI (vs := [(0, _), (2, _)]) cB rfl (cells := [_, _, _, _, _, _, _, _, _]) rfl) ?_)))); refine aV rfl rfl aJ M rfl rfl ⟨rfl, rfl, rfl, rfl, rfl, rfl, rfl, rfl, rfl, trivial⟩ fun a8 U V => ?_
   try simp only [cH, Nat.reduceAdd] at U
   refine wnn (aK (bT rfl (ResOk.cellA rfl bF aJ U rfl) ?_)); refine ⟨?_, (L.step V H.mem1)⟩; rw [qN hm (fun h1 => by simpa using E)]; exact ⟨_, _, rfl, AA ((I.evo0 B).evo V a0.symm.own1) (by omega), VV (Ge.fresh D hg1)⟩
  refine qln ?_; refine qln ?_; refine qln ?_; refine qln ?_; refine qln ?_; refine qln ?_; refine qln ?_; refine qln ?_; refine qln ?_; refine bG (fun _ B => eZ rfl rfl) ?_; refine eN (fun a2 B => aC ?_); refine cF rfl ?_; refine aN (aC (csr (aA (aB (cI (vs := [(0, _), (2, _)]) cB rfl (cells := [_, _, _, _, _, _, _, _, _]) rfl) ?_)))); refine aV rfl rfl aJ (B.blk0 (F.blk0 G)) rfl rfl ⟨rfl, rfl, rfl, rfl, rfl, rfl, rfl, rfl, rfl, trivial⟩ fun a9 W Y => ?_
  try simp only [cH, Nat.reduceAdd] at W
  refine wnn (aK (bT rfl (ResOk.cellA rfl bF aJ W rfl) ?_)); refine ⟨?_, (((D.then F).then B).step Y H.mem1)⟩; rw [qN hm (fun h1 => by omega)]; exact ⟨_, _, rfl, AA ((I.evo0 B).evo Y a0.symm.own1) (by omega), VV (Ge.fresh D hg1)⟩
theorem sZ {w w' : World} {v : Value} {S : Int → Prop} {n m : Nat} (h : BI w w' v S n) (hm : n ≤ m) : BI w w' v S m := by
  obtain ⟨a, c, ob, l, h1, h2, h3, h4, h5, h6⟩ := h
  exact ⟨a, c, ob, l, h1, h2, h3, h4, h5, Nat.le_trans h6 hm⟩
theorem uU {w : World} (c : Nat) (hc : c < 256) :
    Calls Tryz.prog 133 #[.int .u8 (c : Nat)] w (Ret fun v w' => LetOut w w' v (tW c) ∧ Evo [] w w') := by
  have hor := or_c c hc; refine bE (N := 31) Tryz.func133 rfl rfl rfl ?_; refine csr (bN (wan (csr (wan (aM (csr (aA ?_))))))); refine aB (jS (m := c) (n := 32) rfl rfl rfl rfl rfl hc (by decide)) ?_; refine wnn (bK (csr (wel ?_))); refine wan (aZ rfl (fun a6 => ?_) (fun a6 => ?_))
  ·have hcs := hor.1.1 (by omega); refine aF (bL (vs := [_, _]) rfl dT rfl rfl rfl rfl fun b1 w2 a7 b6 a8 => ?_); have M := (Evo.refl [] w).then a8; refine aG (vs := [_]) dZ rfl (iB (es := [48, 57]) a7 (by decide)) rfl ?_; rintro _ w8 ⟨a1, c1, ob1, rfl, E, hg1, a9⟩; have G := M.then a9; refine bN (aR (aQ (aC (aM (csr (aA (wnn (bK (aM (csr (wel ?_))))))))))); refine wan (aZ rfl (fun B => ?_) (fun B => ?_))
   ·refine aN (aC (aZ rfl (fun B => ?_) (fun B => ?_)))
    ·refine aF (aA ?_); refine aG (vs := [_]) lJ rfl (nF (l := [(48, 57)]) E (jC (by kernel_rfl)) (by decide) (fun c => Iff.rfl)) rfl ?_; rintro rv b7 hR; have F := G; have O := hR.evo; refine bN (aR (aQ (aC (csr (aA (bN (wan (aK (cE rfl rfl rfl ?_)))))))))
     obtain rfl : c = 68 := by omega
     exact ⟨.inr ⟨_, _, rfl, rfl, sZ (hR.set F) (by decide)⟩, (G.then O)⟩
    exfalso; omega
   refine csr (wel ?_); refine wan (aZ rfl (fun B => ?_) (fun B => ?_))
   ·exfalso; omega
   refine aF (wel ?_); refine wan (aZ rfl (fun B => ?_) (fun B => ?_))
   ·exfalso; omega
   refine aM (csr (wel ?_)); refine wan (aZ rfl (fun D => ?_) (fun D => ?_))
   ·refine aN (aC (aZ rfl (fun D => ?_) (fun D => ?_)))
    ·refine aN (aQ (aC (csr (aA (bN (wan (aK (cE rfl rfl rfl ?_))))))))
     obtain rfl : c = 100 := by omega
     exact ⟨.inr ⟨_, _, rfl, rfl, _, _, _, [(48, 57)], rfl, E, (Ge.fresh M hg1), jC (by kernel_rfl), fun c => Iff.rfl, by decide⟩, G⟩
    exfalso; omega
   exfalso; omega
  refine csr (wel ?_); refine wan (aZ rfl (fun U => ?_) (fun U => ?_))
  ·have hcs := hor.1.2.1 (by omega); refine aF (bL (vs := [_, _, _, _, _, _]) rfl dT rfl rfl rfl rfl fun b8 b9 V b4 W => ?_); have J := (Evo.refl [] w).then W; refine aG (vs := [_]) dZ rfl (iB (es := [9, 10, 12, 13, 32, 32]) V (by decide)) rfl ?_; rintro _ c0 ⟨a1, c1, ob1, rfl, E, hg1, Y⟩; have H := J.then Y; refine bN (aR (aQ (aC (aM (csr (aA (wnn (bK (aM (csr (wel ?_))))))))))); refine wan (aZ rfl (fun B => ?_) (fun B => ?_))
   ·exfalso; omega
   refine csr (wel ?_); refine wan (aZ rfl (fun B => ?_) (fun B => ?_))
   ·refine aN (aC (aZ rfl (fun B => ?_) (fun B => ?_)))
    ·refine aF (aA ?_); refine aG (vs := [_]) lJ rfl (nF (l := [(9, 10), (12, 13), (32, 32)]) E (jC (by kernel_rfl)) (by decide) (fun c => Iff.rfl)) rfl ?_; rintro rv c3 hR; have F := H; have Z := hR.evo; refine bN (aR (aQ (aC (csr (aA (bN (wan (aK (cE rfl rfl rfl ?_)))))))))
     obtain rfl : c = 83 := by omega
     exact ⟨.inr ⟨_, _, rfl, rfl, sZ (hR.set F) (by decide)⟩, (H.then Z)⟩
    exfalso; omega
   refine aF (wel ?_); refine wan (aZ rfl (fun B => ?_) (fun B => ?_))
   ·exfalso; omega
   refine aM (csr (wel ?_)); refine wan (aZ rfl (fun D => ?_) (fun D => ?_))
   ·exfalso; omega
   refine csr (wel ?_); refine wan (aZ rfl (fun D => ?_) (fun D => ?_))
   ·refine aN (aC (aZ rfl (fun D => ?_) (fun D => ?_)))
    ·refine aN (aQ (aC (csr (aA (bN (wan (aK (cE rfl rfl rfl ?_))))))))
     obtain rfl : c = 115 := by omega
     exact ⟨.inr ⟨_, _, rfl, rfl, _, _, _, [(9, 10), (12, 13), (32, 32)], rfl, E, (Ge.fresh J hg1), jC (by kernel_rfl), fun c => Iff.rfl, by decide⟩, H⟩
    exfalso; omega
   exfalso; omega
  refine csr (wel ?_); refine wan (aZ rfl (fun a0 => ?_) (fun a0 => ?_))
  ·have hcs := hor.1.2.2 (by omega); refine aF (bL (vs := [_, _, _, _, _, _, _, _]) rfl dT rfl rfl rfl rfl fun c4 c5 a2 b5 a3 => ?_); have L := (Evo.refl [] w).then a3; refine aG (vs := [_]) dZ rfl (iB (es := [48, 57, 65, 90, 95, 95, 97, 122]) a2 (by decide)) rfl ?_; rintro _ c6 ⟨a1, c1, ob1, rfl, E, hg1, a4⟩; have I := L.then a4; refine bN (aR (aQ (aC (aM (csr (aA (wnn (bK (aM (csr (wel ?_))))))))))); refine wan (aZ rfl (fun B => ?_) (fun B => ?_))
   ·exfalso; omega
   refine csr (wel ?_); refine wan (aZ rfl (fun B => ?_) (fun B => ?_))
   ·exfalso; omega
   refine aF (wel ?_); refine wan (aZ rfl (fun B => ?_) (fun B => ?_))
   ·refine aF (aA ?_); refine aG (vs := [_]) lJ rfl (nF (l := [(48, 57), (65, 90), (95, 95), (97, 122)]) E (jC (by kernel_rfl)) (by decide) (fun c => Iff.rfl)) rfl ?_; rintro rv c7 hR; have F := I; have a5 := hR.evo; refine bN (aR (aQ (aC (csr (aA (bN (wan (aK (cE rfl rfl rfl ?_)))))))))
    obtain rfl : c = 87 := by omega
    exact ⟨.inr ⟨_, _, rfl, rfl, sZ (hR.set F) (by decide)⟩, (I.then a5)⟩
   refine aM (csr (wel ?_)); refine wan (aZ rfl (fun D => ?_) (fun D => ?_))
   ·exfalso; omega
   refine csr (wel ?_); refine wan (aZ rfl (fun D => ?_) (fun D => ?_))
   ·exfalso; omega
   refine aF (wel ?_); refine wan (aZ rfl (fun D => ?_) (fun D => ?_))
   ·refine aN (aQ (aC (csr (aA (bN (wan (aK (cE rfl rfl rfl ?_))))))))
    obtain rfl : c = 119 := by omega
    exact ⟨.inr ⟨_, _, rfl, rfl, _, _, _, [(48, 57), (65, 90), (95, 95), (97, 122)], rfl, E, (Ge.fresh L hg1), jC (by kernel_rfl), fun c => Iff.rfl, by decide⟩, I⟩
   exfalso; omega
  refine csr (bN (wan (aK (aO (aE (cE rfl rfl rfl ?_))))))
  exact ⟨.inl ⟨mI (by have := hor.2; omega), rfl⟩, (Evo.refl [] w)⟩
theorem rR : eU Tryz.prog 62 0 = some 0 := by kernel_rfl
theorem fS : eU Tryz.prog 64 2 = some 2 := by kernel_rfl
theorem iW : dW Tryz.prog 113 := ⟨_, Tryz.func113, by kernel_rfl, by kernel_rfl⟩
theorem vT : dW Tryz.prog 130 := ⟨_, Tryz.func130, by kernel_rfl, by kernel_rfl⟩
theorem nam0 {n : ByteArray} (h : n = asc [97, 108, 110, 117, 109]) : fW n = some (rs [(48, 57), (65, 90), (97, 122)]) := by unfold fW; rw [if_pos h]
theorem nam1 {n : ByteArray} (h0 : ¬ n = asc [97, 108, 110, 117, 109]) (h : n = asc [97, 108, 112, 104, 97]) : fW n = some (rs [(65, 90), (97, 122)]) := by unfold fW; rw [if_neg h0, if_pos h]
theorem nam2 {n : ByteArray} (h0 : ¬ n = asc [97, 108, 110, 117, 109]) (h1 : ¬ n = asc [97, 108, 112, 104, 97]) (h : n = asc [97, 115, 99, 105, 105]) : fW n = some (rs [(0, 127)]) := by unfold fW; rw [if_neg h0, if_neg h1, if_pos h]
theorem nam3 {n : ByteArray} (h0 : ¬ n = asc [97, 108, 110, 117, 109]) (h1 : ¬ n = asc [97, 108, 112, 104, 97]) (h2 : ¬ n = asc [97, 115, 99, 105, 105]) (h : n = asc [98, 108, 97, 110, 107]) : fW n = some (rs [(9, 9), (32, 32)]) := by unfold fW; rw [if_neg h0, if_neg h1, if_neg h2, if_pos h]
theorem nam4 {n : ByteArray} (h0 : ¬ n = asc [97, 108, 110, 117, 109]) (h1 : ¬ n = asc [97, 108, 112, 104, 97]) (h2 : ¬ n = asc [97, 115, 99, 105, 105]) (h3 : ¬ n = asc [98, 108, 97, 110, 107]) (h : n = asc [99, 110, 116, 114, 108]) : fW n = some (rs [(0, 31), (127, 127)]) := by unfold fW; rw [if_neg h0, if_neg h1, if_neg h2, if_neg h3, if_pos h]
theorem nam5 {n : ByteArray} (h0 : ¬ n = asc [97, 108, 110, 117, 109]) (h1 : ¬ n = asc [97, 108, 112, 104, 97]) (h2 : ¬ n = asc [97, 115, 99, 105, 105]) (h3 : ¬ n = asc [98, 108, 97, 110, 107]) (h4 : ¬ n = asc [99, 110, 116, 114, 108]) (h : n = asc [100, 105, 103, 105, 116]) : fW n = some (rs [(48, 57)]) := by unfold fW; rw [if_neg h0, if_neg h1, if_neg h2, if_neg h3, if_neg h4, if_pos h]
theorem nam6 {n : ByteArray} (h0 : ¬ n = asc [97, 108, 110, 117, 109]) (h1 : ¬ n = asc [97, 108, 112, 104, 97]) (h2 : ¬ n = asc [97, 115, 99, 105, 105]) (h3 : ¬ n = asc [98, 108, 97, 110, 107]) (h4 : ¬ n = asc [99, 110, 116, 114, 108]) (h5 : ¬ n = asc [100, 105, 103, 105, 116]) (h : n = asc [103, 114, 97, 112, 104]) : fW n = some (rs [(33, 126)]) := by unfold fW; rw [if_neg h0, if_neg h1, if_neg h2, if_neg h3, if_neg h4, if_neg h5, if_pos h]
theorem nam7 {n : ByteArray} (h0 : ¬ n = asc [97, 108, 110, 117, 109]) (h1 : ¬ n = asc [97, 108, 112, 104, 97]) (h2 : ¬ n = asc [97, 115, 99, 105, 105]) (h3 : ¬ n = asc [98, 108, 97, 110, 107]) (h4 : ¬ n = asc [99, 110, 116, 114, 108]) (h5 : ¬ n = asc [100, 105, 103, 105, 116]) (h6 : ¬ n = asc [103, 114, 97, 112, 104]) (h : n = asc [108, 111, 119, 101, 114]) : fW n = some (rs [(97, 122)]) := by unfold fW; rw [if_neg h0, if_neg h1, if_neg h2, if_neg h3, if_neg h4, if_neg h5, if_neg h6, if_pos h]
theorem nam8 {n : ByteArray} (h0 : ¬ n = asc [97, 108, 110, 117, 109]) (h1 : ¬ n = asc [97, 108, 112, 104, 97]) (h2 : ¬ n = asc [97, 115, 99, 105, 105]) (h3 : ¬ n = asc [98, 108, 97, 110, 107]) (h4 : ¬ n = asc [99, 110, 116, 114, 108]) (h5 : ¬ n = asc [100, 105, 103, 105, 116]) (h6 : ¬ n = asc [103, 114, 97, 112, 104]) (h7 : ¬ n = asc [108, 111, 119, 101, 114]) (h : n = asc [112, 114, 105, 110, 116]) : fW n = some (rs [(32, 126)]) := by unfold fW; rw [if_neg h0, if_neg h1, if_neg h2, if_neg h3, if_neg h4, if_neg h5, if_neg h6, if_neg h7, if_pos h]
theorem nam9 {n : ByteArray} (h0 : ¬ n = asc [97, 108, 110, 117, 109]) (h1 : ¬ n = asc [97, 108, 112, 104, 97]) (h2 : ¬ n = asc [97, 115, 99, 105, 105]) (h3 : ¬ n = asc [98, 108, 97, 110, 107]) (h4 : ¬ n = asc [99, 110, 116, 114, 108]) (h5 : ¬ n = asc [100, 105, 103, 105, 116]) (h6 : ¬ n = asc [103, 114, 97, 112, 104]) (h7 : ¬ n = asc [108, 111, 119, 101, 114]) (h8 : ¬ n = asc [112, 114, 105, 110, 116]) (h : n = asc [112, 117, 110, 99, 116]) : fW n = some (rs [(33, 47), (58, 64), (91, 96), (123, 126)]) := by unfold fW; rw [if_neg h0, if_neg h1, if_neg h2, if_neg h3, if_neg h4, if_neg h5, if_neg h6, if_neg h7, if_neg h8, if_pos h]
theorem nam10 {n : ByteArray} (h0 : ¬ n = asc [97, 108, 110, 117, 109]) (h1 : ¬ n = asc [97, 108, 112, 104, 97]) (h2 : ¬ n = asc [97, 115, 99, 105, 105]) (h3 : ¬ n = asc [98, 108, 97, 110, 107]) (h4 : ¬ n = asc [99, 110, 116, 114, 108]) (h5 : ¬ n = asc [100, 105, 103, 105, 116]) (h6 : ¬ n = asc [103, 114, 97, 112, 104]) (h7 : ¬ n = asc [108, 111, 119, 101, 114]) (h8 : ¬ n = asc [112, 114, 105, 110, 116]) (h9 : ¬ n = asc [112, 117, 110, 99, 116]) (h : n = asc [115, 112, 97, 99, 101]) : fW n = some (rs [(9, 13), (32, 32)]) := by unfold fW; rw [if_neg h0, if_neg h1, if_neg h2, if_neg h3, if_neg h4, if_neg h5, if_neg h6, if_neg h7, if_neg h8, if_neg h9, if_pos h]
theorem nam11 {n : ByteArray} (h0 : ¬ n = asc [97, 108, 110, 117, 109]) (h1 : ¬ n = asc [97, 108, 112, 104, 97]) (h2 : ¬ n = asc [97, 115, 99, 105, 105]) (h3 : ¬ n = asc [98, 108, 97, 110, 107]) (h4 : ¬ n = asc [99, 110, 116, 114, 108]) (h5 : ¬ n = asc [100, 105, 103, 105, 116]) (h6 : ¬ n = asc [103, 114, 97, 112, 104]) (h7 : ¬ n = asc [108, 111, 119, 101, 114]) (h8 : ¬ n = asc [112, 114, 105, 110, 116]) (h9 : ¬ n = asc [112, 117, 110, 99, 116]) (h10 : ¬ n = asc [115, 112, 97, 99, 101]) (h : n = asc [117, 112, 112, 101, 114]) : fW n = some (rs [(65, 90)]) := by unfold fW; rw [if_neg h0, if_neg h1, if_neg h2, if_neg h3, if_neg h4, if_neg h5, if_neg h6, if_neg h7, if_neg h8, if_neg h9, if_neg h10, if_pos h]
theorem nam12 {n : ByteArray} (h0 : ¬ n = asc [97, 108, 110, 117, 109]) (h1 : ¬ n = asc [97, 108, 112, 104, 97]) (h2 : ¬ n = asc [97, 115, 99, 105, 105]) (h3 : ¬ n = asc [98, 108, 97, 110, 107]) (h4 : ¬ n = asc [99, 110, 116, 114, 108]) (h5 : ¬ n = asc [100, 105, 103, 105, 116]) (h6 : ¬ n = asc [103, 114, 97, 112, 104]) (h7 : ¬ n = asc [108, 111, 119, 101, 114]) (h8 : ¬ n = asc [112, 114, 105, 110, 116]) (h9 : ¬ n = asc [112, 117, 110, 99, 116]) (h10 : ¬ n = asc [115, 112, 97, 99, 101]) (h11 : ¬ n = asc [117, 112, 112, 101, 114]) (h : n = asc [119, 111, 114, 100]) : fW n = some (rs [(48, 57), (65, 90), (95, 95), (97, 122)]) := by unfold fW; rw [if_neg h0, if_neg h1, if_neg h2, if_neg h3, if_neg h4, if_neg h5, if_neg h6, if_neg h7, if_neg h8, if_neg h9, if_neg h10, if_neg h11, if_pos h]
theorem nam13 {n : ByteArray} (h0 : ¬ n = asc [97, 108, 110, 117, 109]) (h1 : ¬ n = asc [97, 108, 112, 104, 97]) (h2 : ¬ n = asc [97, 115, 99, 105, 105]) (h3 : ¬ n = asc [98, 108, 97, 110, 107]) (h4 : ¬ n = asc [99, 110, 116, 114, 108]) (h5 : ¬ n = asc [100, 105, 103, 105, 116]) (h6 : ¬ n = asc [103, 114, 97, 112, 104]) (h7 : ¬ n = asc [108, 111, 119, 101, 114]) (h8 : ¬ n = asc [112, 114, 105, 110, 116]) (h9 : ¬ n = asc [112, 117, 110, 99, 116]) (h10 : ¬ n = asc [115, 112, 97, 99, 101]) (h11 : ¬ n = asc [117, 112, 112, 101, 114]) (h12 : ¬ n = asc [119, 111, 114, 100]) (h : n = asc [120, 100, 105, 103, 105, 116]) : fW n = some (rs [(48, 57), (65, 70), (97, 102)]) := by unfold fW; rw [if_neg h0, if_neg h1, if_neg h2, if_neg h3, if_neg h4, if_neg h5, if_neg h6, if_neg h7, if_neg h8, if_neg h9, if_neg h10, if_neg h11, if_neg h12, if_pos h]
theorem namN {n : ByteArray} (h0 : ¬ n = asc [97, 108, 110, 117, 109]) (h1 : ¬ n = asc [97, 108, 112, 104, 97]) (h2 : ¬ n = asc [97, 115, 99, 105, 105]) (h3 : ¬ n = asc [98, 108, 97, 110, 107]) (h4 : ¬ n = asc [99, 110, 116, 114, 108]) (h5 : ¬ n = asc [100, 105, 103, 105, 116]) (h6 : ¬ n = asc [103, 114, 97, 112, 104]) (h7 : ¬ n = asc [108, 111, 119, 101, 114]) (h8 : ¬ n = asc [112, 114, 105, 110, 116]) (h9 : ¬ n = asc [112, 117, 110, 99, 116]) (h10 : ¬ n = asc [115, 112, 97, 99, 101]) (h11 : ¬ n = asc [117, 112, 112, 101, 114]) (h12 : ¬ n = asc [119, 111, 114, 100]) (h13 : ¬ n = asc [120, 100, 105, 103, 105, 116])  : fW n = none := by unfold fW; rw [if_neg h0, if_neg h1, if_neg h2, if_neg h3, if_neg h4, if_neg h5, if_neg h6, if_neg h7, if_neg h8, if_neg h9, if_neg h10, if_neg h11, if_neg h12, if_neg h13]
theorem US {w : World} (n : ByteArray) :
    Calls Tryz.prog 146 #[.string n] w (Ret fun v w' => LetOut w w' v (fW n) ∧ Evo [] w w') := by
  refine bE (N := 61) Tryz.func146 rfl rfl rfl ?_; refine csr (bN (wan (aM (csr (aA (wnn (bK (csr (aB (fX rfl rfl) ?_))))))))); refine wan (aZ rfl (fun G => ?_) (fun G => ?_))
  ·refine csr (bL (vs := [_, _, _, _, _, _]) rfl dT rfl rfl rfl rfl fun b1 w2 g3 j9 g4 => ?_); have d8 := (Evo.refl [] w).then g4; refine aG (vs := [_]) dZ rfl (iB (es := [48, 57, 65, 90, 97, 122]) g3 (by decide)) rfl ?_; rintro _ w8 ⟨a1, c1, ob1, rfl, B, hg1, g5⟩; refine bN (wan (aK (aO (aE (cE rfl rfl rfl ?_))))); exact ⟨.inr ⟨_, _, nam0  G, rfl, _, _, _, [(48, 57), (65, 90), (97, 122)], rfl, B, (Ge.fresh d8 hg1), jC (by kernel_rfl), fun c => Iff.rfl, by decide⟩, (d8.then g5)⟩
  refine csr (aB (fX rfl rfl) ?_); refine wan (aZ rfl (fun H => ?_) (fun H => ?_))
  ·refine csr (bL (vs := [_, _, _, _]) rfl dT rfl rfl rfl rfl fun k0 k1 d9 h4 e0 => ?_); have a6 := (Evo.refl [] w).then e0; refine aG (vs := [_]) dZ rfl (iB (es := [65, 90, 97, 122]) d9 (by decide)) rfl ?_; rintro _ k2 ⟨a1, c1, ob1, rfl, B, hg1, e1⟩; refine bN (wan (aK (aO (aE (cE rfl rfl rfl ?_))))); exact ⟨.inr ⟨_, _, nam1 G H, rfl, _, _, _, [(65, 90), (97, 122)], rfl, B, (Ge.fresh a6 hg1), jC (by kernel_rfl), fun c => Iff.rfl, by decide⟩, (a6.then e1)⟩
  refine csr (aB (fX rfl rfl) ?_); refine wan (aZ rfl (fun D => ?_) (fun D => ?_))
  ·refine csr (bL (vs := [_, _]) rfl dT rfl rfl rfl rfl fun k3 k4 e2 h5 e3 => ?_); have a7 := (Evo.refl [] w).then e3; refine aG (vs := [_]) dZ rfl (iB (es := [0, 127]) e2 (by decide)) rfl ?_; rintro _ k5 ⟨a1, c1, ob1, rfl, B, hg1, e4⟩; refine bN (wan (aK (aO (aE (cE rfl rfl rfl ?_))))); exact ⟨.inr ⟨_, _, nam2 G H D, rfl, _, _, _, [(0, 127)], rfl, B, (Ge.fresh a7 hg1), jC (by kernel_rfl), fun c => Iff.rfl, by decide⟩, (a7.then e4)⟩
  refine csr (aB (fX rfl rfl) ?_); refine wan (aZ rfl (fun E => ?_) (fun E => ?_))
  ·refine csr (bL (vs := [_, _, _, _]) rfl dT rfl rfl rfl rfl fun k6 k7 e5 h6 e6 => ?_); have a8 := (Evo.refl [] w).then e6; refine aG (vs := [_]) dZ rfl (iB (es := [9, 9, 32, 32]) e5 (by decide)) rfl ?_; rintro _ k8 ⟨a1, c1, ob1, rfl, B, hg1, e7⟩; refine bN (wan (aK (aO (aE (cE rfl rfl rfl ?_))))); exact ⟨.inr ⟨_, _, nam3 G H D E, rfl, _, _, _, [(9, 9), (32, 32)], rfl, B, (Ge.fresh a8 hg1), jC (by kernel_rfl), fun c => Iff.rfl, by decide⟩, (a8.then e7)⟩
  refine csr (aB (fX rfl rfl) ?_); refine wan (aZ rfl (fun F => ?_) (fun F => ?_))
  ·refine csr (bL (vs := [_, _, _, _]) rfl dT rfl rfl rfl rfl fun k9 l0 e8 h7 e9 => ?_); have a9 := (Evo.refl [] w).then e9; refine aG (vs := [_]) dZ rfl (iB (es := [0, 31, 127, 127]) e8 (by decide)) rfl ?_; rintro _ l1 ⟨a1, c1, ob1, rfl, B, hg1, f0⟩; refine bN (wan (aK (aO (aE (cE rfl rfl rfl ?_))))); exact ⟨.inr ⟨_, _, nam4 G H D E F, rfl, _, _, _, [(0, 31), (127, 127)], rfl, B, (Ge.fresh a9 hg1), jC (by kernel_rfl), fun c => Iff.rfl, by decide⟩, (a9.then f0)⟩
  refine csr (aB (fX rfl rfl) ?_); refine wan (aZ rfl (fun I => ?_) (fun I => ?_))
  ·refine csr (bL (vs := [_, _]) rfl dT rfl rfl rfl rfl fun l2 l3 f5 h8 f6 => ?_); have b4 := (Evo.refl [] w).then f6; refine aG (vs := [_]) dZ rfl (iB (es := [48, 57]) f5 (by decide)) rfl ?_; rintro _ l4 ⟨a1, c1, ob1, rfl, B, hg1, f7⟩; refine bN (wan (aK (aO (aE (cE rfl rfl rfl ?_))))); exact ⟨.inr ⟨_, _, nam5 G H D E F I, rfl, _, _, _, [(48, 57)], rfl, B, (Ge.fresh b4 hg1), jC (by kernel_rfl), fun c => Iff.rfl, by decide⟩, (b4.then f7)⟩
  refine csr (aB (fX rfl rfl) ?_); refine wan (aZ rfl (fun J => ?_) (fun J => ?_))
  ·refine csr (bL (vs := [_, _]) rfl dT rfl rfl rfl rfl fun l5 l6 f8 h9 f9 => ?_); have b5 := (Evo.refl [] w).then f9; refine aG (vs := [_]) dZ rfl (iB (es := [33, 126]) f8 (by decide)) rfl ?_; rintro _ l7 ⟨a1, c1, ob1, rfl, B, hg1, g0⟩; refine bN (wan (aK (aO (aE (cE rfl rfl rfl ?_))))); exact ⟨.inr ⟨_, _, nam6 G H D E F I J, rfl, _, _, _, [(33, 126)], rfl, B, (Ge.fresh b5 hg1), jC (by kernel_rfl), fun c => Iff.rfl, by decide⟩, (b5.then g0)⟩
  refine csr (aB (fX rfl rfl) ?_); refine wan (aZ rfl (fun L => ?_) (fun L => ?_))
  ·refine csr (bL (vs := [_, _]) rfl dT rfl rfl rfl rfl fun l8 l9 g1 i0 g2 => ?_); have b6 := (Evo.refl [] w).then g2; refine aG (vs := [_]) dZ rfl (iB (es := [97, 122]) g1 (by decide)) rfl ?_; rintro _ m0 ⟨a1, c1, ob1, rfl, B, hg1, b7⟩; refine bN (wan (aK (aO (aE (cE rfl rfl rfl ?_))))); exact ⟨.inr ⟨_, _, nam7 G H D E F I J L, rfl, _, _, _, [(97, 122)], rfl, B, (Ge.fresh b6 hg1), jC (by kernel_rfl), fun c => Iff.rfl, by decide⟩, (b6.then b7)⟩
  refine csr (aB (fX rfl rfl) ?_); refine wan (aZ rfl (fun M => ?_) (fun M => ?_))
  ·refine csr (bL (vs := [_, _]) rfl dT rfl rfl rfl rfl fun i1 i2 b8 g6 b9 => ?_); have Z := (Evo.refl [] w).then b9; refine aG (vs := [_]) dZ rfl (iB (es := [32, 126]) b8 (by decide)) rfl ?_; rintro _ i3 ⟨a1, c1, ob1, rfl, B, hg1, c0⟩; refine bN (wan (aK (aO (aE (cE rfl rfl rfl ?_))))); exact ⟨.inr ⟨_, _, nam8 G H D E F I J L M, rfl, _, _, _, [(32, 126)], rfl, B, (Ge.fresh Z hg1), jC (by kernel_rfl), fun c => Iff.rfl, by decide⟩, (Z.then c0)⟩
  refine csr (aB (fX rfl rfl) ?_); refine wan (aZ rfl (fun O => ?_) (fun O => ?_))
  ·refine csr (bL (vs := [_, _, _, _, _, _, _, _]) rfl dT rfl rfl rfl rfl fun i4 i5 c3 g7 c4 => ?_); have a0 := (Evo.refl [] w).then c4; refine aG (vs := [_]) dZ rfl (iB (es := [33, 47, 58, 64, 91, 96, 123, 126]) c3 (by decide)) rfl ?_; rintro _ i6 ⟨a1, c1, ob1, rfl, B, hg1, c5⟩; refine bN (wan (aK (aO (aE (cE rfl rfl rfl ?_))))); exact ⟨.inr ⟨_, _, nam9 G H D E F I J L M O, rfl, _, _, _, [(33, 47), (58, 64), (91, 96), (123, 126)], rfl, B, (Ge.fresh a0 hg1), jC (by kernel_rfl), fun c => Iff.rfl, by decide⟩, (a0.then c5)⟩
  refine csr (aB (fX rfl rfl) ?_); refine wan (aZ rfl (fun U => ?_) (fun U => ?_))
  ·refine csr (bL (vs := [_, _, _, _]) rfl dT rfl rfl rfl rfl fun i7 i8 c6 g8 c7 => ?_); have a2 := (Evo.refl [] w).then c7; refine aG (vs := [_]) dZ rfl (iB (es := [9, 13, 32, 32]) c6 (by decide)) rfl ?_; rintro _ i9 ⟨a1, c1, ob1, rfl, B, hg1, c8⟩; refine bN (wan (aK (aO (aE (cE rfl rfl rfl ?_))))); exact ⟨.inr ⟨_, _, nam10 G H D E F I J L M O U, rfl, _, _, _, [(9, 13), (32, 32)], rfl, B, (Ge.fresh a2 hg1), jC (by kernel_rfl), fun c => Iff.rfl, by decide⟩, (a2.then c8)⟩
  refine csr (aB (fX rfl rfl) ?_); refine wan (aZ rfl (fun V => ?_) (fun V => ?_))
  ·refine csr (bL (vs := [_, _]) rfl dT rfl rfl rfl rfl fun j0 j1 c9 g9 d0 => ?_); have a3 := (Evo.refl [] w).then d0; refine aG (vs := [_]) dZ rfl (iB (es := [65, 90]) c9 (by decide)) rfl ?_; rintro _ j2 ⟨a1, c1, ob1, rfl, B, hg1, d1⟩; refine bN (wan (aK (aO (aE (cE rfl rfl rfl ?_))))); exact ⟨.inr ⟨_, _, nam11 G H D E F I J L M O U V, rfl, _, _, _, [(65, 90)], rfl, B, (Ge.fresh a3 hg1), jC (by kernel_rfl), fun c => Iff.rfl, by decide⟩, (a3.then d1)⟩
  refine csr (aB (fX rfl rfl) ?_); refine wan (aZ rfl (fun W => ?_) (fun W => ?_))
  ·refine csr (bL (vs := [_, _, _, _, _, _, _, _]) rfl dT rfl rfl rfl rfl fun j3 j4 d2 h0 d3 => ?_); have a4 := (Evo.refl [] w).then d3; refine aG (vs := [_]) dZ rfl (iB (es := [48, 57, 65, 90, 95, 95, 97, 122]) d2 (by decide)) rfl ?_; rintro _ j5 ⟨a1, c1, ob1, rfl, B, hg1, d4⟩; refine bN (wan (aK (aO (aE (cE rfl rfl rfl ?_))))); exact ⟨.inr ⟨_, _, nam12 G H D E F I J L M O U V W, rfl, _, _, _, [(48, 57), (65, 90), (95, 95), (97, 122)], rfl, B, (Ge.fresh a4 hg1), jC (by kernel_rfl), fun c => Iff.rfl, by decide⟩, (a4.then d4)⟩
  refine csr (aB (fX rfl rfl) ?_); refine wan (aZ rfl (fun Y => ?_) (fun Y => ?_))
  ·refine csr (bL (vs := [_, _, _, _, _, _]) rfl dT rfl rfl rfl rfl fun j6 j7 d5 h3 d6 => ?_); have a5 := (Evo.refl [] w).then d6; refine aG (vs := [_]) dZ rfl (iB (es := [48, 57, 65, 70, 97, 102]) d5 (by decide)) rfl ?_; rintro _ j8 ⟨a1, c1, ob1, rfl, B, hg1, d7⟩; refine bN (wan (aK (aO (aE (cE rfl rfl rfl ?_))))); exact ⟨.inr ⟨_, _, nam13 G H D E F I J L M O U V W Y, rfl, _, _, _, [(48, 57), (65, 70), (97, 102)], rfl, B, (Ge.fresh a5 hg1), jC (by kernel_rfl), fun c => Iff.rfl, by decide⟩, (a5.then d7)⟩
  refine aN (aQ (aC (csr (bN (wan (aK (cE rfl rfl rfl ?_))))))); exact ⟨.inl ⟨namN G H D E F I J L M O U V W Y, rfl⟩, (Evo.refl [] w)⟩
theorem litS (f : Fl) (c : Int) : lP f c = jX (if f.fold = true then oH (fun x => x = c) else fun x => x = c) := rfl
theorem SH (c x : Int) : InR x [(c, c)] ↔ x = c := by rw [lB]; show c ≤ x ∧ x ≤ c ↔ _; omega
theorem EQ {w : World} {b : Nat} {s : ByteArray} {st : PS} {a : Option Addr} {c : Nat} {ob : Option Nat} (hR : RdAt w b s st a c ob) (r : Int) (h0 : 0 ≤ r) (h1 : r ≤ 1114111) :
    Calls Tryz.prog 116 #[.pointer (some ⟨b, 0, none⟩), .int .i32 r] w (Ret fun v w' => TOut w w' v (lP st.now r) ∧ Evo [] w w') := by
  have hap := hR.ap
  have hvr : Vr [(r, r)] := fun g hg => by rw [List.mem_singleton.1 hg]; exact ⟨h0, Int.le_refl _, h1⟩
  refine bE (N := 19) Tryz.func116 rfl rfl rfl ?_; refine csr (cO rfl dC fun b4 w1 a4 W Y => ?_); have a5 := W; have Z := Ge.new (Evo.refl [] w) W; refine wnn (csr (aA (aA (bL (vs := [_, _]) rfl dT rfl rfl rfl rfl fun b5 b6 a3 a9 F => ?_)))); refine aG (vs := [_]) dZ rfl (iB (es := [r, r]) a3 (by simp)) rfl ?_; rintro _ b7 ⟨a1, c1, ob1, rfl, a0, hg1, G⟩; have B := (((Evo.refl [] w).then Y).then F).then G; have D := G.blk0 (F.blk0 a4); refine wan (aM (csr (aA (aB (aH rfl) (aB (aD rfl fS) (wfl rfl rR rfl fI (G.blk0 (F.blk0 (Y.blk0 hR.blk))) rfl (wnn (eO rfl (fun H => ?_) (fun H => ?_)))))))))
  ·have hl9 : lP st.now r = jX (oH fun x => x = r) := by unfold lP; rw [if_pos H]
   refine aF (aA ?_); refine aG (vs := [_]) vT rfl (CR (l := [(r, r)]) a0 hvr (by simp) (SH r)) rfl ?_; rintro rv b8 ⟨a2, c2, ob2, rfl, a6, hg2, hl2, hcan2, heq2, E⟩; refine wan (csr (aA ?_))
   refine aG (vs := [_]) iW rfl (oM a6 (oD hcan2) (by have : ([(r, r)] : List (Int × Int)).length = 1 := rfl; omega) heq2) rfl ?_
   rintro rv a7 ⟨hT, I⟩; have J := (B.then E); have hb49 := fF (E.blk0 D); obtain ⟨vs, bs, rfl, hOT, hFr⟩ := hT; obtain ⟨ra, rc, ka, kc, rfl⟩ := id hOT.nine; refine aV rfl rfl aJ (I.blk0 (E.blk0 D)) rfl rfl ⟨rfl, rfl, rfl, rfl, rfl, rfl, rfl, rfl, rfl, trivial⟩ fun b9 L M => ?_
   try simp only [cH, Nat.reduceAdd] at L
   refine wnn (aK (bT rfl (ResOk.cellA rfl bF aJ L rfl) ?_)); refine ⟨?_, (((B.then E).then I).step M Z.mem1)⟩; rw [hl9]; refine ⟨_, bs, rfl, hOT.evo ((Evo.refl ([b4]) a7).step M (fun y hy => .inl hy)) (fun b hb h => ?_), hFr.older J.size⟩
   have := hFr.ge b hb; rw [List.mem_singleton.1 h] at this; omega
  have hl9 : lP st.now r = jX (fun x => x = r) := by unfold lP; rw [if_neg (by simp [H])]
  refine aN (aC (csr (aA ?_))); refine aG (vs := [_]) iW rfl (oM (l := [(r, r)]) a0 hvr (by simp) (SH r)) rfl ?_; rintro rv a8 ⟨hT, O⟩; have J := B; have hb49 := fF D; obtain ⟨vs, bs, rfl, hOT, hFr⟩ := hT; obtain ⟨ra, rc, ka, kc, rfl⟩ := id hOT.nine; refine aV rfl rfl aJ (O.blk0 D) rfl rfl ⟨rfl, rfl, rfl, rfl, rfl, rfl, rfl, rfl, rfl, trivial⟩ fun c0 U V => ?_
  try simp only [cH, Nat.reduceAdd] at U
  refine wnn (aK (bT rfl (ResOk.cellA rfl bF aJ U rfl) ?_)); refine ⟨?_, ((B.then O).step V Z.mem1)⟩; rw [hl9]; refine ⟨_, bs, rfl, hOT.evo ((Evo.refl ([b4]) a8).step V (fun y hy => .inl hy)) (fun b hb h => ?_), hFr.older J.size⟩
  have := hFr.ge b hb; rw [List.mem_singleton.1 h] at this; omega
end Go.Proofs.YtljadkcojnlioaaGreatDoor
namespace Go.Proofs.YtljadkcojnlioaaGreatDoor
open Go.RowKit Go.W
theorem AV {c : Int} (h : IsR c) : Utf8.encode c = bstr (eJ c) := by
  unfold IsR at h
  have hv : Utf8.valid c = true := by unfold Utf8.valid; simp; omega
  unfold Utf8.encode eJ iN
  rw [if_pos (show IsR c from h)]
  simp only [hv, if_true]
  by_cases h1 : c.toNat < 128
  · simp only [if_pos h1]; rfl
  · simp only [if_neg h1]
    by_cases h2 : c.toNat < 2048
    · simp only [if_pos h2]; rfl
    · simp only [if_neg h2]
      by_cases h3 : c.toNat < 65536
      · simp only [if_pos h3]; rfl
      · simp only [if_neg h3]; rfl
theorem hit_isR {s : ByteArray} {a w : Nat} (hw : 1 ≤ w) (h : Hit s a w) : IsR (eI s a w) := by
  by_cases e : IsR (eI s a w)
  · exact e
  · have := uY h
    rw [eJ, if_neg e] at this
    simp at this; omega
instance (s : ByteArray) (c : In) (i : Nat) : Decidable (GoesB s c i) := by unfold GoesB; infer_instance
end Go.Proofs.YtljadkcojnlioaaGreatDoor
namespace Go.Proofs.YtljadkcojnlioaaGreatDoor
open Go.W
attribute [local irreducible] Decidable.decide
theorem KC : dW Tryz.prog 45 := ⟨_, Tryz.func45, by kernel_rfl, by kernel_rfl⟩
theorem KB : dW Tryz.prog 46 := ⟨_, Tryz.func46, by kernel_rfl, by kernel_rfl⟩
theorem xW : dW Tryz.prog 58 := ⟨_, Tryz.func58, by kernel_rfl, by kernel_rfl⟩
theorem vM : dW Tryz.prog 150 := ⟨_, Tryz.func150, by kernel_rfl, by kernel_rfl⟩
theorem JW : dW Tryz.prog 71 := ⟨_, Tryz.func71, by kernel_rfl, by kernel_rfl⟩
theorem uP {w : World} {e : TypeId} {a : Option Addr} {n c : Nat} {ds : List Nat} {ob : Option Nat} (h : OwnS w e 1 a n c (ds.map fun d : Nat => Value.int .u8 (d : Int)) ob) (hl : ds.length = n) (hb : ∀ b, b ∈ ds → b < 256) : RSl 1 RB [] w (.slice a n c) ds := by
  have e1 : (ds.map fun d : Nat => [Value.int .u8 (d : Int)]).flatten = ds.map fun d : Nat => Value.int .u8 (d : Int) := by clear h hl hb; induction ds with | nil => rfl | cons d ds ih => simpa using ih
  rw [← e1] at h
  exact RSl.ofOwn h ⟨by simp, fun k h1 h2 => by simp only [List.getElem_map]; exact ⟨rfl, rfl, hb _ (List.getElem_mem _)⟩⟩ hl (fun _ _ h => by cases h)
theorem II (s : ByteArray) (a k : Nat) : -100000000 ≤ eI s a k ∧ eI s a k ≤ 100000000 := by
  have b0 := iC s a
  have b1 := iC s (a + 1)
  have b2 := iC s (a + 2)
  have b3 := iC s (a + 3)
  unfold eI
  repeat' split
  all_goals omega
theorem DF (l : List Nat) : (bstr l).size = l.length := by simp [bstr, ByteArray.size]
theorem isr_iff {n : Int} : IsR n ↔ (0 ≤ n ∧ n ≤ 1114111 ∧ (n < 55296 ∨ 57343 < n)) := Iff.rfl
theorem QM {w : World} (n : Int) : Calls Tryz.prog 71 #[.int .i64 n] w (Ret fun v w' => v = .bool (decide (IsR n)) ∧ Evo [] w w') := by
  refine bE (N := 17) Tryz.func71 rfl rfl rfl ?_; refine csr (wan (csr (aA (aB (dQ rfl rfl) ?_)))); refine aA (bH (t := 5) rfl (fun D => ?_) (fun D => ?_))
  ·refine aW (aA (aW (aB (dM rfl rfl) ?_))); refine bW (aA (bH (t := 9) rfl (fun E => ?_) (fun E => ?_)))
   ·refine aW (aA (aW (aB (dA rfl rfl) ?_))); refine aW (aA (bH (t := 12) rfl (fun B => ?_) (fun B => ?_)))
    ·refine aP (aP (aW (bW (bW (wan (aK (br1 ?_)))))))
     exact ⟨congrArg Value.bool (by first | exact decide_eq_decide.2 (by unfold IsR; omega) | exact (decide_eq_true (by unfold IsR; omega)).symm | exact (decide_eq_false (by unfold IsR; omega)).symm), (Evo.refl [] w)⟩
    refine aW (aA (aW (aB (eW rfl rfl) ?_))); refine aW (bR (bW (wan (aK (br1 ?_)))))
    exact ⟨congrArg Value.bool (by first | exact decide_eq_decide.2 (by unfold IsR; omega) | exact (decide_eq_true (by unfold IsR; omega)).symm | exact (decide_eq_false (by unfold IsR; omega)).symm), (Evo.refl [] w)⟩
   refine aP (aP (aP (eS ?_))); refine eS ?_; refine aP (bR (wan (aK (br1 ?_))))
   exact ⟨congrArg Value.bool (by first | exact decide_eq_decide.2 (by unfold IsR; omega) | exact (decide_eq_true (by unfold IsR; omega)).symm | exact (decide_eq_false (by unfold IsR; omega)).symm), (Evo.refl [] w)⟩
  refine aP (aP (bR (aA (aP (aP (aP (eS ?_))))))); refine eS ?_; refine aP (bR (wan (aK (br1 ?_))))
  exact ⟨congrArg Value.bool (by first | exact decide_eq_decide.2 (by unfold IsR; omega) | exact (decide_eq_true (by unfold IsR; omega)).symm | exact (decide_eq_false (by unfold IsR; omega)).symm), (Evo.refl [] w)⟩
theorem form_ok {w : World} (n : Int) (hn : -9223372036854775808 ≤ n) (a5 : n ≤ 9223372036854775807) : Calls Tryz.prog 46 #[.int .i64 n] w (Ret fun v w' => v = .string (bstr (eJ n)) ∧ Evo [] w w') := by
  refine bE (N := 60) Tryz.func46 rfl rfl rfl ?_; refine csr (wan (aM (csr (aA (aG (vs := [_]) JW rfl (QM _) rfl ?_))))); rintro _ w1 ⟨rfl, Z⟩; have B := (Evo.refl [] w).then Z; refine aB (mS rfl) ?_; refine wnn (aZ rfl (fun D => ?_) (fun D => ?_))
  ·refine csr (wan (aK (aE (br1 ?_))))
   exact ⟨by rw [show eJ n = [] from if_neg (by simpa using D)]; rfl, B⟩
  have hir : IsR n := by simpa using D
  have hir2 := isr_iff.1 hir; obtain ⟨m, rfl⟩ := Int.eq_ofNat_of_zero_le hir2.1; refine aN (aC (csr (aA ?_))); refine aB (FB (m := m) (n := 64) rfl rfl (by omega) (by omega) (by omega)) ?_; refine aB (aI rfl rfl (by omega) (by omega)) ?_
  refine aB (fY (128 + m % 64) rfl Tryz.underlying3 Tryz.underlying5 (by omega) (by simp [IntKind.max, IntKind.bits, IntKind.signed] <;> omega)) ?_
  refine wan (csr (aA ?_))
  refine aB (vB (m := m) (n := 64) rfl rfl (by omega) (by omega) (by omega) (by simp [IntKind.max, IntKind.signed, IntKind.bits]; omega)) ?_
  refine aB (FB (m := m / 64) (n := 64) rfl rfl (by omega) (by omega) (by omega)) ?_; refine aB (aI rfl rfl (by omega) (by omega)) ?_
  refine aB (fY (128 + m / 64 % 64) rfl Tryz.underlying3 Tryz.underlying5 (by omega) (by simp [IntKind.max, IntKind.bits, IntKind.signed] <;> omega)) ?_
  refine wan (csr (aA ?_))
  refine aB (vB (m := m) (n := 4096) rfl rfl (by omega) (by omega) (by omega) (by simp [IntKind.max, IntKind.signed, IntKind.bits]; omega)) ?_
  refine aB (FB (m := m / 4096) (n := 64) rfl rfl (by omega) (by omega) (by omega)) ?_; refine aB (aI rfl rfl (by omega) (by omega)) ?_
  refine aB (fY (128 + m / 4096 % 64) rfl Tryz.underlying3 Tryz.underlying5 (by omega) (by simp [IntKind.max, IntKind.bits, IntKind.signed] <;> omega)) ?_
  refine wan (aM (bK (csr (aA (aB (dA rfl rfl) ?_))))); refine wan (aZ rfl (fun E => ?_) (fun E => ?_))
  ·refine csr (aA ?_)
   refine aB (fY (m) rfl Tryz.underlying3 Tryz.underlying5 (by omega) (by simp [IntKind.max, IntKind.bits, IntKind.signed] <;> omega)) ?_
   refine bL (vs := [_]) rfl eM rfl rfl rfl rfl fun b4 w5 a0 a6 a1 => ?_
   have F := uP (ds := [m]) a0 rfl (by intro b hb; simp only [List.mem_cons, List.not_mem_nil, or_false] at hb; omega)
   refine aB (yW rfl F Tryz.underlying78 Tryz.underlying5 Tryz.underlying9) ?_; refine wan (aK (aO (aE (br1 ?_)))); refine ⟨?_, (B.then a1)⟩
   rw [show eJ (m : Int) = iN m from by rw [eJ, if_pos hir]; rfl]
   unfold iN
   repeat' split
   all_goals first | rfl | omega
  refine csr (aA (aB (dA rfl rfl) ?_)); refine wan (aZ rfl (fun G => ?_) (fun G => ?_))
  ·refine csr (aA ?_)
   refine aB (vB (m := m) (n := 64) rfl rfl (by omega) (by omega) (by omega) (by simp [IntKind.max, IntKind.signed, IntKind.bits]; omega)) ?_
   refine aB (aI rfl rfl (by omega) (by omega)) ?_
   refine aB (fY (192 + m / 64) rfl Tryz.underlying3 Tryz.underlying5 (by omega) (by simp [IntKind.max, IntKind.bits, IntKind.signed] <;> omega)) ?_
   refine aA (bL (vs := [_, _]) rfl eM rfl rfl rfl rfl fun a7 a8 H a2 I => ?_)
   have J := uP (ds := [192 + m / 64, 128 + m % 64]) H rfl (by intro b hb; simp only [List.mem_cons, List.not_mem_nil, or_false] at hb; omega)
   refine aB (yW rfl J Tryz.underlying78 Tryz.underlying5 Tryz.underlying9) ?_; refine wan (aK (aO (aE (br1 ?_)))); refine ⟨?_, (B.then I)⟩
   rw [show eJ (m : Int) = iN m from by rw [eJ, if_pos hir]; rfl]
   unfold iN
   repeat' split
   all_goals first | rfl | omega
  refine csr (aA (aB (dA rfl rfl) ?_)); refine wan (aZ rfl (fun L => ?_) (fun L => ?_))
  ·refine csr (aA ?_)
   refine aB (vB (m := m) (n := 4096) rfl rfl (by omega) (by omega) (by omega) (by simp [IntKind.max, IntKind.signed, IntKind.bits]; omega)) ?_
   refine aB (aI rfl rfl (by omega) (by omega)) ?_
   refine aB (fY (224 + m / 4096) rfl Tryz.underlying3 Tryz.underlying5 (by omega) (by simp [IntKind.max, IntKind.bits, IntKind.signed] <;> omega)) ?_
   refine aA (aA (bL (vs := [_, _, _]) rfl eM rfl rfl rfl rfl fun a9 b5 M a3 O => ?_))
   have U := uP (ds := [224 + m / 4096, 128 + m / 64 % 64, 128 + m % 64]) M rfl (by intro b hb; simp only [List.mem_cons, List.not_mem_nil, or_false] at hb; omega)
   refine aB (yW rfl U Tryz.underlying78 Tryz.underlying5 Tryz.underlying9) ?_; refine wan (aK (aO (aE (br1 ?_)))); refine ⟨?_, (B.then O)⟩
   rw [show eJ (m : Int) = iN m from by rw [eJ, if_pos hir]; rfl]
   unfold iN
   repeat' split
   all_goals first | rfl | omega
  refine aN (aQ (aC (csr (aA ?_))))
  refine aB (vB (m := m) (n := 262144) rfl rfl (by omega) (by omega) (by omega) (by simp [IntKind.max, IntKind.signed, IntKind.bits]; omega)) ?_
  refine aB (aI rfl rfl (by omega) (by omega)) ?_
  refine aB (fY (240 + m / 262144) rfl Tryz.underlying3 Tryz.underlying5 (by omega) (by simp [IntKind.max, IntKind.bits, IntKind.signed] <;> omega)) ?_
  refine aA (aA (aA (bL (vs := [_, _, _, _]) rfl eM rfl rfl rfl rfl fun b6 b7 V a4 W => ?_)))
  have Y := uP (ds := [240 + m / 262144, 128 + m / 4096 % 64, 128 + m / 64 % 64, 128 + m % 64]) V rfl (by intro b hb; simp only [List.mem_cons, List.not_mem_nil, or_false] at hb; omega)
  refine aB (yW rfl Y Tryz.underlying78 Tryz.underlying5 Tryz.underlying9) ?_; refine wan (aK (br1 ?_)); refine ⟨?_, (B.then W)⟩
  rw [show eJ (m : Int) = iN m from by rw [eJ, if_pos hir]; rfl]
  unfold iN
  repeat' split
  all_goals first | rfl | omega
theorem VQ {w : World} (s : ByteArray) (a k : Nat) (hk : 1 ≤ k) (hk4 : k ≤ 4) (hs : a + k ≤ s.size) (hl : s.size ≤ 140737488355328) : Calls Tryz.prog 45 #[.string s, .int .i64 (a : Nat), .int .i64 (k : Nat)] w (Ret fun v w' => v = .int .i64 (eI s a k) ∧ Evo [] w w') := by
  have b0 := iC s a; have b1 := iC s (a + 1); have b2 := iC s (a + 2); have b3 := iC s (a + 3); refine bE (N := 43) Tryz.func45 rfl rfl rfl ?_; refine csr (wan (csr (aA (aA ?_)))); refine aB (fN (n := a) rfl rfl Tryz.underlying9 rfl (by omega)) ?_
  refine aB (fY (sb s a) rfl Tryz.underlying5 Tryz.underlying3 (by omega) (by simp [IntKind.max, IntKind.bits, IntKind.signed] <;> omega)) ?_
  refine wan (aM (csr (aA (wel ?_)))); refine wnn (aZ rfl (fun D => ?_) (fun D => ?_))
  ·refine csr (aA (wan (aK (aE (br1 ?_)))))
   exact ⟨by unfold eI; rw [if_pos (by omega)], (Evo.refl [] w)⟩
  refine aN (aC (csr (aA ?_))); refine aB (dX rfl rfl (by omega) (by omega)) ?_; refine wan (aM (gR (α := Int) (fun x => [(8, .int .i64 x)]) [(0, _), (1, _), (2, _), (6, _), (7, _)] (fun x wr => Evo [] w wr ∧ (x = (sb s a : Int) - (if k = 3 then 224 else 192))) ⟨rfl, rfl, rfl, rfl, rfl, trivial⟩ ?_ ?_))
  ·refine csr (aA (wel ?_)); refine wnn (aZ rfl (fun E => ?_) (fun E => ?_))
   ·refine aF (aA ?_); refine aB (dX rfl rfl (by omega) (by omega)) ?_; refine bN (aR (aY ?_)); refine ⟨_, ⟨rfl, trivial⟩, ⟨rfl, rfl, rfl, rfl, rfl, trivial⟩, (Evo.refl [] w), ?_⟩
    split <;> omega
   refine aN (aY ?_); refine ⟨_, ⟨rfl, trivial⟩, ⟨rfl, rfl, rfl, rfl, rfl, trivial⟩, (Evo.refl [] w), ?_⟩
   split <;> omega
  rintro x1 w1 ⟨H, hx1⟩; refine aC ?_; show CW _ _ _ _ [(8, _), (0, _), (1, _), (2, _), (6, _), (7, _)] _; refine aM (gR (α := Int) (fun x => [(8, .int .i64 x)]) [(0, _), (1, _), (2, _), (6, _)] (fun x wr => Evo [] w1 wr ∧ (x = (sb s a : Int) - (if k = 4 then 240 else if k = 3 then 224 else 192))) ⟨rfl, rfl, rfl, rfl, trivial⟩ ?_ ?_)
  ·refine csr (aA (wel ?_)); refine wnn (aZ rfl (fun F => ?_) (fun F => ?_))
   ·refine aF (aA ?_); refine aB (dX rfl rfl (by omega) (by omega)) ?_; refine bN (aR (aY ?_)); refine ⟨_, ⟨rfl, trivial⟩, ⟨rfl, rfl, rfl, rfl, trivial⟩, (Evo.refl [] w1), ?_⟩
    repeat' split
    all_goals (try rw [hx1])
    all_goals (try split)
    all_goals omega
   refine aN (aY ?_); refine ⟨_, ⟨rfl, trivial⟩, ⟨rfl, rfl, rfl, rfl, trivial⟩, (Evo.refl [] w1), ?_⟩
   repeat' split
   all_goals (try rw [hx1])
   all_goals (try split)
   all_goals omega
  rintro x2 w4 ⟨I, hx2⟩; refine aC ?_; show CW _ _ _ _ [(8, _), (0, _), (1, _), (2, _), (6, _)] _; refine aM (csr (wan (bK ?_)))
  refine dL (α := Nat × Int) ((1, x2)) (fun x => [(9, .int .i64 (x.1 : Nat)), (8, .int .i64 x.2)]) [(0, _), (1, _), (2, _), (6, _)] (fun x wr => Evo [] w4 wr ∧ (1 ≤ x.1 ∧ x.1 ≤ k ∧ (x.1 = 1 → x.2 = x2) ∧ (x.1 = 2 → x.2 = x2 * 64 + sb s (a + 1) - 128) ∧ (x.1 = 3 → x.2 = (x2 * 64 + sb s (a + 1) - 128) * 64 + sb s (a + 2) - 128) ∧ (x.1 = 4 → x.2 = ((x2 * 64 + sb s (a + 1) - 128) * 64 + sb s (a + 2) - 128) * 64 + sb s (a + 3) - 128))) (fun x => 4 - x.1) ⟨rfl, rfl, trivial⟩ ⟨rfl, rfl, rfl, rfl, trivial⟩ ⟨Evo.refl _ _, ⟨by simp, by simp; omega, by simp, by simp, by simp, by simp⟩⟩ ?_
  rintro ⟨j, g⟩ wr7 ⟨B, ⟨h1, h2, g1, g2, g3, g4⟩⟩; show CW _ _ _ _ [(9, .int .i64 (j : Nat)), (8, .int .i64 g), (0, _), (1, _), (2, _), (6, _)] _
  try dsimp only at h1 h2 g1 g2 g3 g4
  refine aM (csr (aA (aA (aB (dA rfl rfl) ?_)))); refine wnn (aZ rfl (fun G => ?_) (fun G => ?_))
  ·refine aN (aC (aM (bK (aF ?_))))
   have hj' : j < 4 := by omega
   have bj := iC s (a + j)
   have hxb : -240 ≤ x2 ∧ x2 ≤ 255 := by rw [hx2]; (repeat' split) <;> omega
   have hj3 : j = 1 ∨ j = 2 ∨ j = 3 := by omega
   have hgb : -1100000 ≤ g ∧ g ≤ 1100000 := by omega
   refine aA ?_; refine aB (lW rfl rfl (by omega) (by omega)) ?_; refine aA (aA (aA ?_)); refine aB (aI rfl rfl (by omega) (by omega)) ?_; refine aB (fN (n := a + j) rfl rfl Tryz.underlying9 (by omega) (by omega)) ?_
   refine aB (fY (sb s (a + j)) rfl Tryz.underlying5 Tryz.underlying3 (by omega) (by simp [IntKind.max, IntKind.bits, IntKind.signed] <;> omega)) ?_
   refine aB (aI rfl rfl (by omega) (by omega)) ?_; refine aB (dX rfl rfl (by omega) (by omega)) ?_; refine bN (aR (aQ (aC (aF (aA ?_))))); refine aB (aI rfl rfl (by omega) (by omega)) ?_; refine bN (aR (aY ?_)); refine ⟨(j + 1, _), ?_, ⟨rfl, rfl, trivial⟩, ⟨rfl, rfl, rfl, rfl, trivial⟩, B, ?_⟩
   · (try dsimp only); omega
   try dsimp only
   refine ⟨by omega, by omega, fun h => by omega, fun h => ?_, fun h => ?_, fun h => ?_⟩
   · obtain rfl : j = 1 := by omega
     have := g1 rfl; omega
   · obtain rfl : j = 2 := by omega
     have := g2 rfl; omega
   · obtain rfl : j = 3 := by omega
     have := g3 rfl; omega
  refine cW (bS (bS (cV (aC ?_)))); refine csr (aA (wan (aK (br1 ?_)))); refine ⟨?_, ((((Evo.refl [] w).then H).then I).then B)⟩
  obtain rfl : j = k := by omega
  congr 1
  unfold eI
  repeat' split at hx2
  all_goals (repeat' split)
  all_goals omega
theorem zO {w : World} (s : ByteArray) (a : Nat) (ha : a ≤ s.size) (hl : s.size ≤ 140737488355328) : Calls Tryz.prog 17 #[.string s, .int .i64 (a : Nat)] w (Ret fun v w' => v = .tuple #[.int .i32 (cL s a).1, .int .i64 ((cL s a).2 : Nat)] ∧ Evo [] w w') := by
  refine bE (N := 52) Tryz.func17 rfl rfl rfl ?_; refine csr (bN (wan (aM (csr (aA (aB (dA rfl rfl) ?_)))))); refine aA (bH (t := 11) rfl (fun J => ?_) (fun J => ?_))
  ·refine aP (aP (aP (aP (bW (wnn (cZ rfl ?_)))))); refine csr (bN (wan (aK (aE (cE rfl rfl rfl ?_)))))
   exfalso; omega
  refine aW (aA (aW (aA (aW (aB (cQ rfl Tryz.underlying9 rfl) ?_))))); refine aW (aB (dQ rfl rfl) ?_); refine bR (wnn (aZ rfl (fun L => ?_) (fun L => ?_)))
  ·refine csr (bN (wan (aK (aE (cE rfl rfl rfl ?_)))))
   exact ⟨by rw [pL (by omega)]; rfl, (Evo.refl [] w)⟩
  refine aN (aC (aM (csr (wan (bK ?_))))); refine dL (α := Nat) (1) (fun k => [(6, .int .i64 (k : Nat))]) [(0, _), (1, _)] (fun k wr => Evo [] w wr ∧ (1 ≤ k ∧ k ≤ 5 ∧ ∀ w, 1 ≤ w → w < k → a + w ≤ s.size → ¬ Hit s a w)) (fun k => 5 - k) ⟨rfl, trivial⟩ ⟨rfl, rfl, trivial⟩ ⟨Evo.refl _ _, ⟨by omega, by omega, fun w h1 h2 => by omega⟩⟩ ?_; rintro k wr1 ⟨G, ⟨h1, h2, hno⟩⟩; show CW _ _ _ _ [(6, _), (0, _), (1, _)] _; have E := (Evo.refl [] w).then G; refine aM (csr (aA (aB (dM rfl rfl) ?_))); refine aA (bH (t := 19) rfl (fun M => ?_) (fun M => ?_))
  ·refine aW (aA (aW (aA (aW (aB (cQ rfl Tryz.underlying9 rfl) ?_))))); refine aW (aA (aW ?_)); refine aB (dX rfl rfl (by omega) (by omega)) ?_; refine aW (aB (dM rfl rfl) ?_); refine bW (wnn (aZ rfl (fun O => ?_) (fun O => ?_)))
   ·refine aN (aC (aM (bK (csr (aA (aA (aA ?_))))))); refine aG (vs := [_, _, _]) KC rfl (VQ s a k (by omega) (by omega) (by omega) hl) rfl ?_; rintro _ w4 ⟨rfl, H⟩
    have hgb : -9223372036854775808 ≤ eI s a k ∧ eI s a k ≤ 9223372036854775807 := by have := II s a k; omega
    refine wan (csr (aA (aG (vs := [_]) KB rfl (form_ok _ hgb.1 hgb.2) rfl ?_))); rintro _ w8 ⟨rfl, I⟩; have F := (G.then H).then I; refine wan (csr (aA (aB (cQ rfl Tryz.underlying9 rfl) ?_))); refine aA (wel ?_); refine aA (bH (t := 39) rfl (fun B => ?_) (fun B => ?_))
    ·refine aW (aA (aW (aA (aW (aA (aW (aA (aW ?_)))))))); refine aB (aI rfl rfl (by omega) (by omega)) ?_; refine aW ?_; refine aB (yU (l := a) (h := a + k) rfl rfl rfl Tryz.underlying9 rfl (by omega) (by omega) (by omega)) ?_; refine aW (aA (aW (aB (fX rfl rfl) ?_))); refine bW (wnn (aZ rfl (fun D => ?_) (fun D => ?_)))
     ·have hit : Hit s a k := (AL (by omega)).2 (by assumption); have hn := pM (by omega) (by omega) (by omega) hit; refine csr (aA ?_)
      refine aB (fM rfl Tryz.underlying3 Tryz.underlying21 (by simp [IntKind.min, IntKind.signed, IntKind.bits]; omega) (by simp [IntKind.max, IntKind.signed, IntKind.bits]; omega)) ?_
      refine aA (bN (wan (aK (aO (aE (aE (aO (aE (cE rfl rfl rfl ?_))))))))); exact ⟨by rw [hn.1], ((E.then H).then I)⟩
     refine aN (aQ (aC (aF (aA ?_)))); refine aB (aI rfl rfl (by omega) (by omega)) ?_; refine bN (aR (aY ?_)); refine ⟨k + 1, ?_, ⟨rfl, trivial⟩, ⟨rfl, rfl, trivial⟩, F, ?_⟩
     · omega
     refine ⟨by omega, by omega, fun w h3 h4 h5 => ?_⟩
     by_cases hw : w < k
     · exact hno w h3 hw h5
     · obtain rfl : w = k := by omega
       intro hit
       first | exact D ((AL (by omega)).1 hit) | exact B (by rw [DF, uY hit])
    refine aP (aP (aP (aP (aP (aP (aP (aP (bR (wnn (cF rfl ?_)))))))))); refine aN (aQ (aC (aF (aA ?_)))); refine aB (aI rfl rfl (by omega) (by omega)) ?_; refine bN (aR (aY ?_)); refine ⟨k + 1, ?_, ⟨rfl, trivial⟩, ⟨rfl, rfl, trivial⟩, F, ?_⟩
    · omega
    refine ⟨by omega, by omega, fun w h3 h4 h5 => ?_⟩
    by_cases hw : w < k
    · exact hno w h3 hw h5
    · obtain rfl : w = k := by omega
      intro hit
      first | exact D ((AL (by omega)).1 hit) | exact B (by rw [DF, uY hit])
   refine cW (bS (bS (cV (aC ?_)))); refine csr (bN (wan (aK (cE rfl rfl rfl ?_))))
   exact ⟨by rw [pE fun w h3 h4 h5 => hno w h3 (by omega) h5]; rfl, E⟩
  refine aP (aP (aP (aP (aP (aP (bR (wnn (cF rfl ?_)))))))); refine cW (bS (bS (cV (aC ?_)))); refine csr (bN (wan (aK (cE rfl rfl rfl ?_))))
  exact ⟨by rw [pE fun w h3 h4 h5 => hno w h3 (by omega) h5]; rfl, E⟩
theorem HF {w : World} (r : Int) : Calls Tryz.prog 150 #[.int .i32 r] w (Ret fun v w' => v = .int .i64 (if r < 128 then 1 else if r < 2048 then 2 else if r < 65536 then 3 else 4) ∧ Evo [] w w') := by
  refine bE (N := 12) Tryz.func150 rfl rfl rfl ?_; refine csr (wan (aM (bK (csr (aA (aB (dA rfl rfl) ?_)))))); refine wan (aZ rfl (fun B => ?_) (fun B => ?_))
  ·refine csr (wan (aK (aO (aE (br1 ?_)))))
   exact ⟨by congr 1; (repeat' split) <;> omega, (Evo.refl [] w)⟩
  refine csr (aA (aB (dA rfl rfl) ?_)); refine wan (aZ rfl (fun D => ?_) (fun D => ?_))
  ·refine csr (wan (aK (aO (aE (br1 ?_)))))
   exact ⟨by congr 1; (repeat' split) <;> omega, (Evo.refl [] w)⟩
  refine csr (aA (aB (dA rfl rfl) ?_)); refine wan (aZ rfl (fun E => ?_) (fun E => ?_))
  ·refine csr (wan (aK (aO (aE (br1 ?_)))))
   exact ⟨by congr 1; (repeat' split) <;> omega, (Evo.refl [] w)⟩
  refine aN (aQ (aC (csr (wan (aK (br1 ?_))))))
  exact ⟨by congr 1; (repeat' split) <;> omega, (Evo.refl [] w)⟩
theorem xK {w : World} (s : ByteArray) (a : Nat) (ha : a ≤ s.size) (hl : s.size ≤ 140737488355328) : Calls Tryz.prog 58 #[.string s, .int .i64 (a : Nat)] w (Ret fun v w' => v = .bool (decide (a + 3 ≤ s.size ∧ s.extract a (a + 3) = bstr [239, 191, 189])) ∧ Evo [] w w') := by
  refine bE (N := 18) Tryz.func58 rfl rfl rfl ?_; refine csr (wan (csr (aA ?_))); refine aB (aI rfl rfl (by omega) (by omega)) ?_; refine aA (aB (cQ rfl Tryz.underlying9 rfl) ?_); refine aB (dM rfl rfl) ?_; refine aA (bH (t := 10) rfl (fun B => ?_) (fun B => ?_))
  ·refine aW (aA (aW (aA (aW (aA (aW ?_)))))); refine aB (aI rfl rfl (by omega) (by omega)) ?_; refine aW ?_; refine aB (yU (l := a) (h := a + 3) rfl rfl rfl Tryz.underlying9 rfl (by omega) (by omega) (by omega)) ?_; refine aW (aB (fX rfl rfl) ?_); refine bW (wan (aK (br1 ?_))); refine ⟨congrArg Value.bool (decide_eq_decide.2 ?_), (Evo.refl [] w)⟩; constructor
   · exact fun h => ⟨by omega, h⟩
   · exact fun h => h.2
  refine aP (aP (aP (aP (aP (aP (bR (wan (aK (br1 ?_))))))))); exact ⟨congrArg Value.bool (decide_eq_false (by omega)).symm, (Evo.refl [] w)⟩
theorem CM {s : ByteArray} {a : Nat} (ha : a < s.size) (h : (Utf8.decode s a).1 = 65533) (hr : ¬ (a + 3 ≤ s.size ∧ s.extract a (a + 3) = bstr [239, 191, 189])) : cL s a = (-1, 0) := by
  have h1 := IX s a h ha
  have h2 := sH s a h ha
  unfold cL
  rw [if_neg]
  rintro ⟨_, h3⟩
  rcases h1 with h1 | h1
  · exact h3 ⟨h, h1⟩
  · exact hr (h2.1 h1)
theorem AG {s : ByteArray} {a : Nat} (ha : a < s.size) (h : ¬ (Utf8.decode s a).1 = 65533 ∨ (a + 3 ≤ s.size ∧ s.extract a (a + 3) = bstr [239, 191, 189])) :
    (cL s a).1 = ((Utf8.decode s a).1 : Nat) ∧ (((cL s a).2 : Nat) : Int) = if ((Utf8.decode s a).1 : Int) < 128 then 1 else if ((Utf8.decode s a).1 : Int) < 2048 then 2 else if ((Utf8.decode s a).1 : Int) < 65536 then 3 else 4 := by
  have hn : ¬ ((Utf8.decode s a).1 = 65533 ∧ (Utf8.decode s a).2 = 1) := fun ⟨h1, h2⟩ => by
    rcases h with h | h
    · exact h h1
    · rw [(sH s a h1 ha).2 h] at h2; cases h2
  have hw := FE s a ha hn
  unfold cL
  rw [if_pos ⟨ha, hn⟩]
  refine ⟨rfl, ?_⟩
  simp only
  rw [hw]
  repeat' split
  all_goals first | rfl | omega
theorem next_ok {w : World} (s : ByteArray) (a : Nat) (ha : a ≤ s.size) (hl : s.size ≤ 140737488355328) : Calls Tryz.prog 135 #[.string s, .int .i64 (a : Nat)] w (Ret fun v w' => v = .tuple #[.int .i32 (cL s a).1, .int .i64 ((cL s a).2 : Nat)] ∧ Evo [] w w') := by
  refine bE (N := 44) Tryz.func135 rfl rfl rfl ?_; refine csr (bN (wan (aM (csr (aA (aB (dA rfl rfl) ?_)))))); refine aA (bH (t := 10) rfl (fun H => ?_) (fun H => ?_))
  ·refine aP (aP (aP (aP (bW (wnn (cZ rfl ?_)))))); refine csr (bN (wan (aK (aE (cE rfl rfl rfl ?_)))))
   exfalso; omega
  refine aW (aA (aW (aA (aW (aB (cQ rfl Tryz.underlying9 rfl) ?_))))); refine aW (aB (dQ rfl rfl) ?_); refine bR (wnn (aZ rfl (fun I => ?_) (fun I => ?_)))
  ·refine csr (bN (wan (aK (aE (cE rfl rfl rfl ?_)))))
   exact ⟨by rw [pL (by omega)]; rfl, (Evo.refl [] w)⟩
  refine aN (aC (aM (csr ?_)))
  have hlt : a < s.size := by omega
  refine aA (aA (aA (aB (cQ rfl Tryz.underlying9 rfl) ?_))); refine aA ?_; refine aB (aI rfl rfl (by omega) (by omega)) ?_; refine aB (lH rfl rfl) ?_
  refine aB (yU (l := a) (h := min s.size (a + 4)) rfl rfl rfl Tryz.underlying9 rfl (by split <;> omega) (by omega) (by omega)) ?_
  refine CC rfl rfl Tryz.underlying9 fun b1 w2 U V W => ?_; refine wnn (bK (dL (α := Nat) (0) (fun k => []) [(0, _), (1, _), (24, _)] (fun k wr => Evo [] w2 wr ∧ (True)) (fun k => 0) trivial ⟨rfl, rfl, rfl, trivial⟩ ⟨Evo.refl _ _, trivial⟩ ?_)); rintro k wr8 ⟨G, _⟩; show CW _ _ _ _ [(0, _), (1, _), (24, _)] _; refine csr ?_
  refine HE rfl rfl (G.blk0 U) (by simp; omega) fun Z Y J => ?_
  have D := (((Evo.refl [] w).then W).then G).step J (Ge.new (Evo.refl [] w) V).mem1; have hcut := ME s a hlt; refine aB (cC rfl rfl) ?_; refine wnn (aM (cZ rfl ?_)); refine aN (aC (bK (csr (aB (cC rfl rfl) ?_)))); refine aB (cC rfl rfl) ?_; refine bN (wan (aM (csr (aA (aB (eW rfl rfl) ?_))))); refine aA (bH (t := 31) rfl (fun L => ?_) (fun L => ?_))
  ·refine aP (aP (aP (eS ?_))); refine eS ?_; refine eS ?_; refine eS ?_; refine aP (bW (wnn (cZ rfl ?_))); refine cW (bS (yV rfl (bS (cV (aC ?_))))); refine csr (bN (wan (aK (cE rfl rfl rfl ?_))))
   exfalso; omega
  refine aW (aA (aW (wel ?_))); refine aW (aA (bH (t := 34) rfl (fun B => ?_) (fun B => ?_)))
  ·refine aW (aA (aW (aA (aW ?_)))); refine aG (vs := [_, _]) xW rfl (xK s a (by omega) hl) rfl ?_; rintro _ a0 ⟨rfl, F⟩; refine aW (aB (mS rfl) ?_); refine aW (bW (bR (wnn (aZ rfl (fun E => ?_) (fun E => ?_)))))
   ·refine cW (bS (yV rfl (bS (cV (aC ?_))))); refine csr (bN (wan (aK (cE rfl rfl rfl ?_)))); rw [hcut] at B
    exact ⟨by rw [CM hlt (by omega) E]; rfl, (D.then F)⟩
   refine aN (aC (csr (aA (aA (aG (vs := [_]) vM rfl (HF _) rfl ?_))))); rintro _ a1 ⟨rfl, M⟩; refine bN (wan (aK (aO (aE (aO (aE (cE rfl rfl rfl ?_))))))); rw [hcut] at B ⊢; have hg := AG hlt (.inr (Decidable.not_not.1 E))
   exact ⟨by rw [hg.1, hg.2]; rfl, ((D.then F).then M)⟩
  refine aP (aP (aP (aP (aW (bR (bR (wnn (cF rfl ?_)))))))); refine aN (aC (csr (aA (aA (aG (vs := [_]) vM rfl (HF _) rfl ?_))))); rintro _ a2 ⟨rfl, O⟩; refine bN (wan (aK (aO (aE (aO (aE (cE rfl rfl rfl ?_))))))); rw [hcut] at B ⊢; have hg := AG hlt (.inl (by omega))
  exact ⟨by rw [hg.1, hg.2]; rfl, (D.then O)⟩
end Go.Proofs.YtljadkcojnlioaaGreatDoor
