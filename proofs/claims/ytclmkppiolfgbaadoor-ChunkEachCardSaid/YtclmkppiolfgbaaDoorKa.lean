/- The plain law of layer 17: rows of bits, the form of a list of samples, and what reads it back. No program stands here. -/
import Derived.Lib.BitFns
import Derived.Lib.TrailingZeros
import Derived.Test.YtclmkppiolfgbaaDoorFw4
namespace Go.Proofs.YtclmkppiolfgbaaDoor
set_option linter.unusedSimpArgs false
set_option linter.unusedVariables false
open Go Go.W

/-! ### Rows of bits -/
/-- v in n bits, the highest first. -/
def num (v n : Nat) : List Bool := (List.range n).map fun i => v.testBit (n - 1 - i)
def unnum (l : List Bool) : Nat := l.foldl (fun a b => 2 * a + b.toNat) 0

@[simp] theorem num_length (v n : Nat) : (num v n).length = n := by simp [num]
theorem num_get (v n i : Nat) (h : i < n) : (num v n)[i]? = some (v.testBit (n - 1 - i)) := by simp [num, h]
theorem num_snoc (v n : Nat) : num v (n + 1) = num (v / 2) n ++ [v.testBit 0] := by
  apply List.ext_getElem?
  intro i
  by_cases h : i < n
  · rw [num_get _ _ _ (by omega), List.getElem?_append_left (by simpa using h), num_get _ _ _ h]
    rw [show n + 1 - 1 - i = (n - 1 - i) + 1 by omega, Nat.testBit_succ]
  · by_cases h2 : i = n
    · subst h2
      rw [num_get _ _ _ (by omega), List.getElem?_append_right (by simp)]
      simp
    · rw [List.getElem?_eq_none (by simp; omega), List.getElem?_eq_none (by simp; omega)]
theorem unnum_snoc (l : List Bool) (b : Bool) : unnum (l ++ [b]) = 2 * unnum l + b.toNat := by simp [unnum]
theorem unnum_num : ∀ (n v : Nat), v < 2 ^ n → unnum (num v n) = v
  | 0, v, h => by simp at h; subst h; rfl
  | n + 1, v, h => by
    rw [num_snoc, unnum_snoc, unnum_num n (v / 2) (by rw [Nat.pow_succ] at h; omega)]
    have : (v.testBit 0).toNat = v % 2 := by
      rw [Nat.testBit_zero]; rcases Nat.mod_two_eq_zero_or_one v with h | h <;> simp [h]
    omega
theorem unnum_lt (l : List Bool) : unnum l < 2 ^ l.length := by
  suffices ∀ (n : Nat) (l : List Bool), l.length = n → unnum l < 2 ^ n from this _ l rfl
  intro n
  induction n with
  | zero => intro l h; have := List.eq_nil_of_length_eq_zero h; subst this; decide
  | succ n ih =>
    intro l h
    have hne : l ≠ [] := by intro h2; subst h2; simp at h
    obtain ⟨l', b, rfl⟩ : ∃ l' b, l = l' ++ [b] := ⟨l.dropLast, l.getLast hne, (List.dropLast_concat_getLast hne).symm⟩
    have := ih l' (by simpa using h)
    rw [unnum_snoc, Nat.pow_succ]
    cases b <;> simp <;> omega
theorem num_take_succ (v n k : Nat) (h : k < n) : (num v n).take (k + 1) = (num v n).take k ++ [v.testBit (n - 1 - k)] := by
  rw [List.take_add_one, num_get _ _ _ h]; rfl

/-! ### Rows of bits in bytes -/
def bitAt (bs : List Nat) (i : Nat) : Bool := (bs.getD (i / 8) 0).testBit (7 - i % 8)
/-- n bytes hold the row, the highest bit of a byte first; behind it stand zeros. -/
structure PacksN (bs : List Nat) (l : List Bool) (n : Nat) : Prop where
  len : bs.length = n
  lt : ∀ b, b ∈ bs → b < 256
  bit : ∀ i, i < 8 * n → bitAt bs i = l.getD i false
abbrev Packs (bs : List Nat) (l : List Bool) : Prop := PacksN bs l ((l.length + 7) / 8)

theorem PacksN.uniq {a b : List Nat} {l : List Bool} {n : Nat} (ha : PacksN a l n) (hb : PacksN b l n) : a = b := by
  apply List.ext_getElem (by rw [ha.len, hb.len])
  intro k h1 h2
  have hk : k < n := by rw [← ha.len]; exact h1
  apply Nat.eq_of_testBit_eq
  intro j
  by_cases hj : j < 8
  · have e1 := ha.bit (8 * k + (7 - j)) (by omega)
    have e2 := hb.bit (8 * k + (7 - j)) (by omega)
    rw [← e2] at e1
    simp only [bitAt, show (8 * k + (7 - j)) / 8 = k by omega, show 7 - (8 * k + (7 - j)) % 8 = j by omega] at e1
    simpa [List.getD_eq_getElem?_getD, h1, h2] using e1
  · have f1 := ha.lt _ (List.getElem_mem h1)
    have f2 := hb.lt _ (List.getElem_mem h2)
    have hp : (256 : Nat) ≤ 2 ^ j := by have := Nat.pow_le_pow_right (n := 2) (by omega) (show 8 ≤ j by omega); simpa using this
    rw [Nat.testBit_lt_two_pow (by omega), Nat.testBit_lt_two_pow (by omega)]
theorem PacksN.bytes {a b : List Nat} {l : List Bool} {n : Nat} (ha : PacksN a l n) : ∀ b, b ∈ a → b < 256 := ha.lt
theorem PacksN.nil (n : Nat) : PacksN (List.replicate n 0) [] n := by
  refine ⟨by simp, fun b hb => by simp at hb; omega, fun i hi => ?_⟩
  simp [bitAt, List.getD_eq_getElem?_getD, show i / 8 < n by omega]
theorem PacksN.grow {bs : List Nat} {l : List Bool} {n : Nat} (h : PacksN bs l n) (hl : l.length ≤ 8 * n) : PacksN (bs ++ [0]) l (n + 1) := by
  refine ⟨by simp [h.len], fun b hb => ?_, fun i hi => ?_⟩
  · rcases List.mem_append.1 hb with hb | hb
    · exact h.lt b hb
    · simp at hb; omega
  · by_cases hin : i < 8 * n
    · rw [← h.bit i hin]
      simp only [bitAt, List.getD_eq_getElem?_getD]
      rw [List.getElem?_append_left (by rw [h.len]; omega)]
    · have : i / 8 = n := by omega
      rw [List.getD_eq_getElem?_getD, List.getElem?_eq_none (by omega)]
      simp [bitAt, List.getD_eq_getElem?_getD, this, ← h.len]
theorem testBit_mul_pow (b : Bool) (s j : Nat) : (b.toNat * 2 ^ s).testBit j = (b && decide (j = s)) := by
  cases b
  · simp
  · simp [Nat.testBit_two_pow, eq_comm]
/-- One bit is put behind the row. -/
theorem PacksN.snoc {bs : List Nat} {l : List Bool} {n : Nat} (h : PacksN bs l n) (hl : l.length < 8 * n) (b : Bool) {x y : Nat} (hx : bs[l.length / 8]? = some x) (hy : y = x ||| (b.toNat * 2 ^ (7 - l.length % 8))) : PacksN (bs.set (l.length / 8) y) (l ++ [b]) n := by
  have hk : l.length / 8 < bs.length := by rw [h.len]; omega
  have hxm : x < 256 := h.lt x (List.mem_of_getElem? hx)
  have hpow : b.toNat * 2 ^ (7 - l.length % 8) < 2 ^ 8 := by
    have : (2 : Nat) ^ (7 - l.length % 8) ≤ 2 ^ 7 := Nat.pow_le_pow_right (by omega) (by omega)
    cases b <;> simp <;> omega
  refine ⟨by simp [h.len], fun c hc => ?_, fun i hi => ?_⟩
  · rcases List.mem_or_eq_of_mem_set hc with hc | rfl
    · exact h.lt c hc
    · rw [hy]
      exact Nat.or_lt_two_pow (n := 8) hxm hpow
  · simp only [bitAt, List.getD_eq_getElem?_getD]
    by_cases hik : i / 8 = l.length / 8
    · have hbi := h.bit i hi
      simp only [bitAt, List.getD_eq_getElem?_getD, hik, hx, Option.getD_some] at hbi
      rw [hik, List.getElem?_set_self hk, Option.getD_some, hy, Nat.testBit_or, hbi, testBit_mul_pow]
      by_cases hil : i = l.length
      · subst hil; simp
      · rw [show decide (7 - i % 8 = 7 - l.length % 8) = false from decide_eq_false (by omega)]
        by_cases h3 : i < l.length
        · rw [List.getElem?_append_left h3]; simp
        · rw [List.getElem?_eq_none (by omega), List.getElem?_eq_none (by simp; omega)]; simp
    · rw [List.getElem?_set_ne (by omega)]
      have hbi := h.bit i hi
      simp only [bitAt, List.getD_eq_getElem?_getD] at hbi
      rw [hbi]
      by_cases h3 : i < l.length
      · rw [List.getElem?_append_left h3]
      · have : i ≠ l.length := by intro h4; subst h4; exact hik rfl
        rw [List.getElem?_eq_none (by omega), List.getElem?_eq_none (by simp; omega)]

/-- The bits of bytes. -/
def unpk (bs : List Nat) : List Bool := (List.range (8 * bs.length)).map (bitAt bs)
@[simp] theorem unpk_length (bs : List Nat) : (unpk bs).length = 8 * bs.length := by simp [unpk]
theorem unpk_get (bs : List Nat) (i : Nat) (h : i < 8 * bs.length) : (unpk bs)[i]? = some (bitAt bs i) := by simp [unpk, h]
theorem PacksN.unpk {bs : List Nat} {l : List Bool} {n : Nat} (h : PacksN bs l n) (hl : l.length ≤ 8 * n) : unpk bs = l ++ List.replicate (8 * n - l.length) false := by
  apply List.ext_getElem?
  intro i
  by_cases hi : i < 8 * n
  · rw [unpk_get _ _ (by rw [h.len]; exact hi), h.bit i hi]
    by_cases h2 : i < l.length
    · rw [List.getElem?_append_left h2]; simp [List.getD_eq_getElem?_getD, h2]
    · rw [List.getElem?_append_right (by omega), List.getD_eq_getElem?_getD, List.getElem?_eq_none (by omega)]
      simp [show i - l.length < 8 * n - l.length by omega]
  · rw [List.getElem?_eq_none (by simp [h.len]; omega), List.getElem?_eq_none (by simp; omega)]
theorem Packs.unpk {bs : List Nat} {l : List Bool} (h : Packs bs l) : Proofs.YtclmkppiolfgbaaDoor.unpk bs = l ++ List.replicate (8 * ((l.length + 7) / 8) - l.length) false := PacksN.unpk h (by omega)

/-! ### Samples and their form -/
structure Smp where
  t : Int
  v : Nat
  st : Bool
def nanB (v : Nat) : Bool := decide (18437736874454810624 < v * 2 % 18446744073709551616)
/-- The bits of a float, one pattern for all that are no numbers. -/
def cb (v : Nat) : Nat := if nanB v then 9221120237041090561 else v
theorem cb_cb (v : Nat) : cb (cb v) = cb v := by
  unfold cb
  split
  · rfl
  · rfl
theorem cb_lt {v : Nat} (h : v < 18446744073709551616) : cb v < 18446744073709551616 := by unfold cb; split <;> omega
def lz (x : Nat) : Nat := 64 - Lib.bitLen x
def tz (x : Nat) : Nat := Lib.ctz 64 x

def tbits (e : Int) : List Bool :=
  if e = 0 then num 0 1
  else if -63 ≤ e ∧ e ≤ 64 then num 2 2 ++ num (e + 63).toNat 7
  else if -255 ≤ e ∧ e ≤ 256 then num 6 3 ++ num (e + 255).toNat 9
  else if -2047 ≤ e ∧ e ≤ 2048 then num 14 4 ++ num (e + 2047).toNat 12
  else num 15 4 ++ num (u64 e) 64

/-- The zeros of the frame that was set last. -/
structure Frm where
  is : Bool
  l : Nat
  r : Nat
def vbits (x : Nat) (f : Frm) : List Bool × Frm :=
  if x = 0 then (num 0 1, f)
  else if f.is = true ∧ f.l ≤ lz x ∧ f.r ≤ tz x then (num 2 2 ++ num (x / 2 ^ f.r) (64 - f.l - f.r), f)
  else (num 6 3 ++ num (lz x) 6 ++ num (63 - lz x - tz x) 6 ++ num (x / 2 ^ tz x) (64 - lz x - tz x), ⟨true, lz x, tz x⟩)

structure Stt where
  n : Nat
  t : Int
  d : Int
  b : Nat
  f : Frm
def Stt.zero : Stt := ⟨0, 0, 0, 0, ⟨false, 0, 0⟩⟩
def tpart (z : Stt) (s : Smp) : List Bool := if z.n = 0 then num (u64 s.t) 64 else tbits (i64 (s.t - z.t - z.d))
def tnext (z : Stt) (s : Smp) : Stt := { z with n := z.n + 1, t := s.t, d := if z.n = 0 then 0 else i64 (s.t - z.t) }
def step (z : Stt) (s : Smp) : List Bool × Stt :=
  if s.st then (tpart z s ++ num 7 3, tnext z s)
  else (tpart z s ++ (vbits (cb s.v ^^^ z.b) z.f).1, { tnext z s with b := cb s.v, f := (vbits (cb s.v ^^^ z.b) z.f).2 })
def body : Stt → List Smp → List Bool
  | _, [] => []
  | z, s :: r => (step z s).1 ++ body (step z s).2 r
def after : Stt → List Smp → Stt
  | z, [] => z
  | z, s :: r => after (step z s).2 r
/-- The bits of a list. -/
def form (s : List Smp) : List Bool := num s.length 17 ++ body Stt.zero s

theorem body_append (z : Stt) (a b : List Smp) : body z (a ++ b) = body z a ++ body (after z a) b := by
  induction a generalizing z with
  | nil => rfl
  | cons s a ih => simp [body, after, ih]
theorem after_append (z : Stt) (a b : List Smp) : after z (a ++ b) = after (after z a) b := by
  induction a generalizing z with
  | nil => rfl
  | cons s a ih => simp [after, ih]
theorem after_n (z : Stt) (a : List Smp) : (after z a).n = z.n + a.length := by
  induction a generalizing z with
  | nil => rfl
  | cons s a ih =>
    simp only [after, ih, List.length_cons]
    have : (step z s).2.n = z.n + 1 := by unfold step; split <;> rfl
    omega

/-! ### Leading and trailing zeros -/
theorem bitLen_lo : ∀ (k x : Nat), 2 ^ k ≤ x → x < 2 ^ (k + 1) → k < 64 → Lib.bitLen x = k + 1 := by
  intro k x h1 h2 hk
  have h64 : x < 2 ^ 64 := Nat.lt_of_lt_of_le h2 (Nat.pow_le_pow_right (by omega) (by omega))
  rw [Lib.bitLen_shift k x h1 h64]
  have : x / 2 ^ k = 1 := by
    apply Nat.div_eq_of_lt_le
    · omega
    · rw [Nat.pow_succ] at h2; omega
  rw [this]; rfl
theorem lz_spec {x : Nat} (h0 : x ≠ 0) (h : x < 18446744073709551616) : lz x ≤ 63 ∧ 2 ^ (63 - lz x) ≤ x ∧ x < 2 ^ (64 - lz x) := by
  have hl := Nat.log2_self_le h0
  have hu : x < 2 ^ (Nat.log2 x + 1) := Nat.lt_log2_self
  have h64 : Nat.log2 x < 64 := (Nat.log2_lt h0).2 h
  have hb := bitLen_lo _ x hl hu h64
  unfold lz
  rw [hb]
  refine ⟨by omega, ?_, ?_⟩
  · rw [show 63 - (64 - (Nat.log2 x + 1)) = Nat.log2 x by omega]; exact hl
  · rw [show 64 - (64 - (Nat.log2 x + 1)) = Nat.log2 x + 1 by omega]; exact hu
theorem tz_spec {x : Nat} (h0 : x ≠ 0) (h : x < 18446744073709551616) : tz x ≤ 63 ∧ ∃ m, x = 2 ^ tz x * (2 * m + 1) := by
  obtain ⟨m, hm, hl⟩ := Lib.ctzFrom_spec 64 x (by omega) h
  simp only [tz, Lib.ctz, if_neg h0]
  exact ⟨by omega, m, hm⟩
theorem lz_tz {x : Nat} (h0 : x ≠ 0) (h : x < 18446744073709551616) : lz x + tz x ≤ 63 := by
  obtain ⟨h1, h2, h3⟩ := lz_spec h0 h
  obtain ⟨h4, m, hm⟩ := tz_spec h0 h
  have : 2 ^ tz x ≤ x := Nat.le_of_dvd (by omega) ⟨_, hm⟩
  have h5 : tz x < 64 - lz x := (Nat.pow_lt_pow_iff_right (a := 2) (by omega)).1 (Nat.lt_of_le_of_lt this h3)
  omega
/-- The highest bit 1 stands behind lz zeros. -/
theorem lz_bit {x : Nat} (h0 : x ≠ 0) (h : x < 18446744073709551616) : x.testBit (63 - lz x) = true ∧ ∀ l, l < lz x → x.testBit (63 - l) = false := by
  obtain ⟨h1, h2, h3⟩ := lz_spec h0 h
  constructor
  · rw [Nat.testBit_eq_decide_div_mod_eq, decide_eq_true_eq]
    have : x / 2 ^ (63 - lz x) = 1 := by
      apply Nat.div_eq_of_lt_le
      · omega
      · rw [show (64 - lz x) = (63 - lz x) + 1 by omega, Nat.pow_succ] at h3; omega
    rw [this]
  · intro l hl
    apply Nat.testBit_lt_two_pow
    exact Nat.lt_of_lt_of_le h3 (Nat.pow_le_pow_right (by omega) (by omega))
theorem tz_bit {x : Nat} (h0 : x ≠ 0) (h : x < 18446744073709551616) : x.testBit (tz x) = true ∧ ∀ r, r < tz x → x.testBit r = false := by
  obtain ⟨h4, m, hm⟩ := tz_spec h0 h
  generalize tz x = k at *
  subst hm
  constructor
  · rw [Nat.testBit_eq_decide_div_mod_eq, decide_eq_true_eq, Nat.mul_div_cancel_left _ (Nat.two_pow_pos k)]; omega
  · intro r hr
    rw [Nat.testBit_two_pow_mul]
    simp; omega
theorem shift_back {x r : Nat} (h0 : x ≠ 0) (h : x < 18446744073709551616) (hr : r ≤ tz x) : x / 2 ^ r * 2 ^ r = x := by
  obtain ⟨_, m, hm⟩ := tz_spec h0 h
  have : 2 ^ r ∣ x := by
    rw [hm]
    exact Nat.dvd_trans (Nat.pow_dvd_pow 2 hr) ⟨_, rfl⟩
  exact Nat.div_mul_cancel this
theorem shift_lt {x l r : Nat} (h0 : x ≠ 0) (h : x < 18446744073709551616) (hl : l ≤ lz x) (hlr : l + r ≤ 64) : x / 2 ^ r < 2 ^ (64 - l - r) := by
  obtain ⟨h1, h2, h3⟩ := lz_spec h0 h
  rw [Nat.div_lt_iff_lt_mul (Nat.two_pow_pos r), ← Nat.pow_add]
  exact Nat.lt_of_lt_of_le h3 (Nat.pow_le_pow_right (by omega) (by omega))
end Go.Proofs.YtclmkppiolfgbaaDoor
