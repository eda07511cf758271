/- The plain law of layer 17, third part: reading. No program stands here. -/
import Derived.Test.YtclmkppiolfgbaaDoorKp
namespace Go.Proofs.YtclmkppiolfgbaaDoor
set_option linter.unusedSimpArgs false
set_option linter.unusedVariables false
open Go Go.W

/-- How many bits are read; whether there were too few. -/
structure Rd where
  at' : Nat
  sh : Bool
/-- The number in the next n bits. -/
def get (B : List Bool) (r : Rd) (n : Nat) : Nat × Rd := if r.at' + n ≤ B.length then (unnum ((B.drop r.at').take n), ⟨r.at' + n, r.sh⟩) else (0, ⟨B.length, true⟩)
/-- How many bits 1 come next, up to k; the bit 0 behind them is read. -/
def ones (B : List Bool) : Rd → Nat → Nat × Rd
  | r, 0 => (0, r)
  | r, k + 1 => if (get B r 1).1 = 1 then ((ones B (get B r 1).2 k).1 + 1, (ones B (get B r 1).2 k).2) else (0, (get B r 1).2)
def width (o : Nat) : Nat := if o = 1 then 7 else if o = 2 then 9 else if o = 3 then 12 else if o = 4 then 64 else 0
def less (o : Nat) : Int := if o = 1 then 63 else if o = 2 then 255 else if o = 3 then 2047 else 0
def rtime (B : List Bool) (r : Rd) : Int × Rd :=
  (i64 (i64 (get B (ones B r 4).2 (width (ones B r 4).1)).1 - less (ones B r 4).1), (get B (ones B r 4).2 (width (ones B r 4).1)).2)
/-- The time of the next sample, the new difference, the reader. -/
def rhead (B : List Bool) (z : Stt) (r : Rd) : Int × Int × Rd :=
  if z.n = 0 then (i64 (get B r 64).1, 0, (get B r 64).2)
  else (i64 (z.t + i64 (z.d + (rtime B r).1)), i64 (z.d + (rtime B r).1), (rtime B r).2)
def rnext (z : Stt) (t d : Int) : Stt := { z with n := z.n + 1, t := t, d := d }
/-- The frame ahead of a value: whether all is well, the frame, the reader. -/
def rframe (B : List Bool) (f : Frm) (o : Nat) (r : Rd) : Bool × Frm × Rd :=
  if o = 2 then
    if 64 < (get B r 6).1 + ((get B (get B r 6).2 6).1 + 1) then (false, f, (get B (get B r 6).2 6).2)
    else (true, ⟨true, (get B r 6).1, 64 - (get B r 6).1 - ((get B (get B r 6).2 6).1 + 1)⟩, (get B (get B r 6).2 6).2)
  else (f.is, f, r)
/-- The next sample, whether it is well, the state, the reader. -/
def rsmp (B : List Bool) (z : Stt) (r : Rd) : Smp × Bool × Stt × Rd :=
  let h := rhead B z r
  let ok := decide (z.n = 0 ∨ z.t < h.1)
  let z1 := rnext z h.1 h.2.1
  let o := ones B h.2.2 3
  if o.1 = 3 then (⟨h.1, 0, true⟩, ok, z1, o.2)
  else if o.1 = 0 then (⟨h.1, z.b, false⟩, ok && decide (cb z.b = z.b), z1, o.2)
  else
    let f := rframe B z.f o.1 o.2
    if f.1 = false then (⟨h.1, 0, false⟩, false, { z1 with f := f.2.1 }, f.2.2)
    else
      let g := get B f.2.2 (64 - f.2.1.l - f.2.1.r)
      let b := z.b ^^^ (g.1 * 2 ^ f.2.1.r % 18446744073709551616)
      (⟨h.1, b, false⟩, ok && decide (cb b = b), { z1 with b := b, f := f.2.1 }, g.2)

theorem get_num {B : List Bool} {a : Nat} {sh : Bool} {v n : Nat} {rest : List Bool} (hv : v < 2 ^ n) (ha : a ≤ B.length) (h : B.drop a = num v n ++ rest) : get B ⟨a, sh⟩ n = (v, ⟨a + n, sh⟩) := by
  have hl := congrArg List.length h
  simp only [List.length_drop, List.length_append, num_length] at hl
  unfold get
  rw [if_pos (by simp only; omega)]
  simp only [h]
  rw [List.take_left' (by simp), unnum_num n v hv]
theorem get_lt (B : List Bool) (r : Rd) (n : Nat) : (get B r n).1 < 2 ^ n := by
  unfold get
  split
  · simp only
    have := unnum_lt ((B.drop r.at').take n)
    exact Nat.lt_of_lt_of_le this (Nat.pow_le_pow_right (by omega) (by simp only [List.length_take]; omega))
  · exact Nat.two_pow_pos n
theorem get_at {B : List Bool} {r : Rd} (h : r.at' ≤ B.length) (n : Nat) : (get B r n).2.at' ≤ B.length := by
  unfold get; split <;> simp only <;> omega
theorem get_zero {B : List Bool} {r : Rd} (h : r.at' ≤ B.length) : get B r 0 = (0, r) := by
  unfold get; rw [if_pos (by omega)]; simp [unnum]
theorem ones_at {B : List Bool} : ∀ {k : Nat} {r : Rd}, r.at' ≤ B.length → (ones B r k).2.at' ≤ B.length
  | 0, _, h => h
  | k + 1, r, h => by
    unfold ones
    split
    · exact ones_at (get_at h 1)
    · exact get_at h 1
theorem ones_le (B : List Bool) : ∀ (k : Nat) (r : Rd), (ones B r k).1 ≤ k
  | 0, _ => Nat.le_refl _
  | k + 1, r => by
    unfold ones
    split
    · have := ones_le B k (get B r 1).2; simp only; omega
    · simp
theorem rtime_at {B : List Bool} {r : Rd} (h : r.at' ≤ B.length) : (rtime B r).2.at' ≤ B.length := get_at (ones_at h) _
theorem drop_more {B a b : List Bool} {n : Nat} (h : B.drop n = a ++ b) : B.drop (n + a.length) = b := by
  rw [← List.drop_drop, h, List.drop_left]
theorem ones_end {B : List Bool} {a : Nat} {sh : Bool} {rest : List Bool} : ∀ {k : Nat}, a ≤ B.length → B.drop a = List.replicate k true ++ rest → ones B ⟨a, sh⟩ k = (k, ⟨a + k, sh⟩) := by
  intro k
  induction k generalizing a with
  | zero => intro _ _; rfl
  | succ k ih =>
    intro ha h
    have h1 : B.drop a = num 1 1 ++ (List.replicate k true ++ rest) := by rw [h, List.replicate_succ]; rfl
    have hg := get_num (sh := sh) (show 1 < 2 ^ 1 by omega) ha h1
    have hd := drop_more h1
    have hl := congrArg List.length h1
    simp only [List.length_drop, List.length_append, num_length] at hl
    unfold ones
    rw [hg, if_pos rfl]
    simp only [num_length] at hd
    rw [ih (by omega) hd]
    simp only [Prod.mk.injEq, Rd.mk.injEq, true_and, and_true]
    omega
theorem ones_stop {B : List Bool} {a : Nat} {sh : Bool} {rest : List Bool} : ∀ {k m : Nat}, k < m → a ≤ B.length → B.drop a = List.replicate k true ++ (false :: rest) → ones B ⟨a, sh⟩ m = (k, ⟨a + k + 1, sh⟩) := by
  intro k
  induction k generalizing a with
  | zero =>
    intro m hm ha h
    obtain ⟨m, rfl⟩ : ∃ m', m = m' + 1 := ⟨m - 1, by omega⟩
    have h1 : B.drop a = num 0 1 ++ rest := by rw [h]; rfl
    have hg := get_num (sh := sh) (show 0 < 2 ^ 1 by omega) ha h1
    unfold ones
    rw [hg, if_neg (by simp)]
  | succ k ih =>
    intro m hm ha h
    obtain ⟨m, rfl⟩ : ∃ m', m = m' + 1 := ⟨m - 1, by omega⟩
    have h1 : B.drop a = num 1 1 ++ (List.replicate k true ++ (false :: rest)) := by rw [h, List.replicate_succ]; rfl
    have hg := get_num (sh := sh) (show 1 < 2 ^ 1 by omega) ha h1
    have hd := drop_more h1
    have hl := congrArg List.length h1
    simp only [List.length_drop, List.length_append, num_length] at hl
    unfold ones
    rw [hg, if_pos rfl]
    simp only [num_length] at hd
    rw [ih (by omega) (by omega) hd]
    simp only [Prod.mk.injEq, Rd.mk.injEq, true_and, and_true]
    omega
theorem drop_le {B a b : List Bool} {n : Nat} (hn : n ≤ B.length) (h : B.drop n = a ++ b) : n + a.length ≤ B.length := by
  have := congrArg List.length h
  simp only [List.length_drop, List.length_append] at this
  omega
theorem dec_small (e k : Int) (h0 : 0 ≤ e + k) (h : e + k < 10000) (hk : 0 ≤ k ∧ k ≤ 10000) : i64 (i64 ((e + k).toNat : Nat) - k) = e := by
  have e1 : i64 (((e + k).toNat : Nat) : Int) = e + k := by rw [i64_of (by omega) (by omega)]; omega
  rw [e1, i64_of (by omega) (by omega)]; omega
theorem rtime_spec {B : List Bool} {a : Nat} {sh : Bool} {e : Int} {rest : List Bool} (he : -9223372036854775808 ≤ e ∧ e ≤ 9223372036854775807) (ha : a ≤ B.length) (h : B.drop a = tbits e ++ rest) :
    rtime B ⟨a, sh⟩ = (e, ⟨a + (tbits e).length, sh⟩) := by
  have key : ∀ (o v n : Nat) (P : List Bool), ones B ⟨a, sh⟩ 4 = (o, ⟨a + P.length, sh⟩) → tbits e = P ++ num v n → width o = n → v < 2 ^ n → i64 (i64 v - less o) = e → rtime B ⟨a, sh⟩ = (e, ⟨a + (tbits e).length, sh⟩) := by
    intro o v n P ho ht hw hv he2
    rw [ht, List.append_assoc] at h
    have hd := drop_more h
    have hg := get_num (sh := sh) hv (drop_le ha h) hd
    unfold rtime
    rw [ho, hw, hg]
    simp only [he2, ht, List.length_append, num_length]
    rw [Nat.add_assoc]
  unfold tbits at h key ⊢
  split at h
  · rename_i h0
    rw [if_pos h0] at key ⊢
    refine key 0 0 0 (num 0 1) ?_ rfl rfl (by omega) (by subst h0; rfl)
    have : B.drop a = List.replicate 0 true ++ (false :: rest) := by rw [h]; rfl
    exact ones_stop (by omega) ha this
  · rename_i h0
    rw [if_neg h0] at key ⊢
    split at h
    · rename_i h1
      rw [if_pos h1] at key ⊢
      refine key 1 _ 7 (num 2 2) ?_ rfl rfl (by omega) (dec_small e _ (by omega) (by omega) (by omega))
      have : B.drop a = List.replicate 1 true ++ (false :: (num (e + 63).toNat 7 ++ rest)) := by rw [h, List.append_assoc]; rfl
      exact ones_stop (by omega) ha this
    · rename_i h1
      rw [if_neg h1] at key ⊢
      split at h
      · rename_i h2
        rw [if_pos h2] at key ⊢
        refine key 2 _ 9 (num 6 3) ?_ rfl rfl (by omega) (dec_small e _ (by omega) (by omega) (by omega))
        have : B.drop a = List.replicate 2 true ++ (false :: (num (e + 255).toNat 9 ++ rest)) := by rw [h, List.append_assoc]; rfl
        exact ones_stop (by omega) ha this
      · rename_i h2
        rw [if_neg h2] at key ⊢
        split at h
        · rename_i h3
          rw [if_pos h3] at key ⊢
          refine key 3 _ 12 (num 14 4) ?_ rfl rfl (by omega) (dec_small e _ (by omega) (by omega) (by omega))
          have : B.drop a = List.replicate 3 true ++ (false :: (num (e + 2047).toNat 12 ++ rest)) := by rw [h, List.append_assoc]; rfl
          exact ones_stop (by omega) ha this
        · rename_i h3
          rw [if_neg h3] at key ⊢
          refine key 4 _ 64 (num 15 4) ?_ rfl rfl (u64_lt _) (by simp only [less]; rw [i64_u64]; simp; rw [i64_of (i64_rng _).1 (i64_rng _).2, i64_of he.1 he.2])
          have : B.drop a = List.replicate 4 true ++ (num (u64 e) 64 ++ rest) := by rw [h, List.append_assoc]; rfl
          exact ones_end ha this
end Go.Proofs.YtclmkppiolfgbaaDoor
