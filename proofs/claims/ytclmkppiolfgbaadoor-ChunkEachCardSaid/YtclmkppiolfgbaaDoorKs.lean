/- The plain law of layer 17, fourth part: what is packed comes back. No program stands here. -/
import Derived.Test.YtclmkppiolfgbaaDoorKr
namespace Go.Proofs.YtclmkppiolfgbaaDoor
set_option linter.unusedSimpArgs false
set_option linter.unusedVariables false
open Go Go.W

/-- What comes back of a sample. -/
def canon (s : Smp) : Smp := if s.st = true then ⟨s.t, 0, true⟩ else ⟨s.t, cb s.v, false⟩
def Canon (s : Smp) : Prop := if s.st = true then s.v = 0 else cb s.v = s.v
theorem canon_st {s : Smp} (h : s.st = true) : canon s = ⟨s.t, 0, true⟩ := by unfold canon; rw [if_pos h]
theorem canon_v {s : Smp} (h : s.st = false) : canon s = ⟨s.t, cb s.v, false⟩ := by unfold canon; rw [if_neg (by simp [h])]
theorem canon_t (s : Smp) : (canon s).t = s.t := by unfold canon; split <;> rfl
theorem canon_canon (s : Smp) : Canon (canon s) := by
  unfold canon Canon
  split
  · rfl
  · simp only [Bool.false_eq_true, if_false]; exact cb_cb _
theorem canon_ok {s : Smp} (h : s.Ok) : (canon s).Ok := by
  unfold canon
  split
  · exact ⟨h.t, by simp⟩
  · exact ⟨h.t, cb_lt h.v⟩
theorem canon_id {s : Smp} (h : Canon s) : canon s = s := by
  obtain ⟨t, v, st⟩ := s
  unfold Canon at h
  cases st
  · simp only [Bool.false_eq_true, if_false] at h; rw [canon_v rfl]; simp only; rw [h]
  · simp only [if_true] at h; rw [canon_st rfl]; simp only; rw [h]
theorem tpart_canon (z : Stt) (s : Smp) : tpart z (canon s) = tpart z s := by unfold tpart; rw [canon_t]
theorem tnext_canon (z : Stt) (s : Smp) : tnext z (canon s) = tnext z s := by unfold tnext; rw [canon_t]
theorem step_canon (z : Stt) (s : Smp) : step z (canon s) = step z s := by
  cases h : s.st with
  | true => rw [step_st h, step_st (by rw [canon_st h]), tpart_canon, tnext_canon]
  | false => rw [step_v h, step_v (by rw [canon_v h]), tpart_canon, tnext_canon, canon_v h]; simp only [cb_cb]
theorem body_canon : ∀ (l : List Smp) (z : Stt), body z (l.map canon) = body z l
  | [], _ => rfl
  | s :: l, z => by simp only [List.map_cons, body, step_canon]; rw [body_canon l]
theorem after_canon : ∀ (l : List Smp) (z : Stt), after z (l.map canon) = after z l
  | [], _ => rfl
  | s :: l, z => by simp only [List.map_cons, after, step_canon]; rw [after_canon l]
theorem form_canon (l : List Smp) : form (l.map canon) = form l := by simp only [form, List.length_map, body_canon]

theorem rhead_spec {B : List Bool} {a : Nat} {sh : Bool} {z : Stt} {s : Smp} {rest : List Bool} (hs : s.Ok) (ha : a ≤ B.length) (h : B.drop a = tpart z s ++ rest) :
    rhead B z ⟨a, sh⟩ = (s.t, (tnext z s).d, ⟨a + (tpart z s).length, sh⟩) := by
  unfold tpart at h ⊢
  unfold rhead tnext
  split at h
  · rename_i hn
    rw [if_pos hn, if_pos hn, get_num (u64_lt _) ha h, i64_u64, i64_of hs.t.1 hs.t.2]
    simp [hn]
  · rename_i hn
    rw [if_neg hn, if_neg hn, rtime_spec (i64_rng _) ha h]
    simp only [if_neg hn]
    have e1 : i64 (z.d + i64 (s.t - z.t - z.d)) = i64 (s.t - z.t) := by rw [i64_add']; congr 1; omega
    rw [e1, i64_add', show z.t + (s.t - z.t) = s.t by omega, i64_of hs.t.1 hs.t.2]
theorem rnext_eq (z : Stt) (s : Smp) : rnext z s.t (tnext z s).d = tnext z s := rfl
theorem xor_back (c b : Nat) : b ^^^ (c ^^^ b) = c := by rw [Nat.xor_comm c, ← Nat.xor_assoc, Nat.xor_self, Nat.zero_xor]
theorem eq_of_xor {c b : Nat} (h : c ^^^ b = 0) : b = c := by have := xor_back c b; rw [h, Nat.xor_zero] at this; exact this

theorem rsmp_spec {B : List Bool} {a : Nat} {sh : Bool} {z : Stt} {s : Smp} {rest : List Bool} (hz : z.Ok) (hs : s.Ok) (ht : z.n = 0 ∨ z.t < s.t) (ha : a ≤ B.length) (h : B.drop a = (step z s).1 ++ rest) :
    rsmp B z ⟨a, sh⟩ = (canon s, true, (step z s).2, ⟨a + (step z s).1.length, sh⟩) := by
  have hx := xor_lt (cb_lt hs.v) hz.b
  cases hst : s.st with
  | true =>
    rw [step_st hst] at h ⊢
    simp only at h ⊢
    rw [List.append_assoc] at h
    have hh := rhead_spec (sh := sh) hs ha h
    have hd := drop_more h
    have ho : ones B ⟨a + (tpart z s).length, sh⟩ 3 = (3, ⟨a + (tpart z s).length + 3, sh⟩) := ones_end (drop_le ha h) (rest := rest) (by rw [hd]; rfl)
    unfold rsmp
    simp only [hh, ho, rnext_eq, if_true]
    rw [canon_st hst, decide_eq_true ht]
    simp [Nat.add_assoc]
  | false =>
    rw [step_v hst] at h ⊢
    simp only at h ⊢
    rw [List.append_assoc] at h
    have hh := rhead_spec (sh := sh) hs ha h
    have hd := drop_more h
    have hle := drop_le ha h
    unfold rsmp
    simp only [hh, rnext_eq]
    rw [canon_v hst, decide_eq_true ht]
    generalize hx0 : cb s.v ^^^ z.b = x at *
    by_cases h0 : x = 0
    · have hv : vbits x z.f = (num 0 1, z.f) := by unfold vbits; rw [if_pos h0]
      rw [hv] at hd ⊢
      simp only at hd ⊢
      have ho : ones B ⟨a + (tpart z s).length, sh⟩ 3 = (0, ⟨a + (tpart z s).length + 0 + 1, sh⟩) := ones_stop (k := 0) (by omega) hle (rest := rest) (by rw [hd]; rfl)
      have hb : z.b = cb s.v := eq_of_xor (hx0.trans h0)
      simp only [ho, if_true]
      rw [if_neg (by omega)]
      simp only [tnext, hb, cb_cb, decide_true, Bool.and_true, List.length_append, num_length, Prod.mk.injEq, Rd.mk.injEq, true_and, and_true]
      omega
    · by_cases hf : z.f.is = true ∧ z.f.l ≤ lz x ∧ z.f.r ≤ tz x
      · have hv : vbits x z.f = (num 2 2 ++ num (x / 2 ^ z.f.r) (64 - z.f.l - z.f.r), z.f) := by unfold vbits; rw [if_neg h0, if_pos hf]
        rw [hv] at hd ⊢
        simp only at hd ⊢
        rw [List.append_assoc] at hd
        have ho : ones B ⟨a + (tpart z s).length, sh⟩ 3 = (1, ⟨a + (tpart z s).length + 1 + 1, sh⟩) := ones_stop (k := 1) (by omega) hle (rest := num (x / 2 ^ z.f.r) (64 - z.f.l - z.f.r) ++ rest) (by rw [hd]; rfl)
        have hd2 := drop_more hd
        have hle2 := drop_le hle hd
        simp only [num_length] at hd2 hle2
        have hg := get_num (sh := sh) (shift_lt h0 hx hf.2.1 hz.f) hle2 hd2
        have hsb := shift_back h0 hx hf.2.2
        have q1 : ¬ (1 : Nat) = 3 := by omega
        have q2 : ¬ (1 : Nat) = 0 := by omega
        have q3 : ¬ (1 : Nat) = 2 := by omega
        simp only [ho, rframe, if_neg q1, if_neg q2, if_neg q3]
        rw [if_neg (by simp [hf.1]), Nat.add_assoc _ 1 1, hg]
        simp only [hsb, Nat.mod_eq_of_lt hx]
        rw [← hx0, xor_back]
        simp only [cb_cb, decide_true, Bool.and_true, List.length_append, num_length, Prod.mk.injEq, Rd.mk.injEq, true_and, and_true]
        omega
      · have hv : vbits x z.f = (num 6 3 ++ num (lz x) 6 ++ num (63 - lz x - tz x) 6 ++ num (x / 2 ^ tz x) (64 - lz x - tz x), ⟨true, lz x, tz x⟩) := by unfold vbits; rw [if_neg h0, if_neg hf]
        have hlt := lz_tz h0 hx
        rw [hv] at hd ⊢
        simp only at hd ⊢
        simp only [List.append_assoc] at hd
        have ho : ones B ⟨a + (tpart z s).length, sh⟩ 3 = (2, ⟨a + (tpart z s).length + 2 + 1, sh⟩) := ones_stop (k := 2) (by omega) hle (rest := num (lz x) 6 ++ (num (63 - lz x - tz x) 6 ++ (num (x / 2 ^ tz x) (64 - lz x - tz x) ++ rest))) (by rw [hd]; rfl)
        have hd2 := drop_more hd
        have hle2 := drop_le hle hd
        have hd3 := drop_more hd2
        have hle3 := drop_le hle2 hd2
        have hd4 := drop_more hd3
        have hle4 := drop_le hle3 hd3
        simp only [num_length] at hd2 hle2 hd3 hle3 hd4 hle4
        have hg2 := get_num (sh := sh) (show lz x < 2 ^ 6 by omega) hle2 hd2
        have hg3 := get_num (sh := sh) (show 63 - lz x - tz x < 2 ^ 6 by omega) hle3 hd3
        have hg4 := get_num (sh := sh) (shift_lt h0 hx (Nat.le_refl _) (by omega)) hle4 hd4
        have hsb := shift_back h0 hx (Nat.le_refl _)
        have q1 : ¬ (2 : Nat) = 3 := by omega
        have q2 : ¬ (2 : Nat) = 0 := by omega
        simp only [ho, rframe, if_neg q1, if_neg q2, if_true]
        rw [Nat.add_assoc _ 2 1, hg2]
        simp only
        rw [hg3]
        simp only [if_neg (show ¬ 64 < lz x + (63 - lz x - tz x + 1) by omega)]
        rw [if_neg (by simp), show 64 - lz x - (63 - lz x - tz x + 1) = tz x by omega, hg4]
        simp only [hsb, Nat.mod_eq_of_lt hx]
        rw [← hx0, xor_back]
        simp only [cb_cb, decide_true, Bool.and_true, List.length_append, num_length, Prod.mk.injEq, Rd.mk.injEq, true_and, and_true]
        omega
end Go.Proofs.YtclmkppiolfgbaaDoor
