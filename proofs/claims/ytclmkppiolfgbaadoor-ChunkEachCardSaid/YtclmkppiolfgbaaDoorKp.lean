/- The plain law of layer 17, second part: the states behind the samples. No program stands here. -/
import Derived.Test.YtclmkppiolfgbaaDoorKa
namespace Go.Proofs.YtclmkppiolfgbaaDoor
set_option linter.unusedSimpArgs false
set_option linter.unusedVariables false
open Go Go.W

structure Smp.Ok (s : Smp) : Prop where
  t : -9223372036854775808 ≤ s.t ∧ s.t ≤ 9223372036854775807
  v : s.v < 18446744073709551616
structure Stt.Ok (z : Stt) : Prop where
  b : z.b < 18446744073709551616
  f : z.f.l + z.f.r ≤ 64
  d : -9223372036854775808 ≤ z.d ∧ z.d ≤ 9223372036854775807
  t : -9223372036854775808 ≤ z.t ∧ z.t ≤ 9223372036854775807
theorem Stt.zero_ok : Stt.zero.Ok := ⟨by decide, by decide, by decide, by decide⟩
theorem xor_lt {a b : Nat} (ha : a < 18446744073709551616) (hb : b < 18446744073709551616) : a ^^^ b < 18446744073709551616 := Nat.xor_lt_two_pow (n := 64) ha hb
theorem vbits_frm {x : Nat} (hx : x < 18446744073709551616) {f : Frm} (h : f.l + f.r ≤ 64) : (vbits x f).2.l + (vbits x f).2.r ≤ 64 := by
  unfold vbits
  split
  · exact h
  · rename_i h0
    split
    · exact h
    · have := lz_tz h0 hx
      simp only; omega
theorem vbits_len {x : Nat} {f : Frm} : 1 ≤ (vbits x f).1.length ∧ (vbits x f).1.length ≤ 79 := by
  unfold vbits
  split
  · simp
  · split <;> simp <;> omega
theorem tbits_len (e : Int) : 1 ≤ (tbits e).length ∧ (tbits e).length ≤ 68 := by
  unfold tbits
  repeat' split
  all_goals simp
theorem tpart_len (z : Stt) (s : Smp) : 1 ≤ (tpart z s).length ∧ (tpart z s).length ≤ 68 := by
  unfold tpart
  split
  · simp
  · exact tbits_len _
theorem step_len (z : Stt) (s : Smp) : 2 ≤ (step z s).1.length ∧ (step z s).1.length ≤ 160 := by
  have h1 := tpart_len z s
  have h2 := vbits_len (x := cb s.v ^^^ z.b) (f := z.f)
  unfold step
  split <;> simp only [List.length_append, num_length] <;> omega
theorem step_ok {z : Stt} {s : Smp} (hz : z.Ok) (hs : s.Ok) : (step z s).2.Ok := by
  have hd : (-9223372036854775808 ≤ (if z.n = 0 then 0 else i64 (s.t - z.t)) ∧ (if z.n = 0 then 0 else i64 (s.t - z.t)) ≤ 9223372036854775807) := by
    split
    · omega
    · exact i64_rng _
  unfold step
  split
  · exact ⟨hz.b, hz.f, hd, hs.t⟩
  · exact ⟨cb_lt hs.v, vbits_frm (xor_lt (cb_lt hs.v) hz.b) hz.f, hd, hs.t⟩
theorem after_ok : ∀ {l : List Smp} {z : Stt}, z.Ok → (∀ s, s ∈ l → s.Ok) → (after z l).Ok
  | [], _, hz, _ => hz
  | s :: l, z, hz, h => after_ok (l := l) (step_ok hz (h s (by simp))) (fun x hx => h x (List.mem_cons_of_mem _ hx))
theorem body_len : ∀ (l : List Smp) (z : Stt), 2 * l.length ≤ (body z l).length ∧ (body z l).length ≤ 160 * l.length
  | [], _ => by simp [body]
  | s :: l, z => by
    have h1 := body_len l (step z s).2
    have h2 := step_len z s
    simp only [body, List.length_append, List.length_cons]
    omega
theorem form_len (l : List Smp) : (form l).length ≤ 17 + 160 * l.length := by
  have := body_len l Stt.zero
  simp only [form, List.length_append, num_length]; omega
theorem step_n (z : Stt) (s : Smp) : (step z s).2.n = z.n + 1 := by unfold step; split <;> rfl
theorem step_t (z : Stt) (s : Smp) : (step z s).2.t = s.t := by unfold step; split <;> rfl
theorem step_d (z : Stt) (s : Smp) : (step z s).2.d = if z.n = 0 then 0 else i64 (s.t - z.t) := by unfold step; split <;> rfl
theorem step_st {z : Stt} {s : Smp} (h : s.st = true) : step z s = (tpart z s ++ num 7 3, tnext z s) := by unfold step; rw [if_pos h]
theorem step_v {z : Stt} {s : Smp} (h : s.st = false) : step z s = (tpart z s ++ (vbits (cb s.v ^^^ z.b) z.f).1, { tnext z s with b := cb s.v, f := (vbits (cb s.v ^^^ z.b) z.f).2 }) := by unfold step; rw [if_neg (by simp [h])]

theorem take_snoc {α : Type} {l : List α} {k : Nat} (h : k < l.length) : l.take (k + 1) = l.take k ++ [l[k]] := List.take_succ_eq_append_getElem h
/-- The state behind the first k samples, and the bits of these. -/
def stAt (l : List Smp) (k : Nat) : Stt := after Stt.zero (l.take k)
def bitsTo (l : List Smp) (k : Nat) : List Bool := num l.length 17 ++ body Stt.zero (l.take k)
theorem stAt_zero (l : List Smp) : stAt l 0 = Stt.zero := rfl
theorem bitsTo_zero (l : List Smp) : bitsTo l 0 = num l.length 17 := by simp [bitsTo, body]
theorem stAt_succ {l : List Smp} {k : Nat} (h : k < l.length) : stAt l (k + 1) = (step (stAt l k) l[k]).2 := by
  simp only [stAt, take_snoc h, after_append]; rfl
theorem bitsTo_succ {l : List Smp} {k : Nat} (h : k < l.length) : bitsTo l (k + 1) = bitsTo l k ++ (step (stAt l k) l[k]).1 := by
  simp only [bitsTo, stAt, take_snoc h, body_append, List.append_assoc]
  simp [body]
theorem bitsTo_all (l : List Smp) {k : Nat} (h : l.length ≤ k) : bitsTo l k = form l := by simp only [bitsTo, form, List.take_of_length_le h]
theorem stAt_n {l : List Smp} {k : Nat} (h : k ≤ l.length) : (stAt l k).n = k := by
  simp only [stAt, after_n, Stt.zero, List.length_take]; omega
theorem stAt_t {l : List Smp} {k : Nat} (h : k < l.length) : (stAt l (k + 1)).t = l[k].t := by rw [stAt_succ h, step_t]
theorem stAt_ok {l : List Smp} (k : Nat) (h : ∀ s, s ∈ l → s.Ok) : (stAt l k).Ok := after_ok Stt.zero_ok (fun s hs => h s (List.mem_of_mem_take hs))
theorem bitsTo_len (l : List Smp) (k : Nat) : (bitsTo l k).length ≤ 17 + 160 * l.length := by
  have := body_len (l.take k) Stt.zero
  simp only [bitsTo, List.length_append, num_length, List.length_take] at *; omega
theorem i64_sub (x y : Int) : i64 (i64 x - y) = i64 (x - y) := by unfold i64; split <;> split <;> split <;> omega
theorem i64_sub' (x y : Int) : i64 (x - i64 y) = i64 (x - y) := by unfold i64; split <;> split <;> split <;> omega
theorem i64_add (x y : Int) : i64 (i64 x + y) = i64 (x + y) := by unfold i64; split <;> split <;> split <;> omega
theorem i64_add' (x y : Int) : i64 (x + i64 y) = i64 (x + y) := by unfold i64; split <;> split <;> split <;> omega

/-- The times rise. -/
def Rises (l : List Smp) : Prop := ∀ k (h : k + 1 < l.length), (l[k]'(by omega)).t < l[k + 1].t
def RisesTo (l : List Smp) (n : Nat) : Prop := ∀ k (h : k + 1 < l.length), k + 1 < n → (l[k]'(by omega)).t < l[k + 1].t
theorem RisesTo.all {l : List Smp} {n : Nat} (h : RisesTo l n) (hn : l.length ≤ n) : Rises l := fun k hk => h k hk (by omega)
theorem RisesTo.succ {l : List Smp} {n : Nat} (h : RisesTo l n) (hn : n < l.length) (h0 : 0 < n) (h1 : (l[n - 1]'(by omega)).t < l[n].t) : RisesTo l (n + 1) := fun k hk hkn => by
  by_cases e : k + 1 < n
  · exact h k hk e
  · obtain rfl : n = k + 1 := by omega
    exact h1
end Go.Proofs.YtclmkppiolfgbaaDoor
