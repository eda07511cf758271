/- The plain law of layer 17, fifth part: lists come back; what Unpack answers. No program stands here. -/
import Derived.Test.YtclmkppiolfgbaaDoorKs
namespace Go.Proofs.YtclmkppiolfgbaaDoor
set_option linter.unusedSimpArgs false
set_option linter.unusedVariables false
open Go Go.W

structure Valid (s : List Smp) : Prop where
  len : s.length ≤ 100000
  up : Rises s
  ok : ∀ x, x ∈ s → x.Ok

/-- The first j samples, the state and the reader behind them; nothing where one isn't well. -/
def run (B : List Bool) (r0 : Rd) : Nat → Option (List Smp × Stt × Rd)
  | 0 => some ([], Stt.zero, r0)
  | j + 1 => match run B r0 j with
    | some x => if (rsmp B x.2.1 x.2.2).2.1 = false ∨ (rsmp B x.2.1 x.2.2).2.2.2.sh = true then none else some (x.1 ++ [(rsmp B x.2.1 x.2.2).1], (rsmp B x.2.1 x.2.2).2.2.1, (rsmp B x.2.1 x.2.2).2.2.2)
    | none => none
theorem run_succ {B : List Bool} {r0 : Rd} {j : Nat} {l : List Smp} {z : Stt} {r : Rd} (h : run B r0 j = some (l, z, r)) (h1 : (rsmp B z r).2.1 = true) (h2 : (rsmp B z r).2.2.2.sh = false) : run B r0 (j + 1) = some (l ++ [(rsmp B z r).1], (rsmp B z r).2.2.1, (rsmp B z r).2.2.2) := by
  simp only [run, h, h1, h2]; simp
theorem run_bad {B : List Bool} {r0 : Rd} {j : Nat} {l : List Smp} {z : Stt} {r : Rd} (h : run B r0 j = some (l, z, r)) (h1 : (rsmp B z r).2.1 = false ∨ (rsmp B z r).2.2.2.sh = true) : run B r0 (j + 1) = none := by
  simp only [run, h]; rw [if_pos h1]

theorem form_split (s : List Smp) (k : Nat) : form s = bitsTo s k ++ body (stAt s k) (s.drop k) := by
  simp only [form, bitsTo, stAt, List.append_assoc, ← body_append, List.take_append_drop]
theorem stAt_rises {s : List Smp} (h : Rises s) {k : Nat} (hk : k < s.length) : (stAt s k).n = 0 ∨ (stAt s k).t < s[k].t := by
  rcases Nat.eq_zero_or_pos k with h0 | h0
  · subst h0; exact .inl rfl
  · obtain ⟨j, rfl⟩ : ∃ j, k = j + 1 := ⟨k - 1, by omega⟩
    right
    rw [stAt_t (by omega)]
    exact h j hk
theorem run_spec {B : List Bool} {s : List Smp} {pad : List Bool} (hs : Valid s) (hB : B = form s ++ pad) : ∀ j, j ≤ s.length → run B ⟨17, false⟩ j = some ((s.take j).map canon, stAt s j, ⟨(bitsTo s j).length, false⟩)
  | 0, _ => by simp [run, stAt, after, bitsTo, body]
  | j + 1, hj => by
    have ih := run_spec hs hB j (by omega)
    have hd : B.drop (bitsTo s j).length = (step (stAt s j) s[j]).1 ++ (body (step (stAt s j) s[j]).2 (s.drop (j + 1)) ++ pad) := by
      rw [hB, form_split s j, List.append_assoc, List.drop_left, List.drop_eq_getElem_cons (by omega)]
      simp [body]
    have hle : (bitsTo s j).length ≤ B.length := by rw [hB, form_split s j]; simp
    have hr := rsmp_spec (sh := false) (stAt_ok j hs.ok) (hs.ok _ (List.getElem_mem (by omega : j < s.length))) (stAt_rises hs.up (by omega)) hle hd
    have := run_succ ih (by rw [hr]) (by rw [hr])
    rw [this, hr]
    simp only [Option.some.injEq, Prod.mk.injEq, Rd.mk.injEq, and_true]
    refine ⟨?_, (stAt_succ (by omega)).symm, ?_⟩
    · rw [take_snoc (by omega), List.map_append]; rfl
    · rw [bitsTo_succ (by omega), List.length_append]

/-- How many, and the reader behind the number. -/
theorem head_spec {bs : List Nat} {s : List Smp} (hs : Valid s) (h : Packs bs (form s)) : get (unpk bs) ⟨0, false⟩ 17 = (s.length, ⟨17, false⟩) := by
  have hu := Packs.unpk h
  have hl := hs.len
  exact get_num (a := 0) (sh := false) (rest := body Stt.zero s ++ List.replicate (8 * (((form s).length + 7) / 8) - (form s).length) false) (by omega) (by omega) (by rw [hu]; simp [form])
theorem run_all {bs : List Nat} {s : List Smp} (hs : Valid s) (h : Packs bs (form s)) (j : Nat) (hj : j ≤ s.length) : run (unpk bs) ⟨17, false⟩ j = some ((s.take j).map canon, stAt s j, ⟨(bitsTo s j).length, false⟩) :=
  run_spec hs (Packs.unpk h) j hj

/-- What Unpack answers. -/
def UnpackIs (bs : List Nat) (out : List Smp) (e : Int) : Prop :=
  (e = 0 ∧ Valid out ∧ (∀ s, s ∈ out → Canon s) ∧ Packs bs (form out)) ∨ (e = 171 ∧ out = [] ∧ ¬ ∃ s, Valid s ∧ Packs bs (form s))
theorem map_canon_id {l : List Smp} (h : ∀ s, s ∈ l → Canon s) : l.map canon = l := by
  induction l with
  | nil => rfl
  | cons s l ih => rw [List.map_cons, canon_id (h s (by simp)), ih (fun x hx => h x (List.mem_cons_of_mem _ hx))]
theorem form_inj {bs : List Nat} {s t : List Smp} (hs : Valid s) (ht : Valid t) (h : Packs bs (form s)) (k : Packs bs (form t)) : s.map canon = t.map canon := by
  have h1 := head_spec hs h
  have h2 := head_spec ht k
  rw [h1] at h2
  have hl : s.length = t.length := congrArg Prod.fst h2
  have r1 := run_all hs h s.length (Nat.le_refl _)
  have r2 := run_all ht k s.length (by omega)
  rw [r1] at r2
  simp only [Option.some.injEq, Prod.mk.injEq] at r2
  have := r2.1
  rw [List.take_of_length_le (Nat.le_refl _), List.take_of_length_le (by omega)] at this
  exact this
theorem UnpackIs.back {bs : List Nat} {s out : List Smp} {e : Int} (hs : Valid s) (h : Packs bs (form s)) (k : UnpackIs bs out e) : e = 0 ∧ out = s.map canon := by
  rcases k with ⟨h1, h2, h3, h4⟩ | ⟨_, _, h3⟩
  · refine ⟨h1, ?_⟩
    rw [form_inj hs h2 h h4, map_canon_id h3]
  · exact absurd ⟨s, hs, h⟩ h3
theorem UnpackIs.uniq {bs : List Nat} {a b : List Smp} {e f : Int} (h : UnpackIs bs a e) (k : UnpackIs bs b f) : a = b ∧ e = f := by
  rcases h with ⟨h1, h2, h3, h4⟩ | ⟨h1, h2, h3⟩
  · obtain ⟨k1, k2⟩ := UnpackIs.back h2 h4 k
    exact ⟨by rw [k2, map_canon_id h3], by rw [h1, k1]⟩
  · rcases k with ⟨k1, k2, k3, k4⟩ | ⟨k1, k2, k3⟩
    · exact absurd ⟨b, k2, k4⟩ h3
    · exact ⟨by rw [h2, k2], by rw [h1, k1]⟩

/-! ### What is read is well formed -/
structure Rok (B : List Bool) (z : Stt) (r : Rd) (x : Smp × Bool × Stt × Rd) : Prop where
  s : x.1.Ok
  z' : x.2.2.1.Ok
  n : x.2.2.1.n = z.n + 1
  c : x.2.1 = true → Canon x.1
  a : x.2.2.2.at' ≤ B.length
theorem rhead_rng {B : List Bool} {z : Stt} {r : Rd} (ha : r.at' ≤ B.length) : (-9223372036854775808 ≤ (rhead B z r).1 ∧ (rhead B z r).1 ≤ 9223372036854775807) ∧ (-9223372036854775808 ≤ (rhead B z r).2.1 ∧ (rhead B z r).2.1 ≤ 9223372036854775807) ∧ (rhead B z r).2.2.at' ≤ B.length := by
  unfold rhead
  split
  · simp only
    exact ⟨i64_rng _, ⟨by omega, by omega⟩, get_at ha 64⟩
  · simp only
    exact ⟨i64_rng _, i64_rng _, rtime_at ha⟩
theorem rframe_ok {B : List Bool} {f : Frm} {o : Nat} {r : Rd} (hf : f.l + f.r ≤ 64) (ha : r.at' ≤ B.length) : (rframe B f o r).2.1.l + (rframe B f o r).2.1.r ≤ 64 ∧ (rframe B f o r).2.2.at' ≤ B.length := by
  unfold rframe
  split
  · split
    · exact ⟨hf, get_at (get_at ha 6) 6⟩
    · refine ⟨?_, get_at (get_at ha 6) 6⟩
      simp only; omega
  · exact ⟨hf, ha⟩
theorem rsmp_ok {B : List Bool} {z : Stt} {r : Rd} (hz : z.Ok) (ha : r.at' ≤ B.length) : Rok B z r (rsmp B z r) := by
  obtain ⟨h1, h2, h3⟩ := rhead_rng (z := z) ha
  have ho := ones_at (k := 3) h3
  have hfr := rframe_ok (o := (ones B (rhead B z r).2.2 3).1) hz.f ho
  unfold rsmp
  simp only
  split
  · exact ⟨⟨h1, by simp⟩, ⟨hz.b, hz.f, h2, h1⟩, rfl, fun _ => by simp [Canon], ho⟩
  · split
    · exact ⟨⟨h1, hz.b⟩, ⟨hz.b, hz.f, h2, h1⟩, rfl, fun h => by simp only [Bool.and_eq_true, decide_eq_true_eq] at h; simp [Canon, h.2], ho⟩
    · split
      · exact ⟨⟨h1, by simp⟩, ⟨hz.b, hfr.1, h2, h1⟩, rfl, fun h => by simp at h, hfr.2⟩
      · have hb : z.b ^^^ ((get B (rframe B z.f (ones B (rhead B z r).2.2 3).1 (ones B (rhead B z r).2.2 3).2).2.2 (64 - (rframe B z.f (ones B (rhead B z r).2.2 3).1 (ones B (rhead B z r).2.2 3).2).2.1.l - (rframe B z.f (ones B (rhead B z r).2.2 3).1 (ones B (rhead B z r).2.2 3).2).2.1.r)).1 * 2 ^ (rframe B z.f (ones B (rhead B z r).2.2 3).1 (ones B (rhead B z r).2.2 3).2).2.1.r % 18446744073709551616) < 18446744073709551616 := xor_lt hz.b (Nat.mod_lt _ (by omega))
        exact ⟨⟨h1, hb⟩, ⟨hb, hfr.1, h2, h1⟩, rfl, fun h => by simp only [Bool.and_eq_true, decide_eq_true_eq] at h; simp only [Canon, Bool.false_eq_true, if_false]; exact h.2, get_at hfr.2 _⟩
/-- What holds behind j samples. -/
structure RunOk (B : List Bool) (j : Nat) (x : List Smp × Stt × Rd) : Prop where
  len : x.1.length = j
  ok : ∀ s, s ∈ x.1 → s.Ok
  c : ∀ s, s ∈ x.1 → Canon s
  z : x.2.1.Ok
  n : x.2.1.n = j
  a : x.2.2.at' ≤ B.length
theorem RunOk.zero {B : List Bool} {r : Rd} (ha : r.at' ≤ B.length) : RunOk B 0 ([], Stt.zero, r) where
  len := rfl
  ok := fun _ h => by cases h
  c := fun _ h => by cases h
  z := Stt.zero_ok
  n := rfl
  a := ha
theorem RunOk.succ {B : List Bool} {j : Nat} {l : List Smp} {z : Stt} {r : Rd} (h : RunOk B j (l, z, r)) (h1 : (rsmp B z r).2.1 = true) : RunOk B (j + 1) (l ++ [(rsmp B z r).1], (rsmp B z r).2.2.1, (rsmp B z r).2.2.2) := by
  have k := rsmp_ok h.z h.a
  have e1 := h.len
  have e2 := h.n
  constructor
  · simp only [List.length_append, List.length_cons, List.length_nil] at e1 ⊢; omega
  · intro s hs
    rcases List.mem_append.1 hs with hs | hs
    · exact h.ok s hs
    · rw [List.mem_singleton] at hs; rw [hs]; exact k.s
  · intro s hs
    rcases List.mem_append.1 hs with hs | hs
    · exact h.c s hs
    · rw [List.mem_singleton] at hs; rw [hs]; exact k.c h1
  · exact k.z'
  · show (rsmp B z r).2.2.1.n = j + 1
    rw [k.n]; show z.n + 1 = j + 1; rw [show z.n = j from e2]
  · exact k.a
end Go.Proofs.YtclmkppiolfgbaaDoor
