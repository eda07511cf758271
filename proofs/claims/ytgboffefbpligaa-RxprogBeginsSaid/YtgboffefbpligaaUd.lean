/- With what all begins that a tree matches: plain. -/
import Derived.Test.YtgboffefbpligaaUc
import Derived.Test.YtgboffefbpligaaPg
namespace Go.Proofs.Ytgboffefbpligaa
open Go.W Go.RowKit
set_option linter.unusedVariables false
set_option linter.unusedSimpArgs false

/-! ### parts of a text are texts -/
theorem hit_of {s : ByteArray} {a : Nat} (h : 0 < (nextR s a).2) : 1 ≤ (nextR s a).2 ∧ (nextR s a).2 ≤ 4 ∧ a + (nextR s a).2 ≤ s.size ∧ Hit s a (nextR s a).2 := by
  by_cases ha : a < s.size
  · rcases decode_cases s a ha with ⟨w, h1, h2, h3, hh, hd, h4, h5, -⟩ | ⟨h1, hd⟩
    · have hn := (next_hit h1 h2 h3 hh).1
      rw [hn]
      exact ⟨h1, h2, h3, hh⟩
    · unfold nextR at h
      rw [if_neg (fun e => e.2 (by rw [hd]; exact ⟨rfl, rfl⟩))] at h
      cases h
  · rw [next_out (by omega)] at h; cases h
theorem sub_size {s : ByteArray} {a b : Nat} (h : b ≤ s.size) : (s.extract a b).size = b - a := by
  rw [ByteArray.size_extract]; omega
theorem guess_sub {s : ByteArray} {a b p w : Nat} (hb : b ≤ s.size) (hw : 1 ≤ w) (hw4 : w ≤ 4) (hp : a + p + w ≤ b) : guessB (s.extract a b) p w = guessB s (a + p) w := by
  have e : ∀ k, k < w → sb (s.extract a b) (p + k) = sb s (a + p + k) := fun k hk => by
    rw [sb_extract hb (by omega), Nat.add_assoc]
  have e0 := e 0 (by omega)
  simp only [Nat.add_zero] at e0
  unfold guessB
  by_cases h1 : w = 1
  · simp only [h1, if_true]; rw [e0]
  have e1 := e 1 (by omega)
  by_cases h2 : w = 2
  · simp only [h2, if_true]; rw [e0, e1]
  have e2 := e 2 (by omega)
  by_cases h3 : w = 3
  · simp only [h3, if_true]; rw [e0, e1, e2]
  have h4 : w = 4 := by omega
  have e3 := e 3 (by omega)
  simp only [h4]; rw [e0, e1, e2, e3]
theorem hit_sub {s : ByteArray} {a b p w : Nat} (hb : b ≤ s.size) (hw : 1 ≤ w) (hw4 : w ≤ 4) (hp : a + p + w ≤ b) (h : Hit s (a + p) w) : Hit (s.extract a b) p w := by
  have hbb : bytesAt (s.extract a b) p w = bytesAt s (a + p) w := by
    unfold bytesAt
    apply List.map_congr_left
    intro k hk
    have hk2 : k < w := by simpa using hk
    rw [sb_extract hb (by omega), Nat.add_assoc]
  unfold Hit
  rw [guess_sub hb hw hw4 hp, hbb]
  exact h
theorem next_sub {s : ByteArray} {a b p : Nat} (hb : b ≤ s.size) (h : 0 < (nextR s (a + p)).2) (hp : a + p + (nextR s (a + p)).2 ≤ b) : nextR (s.extract a b) p = nextR s (a + p) := by
  obtain ⟨h1, h2, h3, h4⟩ := hit_of h
  have h7 := (next_hit h1 h2 h3 h4).1
  have h5 := hit_sub hb h1 h2 hp h4
  have h6 := (next_hit h1 h2 (by rw [sub_size hb]; omega) h5).1
  rw [guess_sub hb h1 h2 hp] at h6
  exact h6.trans h7.symm
theorem utf_sub {s : ByteArray} {N i j : Nat} (hU : Utf s N) (hij : i ≤ j) (hj : j ≤ N) : Utf (s.extract (offs s i) (offs s j)) (j - i) := by
  have hb := offs_le s j
  have ho : ∀ k, k ≤ j - i → offs s i + offs (s.extract (offs s i) (offs s j)) k = offs s (i + k) := by
    intro k
    induction k with
    | zero => intro _; rfl
    | succ k ih =>
      intro hk
      have h1 := ih (by omega)
      have h2 := hU.2 (i + k) (by omega)
      have h3 := offs_mono s (show i + k + 1 ≤ j by omega)
      rw [offs] at h3
      have h4 := next_sub (s := s) (a := offs s i) (p := offs (s.extract (offs s i) (offs s j)) k) hb (by rw [h1]; exact h2) (by rw [h1]; exact h3)
      rw [offs, h4, h1]
      rw [show i + (k + 1) = i + k + 1 from rfl, offs]
      omega
  refine ⟨?_, fun k hk => ?_⟩
  · have h1 := ho (j - i) (Nat.le_refl _)
    rw [show i + (j - i) = j by omega] at h1
    rw [sub_size hb]; omega
  · have h1 := ho k (by omega)
    have h2 := hU.2 (i + k) (by omega)
    have h3 := offs_mono s (show i + k + 1 ≤ j by omega)
    rw [offs] at h3
    rw [next_sub (s := s) hb (by rw [h1]; exact h2) (by rw [h1]; exact h3), h1]
    exact h2

/-! ### places go forward -/
def Fwd (N : Nat) (R : Nat → Nat → Prop) : Prop := ∀ i j, R i j → i ≤ N → i ≤ j ∧ j ≤ N
theorem it_fwd {N : Nat} {R : Nat → Nat → Prop} (h : Fwd N R) : ∀ c, Fwd N (It R c)
  | 0, i, j, e, hi => by cases e; exact ⟨Nat.le_refl _, hi⟩
  | c + 1, i, j, ⟨k, h1, h2⟩, hi => by
    have h3 := h i k h1 hi
    have h4 := it_fwd h c k j h2 h3.2
    omega
mutual
theorem mt_fwd (rs : List Int) : ∀ (x : Rx), Fwd rs.length (Mt rs x)
  | .mk k r g mn mx lz cp nm ks, i, j, h, hi => by
    rw [Mt] at h
    rcases h with ⟨_, rfl⟩ | ⟨_, rfl, h⟩ | ⟨_, rfl, c, h, _⟩ | ⟨_, h⟩ | ⟨_, h⟩ | ⟨_, c, _, _, h⟩ | ⟨_, h⟩ | ⟨_, rfl, _⟩
    · omega
    · have := get_lt h; omega
    · have := get_lt h; omega
    · exact mts_fwd rs ks i j h hi
    · exact mta_fwd rs ks i j h hi
    · exact it_fwd (mts_fwd rs ks) c i j h hi
    · exact mts_fwd rs ks i j h hi
    · omega
theorem mts_fwd (rs : List Int) : ∀ (l : List Rx), Fwd rs.length (Mts rs l)
  | [], i, j, h, hi => by rw [Mts] at h; subst h; omega
  | x :: xs, i, j, h, hi => by
    rw [Mts] at h
    obtain ⟨k, h1, h2⟩ := h
    have h3 := mt_fwd rs x i k h1 hi
    have h4 := mts_fwd rs xs k j h2 h3.2
    omega
theorem mta_fwd (rs : List Int) : ∀ (l : List Rx), Fwd rs.length (MtA rs l)
  | [], i, j, h, hi => by rw [MtA] at h; exact h.elim
  | x :: xs, i, j, h, hi => by
    rw [MtA] at h
    rcases h with h | h
    · exact mt_fwd rs x i j h hi
    · exact mta_fwd rs xs i j h hi
end

/-! ### heads -/
abbrev nob : ByteArray := ByteArray.mk #[]
def Hd (s : ByteArray) (N : Nat) (R : Nat → Nat → Prop) (t : ByteArray) (ex : Bool) : Prop :=
  ∀ i j, i ≤ N → R i j → offs s i + t.size ≤ offs s j ∧ s.extract (offs s i) (offs s i + t.size) = t ∧ (ex = true → offs s i + t.size = offs s j)
variable {s : ByteArray} {N : Nat} {R S : Nat → Nat → Prop} {t u : ByteArray} {ex fx : Bool}
theorem ext_nil (s : ByteArray) (a : Nat) : s.extract a (a + nob.size) = nob := by
  have h : (s.extract a (a + nob.size)).size = 0 := by rw [ByteArray.size_extract]; show min (a + 0) _ - a = 0; omega
  exact ByteArray.size_eq_zero_iff.1 h
theorem Hd.eps (h : ∀ i j, R i j → i = j) : Hd s N R nob true := fun i j hi hr => by
  obtain rfl := h i j hr
  exact ⟨Nat.le_refl _, ext_nil _ _, fun _ => rfl⟩
theorem Hd.none (h : Fwd N R) : Hd s N R nob false := fun i j hi hr => by
  have h1 := offs_mono s (h i j hr hi).1
  exact ⟨by show offs s i + 0 ≤ _; omega, ext_nil _ _, fun h => by cases h⟩
theorem Hd.congr (h : Hd s N R t ex) (e : ∀ i j, i ≤ N → S i j → R i j) : Hd s N S t ex := fun i j hi hr => h i j hi (e i j hi hr)
theorem Hd.loose (h : Hd s N R t ex) : Hd s N R t false := fun i j hi hr => by
  have := h i j hi hr
  exact ⟨this.1, this.2.1, fun h => by cases h⟩
theorem Hd.seq (hf : Fwd N R) (h1 : Hd s N R t true) (h2 : Hd s N S u ex) : Hd s N (fun i j => ∃ k, R i k ∧ S k j) (t ++ u) ex := fun i j hi ⟨k, hr, hs⟩ => by
  have hk := hf i k hr hi
  have a := h1 i k hi hr
  have b := h2 k j hk.2 hs
  have hz : (t ++ u).size = t.size + u.size := ByteArray.size_append ..
  have e := a.2.2 rfl
  refine ⟨by omega, ?_, fun hx => by have := b.2.2 hx; omega⟩
  rw [ext_app (b := offs s i + t.size) (by omega) (by omega), a.2.1, hz, ← Nat.add_assoc, e, b.2.1]
theorem Hd.cut (hf : Fwd N R) (hg : Fwd N S) (h1 : Hd s N R t ex) : Hd s N (fun i j => ∃ k, R i k ∧ S k j) t false := fun i j hi ⟨k, hr, hs⟩ => by
  have hk := hf i k hr hi
  have a := h1 i k hi hr
  have b := offs_mono s (hg k j hs hk.2).1
  exact ⟨by omega, a.2.1, fun h => by cases h⟩
theorem Hd.alt (hU : Utf s N) (hf : Fwd N R) (hg : Fwd N S) (h1 : Hd s N R t ex) (h2 : Hd s N S u fx) {e : Nat} (e1 : e ≤ t.size) (e2 : e ≤ u.size) (e3 : t.extract 0 e = u.extract 0 e) (e4 : t = u → (∃ M, Utf t M) → e = t.size) :
    Hd s N (fun i j => R i j ∨ S i j) (t.extract 0 e) (ex && fx && decide (t = u)) := by
  have hz : (t.extract 0 e).size = e := by rw [sub_size e1]; omega
  have key : ∀ {R : Nat → Nat → Prop} {t : ByteArray} {ex : Bool}, Fwd N R → Hd s N R t ex → e ≤ t.size → ∀ i j, i ≤ N → R i j → offs s i + e ≤ offs s j ∧ s.extract (offs s i) (offs s i + e) = t.extract 0 e ∧ (ex = true → (∃ M, Utf t M) ∧ offs s i + t.size = offs s j) := by
    intro R t ex hf h1 e1 i j hi hr
    have a := h1 i j hi hr
    refine ⟨by omega, ?_, fun hx => ⟨?_, a.2.2 hx⟩⟩
    · have h3 := congrArg (fun z : ByteArray => z.extract 0 e) a.2.1
      simp only [ByteArray.extract_extract] at h3
      rw [← h3]
      congr 1
      omega
    · have h3 := hf i j hr hi
      refine ⟨j - i, ?_⟩
      have h4 := utf_sub hU h3.1 h3.2
      rw [← a.2.2 hx, a.2.1] at h4
      exact h4
  intro i j hi hr
  rw [hz]
  rcases hr with hr | hr
  · obtain ⟨a, b, c⟩ := key hf h1 e1 i j hi hr
    refine ⟨a, b, fun hx => ?_⟩
    simp only [Bool.and_eq_true, decide_eq_true_eq] at hx
    have h3 := c hx.1.1
    rw [e4 hx.2 h3.1]; exact h3.2
  · obtain ⟨a, b, c⟩ := key hg h2 e2 i j hi hr
    refine ⟨a, by rw [b, e3], fun hx => ?_⟩
    simp only [Bool.and_eq_true, decide_eq_true_eq] at hx
    have h3 := c hx.1.2
    obtain ⟨⟨_, _⟩, rfl⟩ := hx
    rw [e4 rfl h3.1]; exact h3.2
def brep (t : ByteArray) (c : Nat) : ByteArray := ⟨(Lib.repeatL t.data.toList c).toArray⟩
theorem brep_zero (t : ByteArray) : brep t 0 = nob := rfl
theorem brep_succ (t : ByteArray) (c : Nat) : brep t (c + 1) = t ++ brep t c := by
  apply ByteArray.ext
  simp [brep, Lib.repeatL]
theorem brep_size (t : ByteArray) (c : Nat) : (brep t c).size = c * t.size := by
  induction c with
  | zero => rw [brep_zero, Nat.zero_mul]; rfl
  | succ c ih => rw [brep_succ, ByteArray.size_append, ih, Nat.succ_mul, Nat.add_comm]
theorem brep_nob (c : Nat) : brep nob c = nob := by
  have h := brep_size nob c
  rw [show nob.size = 0 from rfl, Nat.mul_zero] at h
  exact ByteArray.size_eq_zero_iff.1 h
theorem Hd.it (hf : Fwd N R) (h : Hd s N R t true) : ∀ c, Hd s N (It R c) (brep t c) true
  | 0 => by rw [brep_zero]; exact Hd.eps fun i j e => e
  | c + 1 => by
    rw [brep_succ]
    exact (Hd.seq hf h (Hd.it hf h c)).congr fun i j _ h => h
/-- What a repeat answers. -/
def repHead (mn mx : Int) (t : ByteArray) (ex : Bool) : ByteArray × Bool :=
  if mx = 0 then (nob, true) else if mn = 0 then (nob, ex && decide (t = nob)) else if ¬ ex = true ∨ t = nob then (t, ex) else (brep t mn.toNat, decide (mx = mn))
theorem Hd.rep (hf : Fwd N R) (h : Hd s N R t ex) {mn mx : Int} (h0 : 0 ≤ mn) (h1 : mx = -1 ∨ mn ≤ mx) :
    Hd s N (fun i j => ∃ c, mn.toNat ≤ c ∧ (mx = -1 ∨ c ≤ mx.toNat) ∧ It R c i j) (repHead mn mx t ex).1 (repHead mn mx t ex).2 := by
  have hall : Fwd N (fun i j => ∃ c, mn.toNat ≤ c ∧ (mx = -1 ∨ c ≤ mx.toNat) ∧ It R c i j) := fun i j ⟨c, _, _, hc⟩ hi => it_fwd hf c i j hc hi
  have hnob : t = nob → ex = true → Hd s N (fun i j => ∃ c, mn.toNat ≤ c ∧ (mx = -1 ∨ c ≤ mx.toNat) ∧ It R c i j) nob true := fun e1 e2 i j hi ⟨c, _, _, hc⟩ => by
    subst e1 e2
    have := Hd.it hf h c i j hi hc
    rwa [brep_nob] at this
  unfold repHead
  by_cases c1 : mx = 0
  · rw [if_pos c1]
    refine Hd.eps fun i j ⟨c, _, h2, h3⟩ => ?_
    obtain rfl : c = 0 := by omega
    exact h3
  rw [if_neg c1]
  by_cases c2 : mn = 0
  · rw [if_pos c2]
    by_cases c3 : ex = true ∧ t = nob
    · rw [show (ex && decide (t = nob)) = true by simp [c3]]
      exact hnob c3.2 c3.1
    · rw [show (ex && decide (t = nob)) = false by simpa using c3]
      exact Hd.none hall
  rw [if_neg c2]
  by_cases c3 : ¬ ex = true ∨ t = nob
  · rw [if_pos c3]
    by_cases c4 : ex = true
    · have e := c3.resolve_left (fun h => h c4)
      show Hd s N _ t ex
      rw [c4, e]; exact hnob e c4
    · have e : ex = false := by simpa using c4
      show Hd s N _ t ex
      rw [e]
      intro i j hi ⟨c, h2, _, h3⟩
      obtain ⟨c, rfl⟩ : ∃ c', c = c' + 1 := ⟨c - 1, by omega⟩
      exact Hd.cut hf (it_fwd hf c) h i j hi h3
  · rw [if_neg c3]
    have e : ex = true := by by_cases h : ex = true; exact h; exact (c3 (.inl h)).elim
    subst e
    intro i j hi ⟨c, h2, h3, h4⟩
    have hm := Hd.it hf h mn.toNat
    by_cases c5 : c = mn.toNat
    · subst c5
      have := hm i j hi h4
      exact ⟨this.1, this.2.1, fun _ => this.2.2 rfl⟩
    · obtain ⟨d, rfl⟩ : ∃ d, c = mn.toNat + d := ⟨c - mn.toNat, by omega⟩
      have h5 := Hd.cut (it_fwd hf _) (it_fwd hf d) hm i j hi (It.add.1 h4)
      exact ⟨h5.1, h5.2.1, fun hx => by simp only [decide_eq_true_eq] at hx; omega⟩
end Go.Proofs.Ytgboffefbpligaa
