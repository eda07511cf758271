/- A program run on a text: plain. -/
import Derived.Test.YtgboffefbpligaaPc
import Derived.Test.YtgboffefbpligaaRn
namespace Go.Proofs.Ytgboffefbpligaa
open Go.W Go.RowKit
set_option linter.unusedVariables false
set_option linter.unusedSimpArgs false

/-! ### places of a text -/
def offs (s : ByteArray) : Nat → Nat
  | 0 => 0
  | k + 1 => offs s k + (nextR s (offs s k)).2
def runeK (s : ByteArray) (k : Nat) : Int := (nextR s (offs s k)).1
def Utf (s : ByteArray) (N : Nat) : Prop := offs s N = s.size ∧ ∀ k, k < N → 0 < (nextR s (offs s k)).2
def runesK (s : ByteArray) (N : Nat) : List Int := (List.range N).map (runeK s)
theorem runesK_len (s : ByteArray) (N : Nat) : (runesK s N).length = N := by simp [runesK]
theorem runesK_get {s : ByteArray} {N k : Nat} (h : k < N) : (runesK s N)[k]? = some (runeK s k) := by simp [runesK, h]
theorem offs_le (s : ByteArray) (k : Nat) : offs s k ≤ s.size := by
  induction k with
  | zero => exact Nat.zero_le _
  | succ k ih =>
    rw [offs]
    rcases next_cases s (offs s k) with h | h
    · rw [h]; exact ih
    · exact h.2.2.2.2
theorem offs_mono (s : ByteArray) {a b : Nat} (h : a ≤ b) : offs s a ≤ offs s b := by
  induction h with
  | refl => exact Nat.le_refl _
  | step _ ih => rw [offs]; omega
theorem offs_lt {s : ByteArray} {N a b : Nat} (h : ∀ k, k < N → 0 < (nextR s (offs s k)).2) (hab : a < b) (hb : b ≤ N) : offs s a < offs s b := by
  have h1 := h a (by omega)
  have h2 : offs s (a + 1) ≤ offs s b := offs_mono s hab
  rw [offs] at h2
  omega
theorem next_byte {s : ByteArray} {a : Nat} (h : 0 < (nextR s a).2) : a + (nextR s a).2 ≤ s.size ∧ ((nextR s a).1 < 128 → (nextR s a).2 = 1 ∧ (sb s a : Int) = (nextR s a).1) ∧
    (128 ≤ (nextR s a).1 → 128 ≤ sb s a ∧ 128 ≤ sb s (a + (nextR s a).2 - 1)) ∧ 0 ≤ (nextR s a).1 := by
  by_cases ha : a < s.size
  · rcases decode_cases s a ha with ⟨w, h1, h2, h3, hh, -, h4, h5, -⟩ | ⟨h1, -⟩
    · rw [(next_hit h1 h2 h3 hh).1]
      refine ⟨h3, ?_, ?_, h4⟩
      all_goals
        have e : w = 1 ∨ w = 2 ∨ w = 3 ∨ w = 4 := by omega
        rcases e with rfl | rfl | rfl | rfl
        · have := (hit1 s a).1 hh
          intro hg
          rw [show guessB s a 1 = (sb s a : Int) from by simp [guessB]] at hg ⊢
          dsimp only
          omega
        · have := (hit2 s a).1 hh
          intro hg
          simp only [guessB, if_true, show (2 : Nat) ≠ 1 from by decide, if_false, show a + 2 - 1 = a + 1 from by omega] at hg ⊢
          omega
        · have := (hit3 s a).1 hh
          intro hg
          simp only [guessB, if_true, show (3 : Nat) ≠ 1 from by decide, show (3 : Nat) ≠ 2 from by decide, if_false, show a + 3 - 1 = a + 2 from by omega] at hg ⊢
          omega
        · have := (hit4 s a).1 hh
          intro hg
          simp only [guessB, if_true, show (4 : Nat) ≠ 1 from by decide, show (4 : Nat) ≠ 2 from by decide, show (4 : Nat) ≠ 3 from by decide, if_false, show a + 4 - 1 = a + 3 from by omega] at hg ⊢
          omega
    · rw [next_none h1] at h; cases h
  · rw [next_out (by omega)] at h; cases h

/-! ### what goes on, by bytes -/
def WordB (s : ByteArray) (j : Int) : Prop := 0 ≤ j ∧ j < s.size ∧ wordN (sb s j.toNat)
instance (s : ByteArray) (j : Int) : Decidable (WordB s j) := by unfold WordB; infer_instance
def GoesB (s : ByteArray) (c : In) (i : Nat) : Prop := c.op = 3 ∨ c.op = 4 ∨ c.op = 10 ∨ (c.op = 5 ∧ i = 0) ∨ (c.op = 6 ∧ i = s.size) ∨ (c.op = 7 ∧ (i = 0 ∨ sb s (i - 1) = 10)) ∨ (c.op = 8 ∧ (i = s.size ∨ sb s i = 10)) ∨
  (c.op = 9 ∧ (¬ (WordB s ((i : Int) - 1) ↔ WordB s i) ↔ c.arg = 0))
def EpsB (l : List In) (s : ByteArray) (i p q : Nat) : Prop := ∃ c, l[p]? = some c ∧ GoesB s c i ∧ ((q : Int) = c.out ∨ (c.op = 3 ∧ (q : Int) = c.alt))
def EatB (l : List In) (s : ByteArray) (i p q : Nat) : Prop := ∃ c, l[p]? = some c ∧ c.op = 2 ∧ (q : Int) = c.out ∧ 0 < (nextR s i).2 ∧ InR (nextR s i).1 c.rs
theorem rune_ten {s : ByteArray} {a : Nat} (h : 0 < (nextR s a).2) : (sb s a = 10 ↔ (nextR s a).1 = 10) ∧ (sb s (a + (nextR s a).2 - 1) = 10 ↔ (nextR s a).1 = 10) := by
  obtain ⟨h1, h2, h3, h4⟩ := next_byte h
  by_cases e : (nextR s a).1 < 128
  · obtain ⟨h5, h6⟩ := h2 e
    rw [h5, Nat.add_sub_cancel]; omega
  · have := h3 (by omega); omega
theorem rune_word {s : ByteArray} {a : Nat} (h : 0 < (nextR s a).2) : (wordN (sb s a) ↔ wordI (nextR s a).1) ∧ (wordN (sb s (a + (nextR s a).2 - 1)) ↔ wordI (nextR s a).1) := by
  obtain ⟨h1, h2, h3, h4⟩ := next_byte h
  unfold wordN wordI
  by_cases e : (nextR s a).1 < 128
  · obtain ⟨h5, h6⟩ := h2 e
    rw [h5, Nat.add_sub_cancel]; omega
  · have := h3 (by omega); omega
theorem bef_iff {s : ByteArray} {N k : Nat} (hU : Utf s N) (hk : k ≤ N) : WordB s ((offs s k : Nat) - 1) ↔ Bef (runesK s N) k := by
  unfold WordB Bef
  cases k with
  | zero => simp [offs]
  | succ k =>
    have hw := hU.2 k (by omega)
    have h1 := offs_le s (k + 1)
    rw [Nat.add_sub_cancel, runesK_get (by omega)]
    rw [offs] at h1 ⊢
    rw [show (((offs s k + (nextR s (offs s k)).2 : Nat) : Int) - 1).toNat = offs s k + (nextR s (offs s k)).2 - 1 from by omega, (rune_word hw).2]
    constructor
    · exact fun h => ⟨by omega, _, rfl, h.2.2⟩
    · rintro ⟨-, c, hc, h⟩
      cases hc
      exact ⟨by omega, by omega, h⟩
theorem off_end {s : ByteArray} {N k : Nat} (hU : Utf s N) (hk : k ≤ N) : offs s k = s.size ↔ k = N := by
  constructor
  · intro h
    by_cases e : k = N
    · exact e
    · have := offs_lt hU.2 (show k < N by omega) (Nat.le_refl _)
      rw [hU.1] at this; omega
  · rintro rfl; exact hU.1
theorem off_zero {s : ByteArray} {N k : Nat} (hU : Utf s N) (hk : k ≤ N) : offs s k = 0 ↔ k = 0 := by
  constructor
  · intro h
    by_cases e : k = 0
    · exact e
    · have := offs_lt hU.2 (show 0 < k by omega) hk
      omega
  · rintro rfl; rfl
theorem aft_iff {s : ByteArray} {N k : Nat} (hU : Utf s N) (hk : k ≤ N) : WordB s (offs s k : Nat) ↔ Aft (runesK s N) k := by
  unfold WordB Aft
  by_cases e : k = N
  · have h1 := (off_end hU hk).2 e
    constructor
    · intro h; omega
    · rintro ⟨c, hc, -⟩
      rw [List.getElem?_eq_none (by rw [runesK_len]; omega)] at hc; cases hc
  · have hw := hU.2 k (by omega)
    have h1 := (next_byte hw).1
    rw [runesK_get (by omega), Int.toNat_natCast, (rune_word hw).1]
    constructor
    · exact fun h => ⟨_, rfl, h.2.2⟩
    · rintro ⟨c, hc, h⟩
      cases hc
      exact ⟨by omega, by omega, h⟩
theorem goes_iff {s : ByteArray} {N k : Nat} (hU : Utf s N) (hk : k ≤ N) (c : In) : GoesB s c (offs s k) ↔ GoesOn (runesK s N) c k := by
  have e1 := off_zero hU hk
  have e2 := off_end hU hk
  have e3 := bef_iff hU hk
  have e4 := aft_iff hU hk
  have e5 : k = 0 ∨ (sb s (offs s k - 1) = 10 ↔ (runesK s N)[k - 1]? = some 10) := by
    cases k with
    | zero => exact .inl rfl
    | succ k =>
      right
      rw [Nat.add_sub_cancel, runesK_get (by omega), offs, (rune_ten (hU.2 k (by omega))).2, Option.some.injEq]
      rfl
  have e6 : k = N ∨ (sb s (offs s k) = 10 ↔ (runesK s N)[k]? = some 10) := by
    by_cases e : k = N
    · exact .inl e
    · right
      rw [runesK_get (by omega), (rune_ten (hU.2 k (by omega))).1, Option.some.injEq]
      rfl
  unfold GoesB GoesOn Plc
  rw [runesK_len]
  by_cases h3 : c.op = 3
  · simp [h3]
  by_cases h4 : c.op = 4
  · simp [h4]
  by_cases h10 : c.op = 10
  · simp [h10]
  by_cases h5 : c.op = 5
  · simp [h5, e1]
  by_cases h6 : c.op = 6
  · simp [h6, e2]
  by_cases h7 : c.op = 7
  · simp [h7, e1]
    rcases e5 with e5 | e5
    · simp [e5]
    · rw [e5]
  by_cases h8 : c.op = 8
  · simp [h8, e2]
    rcases e6 with e6 | e6
    · simp [e6]
    · rw [e6]
  by_cases h9 : c.op = 9
  · rw [e3, e4]
    by_cases ha : c.arg = 0
    · simp [h9, ha]
    · simp [h9, ha]
  · have n1 : ¬ (5 ≤ c.op ∧ c.op ≤ 8) := by clear e1 e2 e3 e4 e5 e6; omega
    simp only [h3, h4, h10, h5, h6, h7, h8, h9, false_and, false_or, or_false]
    exact iff_of_false id (fun ⟨a, b, _⟩ => n1 ⟨a, b⟩)

/-! ### what a program reaches -/
inductive WB (l : List In) (s : ByteArray) : Nat → Nat → Prop
  | init : WB l s 0 0
  | eps {p q k : Nat} : WB l s p k → EpsB l s (offs s k) p q → WB l s q k
  | eat {p q k : Nat} : WB l s p k → EatB l s (offs s k) p q → WB l s q (k + 1)
def Nice (c : In) : Prop := c.op ≠ 1 ∧ 0 ≤ c.out ∧ 0 ≤ c.alt ∧ c.rs.length ≤ 1048576
structure ProgOk (x : Rx) (l : List In) (n : Nat) : Prop where
  len : l.length = n + 1
  last : l[n]? = some ⟨1, 0, 0, 0, []⟩
  ops : ∀ p c, p < n → l[p]? = some c → Nice c
  blk : Blk l x 0 n
  good : Good x
section
variable {x : Rx} {l : List In} {n : Nat}
theorem ProgOk.leads (h : ProgOk x l n) (rs : List Int) : Leads l rs 0 n (Mt rs x) := blk_leads h.good 0 n h.blk
theorem ProgOk.stuck (h : ProgOk x l n) {rs : List Int} {i q j : Nat} : ¬ Step l rs n i q j := fun hs => by
  rcases step_get h.last hs with ⟨-, hg, -⟩ | ⟨-, h2, -⟩
  · unfold GoesOn at hg; simp at hg
  · cases h2
theorem eps_iff {s : ByteArray} {N k p q : Nat} (hU : Utf s N) (hk : k ≤ N) : EpsB l s (offs s k) p q ↔ Eps l (runesK s N) k p q := by
  unfold EpsB Eps
  constructor
  · rintro ⟨c, h1, h2, h3⟩; exact ⟨c, h1, (goes_iff hU hk c).1 h2, h3⟩
  · rintro ⟨c, h1, h2, h3⟩; exact ⟨c, h1, (goes_iff hU hk c).2 h2, h3⟩
theorem eat_iff {s : ByteArray} {N k p q : Nat} (hU : Utf s N) (hk : k ≤ N) : EatB l s (offs s k) p q ↔ Eat l (runesK s N) k p q := by
  unfold EatB Eat
  constructor
  · rintro ⟨c, h1, h2, h3, h4, h5⟩
    have : k < N := by
      by_cases e : k = N
      · have := (next_byte h4).1
        have h6 := (off_end hU hk).2 e
        omega
      · omega
    exact ⟨c, h1, h2, h3, _, runesK_get this, h5⟩
  · rintro ⟨c, h1, h2, h3, r, h4, h5⟩
    have hk' : k < N := by
      by_cases e : k < N
      · exact e
      · rw [List.getElem?_eq_none (by rw [runesK_len]; omega)] at h4; cases h4
    rw [runesK_get hk'] at h4
    cases h4
    exact ⟨c, h1, h2, h3, hU.2 k hk', h5⟩
theorem wb_way {s : ByteArray} {N : Nat} (hP : ProgOk x l n) (hU : Utf s N) {p k : Nat} (h : WB l s p k) : k ≤ N → p ≤ n ∧ Way l (runesK s N) 0 n p k 0 0 := by
  have hL := hP.leads (runesK s N)
  induction h with
  | init => exact fun _ => ⟨by omega, .nil⟩
  | eps hw he ih =>
    rename_i p q k
    intro hk
    obtain ⟨h1, h2⟩ := ih hk
    have hs : Step l (runesK s N) p k q k := .inl ⟨rfl, (eps_iff hU hk).1 he⟩
    have hp : p < n := by
      by_cases e : p = n
      · subst e; exact (hP.stuck hs).elim
      · omega
    exact ⟨(hL.cl _ _ _ _ (by omega) hp hs).2, h2.trans (.cons (by omega) hp hs .nil)⟩
  | eat hw he ih =>
    rename_i p q k
    intro hk
    obtain ⟨h1, h2⟩ := ih (by omega)
    have hs : Step l (runesK s N) p k q (k + 1) := .inr ⟨rfl, (eat_iff hU (by omega)).1 he⟩
    have hp : p < n := by
      by_cases e : p = n
      · subst e; exact (hP.stuck hs).elim
      · omega
    exact ⟨(hL.cl _ _ _ _ (by omega) hp hs).2, h2.trans (.cons (by omega) hp hs .nil)⟩
theorem way_le {rs : List Int} {a b q j p i : Nat} (h : Way l rs a b q j p i) : i ≤ j := by
  induction h with
  | nil => exact Nat.le_refl _
  | cons _ _ hs _ ih => rcases hs with ⟨rfl, -⟩ | ⟨rfl, -⟩ <;> omega
theorem way_wb {s : ByteArray} {N : Nat} (hU : Utf s N) {q j p i : Nat} (h : Way l (runesK s N) 0 n q j p i) : j ≤ N → WB l s p i → WB l s q j := by
  induction h with
  | nil => exact fun _ h => h
  | cons ha hb hs hw ih =>
    rename_i p i p' i'
    intro hj hp
    refine ih hj ?_
    have hle : i' ≤ j := way_le hw
    rcases hs with ⟨rfl, he⟩ | ⟨rfl, he⟩
    · exact .eps hp ((eps_iff hU (by omega)).2 he)
    · exact .eat hp ((eat_iff hU (by omega)).2 he)
/-- The program takes a text just where its tree matches it. -/
theorem taken_iff {s : ByteArray} {N : Nat} (hP : ProgOk x l n) (hU : Utf s N) : (∃ p c, WB l s p N ∧ l[p]? = some c ∧ c.op = 1) ↔ Mt (runesK s N) x 0 N := by
  rw [← (hP.leads _).way]
  constructor
  · rintro ⟨p, c, h1, h2, h3⟩
    obtain ⟨h4, h5⟩ := wb_way hP hU h1 (Nat.le_refl _)
    by_cases e : p = n
    · subst e; exact h5
    · exact ((hP.ops p c (by omega) h2).1 h3).elim
  · exact fun h => ⟨n, _, way_wb hU h (Nat.le_refl _) .init, hP.last, rfl⟩

/-! ### targets stay in the program -/
structure RngC (m : Nat) (c : In) : Prop where
  eps : (3 ≤ c.op ∧ c.op ≤ 10) → 0 ≤ c.out ∧ c.out < m
  alt : c.op = 3 → 0 ≤ c.alt ∧ c.alt < m
  eat : c.op = 2 → (∃ r, InR r c.rs) → 0 ≤ c.out ∧ c.out < m
def Rng (l : List In) : Prop := ∀ (p : Nat) (c : In), l[p]? = some c → RngC l.length c
theorem ProgOk.rng (h : ProgOk x l n) : Rng l := fun p c hc => by
  have hlen := h.len
  by_cases hp : p < n
  · obtain ⟨h1, h2, h3, -⟩ := h.ops p c hp hc
    have key : ∀ (rs : List Int) (i : Nat), GoesOn rs c i → c.out < l.length := fun rs i hg => by
      have := (h.leads rs).cl p i c.out.toNat i (by omega) hp (.inl ⟨rfl, c, hc, hg, .inl (by omega)⟩)
      omega
    refine ⟨fun h4 => ⟨h2, ?_⟩, fun h5 => ⟨h3, ?_⟩, fun h4 ⟨r, hr⟩ => ⟨h2, ?_⟩⟩
    · have e : c.op = 3 ∨ c.op = 4 ∨ c.op = 10 ∨ (c.op = 5 ∨ c.op = 6 ∨ c.op = 7 ∨ c.op = 8) ∨ c.op = 9 := by omega
      rcases e with e | e | e | e | e
      · exact key [] 0 (by unfold GoesOn; omega)
      · exact key [] 0 (by unfold GoesOn; omega)
      · exact key [] 0 (by unfold GoesOn; omega)
      · refine key [] 0 ?_
        unfold GoesOn Plc
        rcases e with e | e | e | e <;> rw [e] <;> simp
      · by_cases ha : c.arg = 0
        · refine key [97] 0 ?_
          unfold GoesOn Plc Bef Aft
          rw [e, ha]; simp [wordI]
        · refine key [] 0 ?_
          unfold GoesOn Plc Bef Aft
          rw [e, if_neg ha]; simp
    · have := (h.leads []).cl p 0 c.alt.toNat 0 (by omega) hp (.inl ⟨rfl, c, hc, .inl h5, .inr ⟨h5, by omega⟩⟩)
      omega
    · have := (h.leads [r]).cl p 0 c.out.toNat 1 (by omega) hp (.inr ⟨rfl, c, hc, h4, by omega, r, rfl, hr⟩)
      omega
  · have h1 := (List.getElem?_eq_some_iff.1 hc).1
    obtain rfl : p = n := by omega
    rw [h.last] at hc
    cases hc
    exact ⟨fun h => by simp at h, fun h => by simp at h, fun h => by simp at h⟩
end

/-! ### spreading -/
inductive EpsS (l : List In) (s : ByteArray) (i : Nat) (init : List Nat) : Nat → Prop
  | base {q : Nat} : q ∈ init → EpsS l s i init q
  | step {p q : Nat} : EpsS l s i init p → EpsB l s i p q → EpsS l s i init q
structure SI (l : List In) (s : ByteArray) (i : Nat) (init ls : List Nat) (k : Nat) (out : List Nat) : Prop where
  le : k ≤ ls.length
  bound : ls.length ≤ init.length + 2 * out.length
  rng : ∀ q, q ∈ ls → q < l.length
  nd : out.Nodup
  done : ∀ j (h : j < ls.length), j < k → ls[j] ∈ out
  succ : ∀ p q, p ∈ out → EpsB l s i p q → q ∈ ls
  sound : ∀ q, q ∈ ls → EpsS l s i init q
  sub : ∀ q, q ∈ out → q ∈ ls
  init : ∀ q, q ∈ init → q ∈ ls
section
variable {l : List In} {s : ByteArray} {i : Nat} {init ls out : List Nat} {k : Nat}
theorem SI.start (h : ∀ q, q ∈ init → q < l.length) : SI l s i init init 0 [] where
  le := Nat.zero_le _
  bound := by simp
  rng := h
  nd := List.nodup_nil
  done := fun j h h' => by omega
  succ := fun p q h => by cases h
  sound := fun q h => .base h
  sub := fun q h => by cases h
  init := fun q h => h
theorem SI.olen (h : SI l s i init ls k out) : out.length ≤ l.length := seen_le h.nd (fun q hq => h.rng q (h.sub q hq))
theorem SI.skip (h : SI l s i init ls k out) (hk : k < ls.length) (hm : ls[k] ∈ out) : SI l s i init ls (k + 1) out where
  le := hk
  bound := h.bound
  rng := h.rng
  nd := h.nd
  done := fun j hj hjk => by
    by_cases e : j < k
    · exact h.done j hj e
    · obtain rfl : j = k := by omega
      exact hm
  succ := h.succ
  sound := h.sound
  sub := h.sub
  init := h.init
theorem SI.take (h : SI l s i init ls k out) (hk : k < ls.length) (hm : ls[k] ∉ out) {more : List Nat} (h2 : more.length ≤ 2) (hmore : ∀ q, q ∈ more ↔ EpsB l s i ls[k] q) (hr : ∀ q, q ∈ more → q < l.length) : SI l s i init (ls ++ more) (k + 1) (out ++ [ls[k]]) where
  le := by rw [List.length_append]; omega
  bound := by have := h.bound; simp only [List.length_append, List.length_cons, List.length_nil]; omega
  rng := fun q hq => by
    rcases List.mem_append.1 hq with hq | hq
    · exact h.rng q hq
    · exact hr q hq
  nd := by
    rw [List.nodup_append]
    exact ⟨h.nd, by simp, fun a ha b hb e => by rw [List.mem_singleton] at hb; subst hb; subst e; exact hm ha⟩
  done := fun j hj hjk => by
    rw [List.getElem_append_left (by omega)]
    by_cases e : j < k
    · exact List.mem_append_left _ (h.done j (by omega) e)
    · obtain rfl : j = k := by omega
      exact List.mem_append_right _ (by simp)
  succ := fun p q hp he => by
    rcases List.mem_append.1 hp with hp | hp
    · exact List.mem_append_left _ (h.succ p q hp he)
    · rw [List.mem_singleton] at hp; subst hp
      exact List.mem_append_right _ ((hmore q).2 he)
  sound := fun q hq => by
    rcases List.mem_append.1 hq with hq | hq
    · exact h.sound q hq
    · exact .step (h.sound _ (List.getElem_mem hk)) ((hmore q).1 hq)
  sub := fun q hq => by
    rcases List.mem_append.1 hq with hq | hq
    · exact List.mem_append_left _ (h.sub q hq)
    · rw [List.mem_singleton] at hq; subst hq
      exact List.mem_append_left _ (List.getElem_mem hk)
  init := fun q hq => List.mem_append_left _ (h.init q hq)
theorem SI.stop (h : SI l s i init ls k out) (hk : ls.length ≤ k) (q : Nat) : q ∈ out ↔ EpsS l s i init q := by
  have hall : ∀ q, q ∈ ls → q ∈ out := fun q hq => by
    obtain ⟨j, hj, rfl⟩ := List.getElem_of_mem hq
    exact h.done j hj (by omega)
  constructor
  · exact fun hq => h.sound q (h.sub q hq)
  · intro hq
    induction hq with
    | base hb => exact hall _ (h.init _ hb)
    | step _ he ih => exact hall _ (h.succ _ _ ih he)
end
/-- The places that are come to, before spreading. -/
def Front (l : List In) (s : ByteArray) (k q : Nat) : Prop := (k = 0 ∧ q = 0) ∨ ∃ k' p, k = k' + 1 ∧ WB l s p k' ∧ EatB l s (offs s k') p q
theorem spread_wb {l : List In} {s : ByteArray} {k : Nat} {init : List Nat} (h : ∀ q, q ∈ init ↔ Front l s k q) (q : Nat) : EpsS l s (offs s k) init q ↔ WB l s q k := by
  constructor
  · intro hq
    induction hq with
    | base hb =>
      rcases (h _).1 hb with ⟨rfl, rfl⟩ | ⟨k', p, rfl, h1, h2⟩
      · exact .init
      · exact .eat h1 h2
    | step _ he ih => exact .eps ih he
  · intro hq
    cases hq with
    | init => exact .base ((h _).2 (.inl ⟨rfl, rfl⟩))
    | eat h1 h2 => exact .base ((h _).2 (.inr ⟨_, _, rfl, h1, h2⟩))
    | eps h1 h2 =>
      refine .step ?_ h2
      clear h2
      induction h1 with
      | init => exact .base ((h _).2 (.inl ⟨rfl, rfl⟩))
      | eat h1 h2 => exact .base ((h _).2 (.inr ⟨_, _, rfl, h1, h2⟩))
      | eps h1 h2 ih => exact .step (ih h) h2
end Go.Proofs.Ytgboffefbpligaa
