/- Quo: part 4 of 5 of what the law rests on. -/
import Derived.Test.YtidpigbinpaaeaaGreatVkC
set_option linter.unusedSectionVars false
set_option linter.unusedSimpArgs false
set_option linter.unusedVariables false
namespace Go.Proofs.YtidpigbinpaaeaaGreat
def Mov.to : Mov → Nat → Prop
  | .go o, q => q = o
  | .split o a, q => q = o ∨ q = a
  | .save _ o, q => q = o
  | _, _ => False
theorem Mov.to_leaf {m : Mov} (h : m.leaf = true) {q : Nat} : ¬ m.to q := by
  cases m <;> simp [Mov.leaf] at h <;> exact id
section
variable (mv : Nat → Nat → Mov) (nxt : Nat → Option Nat) (len : Nat)
inductive Fn : Nat → Nat → Prop
  | mat {a i : Nat} (ha : a = len) (h : mv a i = .mat) : Fn a i
  | rune {a b i o : Nat} (ha : a ≠ len) (h : mv a i = .rune (some o)) (hn : nxt a = some b) (k : Fn b o) : Fn a i
  | eps {a i o : Nat} (h : (mv a i).to o) (k : Fn a o) : Fn a i
inductive EpsR (a : Nat) : Nat → Nat → Prop
  | refl {i : Nat} : EpsR a i i
  | step {i o j : Nat} (h : (mv a i).to o) (k : EpsR a o j) : EpsR a i j
structure EpsI (a : Nat) (st L : List Th) (V V' : Vis) : Prop where
  up : ∀ i, V i = true → V' i = true
  top : ∀ x, x ∈ st → V' x.1 = true
  cl : ∀ i, V' i = true → V i = true ∨ (((mv a i).leaf = true → ∃ t, (i, t) ∈ L) ∧ ∀ o, (mv a i).to o → V' o = true)
  fr : ∀ x, x ∈ L → (mv a x.1).leaf = true ∧ ∃ y, y ∈ st ∧ EpsR mv a y.1 x.1
end
variable {mv : Nat → Nat → Mov} {nxt : Nat → Option Nat} {len : Nat}
theorem XW {V : Vis} {i j : Nat} (h : V.add i j = true) : j = i ∨ V j = true := by
  unfold Vis.add at h
  split at h
  · exact .inl (by assumption)
  · exact .inr h
theorem XV {V : Vis} {i j : Nat} (h : V j = true) : V.add i j = true := by
  unfold Vis.add
  split
  · rfl
  · exact h
theorem IR {V : Vis} {i : Nat} : V.add i i = true := by unfold Vis.add; rw [if_pos rfl]
theorem EpsI.cons {a i : Nat} {t : eN} {st st' L : List Th} {V V' : Vis} (h : EpsI mv a (st' ++ st) L (V.add i) V') (hl : (mv a i).leaf = false) (hto : ∀ o, (mv a i).to o ↔ ∃ x, x ∈ st' ∧ x.1 = o) : EpsI mv a ((i, t) :: st) L V V' := by
  refine ⟨fun j hj => h.up j (XV hj), fun x hx => ?_, fun j hj => ?_, fun x hx => ?_⟩
  · rcases List.mem_cons.1 hx with rfl | hx
    · exact h.up _ IR
    · exact h.top x (List.mem_append_right _ hx)
  · rcases h.cl j hj with h1 | h1
    · rcases XW h1 with rfl | h2
      · refine .inr ⟨fun h3 => ?_, fun o ho => ?_⟩
        · rw [hl] at h3; cases h3
        · obtain ⟨x, hx, rfl⟩ := (hto o).1 ho
          exact h.top x (List.mem_append_left _ hx)
      · exact .inl h2
    · exact .inr h1
  · obtain ⟨h1, y, hy, h2⟩ := h.fr x hx
    refine ⟨h1, ?_⟩
    rcases List.mem_append.1 hy with hy | hy
    · exact ⟨_, List.mem_cons_self .., .step ((hto y.1).2 ⟨y, hy, rfl⟩) h2⟩
    · exact ⟨y, List.mem_cons_of_mem _ hy, h2⟩
theorem WY {a : Nat} {st L : List Th} {V V' : Vis} (h : Ept mv a st V L V') : EpsI mv a st L V V' := by
  induction h with
  | nil => exact ⟨fun _ h => h, fun _ h => (by cases h), fun _ h => .inl h, fun _ h => by cases h⟩
  | @seen i t st V L V' h _ ih =>
    refine ⟨ih.up, fun x hx => ?_, ih.cl, fun x hx => ?_⟩
    · rcases List.mem_cons.1 hx with rfl | hx
      · exact ih.up _ h
      · exact ih.top x hx
    · obtain ⟨h1, y, hy, h2⟩ := ih.fr x hx
      exact ⟨h1, y, List.mem_cons_of_mem _ hy, h2⟩
  | @leaf i t st V L V' h hl _ ih =>
    refine ⟨fun j hj => ih.up j (XV hj), fun x hx => ?_, fun j hj => ?_, fun x hx => ?_⟩
    · rcases List.mem_cons.1 hx with rfl | hx
      · exact ih.up _ IR
      · exact ih.top x hx
    · rcases ih.cl j hj with h1 | h1
      · rcases XW h1 with rfl | h2
        · exact .inr ⟨fun _ => ⟨t, List.mem_cons_self ..⟩, fun o ho => (Mov.to_leaf hl ho).elim⟩
        · exact .inl h2
      · exact .inr ⟨fun h2 => by obtain ⟨t', h3⟩ := h1.1 h2; exact ⟨t', List.mem_cons_of_mem _ h3⟩, h1.2⟩
    · rcases List.mem_cons.1 hx with rfl | hx
      · exact ⟨hl, _, List.mem_cons_self .., .refl⟩
      · obtain ⟨h1, y, hy, h2⟩ := ih.fr x hx
        exact ⟨h1, y, List.mem_cons_of_mem _ hy, h2⟩
  | @go i t st V L V' o h hm _ ih => exact EpsI.cons (st' := [(o, t)]) ih (by rw [hm]; rfl) (fun q => by rw [hm]; simp [Mov.to, eq_comm])
  | @split i t st V L V' o b h hm _ ih => exact EpsI.cons (st' := [(o, t), (b, t)]) ih (by rw [hm]; rfl) (fun q => by rw [hm]; simp [Mov.to, eq_comm])
  | @save i t st V L V' k o h hm _ ih => exact EpsI.cons (st' := [(o, _)]) ih (by rw [hm]; rfl) (fun q => by rw [hm]; simp [Mov.to, eq_comm])
  | @dead i t st V L V' h hm _ ih => exact EpsI.cons (st' := []) ih (by rw [hm]; rfl) (fun q => by rw [hm]; simp [Mov.to])
theorem EpsR.fn {a i j : Nat} (h : EpsR mv a i j) (k : Fn mv nxt len a j) : Fn mv nxt len a i := by
  induction h with
  | refl => exact k
  | step h _ ih => exact .eps h (ih k)
theorem WH {a i : Nat} {st L : List Th} {V V' : Vis} (hI : EpsI mv a st L V V') (hV : ∀ i, V i = false) (h : Fn mv nxt len a i) : V' i = true → ∃ x, x ∈ L ∧ ((a = len ∧ mv a x.1 = .mat) ∨ (a ≠ len ∧ ∃ o b, mv a x.1 = .rune (some o) ∧ nxt a = some b ∧ Fn mv nxt len b o)) := by
  intro hi
  induction h with
  | @mat a i ha h =>
    rcases hI.cl i hi with h1 | h1
    · rw [hV] at h1; cases h1
    · obtain ⟨t, ht⟩ := h1.1 (by rw [h]; rfl)
      exact ⟨_, ht, .inl ⟨ha, h⟩⟩
  | @rune a b i o ha h hn k _ =>
    rcases hI.cl i hi with h1 | h1
    · rw [hV] at h1; cases h1
    · obtain ⟨t, ht⟩ := h1.1 (by rw [h]; rfl)
      exact ⟨_, ht, .inr ⟨ha, o, b, h, hn, k⟩⟩
  | @eps a i o h k ih =>
    rcases hI.cl i hi with h1 | h1
    · rw [hV] at h1; cases h1
    · exact ih hI (h1.2 o h)
theorem LL {a : Nat} {L : List Th} : (first mv a L).isSome = true ↔ ∃ x, x ∈ L ∧ mv a x.1 = .mat := by
  rw [zD, Option.isSome_map, List.find?_isSome]
  constructor
  · rintro ⟨x, hx, h⟩
    refine ⟨x, hx, ?_⟩
    cases hm : mv a x.1 <;> rw [hm] at h <;> first | rfl | cases h
  · rintro ⟨x, hx, h⟩
    exact ⟨x, hx, by rw [h]; rfl⟩
theorem BN {a : Nat} {L : List Th} {y : Th} : y ∈ iM mv a L ↔ ∃ x, x ∈ L ∧ mv a x.1 = .rune (some y.1) ∧ y.2 = x.2 := by
  unfold iM
  rw [List.mem_filterMap]
  constructor
  · rintro ⟨x, hx, h⟩
    refine ⟨x, hx, ?_⟩
    split at h
    · cases h; exact ⟨by assumption, rfl⟩
    · cases h
  · rintro ⟨x, hx, h, h2⟩
    refine ⟨x, hx, ?_⟩
    rw [h]
    simp only
    rw [← h2]
theorem pk_fn (hup : ∀ a b, nxt a = some b → a < b) {a : Nat} {E : List Th} {W W' : Wt} {r : Option eN} (h : Pk mv nxt len a E W r W') : (∀ c, a ≤ c → ∀ i, W c i = false) → (r.isSome = true ↔ ∃ x, x ∈ E ∧ Fn mv nxt len a x.1) := by
  induction h with
  | @last a E W L V' h k =>
    intro hW
    have hI := WY k
    rw [LL]
    constructor
    · rintro ⟨x, hx, hm⟩
      obtain ⟨-, y, hy, he⟩ := hI.fr x hx
      exact ⟨y, hy, he.fn (.mat h hm)⟩
    · rintro ⟨y, hy, hf⟩
      obtain ⟨x, hx, h1 | h1⟩ := WH hI (hW a (Nat.le_refl _)) hf (hI.top y hy)
      · exact ⟨x, hx, h1.2⟩
      · exact (h1.1 h).elim
  | @stop a E W L V' h hn k =>
    intro hW
    have hI := WY k
    refine ⟨fun h1 => (by cases h1), fun ⟨y, hy, hf⟩ => ?_⟩
    obtain ⟨x, hx, h1 | ⟨-, o, b, -, h2, -⟩⟩ := WH hI (hW a (Nat.le_refl _)) hf (hI.top y hy)
    · exact (h h1.1).elim
    · rw [hn] at h2; cases h2
  | @next a b E W L V' r W' h hn k p ih =>
    intro hW
    have hI := WY k
    rw [ih (fun c hc => hW c (by have := hup a b hn; omega))]
    constructor
    · rintro ⟨y, hy, hf⟩
      obtain ⟨x, hx, hm, -⟩ := BN.1 hy
      obtain ⟨-, z, hz, he⟩ := hI.fr x hx
      exact ⟨z, hz, he.fn (.rune h hm hn hf)⟩
    · rintro ⟨y, hy, hf⟩
      obtain ⟨x, hx, h1 | ⟨-, o, b', h2, h3, h4⟩⟩ := WH hI (hW a (Nat.le_refl _)) hf (hI.top y hy)
      · exact (h h1.1).elim
      · rw [hn] at h3; cases h3
        exact ⟨(o, x.2), BN.2 ⟨x, hx, h2, rfl⟩, h4⟩
end Go.Proofs.YtidpigbinpaaeaaGreat
namespace Go.Proofs.YtidpigbinpaaeaaGreat
inductive CapsB (G : Int) : Rx → Prop
  | mk {x : Rx} : (x.kind = 7 → x.cap ≤ G) → (∀ k, k ∈ x.kids → CapsB G k) → CapsB G x
def Snd (l : List In) (G : Int) (a b : Nat) : Prop := ∀ p, a ≤ p → p < b → ∃ c, l[p]? = some c ∧ mR c l.length G
variable {l : List In} {G : Int}
theorem xG (a : Nat) : Snd l G a a := fun p h1 h2 => by omega
theorem lE {a : Nat} {c : In} (h : l[a]? = some c) (hs : mR c l.length G) : Snd l G a (a + 1) := fun p h1 h2 => by
  obtain rfl : p = a := by omega
  exact ⟨c, h, hs⟩
theorem Snd.app {a m b : Nat} (h1 : Snd l G a m) (h2 : Snd l G m b) : Snd l G a b := fun p ha hb => by
  by_cases e : p < m
  · exact h1 p ha e
  · exact h2 p (by omega) hb
theorem RsUp.nil (k : Nat) : RsUp [] k := fun i h _ => by simp at h
theorem xZ {op : Int} {o : Int} (h1 : 5 ≤ op ∧ op ≤ 10 ∧ op ≠ 9) (h2 : 0 ≤ o ∧ o < l.length) : mR ⟨op, o, 0, 0, []⟩ l.length G :=
  ⟨by unfold xC; simp; omega, RsUp.nil _⟩
theorem xW {o a : Int} (ha : a = 0 ∨ a = 1) (h2 : 0 ≤ o ∧ o < l.length) : mR ⟨9, o, 0, a, []⟩ l.length G :=
  ⟨by unfold xC; simp; omega, RsUp.nil _⟩
theorem rJ {z : Bool} {a b : Nat} (ha : a < l.length) (hb : b < l.length) : mR (In.sp z a b) l.length G := by
  cases z <;> exact ⟨by unfold xC In.sp; simp; omega, RsUp.nil _⟩
theorem xX {a : Nat} {k : Int} (ha : a < l.length) (hk : 2 ≤ k ∧ k ≤ 2 * G + 1) : mR ⟨4, (a : Int), 0, k, []⟩ l.length G :=
  ⟨by unfold xC; simp; omega, RsUp.nil _⟩
theorem xY {a : Nat} {rs : List (Int × Int)} (ha : a < l.length) (hn : rs ≠ []) (hr : RsUp rs rs.length) : mR ⟨2, (a : Int), 0, 0, rs⟩ l.length G :=
  ⟨by have := List.length_pos_iff.2 hn; unfold xC; simp; omega, hr⟩
theorem JV : mR ⟨11, 0, 0, 0, []⟩ l.length G := ⟨by unfold xC; simp, RsUp.nil _⟩
theorem JU {k : Int} {a : Nat} (h8 : 8 ≤ k) (h13 : k ≤ 13) (ha : a + 1 < l.length) : mR (lI k a) l.length G := by
  unfold lI
  by_cases e : k = 13
  · rw [if_pos e, if_pos e]; exact xW (.inr rfl) (by omega)
  · rw [if_neg e, if_neg e]
    by_cases e9 : k = 12
    · rw [show k - 3 = 9 by omega]; exact xW (.inl rfl) (by omega)
    · exact xZ (by omega) (by omega)
theorem MR {B : Nat → Nat → Prop} (hle : ∀ a b, B a b → a ≤ b) (hB : ∀ a b, B a b → b < l.length → Snd l G a b) : ∀ (r a b : Nat), Rep B r a b → a ≤ b ∧ (b < l.length → Snd l G a b)
  | 0, a, b, h => by
    obtain rfl : a = b := h
    exact ⟨Nat.le_refl _, fun _ => xG a⟩
  | r + 1, a, b, ⟨m, h1, h2⟩ => by
    obtain ⟨h3, h4⟩ := MR hle hB r m b h2
    have h5 := hle a m h1
    exact ⟨by omega, fun hb => (hB a m h1 (by omega)).app (h4 hb)⟩
theorem NH {z : Bool} {B : Nat → Nat → Prop} {e : Nat} (he : e < l.length) (hle : ∀ a b, B a b → a ≤ b) (hB : ∀ a b, B a b → b < l.length → Snd l G a b) : ∀ (r a : Nat), Opt l z B e r a → a ≤ e ∧ Snd l G a e
  | 0, a, h => by
    obtain rfl : a = e := h
    exact ⟨Nat.le_refl _, xG a⟩
  | r + 1, a, ⟨m, h1, h2, h3⟩ => by
    obtain ⟨h4, h5⟩ := NH he hle hB r m h3
    have h6 := hle _ _ h2
    exact ⟨by omega, ((lE h1 (rJ (by omega) he)).app (hB _ _ h2 (by omega))).app h5⟩
theorem ER {ks : List Rx} (hg : ∀ k, k ∈ ks → Good k) {a b : Nat} (h : iP l ks a b) : a ≤ b := (kT (rs := []) (fun k hk a b hb => sW (hg k hk) a b hb) h).le
theorem blka_le {ks : List Rx} (hg : ∀ k, k ∈ ks → Good k) {a b : Nat} (h : rG l ks a b) : a ≤ b := (tY (rs := []) (fun k hk a b hb => sW (hg k hk) a b hb) h).le
theorem uO : ∀ {ks : List Rx}, (∀ k, k ∈ ks → Good k) → (∀ k, k ∈ ks → ∀ a b, Blk l k a b → b < l.length → Snd l G a b) → ∀ {a b}, iP l ks a b → b < l.length → Snd l G a b
  | [], _, _, a, b, h, _ => by rw [iP] at h; subst h; exact xG a
  | x :: xs, hg, hk, a, b, h, hb => by
    rw [iP] at h
    obtain ⟨m, h1, h2⟩ := h
    have := ER (fun k hk' => hg k (by simp [hk'])) h2
    exact (hk x (by simp) a m h1 (by omega)).app (uO (fun k hk' => hg k (by simp [hk'])) (fun k hk' => hk k (by simp [hk'])) h2 hb)
theorem IM : ∀ {ks : List Rx}, (∀ k, k ∈ ks → Good k) → (∀ k, k ∈ ks → ∀ a b, Blk l k a b → b < l.length → Snd l G a b) → ∀ {a b}, rG l ks a b → b < l.length → Snd l G a b
  | [], _, _, a, b, h, _ => by rw [rG] at h; exact h.elim
  | x :: xs, hg, hk, a, b, h, hb => by
    rw [rG] at h
    obtain ⟨h1, h2⟩ := h
    by_cases e : xs = []
    · subst e
      exact hk x (by simp) a b (h1 rfl) hb
    · obtain ⟨m, h3, h4, h5, h6⟩ := h2 e
      have hle := blka_le (fun k hk' => hg k (by simp [hk'])) h6
      have hle2 := (sW (rs := []) (hg x (by simp)) _ _ h4).le
      exact (((lE h3 (rJ (by omega) (by omega))).app (hk x (by simp) _ _ h4 (by omega))).app (lE h5 (xZ (by decide) (by omega)))).app (IM (fun k hk' => hg k (by simp [hk'])) (fun k hk' => hk k (by simp [hk'])) h6 hb)
theorem blk_snd {x : Rx} (hg : Good x) : CapsB G x → ∀ a b, Blk l x a b → b < l.length → Snd l G a b := by
  induction hg with
  | @mk x hn hc hkg ih =>
    intro hC a b hb hlt
    obtain ⟨hcap, hck⟩ := hC
    have hk2 : ∀ y, y ∈ x.kids → ∀ a b, Blk l y a b → b < l.length → Snd l G a b := fun y hy => ih y hy (hck y hy)
    have k1 := hn.kind1
    have k2 := hn.kind2
    have klit := hn.lit
    have kcls := hn.cls
    obtain ⟨k, r, g, mn, mx, lz, cp, nm, ks⟩ := x
    simp only [Rx.kind, Rx.kids, Rx.min, Rx.max, Rx.cap, Rx.r, Rx.ranges] at *
    rw [Blk] at hb
    obtain ⟨b1, b2, b3, b4, b5, b6, b7, b8⟩ := hb
    by_cases e1 : k = 1
    · rw [b1 e1]; exact xG a
    by_cases e2 : k = 2
    · obtain ⟨rfl, h⟩ := b2 e2
      have h3 := klit e2
      refine lE h (xY (a := a + 1) hlt (by simp) fun i hi _ => ?_)
      simp only [List.length_cons, List.length_nil] at hi
      obtain rfl : i = 0 := by omega
      exact ⟨h3.1, Int.le_refl _, h3.2, fun h0 => by omega⟩
    by_cases e3 : k = 3
    · obtain ⟨rfl, h⟩ := b3 e3
      by_cases eg : g = []
      · rw [if_pos eg] at h; exact lE h JV
      · rw [if_neg eg] at h
        exact lE h (xY (a := a + 1) hlt eg (rsup_of (kcls e3)))
    by_cases e4 : k = 4
    · exact uO hkg hk2 (b4 e4) hlt
    by_cases e5 : k = 5
    · exact IM hkg hk2 (b5 e5) hlt
    by_cases e6 : k = 6
    · obtain ⟨m, h1, h2, h3⟩ := b6 e6
      have hle : ∀ a b, iP l ks a b → a ≤ b := fun a b h => ER hkg h
      have hs : ∀ a b, iP l ks a b → b < l.length → Snd l G a b := fun a b h hb => uO hkg hk2 h hb
      obtain ⟨h4, h5⟩ := MR hle hs _ _ _ h1
      by_cases em : mx = -1
      · obtain ⟨m', q1, q2, q3, rfl⟩ := h2 em
        have h6 := hle _ _ q2
        exact (((h5 (by omega)).app (lE q1 (rJ (by omega) (by omega)))).app (hs _ _ q2 (by omega))).app (lE q3 (xZ (by decide) (by omega)))
      · obtain ⟨h6, h7⟩ := NH hlt hle hs _ _ (h3 em)
        exact (h5 (by omega)).app h7
    by_cases e7 : k = 7
    · obtain ⟨m, h1, h2, h3, rfl⟩ := b7 e7
      have h4 := ER hkg h2
      have h5 := hc e7
      have h6 := hcap e7
      exact ((lE h1 (xX (a := a + 1) (by omega) (by omega))).app (uO hkg hk2 h2 (by omega))).app (lE h3 (xX (a := m + 1) (by omega) (by omega)))
    · have h8 : 8 ≤ k := num7 k1 e1 e2 e3 e4 e5 e6 e7
      obtain ⟨rfl, h⟩ := b8 h8
      exact lE h (JU h8 k2 hlt)
theorem KL {x : Rx} {n : Nat} {ns : List ByteArray} (h : ProgOk x l n) (hc : CapsB (ns.length : Int) x) (hl : l.length ≤ 10000) (hn : ns.length ≤ 100) : kW ⟨l, 0, ns.length, ns⟩ := by
  have hlen := h.len
  have hs := blk_snd h.good hc 0 n h.blk (by omega)
  refine ⟨⟨by show 1 ≤ (l.length : Int); omega, by show (l.length : Int) ≤ 10000; omega, Int.le_refl _, by show (0 : Int) < (l.length : Int); omega, by show (0 : Int) ≤ (ns.length : Int); omega, by show (ns.length : Int) ≤ 100; omega, rfl⟩, fun i hi _ => ?_⟩
  show mR l[i] l.length (ns.length : Int)
  have hi' : i < l.length := hi
  by_cases e : i < n
  · obtain ⟨c, h1, h2⟩ := hs i (Nat.zero_le _) e
    rw [List.getElem?_eq_getElem hi'] at h1
    cases h1; exact h2
  · obtain rfl : i = n := by omega
    have h1 := h.last
    rw [List.getElem?_eq_getElem hi'] at h1
    rw [Option.some.inj h1]
    exact ⟨by unfold xC; simp, RsUp.nil _⟩
mutual
theorem CG : ∀ (x : Rx) (b : Int) (st st' : St), x.fine b st = some st' → st.2.length ≤ st'.2.length ∧ ∀ G : Int, (st'.2.length : Int) ≤ G → CapsB G x
  | .mk k r rs mn mx lz cp nm ks, b, st, st', h => by
    by_cases hc : st.1 + 1 ≤ 8194 ∧ (if (Rx.mk k r rs mn mx lz cp nm ks).kind = 7 then b + 1 else b) ≤ 250 ∧ NodeP (.mk k r rs mn mx lz cp nm ks) ∧ ((Rx.mk k r rs mn mx lz cp nm ks).kind = 7 → iZ (Rx.mk k r rs mn mx lz cp nm ks).cap (Rx.mk k r rs mn mx lz cp nm ks).name st.2)
    · rw [jN hc] at h
      obtain ⟨h1, h2⟩ := tE ks _ _ _ _ h
      by_cases k7 : (Rx.mk k r rs mn mx lz cp nm ks).kind = 7
      · rw [if_pos k7] at h1
        have h3 : st.2.length + 1 ≤ st'.2.length := by simpa using h1
        obtain ⟨h4, -⟩ := hc.2.2.2 k7
        exact ⟨by omega, fun G hG => ⟨fun _ => by omega, fun y hy => h2 G hG y hy⟩⟩
      · rw [if_neg k7] at h1
        exact ⟨h1, fun G hG => ⟨fun h7 => (k7 h7).elim, fun y hy => h2 G hG y hy⟩⟩
    · rw [oO hc] at h; cases h
theorem tE : ∀ (l : List Rx) (k b : Int) (st st' : St), cY l k b st = some st' → st.2.length ≤ st'.2.length ∧ ∀ G : Int, (st'.2.length : Int) ≤ G → ∀ x, x ∈ l → CapsB G x
  | [], _, _, st, st', h => by
    rw [cY] at h
    cases h
    exact ⟨Nat.le_refl _, fun G hG x hx => by cases hx⟩
  | y :: ys, k, b, st, st', h => by
    rw [cY] at h
    cases hy : y.fine (b + if Brk y.kind k then 1 else 0) st with
    | none => rw [hy] at h; cases h
    | some s1 =>
      rw [hy] at h
      obtain ⟨h1, h2⟩ := CG y _ _ _ hy
      obtain ⟨h3, h4⟩ := tE ys _ _ _ _ h
      refine ⟨by omega, fun G hG x hx => ?_⟩
      rcases List.mem_cons.1 hx with rfl | hx
      · exact h2 G (by omega)
      · exact h4 G hG x hx
end
theorem ok_caps {x : Rx} (h : x.Ok) : CapsB ((fY x).length : Int) x := by
  obtain ⟨st, h⟩ := h
  have e : fY x = st.2 := by unfold fY; rw [h]
  rw [e]
  exact (CG x _ _ _ h).2 _ (Int.le_refl _)
end Go.Proofs.YtidpigbinpaaeaaGreat
namespace Go.Proofs.YtidpigbinpaaeaaGreat
open Go.RowKit Go.W
theorem PK {c : Nat} : eP (c : Int) ↔ fU c := by unfold eP fU; omega
theorem xU {s : ByteArray} {i : Int} : lK s i ↔ tH s i := by
  unfold lK tH
  rw [PK]
theorem xV {s : ByteArray} {c : In} {a : Nat} (h3 : c.op ≠ 3) (h4 : c.op ≠ 4) : iA c.op c.arg s a ↔ tO s c a := by
  unfold iA tO
  rw [xU, xU]
  constructor
  · rintro (h | h | h | h | h | h)
    · exact .inr (.inr (.inr (.inl h)))
    · exact .inr (.inr (.inr (.inr (.inl h))))
    · exact .inr (.inr (.inr (.inr (.inr (.inl h)))))
    · exact .inr (.inr (.inr (.inr (.inr (.inr (.inl h))))))
    · exact .inr (.inr (.inr (.inr (.inr (.inr (.inr h))))))
    · exact .inr (.inr (.inl h))
  · rintro (h | h | h | h | h | h | h | h)
    · exact (h3 h).elim
    · exact (h4 h).elim
    · exact .inr (.inr (.inr (.inr (.inr h))))
    · exact .inl h
    · exact .inr (.inl h)
    · exact .inr (.inr (.inl h))
    · exact .inr (.inr (.inr (.inl h)))
    · exact .inr (.inr (.inr (.inr (.inl h))))
section
variable {p : Prg} {s : ByteArray} {a i o : Nat}
theorem VI : dV p s a i = .mat ↔ ∃ c, p.insts[i]? = some c ∧ c.op = 1 := by
  unfold dV
  cases h : p.insts[i]? with
  | none => simp
  | some c =>
    simp only [Option.some.injEq, exists_eq_left']
    unfold mvI
    by_cases h1 : c.op = 1
    · simp [h1]
    · rw [if_neg h1]
      simp only [h1, iff_false]
      split <;> (try split) <;> (try split) <;> (try split) <;> simp
theorem NR (hs : kW p) : dV p s a i = .rune (some o) ↔ ∃ c, p.insts[i]? = some c ∧ c.op = 2 ∧ (o : Int) = c.out ∧ InR (bJ s a).1 c.rs := by
  unfold dV
  cases h : p.insts[i]? with
  | none => simp
  | some c =>
    simp only [Option.some.injEq, exists_eq_left']
    have hi := (List.getElem?_eq_some_iff.1 h).1
    have hn := (hs.2 i hi hi).1
    rw [(List.getElem?_eq_some_iff.1 h).2] at hn
    obtain ⟨n1, n2, n3, n4, -⟩ := hn
    unfold mvI
    by_cases h1 : c.op = 1
    · simp [h1]
    by_cases h2 : c.op = 2
    · rw [if_neg h1, if_pos h2]
      have ho := n4 (by omega)
      by_cases hr : mT (bJ s a).1 c.rs
      · rw [if_pos hr]
        constructor
        · intro h; injection h with h; injection h with h; exact ⟨h2, by omega, hr⟩
        · rintro ⟨-, h, -⟩; rw [show c.out.toNat = o by omega]
      · rw [if_neg hr]
        constructor
        · intro h; cases h
        · rintro ⟨-, -, h⟩; exact (hr h).elim
    · rw [if_neg h1, if_neg h2]
      simp only [h2, false_and, iff_false]
      split <;> (try split) <;> (try split) <;> simp
theorem mv_to (hs : kW p) : (dV p s a i).to o ↔ YA p.insts s a i o := by
  unfold dV YA
  cases h : p.insts[i]? with
  | none => simp [Mov.to]
  | some c =>
    simp only [Option.some.injEq, exists_eq_left']
    have hi := (List.getElem?_eq_some_iff.1 h).1
    have hn := (hs.2 i hi hi).1
    rw [(List.getElem?_eq_some_iff.1 h).2] at hn
    obtain ⟨n1, n2, n3, n4, n5, -⟩ := hn
    unfold mvI
    by_cases h1 : c.op = 1
    · rw [if_pos h1]
      simp only [Mov.to, false_iff]
      rintro ⟨hg, -⟩
      unfold tO at hg; omega
    by_cases h2 : c.op = 2
    · rw [if_neg h1, if_pos h2]
      simp only [Mov.to, false_iff]
      rintro ⟨hg, -⟩
      unfold tO at hg; omega
    by_cases h3 : c.op = 3
    · rw [if_neg h1, if_neg h2, if_pos h3]
      have ho := n4 (by omega)
      have ha := n5 h3
      simp only [Mov.to]
      constructor
      · intro hq; exact ⟨.inl h3, by omega⟩
      · rintro ⟨-, hq⟩; omega
    by_cases h4 : c.op = 4
    · rw [if_neg h1, if_neg h2, if_neg h3, if_pos h4]
      have ho := n4 (by omega)
      simp only [Mov.to]
      constructor
      · intro hq; exact ⟨.inr (.inl h4), by omega⟩
      · rintro ⟨-, hq⟩; omega
    · rw [if_neg h1, if_neg h2, if_neg h3, if_neg h4]
      by_cases hst : iA c.op c.arg s a
      · rw [if_pos hst]
        have hg := (xV h3 h4).1 hst
        have ho := n4 (by unfold tO at hg; omega)
        simp only [Mov.to]
        constructor
        · intro hq; exact ⟨hg, by omega⟩
        · rintro ⟨-, hq⟩; omega
      · rw [if_neg hst]
        simp only [Mov.to, false_iff]
        rintro ⟨hg, -⟩
        exact hst ((xV h3 h4).2 hg)
end
section
variable {p : Prg} {s : ByteArray} (hs : kW p)
include hs
theorem fn_wb {a i : Nat} (h : Fn (dV p s) (gY s) s.size a i) : ∀ k, a = cV s k → (∀ j, j < k → 0 < (bJ s (cV s j)).2) → WB p.insts s i k → ∃ N q c, Utf s N ∧ WB p.insts s q N ∧ p.insts[q]? = some c ∧ c.op = 1 := by
  induction h with
  | @mat a i ha h =>
    intro k hk hw hb
    obtain ⟨c, h1, h2⟩ := VI.1 h
    exact ⟨k, i, c, ⟨by rw [← hk, ha], hw⟩, hb, h1, h2⟩
  | @rune a b i o ha h hn _ ih =>
    intro k hk hw hb
    obtain ⟨c, h1, h2, h3, h4⟩ := (NR hs).1 h
    have hp : 0 < (bJ s a).2 := by
      unfold gY at hn; split at hn
      · assumption
      · cases hn
    rw [yN hp] at hn
    cases hn
    subst hk
    refine ih (k + 1) rfl (fun j hj => ?_) (.eat hb ⟨c, h1, h2, h3, hp, h4⟩)
    by_cases e : j < k
    · exact hw j e
    · rw [show j = k by omega]; exact hp
  | @eps a i o h _ ih =>
    intro k hk hw hb
    subst hk
    exact ih k rfl hw (.eps hb ((mv_to hs).1 h))
theorem wb_fn {N : Nat} (hU : Utf s N) {q k : Nat} (h : WB p.insts s q k) : k ≤ N → Fn (dV p s) (gY s) s.size (cV s k) q → Fn (dV p s) (gY s) s.size 0 0 := by
  induction h with
  | init => exact fun _ h => h
  | eps _ he ih => exact fun hk hf => ih hk (.eps ((mv_to hs).2 he) hf)
  | @eat p' q' k _ he ih =>
    intro hk hf
    obtain ⟨c, h1, h2, h3, hp, h4⟩ := he
    have hlt := uF hU.2 (show k < k + 1 by omega) hk
    have hle := uG s (k + 1)
    exact ih (by omega) (.rune (b := cV s (k + 1)) (by omega) ((NR hs).2 ⟨c, h1, h2, h3, h4⟩) (yN hp) hf)
theorem fn_iff {x : Rx} {n : Nat} (hP : ProgOk x p.insts n) : Fn (dV p s) (gY s) s.size 0 0 ↔ ∃ N, Utf s N ∧ Mt (cW s N) x 0 N := by
  constructor
  · intro h
    obtain ⟨N, q, c, hU, h1, h2, h3⟩ := fn_wb hs h 0 rfl (fun j hj => by omega) .init
    exact ⟨N, hU, (AW hP hU).1 ⟨q, c, h1, h2, h3⟩⟩
  · rintro ⟨N, hU, h⟩
    obtain ⟨q, c, h1, h2, h3⟩ := (AW hP hU).2 h
    exact wb_fn hs hU h1 (Nat.le_refl _) (.mat hU.1 (VI.2 ⟨c, h2, h3⟩))
end
theorem JY {p : Prg} {s : ByteArray} {x : Rx} {n : Nat} {r : Option eN} {W' : Wt} (hs : kW p) (h0 : p.start = 0) (hP : ProgOk x p.insts n) (h : Pk (dV p s) (gY s) s.size 0 [(p.start.toNat, [])] (fun _ _ => false) r W') : r.isSome = true ↔ ∃ N, Utf s N ∧ Mt (cW s N) x 0 N := by
  rw [pk_fn (KX s) h (fun _ _ _ => rfl), ← fn_iff hs hP, h0]
  simp
end Go.Proofs.YtidpigbinpaaeaaGreat
namespace Go.Proofs.YtidpigbinpaaeaaGreat
open Go.RowKit Go.W
attribute [local irreducible] Decidable.decide
theorem uZ : dU Tryz.prog 152 := ⟨_, Tryz.func152, by kernel_rfl, by kernel_rfl⟩
theorem nC : dU Tryz.prog 158 := ⟨_, Tryz.func158, by kernel_rfl, by kernel_rfl⟩
theorem uX : dU Tryz.prog 160 := ⟨_, Tryz.func160, by kernel_rfl, by kernel_rfl⟩
theorem FH : dU Tryz.prog 161 := ⟨_, Tryz.func161, by kernel_rfl, by kernel_rfl⟩
theorem FF : dU Tryz.prog 162 := ⟨_, Tryz.func162, by kernel_rfl, by kernel_rfl⟩
theorem uW : dU Tryz.prog 163 := ⟨_, Tryz.func163, by kernel_rfl, by kernel_rfl⟩
def LetU (w w' : World) (v : Value) (o : Option (Int → Prop)) : Prop := ∃ a c ob l, v = .tuple #[.slice a l.length c, .bool o.isSome] ∧ OwnS w' 135 2 a l.length c (dA l) ob ∧ Ge w ob ∧ Vr l ∧ l.length ≤ 8 ∧ ∀ S, o = some S → ∀ c, InR c l ↔ S c
theorem LetOut.uni {w w' : World} {v : Value} {o : Option (Int → Prop)} (h : LetOut w w' v o) : LetU w w' v o := by
  rcases h with ⟨rfl, rfl⟩ | ⟨S, v', rfl, rfl, a, c, ob, l, rfl, h2, h3, h4, h5, h6⟩
  · exact ⟨none, 0, none, [], rfl, OwnS.nil _ _ _, Ge.nil _, (fun g hg => by cases hg), Nat.zero_le _, fun S h => by cases h⟩
  · exact ⟨a, c, ob, l, rfl, h2, h3, h4, h6, fun S' e => by cases e; exact h5⟩
theorem CU {α : Type} {o : Option α} (h : o.isSome = true) : ∃ x, o = some x := Option.isSome_iff_exists.1 h
theorem none_of {α : Type} {o : Option α} (h : (!o.isSome) = true) : o = none := by cases o with | none => rfl | some x => cases h
theorem yO {α : Type} {o : Option α} (h : o.isSome = false) : o = none := by cases o with | none => rfl | some x => cases h
theorem OM {s : ByteArray} {a b j : Nat} (h : 0 ≤ HI s a b j) : ∃ k, kH s a b s.size j = some k ∧ HI s a b j = (k : Int) - (j : Nat) ∧ j ≤ k ∧ k + 1 < s.size := by
  unfold HI at *
  cases hf : kH s a b s.size j with
  | none => rw [hf] at h; exact absurd h (show ¬ (0 : Int) ≤ -1 by omega)
  | some k =>
    obtain ⟨h1, h2, h3⟩ := (qL s a b s.size j (by omega)).1 k hf
    exact ⟨k, rfl, rfl, h1, h2.1⟩
theorem WG {s : ByteArray} {a b j : Nat} (h : ¬ 0 ≤ HI s a b j) : kH s a b s.size j = none := by
  unfold HI at h
  cases hf : kH s a b s.size j with
  | none => rfl
  | some k =>
    rw [hf] at h
    obtain ⟨h1, h2, h3⟩ := (qL s a b s.size j (by omega)).1 k hf
    exact absurd (show (0 : Int) ≤ (k : Int) - j by omega) h
section
variable {s : ByteArray} {i k j m : Nat} {S : Int → Prop} {r q : Int} {e : Int}
theorem it_cut (h1 : isB s i 91 ∧ isB s (i + 1) 58) (h2 : kH s 58 93 s.size (i + 2) = some k) (h3 : i + 2 < k ∧ sb s (i + 2) = 94) (h4 : iR (s.extract (i + 3) k) = some S) : jM s i = .ok (vO S, k + 2) := by unfold jM; rw [if_pos h1, h2]; show (if _ then _ else _) = _; rw [if_pos h3, h4]
theorem it_cutN (h1 : isB s i 91 ∧ isB s (i + 1) 58) (h2 : kH s 58 93 s.size (i + 2) = some k) (h3 : i + 2 < k ∧ sb s (i + 2) = 94) (h4 : iR (s.extract (i + 3) k) = none) : jM s i = .error 81 := by unfold jM; rw [if_pos h1, h2]; show (if _ then _ else _) = _; rw [if_pos h3, h4]
theorem it_nam (h1 : isB s i 91 ∧ isB s (i + 1) 58) (h2 : kH s 58 93 s.size (i + 2) = some k) (h3 : ¬ (i + 2 < k ∧ sb s (i + 2) = 94)) (h4 : iR (s.extract (i + 2) k) = some S) : jM s i = .ok (S, k + 2) := by unfold jM; rw [if_pos h1, h2]; show (if _ then _ else _) = _; rw [if_neg h3, h4]
theorem it_namN (h1 : isB s i 91 ∧ isB s (i + 1) 58) (h2 : kH s 58 93 s.size (i + 2) = some k) (h3 : ¬ (i + 2 < k ∧ sb s (i + 2) = 94)) (h4 : iR (s.extract (i + 2) k) = none) : jM s i = .error 81 := by unfold jM; rw [if_pos h1, h2]; show (if _ then _ else _) = _; rw [if_neg h3, h4]
theorem OG (h : (isB s i 91 ∧ isB s (i + 1) 58) → kH s 58 93 s.size (i + 2) = none) : jM s i = kS s i := by
  unfold jM
  by_cases h1 : isB s i 91 ∧ isB s (i + 1) 58
  · rw [if_pos h1, h h1]
  · rw [if_neg h1]
theorem it_let (h1 : i + 1 < s.size ∧ sb s i = 92) (h2 : vR (sb s (i + 1)) = some S) : kS s i = .ok (S, i + 2) := by unfold kS; rw [if_pos h1, h2]
theorem LG (h : (i + 1 < s.size ∧ sb s i = 92) → vR (sb s (i + 1)) = none) : kS s i = iL s i := by
  unfold kS
  by_cases h1 : i + 1 < s.size ∧ sb s i = 92
  · rw [if_pos h1, h h1]
  · rw [if_neg h1]
theorem rg_err (h : lX s i = .error e) : iL s i = .error e := by unfold iL; rw [h]
theorem rg_one (h : lX s i = .ok (r, j)) (h2 : ¬ (isB s j 45 ∧ j + 1 < s.size ∧ sb s (j + 1) ≠ 93)) : iL s i = .ok (rgS r r, j) := by unfold iL; rw [h]; show (if _ then _ else _) = _; rw [if_neg h2]
theorem rg_err2 (h : lX s i = .ok (r, j)) (h2 : isB s j 45 ∧ j + 1 < s.size ∧ sb s (j + 1) ≠ 93) (h3 : lX s (j + 1) = .error e) : iL s i = .error e := by unfold iL; rw [h]; show (if _ then _ else _) = _; rw [if_pos h2, h3]
theorem rg_bad (h : lX s i = .ok (r, j)) (h2 : isB s j 45 ∧ j + 1 < s.size ∧ sb s (j + 1) ≠ 93) (h3 : lX s (j + 1) = .ok (q, m)) (h4 : q < r) : iL s i = .error 81 := by unfold iL; rw [h]; show (if _ then _ else _) = _; rw [if_pos h2, h3]; show (if _ then _ else _) = _; rw [if_pos h4]
theorem rg_two (h : lX s i = .ok (r, j)) (h2 : isB s j 45 ∧ j + 1 < s.size ∧ sb s (j + 1) ≠ 93) (h3 : lX s (j + 1) = .ok (q, m)) (h4 : ¬ q < r) : iL s i = .ok (rgS r q, m) := by unfold iL; rw [h]; show (if _ then _ else _) = _; rw [if_pos h2, h3]; show (if _ then _ else _) = _; rw [if_neg h4]
end
theorem VF {s : ByteArray} {a : Nat} (h : 0 < (bJ s a).2) {t : Nat} (h1 : 1 ≤ t) (h2 : t < (bJ s a).2) : 128 ≤ sb s (a + t) := by
  have ha : a < s.size := by
    rcases Nat.lt_or_ge a s.size with h3 | h3
    · exact h3
    · rw [pM h3] at h; cases h
  rcases fM s a ha with ⟨w, hw1, hw4, hws, hit, -⟩ | ⟨hn, -⟩
  · obtain ⟨e, -⟩ := pN hw1 hw4 hws hit
    rw [e] at h2
    replace h2 : t < w := h2
    match w, hw1, hw4, hit, h2 with
    | 1, _, _, _, h2 => omega
    | 2, _, _, hit, h2 =>
      have := (hit2 s a).1 hit
      obtain rfl : t = 1 := by omega
      omega
    | 3, _, _, hit, h2 =>
      have := (hit3 s a).1 hit
      obtain rfl | rfl : t = 1 ∨ t = 2 := by omega
      · omega
      · omega
    | 4, _, _, hit, h2 =>
      have := (hit4 s a).1 hit
      obtain rfl | rfl | rfl : t = 1 ∨ t = 2 ∨ t = 3 := by omega
      · omega
      · omega
      · omega
  · rw [sO hn] at h; cases h
theorem nK {s : ByteArray} {i k : Nat} (hb : Bd s i) (hik : i ≤ k) (hk : k < s.size) (ha : sb s k < 128) : Bd s k := by
  obtain ⟨N, -, hU, -, -⟩ := hb
  have key : ∀ m, m ≤ N → k < cV s m → ∃ n, n < N ∧ cV s n ≤ k ∧ k < cV s (n + 1) := by
    intro m
    induction m with
    | zero => intro _ h; exact absurd h (Nat.not_lt_zero _)
    | succ m ih =>
      intro hm h
      by_cases h1 : k < cV s m
      · exact ih (by omega) h1
      · exact ⟨m, hm, by omega, h⟩
  obtain ⟨n, h1, h2, h3⟩ := key N (Nat.le_refl _) (by rw [hU.1]; exact hk)
  rcases Nat.eq_or_lt_of_le h2 with e | e
  · exact ⟨N, n, hU, by omega, e⟩
  · have h4 := VF (hU.2 n h1) (t := k - cV s n) (by omega) (by rw [cV] at h3; omega)
    rw [show cV s n + (k - cV s n) = k by omega] at h4
    omega
theorem rg_in (r q x : Int) : InR x [(r, q)] ↔ rgS r q x := by rw [kP]; exact Iff.rfl
theorem xK {s : ByteArray} {i j : Nat} {S : Int → Prop} (h : jM s i = .ok (S, j)) (hb : Bd s i) (hi : i < s.size) : Bd s j ∧ i < j := by
  have hrange : iL s i = .ok (S, j) → Bd s j ∧ i < j := fun h => by
    unfold iL at h
    cases h1 : lX s i with
    | error e => rw [h1] at h; cases h
    | ok x =>
      obtain ⟨lo, k⟩ := x
      obtain ⟨h2, h3, -⟩ := vK h1 hb hi
      rw [h1] at h
      replace h : (if isB s k 45 ∧ k + 1 < s.size ∧ sb s (k + 1) ≠ 93 then (match lX s (k + 1) with | .error e => .error e | .ok (hi, k) => if hi < lo then .error 81 else .ok (rgS lo hi, k)) else .ok (rgS lo lo, k) : PR) = .ok (S, j) := h
      split at h
      · rename_i h4
        have h5 := h4.1.asc (by decide) h2
        cases h6 : lX s (k + 1) with
        | error e => rw [h6] at h; cases h
        | ok y =>
          obtain ⟨hi2, m⟩ := y
          obtain ⟨h7, h8, -⟩ := vK h6 h5 h4.2.1
          rw [h6] at h
          replace h : (if hi2 < lo then .error 81 else .ok (rgS lo hi2, m) : PR) = .ok (S, j) := h
          split at h
          · cases h
          · cases h; exact ⟨h7, by omega⟩
      · cases h; exact ⟨h2, h3⟩
  have hrest : kS s i = .ok (S, j) → Bd s j ∧ i < j := fun h => by
    unfold kS at h
    split at h
    · rename_i h1
      cases h2 : vR (sb s (i + 1)) with
      | none => rw [h2] at h; exact hrange h
      | some S' =>
        rw [h2] at h
        cases h
        have h3 := (hb.asc hi (by omega)).1
        refine ⟨(h3.asc h1.1 ?_).1, by omega⟩
        rcases Nat.lt_or_ge (sb s (i + 1)) 128 with h4 | h4
        · exact h4
        · rw [vQ (by omega)] at h2; cases h2
    · exact hrange h
  unfold jM at h
  split at h
  · rename_i h1
    cases h2 : kH s 58 93 s.size (i + 2) with
    | none => rw [h2] at h; exact hrest h
    | some k =>
      rw [h2] at h
      obtain ⟨h3, h4, -⟩ := (qL s 58 93 s.size (i + 2) (by omega)).1 k h2
      have hk : ∃ S', (.ok (S', k + 2) : PR) = .ok (S, j) := by
        replace h : (if i + 2 < k ∧ sb s (i + 2) = 94 then (match iR (s.extract (i + 3) k) with | none => .error 81 | some S => .ok (vO S, k + 2)) else (match iR (s.extract (i + 2) k) with | none => .error 81 | some S => .ok (S, k + 2)) : PR) = .ok (S, j) := h
        split at h
        · split at h
          · cases h
          · exact ⟨_, h⟩
        · split at h
          · cases h
          · exact ⟨_, h⟩
      obtain ⟨S', h5⟩ := hk
      cases h5
      have h6 : Bd s k := nK hb (by omega) (by have := h4.1; omega) (by have := h4.2.1; omega)
      exact ⟨isB.asc (b := 93) ⟨h4.1, h4.2.2⟩ (by decide) (isB.asc (b := 58) ⟨by have := h4.1; omega, h4.2.1⟩ (by decide) h6), by omega⟩
  · exact hrest h
theorem cut_iff {s : ByteArray} {i k : Nat} (hk : k ≤ s.size) : (Pre (s.extract i k) (ByteArray.mk #[94]) ↔ i < k ∧ sb s i = 94) ∧ (i < k → (s.extract i k).extract (ByteArray.mk #[94]).size (s.extract i k).size = s.extract (i + 1) k) := by
  have hns := fH (s := s) (a := i) (b := k) hk
  constructor
  · rw [TS]
    constructor
    · rintro ⟨h1, h2⟩
      rw [hns] at h1
      rw [dQ hk (by omega)] at h2
      exact ⟨by omega, h2⟩
    · rintro ⟨h1, h2⟩
      exact ⟨by rw [hns]; omega, by rw [dQ hk (by omega)]; exact h2⟩
  · intro h1
    show (s.extract i k).extract 1 (s.extract i k).size = _
    apply zQ
    · rw [fH (Nat.le_refl _), hns, fH hk]; omega
    · intro j hj
      rw [fH (Nat.le_refl _), hns] at hj
      rw [dQ (Nat.le_refl _) (by rw [hns]; omega), dQ hk (by omega), dQ hk (by omega), Nat.add_assoc]
theorem OF {w : World} {b : Nat} {s : ByteArray} {st : PS} {a : Option Addr} {c : Nat} {ob : Option Nat} (hR : RdAt w b s st a c ob) (hs : s.size ≤ 1000000) (hlt : st.pos < s.size) (hb : Bd s st.pos) (hG : Glb w) :
    Calls Tryz.prog 148 #[.pointer (some ⟨b, 0, none⟩)] w (RetP (fun v w' => ∃ S j, jM s st.pos = .ok (S, j) ∧ zY w w' v S 16 ∧ Evo [b] w w' ∧ RdAt w' b s (gX st j) a c ob) (fun v w' => ∃ e, jM s st.pos = .error e ∧ v = flt e ∧ Evo [b] w w')) := by
  have hap := hR.ap; have hgb : oC ∉ [b] := fun h => hR.glb hG (List.mem_singleton.1 h).symm
  have hle : st.pos ≤ s.size := by omega
  have hrs := fH (s := s) (a := st.pos) (Nat.le_refl s.size); have e0 : sb (s.extract st.pos s.size) 0 = sb s st.pos := lF (by omega); refine bD (N := 126) Tryz.func148 rfl rfl rfl ?_; refine csr (wan (aI ?_)); refine eM (by kernel_rfl) (by kernel_rfl) ?_; refine bE (fun _ B => aY rfl) ?_; refine bE (fun _ B => aF rfl) ?_; refine bE (fun _ B => aA rfl cP) ?_; refine bE (fun _ B => aU rfl cT (bA (B.blk0 hR.blk) rfl)) ?_; refine bE (fun _ B => aY rfl) ?_; refine bE (fun _ B => aF rfl) ?_; refine bE (fun _ B => aA rfl aV) ?_; refine bE (fun _ B => aU rfl aQ (bA (B.blk0 hR.blk) rfl)) ?_; refine bE (fun _ B => jO (l := st.pos) rfl rfl Tryz.underlying9 rfl hle) ?_; refine bE (fun _ B => eK rfl) ?_; refine eS (fun e9 B => aB ?_); have d1 := (Evo.refl [b] w).then B; refine aI (nX (α := Unit) (fun x => []) [(0, _), (3, _)] (fun x wr => Evo [] e9 wr ∧ (jM s st.pos = kS s st.pos)) ⟨rfl, rfl, trivial⟩ ?_ ?_)
  ·refine csr (aD ?_); refine aK (vs := [_, _]) nC rfl (xM (s.extract st.pos s.size) (ByteArray.mk #[91, 58]) (by omega) (show 2 ≤ 140737488355328 by omega)) rfl ?_; rintro _ w6 ⟨rfl, a3⟩; have f5 := (Evo.refl [] e9).then a3; refine wnn (aX rfl (fun a4 => ?_) (fun a4 => ?_))
   ·have hh2 := (pre2 hle).1 a4; refine csr (aD ?_)
    refine aC (EE (l := 2) rfl rfl Tryz.underlying9 rfl (by have := hh2.2.1; omega) (WJ hle)) ?_
    refine aK (vs := [_, _]) uX rfl (OH s 58 93 (st.pos + 2) (by have := hh2.2.1; omega) hs (hG.evo (d1.then a3) hgb)) rfl ?_
    rintro _ h7 ⟨rfl, L⟩; have f8 := f5.then L; refine wan (csr (aD (aC (eF rfl rfl) ?_))); refine wnn (aX rfl (fun a5 => ?_) (fun a5 => ?_))
    ·obtain ⟨k, hk, hfk, hk2, hk3⟩ := OM a5; rw [hfk]
     have e33 : (s.extract st.pos s.size).extract 2 (k - st.pos) = s.extract (st.pos + 2) k := by rw [zF (by omega) (by omega), show st.pos + (k - st.pos) = k by omega]
     have hns := fH (s := s) (a := st.pos + 2) (b := k) (by omega); have hcut := cut_iff (s := s) (i := st.pos + 2) (k := k) (by omega); refine csr (aD (aD ?_)); refine aC (aJ rfl rfl (by omega) (by omega)) ?_; refine aC (rW (l := 2) (h := k - st.pos) rfl rfl rfl Tryz.underlying9 rfl (by omega) (by omega) (by omega) e33) ?_; refine aK (vs := [_, _]) FH rfl (cut_ok (s.extract (st.pos + 2) k) (ByteArray.mk #[94]) (by omega) (show 1 ≤ 140737488355328 by omega)) rfl ?_; rintro _ h8 ⟨rfl, a6⟩; have d2 := ((d1.then a3).then L).then a6; have a7 := a6.blk0 (L.blk0 (a3.blk0 (B.blk0 hR.blk)))
     generalize hnm : (if Pre (s.extract (st.pos + 2) k) (ByteArray.mk #[94]) then (s.extract (st.pos + 2) k).extract (ByteArray.mk #[94]).size (s.extract (st.pos + 2) k).size else s.extract (st.pos + 2) k) = nm
     refine aD (aC (cD rfl rfl) ?_); refine aC (cD rfl rfl) ?_; refine bX (wan (csr (aD (aK (vs := [_]) FF rfl (VG nm) rfl ?_)))); rintro rv i1 ⟨hL, M⟩; obtain ⟨a1, c1, ob1, l1, rfl, F, hg1, hv1, hl1, c6⟩ := hL.uni; have d3 := d2.then M; refine aD (aC (cD rfl rfl) ?_); refine aC (cD rfl rfl) ?_; refine bX (wan (aI (csr (aD (aC (fK rfl) ?_))))); refine wnn (fN rfl (fun a8 => ?_) (fun a8 => ?_))
     ·refine aG (cB (vs := [_]) cN rfl (eD 81) rfl ?_ ?_)
      ·intro pv wp hpp; obtain ⟨rfl, hpw⟩ := hpp; have hno := none_of a8; refine And.intro rfl ⟨_, rfl, _, ?_, rfl, (d3).then hpw⟩
       by_cases hP : Pre (s.extract (st.pos + 2) k) (ByteArray.mk #[94])
       · have h9 := hcut.1.1 hP; rw [if_pos hP, hcut.2 h9.1] at hnm; subst hnm; exact it_cutN hh2 hk h9 hno
       · rw [if_neg hP] at hnm; subst hnm; exact it_namN hh2 hk (fun h => hP (hcut.1.2 h)) hno
      intro _ _ hF; exact hF.elim
     obtain ⟨S1, hS1'⟩ := CU (by simpa using a8); refine aL (aB (csr (aD (aC (aF rfl) (wfl rfl aV rfl aQ (M.blk0 a7) rfl (aD ?_)))))); refine aC (aJ rfl rfl (by omega) (by omega)) ?_; refine aC (OS (r := ((k + 2 : Nat) : Int)) rfl rfl (by omega) (by omega) (by omega)) ?_; refine aC (aF rfl) (aC (aA rfl aV) ?_); refine bC rfl rfl (by first | rfl | assumption) bO (M.blk0 a7) rfl fun i2 a9 b4 => ?_
     have b5 := d3.step b4 (by intro y hy; left; simpa using hy)
     have d4 := (((((hR.own.evo0 B).evo0 a3).evo0 L).evo0 a6).evo0 M).evo b4 hap.symm.own1; have d5 := F.evo b4 (Apart.fresh (Lt.blk a7) hg1).symm.own1
     try simp only [cG, Nat.reduceAdd] at a9
     refine wnn (aI (csr (aD (wnn (aX rfl (fun H => ?_) (fun H => ?_))))))
     ·refine aG (aD ?_); refine aK (vs := [_]) jX rfl (lZ d5 hv1 (by omega) (c6 S1 hS1')) rfl ?_; rintro rv i3 f6; have b6 := f6.evo; refine wan (csr (aD (wan (aH (aE (aE (cE (br1 ?_)))))))); have h9 := hcut.1.1 H; rw [if_pos H, hcut.2 h9.1] at hnm; subst hnm; exact ⟨_, _, it_cut hh2 hk h9 hS1', sK (f6.set b5) (by omega), (b5.then b6), ⟨(b6.blk0 a9), (d4.evo0 b6), hR.ne⟩⟩
     refine aL (aB (csr (aD (wan (aH (aE (aE (cE (br1 ?_))))))))); rw [if_neg H] at hnm; subst hnm; exact ⟨_, _, it_nam hh2 hk (fun h => H (hcut.1.2 h)) hS1', ⟨_, _, _, _, rfl, d5, (Ge.fresh d2 hg1), hv1, c6 S1 hS1', by omega⟩, b5, ⟨a9, d4, hR.ne⟩⟩
    refine aL (bB ?_); refine ⟨(), trivial, ⟨rfl, rfl, trivial⟩, f8, ?_⟩; exact OG (fun _ => WG a5)
   refine aL (bB ?_); refine ⟨(), trivial, ⟨rfl, rfl, trivial⟩, f5, ?_⟩; exact OG (fun h => (a4 ((pre2 hle).2 h)).elim)
  rintro x c7 ⟨b7, hIR⟩; refine aB ?_; show CW _ _ _ _ [(0, _), (3, _)] _; have b8 := d1.then b7; have O := b7.blk0 (B.blk0 hR.blk); have d6 := (hR.own.evo0 B).evo0 b7; refine aI (nX (α := Unit) (fun x => []) [(0, _), (3, _)] (fun x wr => Evo [] c7 wr ∧ (kS s st.pos = iL s st.pos)) ⟨rfl, rfl, trivial⟩ ?_ ?_)
  ·refine csr (aD (aC (cA rfl Tryz.underlying9 rfl) ?_)); refine aC (gL rfl rfl) ?_; refine aD (bF (t := 61) rfl (fun f9 => ?_) (fun f9 => ?_))
   ·have e1 : sb (s.extract st.pos s.size) 1 = sb s (st.pos + 1) := lF (by omega); refine aT (aD (aT ?_)); refine aC (jB (n := 0) rfl rfl Tryz.underlying9 rfl (by omega) e0) ?_; refine aT (wel ?_); refine bW (wnn (aX rfl (fun g0 => ?_) (fun g0 => ?_)))
    ·refine csr (aD ?_); refine aC (jB (n := 1) rfl rfl Tryz.underlying9 rfl (by omega) e1) ?_; refine aK (vs := [_]) uZ rfl (uI (sb s (st.pos + 1)) (iS s _)) rfl ?_; rintro rv i4 ⟨hL, I⟩; obtain ⟨a1, c1, ob1, l1, rfl, F, hg1, hv1, hl1, c6⟩ := hL.uni; refine aD (aC (cD rfl rfl) ?_); refine aC (cD rfl rfl) ?_; refine bX (wan (csr (aD (wnn (fN rfl (fun b9 => ?_) (fun b9 => ?_))))))
     ·obtain ⟨S1, hS1'⟩ := CU b9; refine csr (aD (aC (aF rfl) (wfl rfl aV rfl aQ (I.blk0 O) rfl ?_))); refine aC (aJ rfl rfl (by omega) (by omega)) ?_; refine aC (aF rfl) (aC (aA rfl aV) ?_); refine bC rfl rfl (by first | rfl | assumption) bO (I.blk0 O) rfl fun i5 d7 c0 => ?_
      have g1 := (b8.then I).step c0 (by intro y hy; left; simpa using hy)
      try simp only [cG, Nat.reduceAdd] at d7
      refine wnn (csr (aD (wan (aH (aE (aE (cE (br1 ?_)))))))); exact ⟨_, _, (hIR).trans (it_let ⟨by omega, by omega⟩ hS1'), ⟨_, _, _, _, rfl, (F.evo c0 (Apart.fresh (Lt.blk O) hg1).symm.own1), (Ge.fresh b8 hg1), hv1, c6 S1 hS1', by omega⟩, g1, ⟨d7, ((d6.evo0 I).evo c0 hap.symm.own1), hR.ne⟩⟩
     refine aL (bB ?_); refine ⟨(), trivial, ⟨rfl, rfl, trivial⟩, ((Evo.refl [] c7).then I), ?_⟩; exact LG (fun _ => yO b9)
    refine aL (bB ?_); refine ⟨(), trivial, ⟨rfl, rfl, trivial⟩, (Evo.refl [] c7), ?_⟩; exact LG (fun h => by omega)
   refine aN (aN (aN (bM (wnn (cS rfl ?_))))); refine aL (bB ?_); refine ⟨(), trivial, ⟨rfl, rfl, trivial⟩, (Evo.refl [] c7), ?_⟩; exact LG (fun h => by omega)
  rintro x i6 ⟨c2, hRG⟩; refine aB ?_; show CW _ _ _ _ [(0, _), (3, _)] _; have d8 := b8.then c2; refine csr (aD (cB (vs := [_]) uW rfl (AX ⟨(c2.blk0 O), (d6.evo0 c2), hR.ne⟩ hs hlt hb) rfl ?_ ?_))
  ·intro pv wp hpp; obtain ⟨hpe, rfl, hpw⟩ := hpp; exact And.intro rfl ⟨_, rfl, _, (hIR).trans ((hRG).trans (rg_err hpe)), rfl, (d8).step hpw (fun y hy => .inl hy)⟩
  rintro _ i7 ⟨lo, j, hx, rfl, g2, J⟩; obtain ⟨hbj, hij, hlo0, hlo1⟩ := vK hx hb hlt; have hpj : (gX st j).pos = j := rfl; have hbjl := hbj.le; have hrs2 := fH (s := s) (a := j) (Nat.le_refl s.size); refine wan (aI ?_); refine eM (by kernel_rfl) (by kernel_rfl) ?_; refine bE (fun _ A => aY rfl) ?_; refine bE (fun _ A => aF rfl) ?_; refine bE (fun _ A => aA rfl cP) ?_; refine bE (fun _ A => aU rfl cT (bA (A.blk0 J.blk) rfl)) ?_; refine bE (fun _ A => aY rfl) ?_; refine bE (fun _ A => aF rfl) ?_; refine bE (fun _ A => aA rfl aV) ?_; refine bE (fun _ A => aU rfl aQ (bA (A.blk0 J.blk) rfl)) ?_; refine bE (fun _ A => jO (l := j) rfl rfl Tryz.underlying9 rfl hbj.le) ?_; refine bE (fun _ A => eK rfl) ?_; refine eS (fun g3 A => aB ?_); have c3 := (d8.step g2 (fun y hy => .inl hy)).then A; have c4 := A.blk0 J.blk; refine aI (aI (nX (α := Bool) (fun z104 => [(104, .bool z104)]) [(0, _), (11, _)] (fun z104 wr => g3 = wr ∧ (z104 = true ↔ (s.size < j + 2 ∨ sb s j ≠ 45 ∨ sb s (j + 1) = 93))) ⟨rfl, rfl, trivial⟩ ?_ ?_))
  ·refine aG (aD (aC (cA rfl Tryz.underlying9 rfl) ?_)); refine aC (cX rfl rfl) ?_; refine aD (bF (t := 95) rfl (fun g4 => ?_) (fun g4 => ?_))
   ·refine aN (aN (aN (bW (aD (aN (aN (aN (bW (aP (bB ?_)))))))))); refine ⟨_, ⟨rfl, trivial⟩, ⟨rfl, rfl, trivial⟩, rfl, ?_⟩
    simp only [decide_eq_true_eq, Bool.false_eq_true, Bool.true_eq_false, true_iff, false_iff, eq_self, iff_true]; omega
   have f0 : sb (s.extract j s.size) 0 = sb s j := lF (by omega); have f1 : sb (s.extract j s.size) 1 = sb s (j + 1) := lF (by omega); refine aT (aD (aT ?_)); refine aC (jB (n := 0) rfl rfl Tryz.underlying9 rfl (by omega) f0) ?_; refine aT (aC (gU rfl rfl) ?_); refine bM (aD (bF (t := 100) rfl (fun d9 => ?_) (fun d9 => ?_)))
   ·refine aN (aN (aN (bW (aP (bB ?_))))); refine ⟨_, ⟨rfl, trivial⟩, ⟨rfl, rfl, trivial⟩, rfl, ?_⟩
    simp only [decide_eq_true_eq, Bool.false_eq_true, Bool.true_eq_false, true_iff, false_iff, eq_self, iff_true]; omega
   refine aT (aD (aT ?_)); refine aC (jB (n := 1) rfl rfl Tryz.underlying9 rfl (by omega) f1) ?_; refine aT (wel ?_); refine bM (aP (bB ?_)); refine ⟨_, ⟨rfl, trivial⟩, ⟨rfl, rfl, trivial⟩, rfl, ?_⟩
   simp only [decide_eq_true_eq, Bool.false_eq_true, Bool.true_eq_false, true_iff, false_iff, eq_self, iff_true]; omega
  rintro z104 _ ⟨rfl, hz104⟩; refine aB ?_; show CW _ _ _ _ [(104, _), (0, _), (11, _)] _; refine fN rfl (fun U => ?_) (fun U => ?_)
  ·subst U; have hj104 := hz104.1 rfl; refine csr (aD (aD (bL (vs := [_, _]) rfl cO rfl rfl rfl rfl fun i8 i9 g5 g7 V => ?_))); refine aK (vs := [_]) cU rfl (fP (es := [lo, lo]) g5 (by simp)) rfl ?_; rintro _ j0 ⟨a1, c1, ob1, rfl, F, hg1, c5⟩; have e2 := Ge.fresh (c3.then V) hg1; have e3 := (c3.then V).then c5; have e4 := c5.blk0 (V.blk0 c4); have e5 := ((J.own.evo0 A).evo0 V).evo0 c5; refine wan (aH (aE (cE (br1 ?_))))
   exact ⟨_, _, (hIR).trans ((hRG).trans (rg_one hx (by rintro ⟨⟨h1, h2⟩, h3, h4⟩; omega))), ⟨_, _, _, [(lo, lo)], rfl, F, e2, (fun g hg => by rw [List.mem_singleton.1 hg]; exact ⟨hlo0, Int.le_refl _, hlo1⟩), rg_in lo lo, by simp⟩, e3, ⟨e4, e5, hR.ne⟩⟩
  subst U
  have hj104 : ¬ (s.size < j + 2 ∨ sb s j ≠ 45 ∨ sb s (j + 1) = 93) := fun h9 => by have := hz104.2 h9; cases this
  have hdash : isB s j 45 ∧ j + 1 < s.size ∧ sb s (j + 1) ≠ 93 := ⟨⟨by omega, by omega⟩, by omega, by omega⟩; have hbj1 := hdash.1.asc (by decide) hbj; refine aL (aB (csr (aD (aC (aF rfl) (wfl rfl aV rfl aQ c4 rfl ?_))))); refine aC (aJ rfl rfl (by omega) (by omega)) ?_; refine aC (aF rfl) (aC (aA rfl aV) ?_); refine bC rfl rfl (by first | rfl | assumption) bO c4 rfl fun g8 c8 c9 => ?_
  have d0 := c3.step c9 (by intro y hy; left; simpa using hy)
  try simp only [cG, Nat.reduceAdd] at c8
  refine wnn (csr (aD (cB (vs := [_]) uW rfl (AX (st := gX st (j + 1)) ⟨c8, ((J.own.evo0 A).evo c9 J.ap.symm.own1), hR.ne⟩ hs hdash.2.1 hbj1) rfl ?_ ?_)))
  ·intro pv wp hpp; obtain ⟨hpe, rfl, hpw⟩ := hpp; exact And.intro rfl ⟨_, rfl, _, (hIR).trans ((hRG).trans (rg_err2 hx hdash hpe)), rfl, (d0).step hpw (fun y hy => .inl hy)⟩
  rintro _ g9 ⟨hi, m, hx2, rfl, e6, f7⟩; have a0 := d0.step e6 (fun y hy => .inl hy); obtain ⟨hbm, hjm, hhi0, hhi1⟩ := vK hx2 hbj1 hdash.2.1; refine wan (aI (csr (aD (aD (aC (cX rfl rfl) ?_))))); refine wnn (aX rfl (fun e7 => ?_) (fun e7 => ?_))
  ·refine aG (cB (vs := [_]) cN rfl (eD 81) rfl ?_ ?_)
   ·intro pv wp hpp; obtain ⟨rfl, hpw⟩ := hpp; exact And.intro rfl ⟨_, rfl, _, (hIR).trans ((hRG).trans (rg_bad hx hdash hx2 (by omega))), rfl, (a0).then hpw⟩
   intro _ _ hF; exact hF.elim
  refine aL (aB (csr (aD (aD (bL (vs := [_, _]) rfl cO rfl rfl rfl rfl fun h0 h5 e8 g6 D => ?_))))); refine aK (vs := [_]) cU rfl (fP (es := [lo, hi]) e8 (by simp)) rfl ?_; rintro _ h6 ⟨a1, c1, ob1, rfl, F, hg1, a2⟩; refine wan (aH (cE (br1 ?_)))
  exact ⟨_, _, (hIR).trans ((hRG).trans (rg_two hx hdash hx2 (by omega))), ⟨_, _, _, [(lo, hi)], rfl, F, (Ge.fresh (a0.then D) hg1), (fun g hg => by rw [List.mem_singleton.1 hg]; exact ⟨hlo0, by omega, hhi1⟩), rg_in lo hi, by simp⟩, ((a0.then D).then a2), ⟨(a2.blk0 (D.blk0 f7.blk)), ((f7.own.evo0 D).evo0 a2), hR.ne⟩⟩
theorem vB : dU Tryz.prog 148 := ⟨_, Tryz.func148, by kernel_rfl, by kernel_rfl⟩
theorem kE {w : World} {o p : Option Nat} (h : Lt w o) (hp : Ge w p) : Apart o p := fun g h1 h2 => by have := h g h1; have := hp g h2; omega
section
variable {s : ByteArray} {f i j : Nat} {fst : Bool} {S T : Int → Prop} {e : Int} {fl : Fl}
theorem its_end (h : s.size ≤ i) : gE s (f + 1) fst S i = .error 81 := by rw [gE, if_pos h]
theorem VQ (h : i < s.size) (h2 : sb s i = 93) : gE s (f + 1) false S i = .ok (S, i + 1) := by rw [gE, if_neg (by omega), if_pos ⟨rfl, h2⟩]
theorem OE (h : i < s.size) (h2 : ¬ (fst = false ∧ sb s i = 93)) (h3 : jM s i = .error e) : gE s (f + 1) fst S i = .error e := by rw [gE, if_neg (by omega), if_neg h2, h3]
theorem VS (h : i < s.size) (h2 : ¬ (fst = false ∧ sb s i = 93)) (h3 : jM s i = .ok (T, j)) : gE s (f + 1) fst S i = gE s f false (unS S T) j := by rw [gE, if_neg (by omega), if_neg h2, h3]
theorem xP (h : gE s (s.size + 1) true (fun _ => False) (if isB s i 94 then i + 1 else i) = .error e) : lH s fl i = .error e := by unfold lH; rw [h]
theorem zK (h : gE s (s.size + 1) true (fun _ => False) (if isB s i 94 then i + 1 else i) = .ok (S, j)) :
    lH s fl i = .ok (kI (if isB s i 94 then vO (if fl.fold = true then oM S else S) else if fl.fold = true then oM S else S), j) := by unfold lH; rw [h]
end
structure ClG where
  f : Nat
  i : Nat
  n : Nat
  fst : Bool
  S : Int → Prop
  l : List (Int × Int)
  sa : Option Addr
  sc : Nat
  so : Option Nat
structure ClI (w wr : World) (b : Nat) (s : ByteArray) (st : PS) (a : Option Addr) (c : Nat) (ob : Option Nat) (b2 i0 : Nat) (x : ClG) : Prop where
  hr : RdAt wr b s (gX st x.i) a c ob
  bd : Bd s x.i
  eq : gE s (s.size + 1) true (fun _ => False) i0 = gE s x.f x.fst x.S x.i
  hf : s.size + 1 ≤ x.f + x.i
  own : OwnS wr 135 2 x.sa x.n x.sc (dA x.l) x.so
  ge : Ge w x.so
  vr : Vr x.l
  hS : ∀ c, InR c x.l ↔ x.S c
  len : x.n ≤ 16 * x.i
  hb2 : wr.heap[b2]? = some (.cells #[iv 0, .int .i32 0, .slice none 0 0, iv 0, iv 0, .bool false, iv 0, .string ByteArray.empty, .slice none 0 0] 71 (0, 0))
  g2 : Ge w (some b2)
  a2 : Apart (some b2) x.so
theorem un_in {l m : List (Int × Int)} {S T : Int → Prop} (h1 : ∀ c, InR c l ↔ S c) (h2 : ∀ c, InR c m ↔ T c) (c : Int) : InR c (l ++ m) ↔ unS S T c := by rw [mZ, h1, h2]; exact Iff.rfl
theorem XF {w : World} {b : Nat} {s : ByteArray} {st : PS} {a : Option Addr} {c : Nat} {ob : Option Nat} (hR : RdAt w b s st a c ob) (hs : s.size ≤ 10000) (hb : Bd s st.pos) (hG : Glb w) :
    Calls Tryz.prog 128 #[.pointer (some ⟨b, 0, none⟩)] w (RetP (fun v w' => ∃ x j, lH s st.now st.pos = .ok (x, j) ∧ TOut w w' v x ∧ Evo [b] w w' ∧ RdAt w' b s (gX st j) a c ob) (fun v w' => ∃ e, lH s st.now st.pos = .error e ∧ v = flt e ∧ Evo [b] w w')) := by
  have hap := hR.ap; have hgb : oC ∉ [b] := fun h => hR.glb hG (List.mem_singleton.1 h).symm; have hbw : Lt w (some b) := Lt.blk hR.blk; have how : Lt w ob := Lt.own hR.own; refine bD (N := 41) Tryz.func128 rfl rfl rfl ?_; refine csr (cK rfl eG fun b2 w1 g7 e2 e3 => ?_); have g8 := e2; have f8 := Apart.new (Lt.blk hR.blk) e2; have g9 := Ge.new (Evo.refl [b] w) e2; refine wnn (csr (aD ?_)); refine aK (vs := [_, _]) iF rfl (mW ⟨(e3.blk0 hR.blk), (hR.own.evo0 e3), hR.ne⟩ (by omega) 94 (by decide)) rfl ?_; rintro _ h0 ⟨rfl, e4, d4⟩; have g1 := ((Evo.refl [b] w).then e3).step e4 (fun y hy => .inl hy); have g2 := e4.blk g7 ((by first | exact f8.symm.own1 | exact f8.symm.nmem1)); refine wan (aI ?_)
  have hR1' : RdAt h0 b s (gX st (if isB s st.pos 94 then st.pos + 1 else st.pos)) a c ob := by by_cases h94 : isB s st.pos 94; { rw [if_pos h94] at d4 ⊢; exact d4 }; { rw [if_neg h94] at d4 ⊢; exact d4 }
  generalize hi0 : (if isB s st.pos 94 then st.pos + 1 else st.pos) = i0 at *
  have hbd0 : Bd s i0 := by rw [← hi0]; split; (rename_i h94; exact h94.asc (by decide) hb); exact hb
  refine aG (wan (aI (csr (wan (bG ?_)))))
  refine dC (α := ClG) (⟨s.size + 1, i0, 0, true, fun _ => False, [], none, 0, none⟩) (fun x => [(4, .slice x.sa x.n x.sc), (5, .bool x.fst)]) [(0, _), (2, _), (3, _)] (fun x wr => Evo [b] w wr ∧ (ClI w wr b s st a c ob b2 i0 x)) (fun x => x.f) ⟨rfl, rfl, trivial⟩ ⟨rfl, rfl, rfl, trivial⟩ ⟨g1, ⟨hR1', hbd0, rfl, by show s.size + 1 ≤ s.size + 1 + i0; omega, OwnS.nil _ _ _, Ge.nil _, fun g hg => (by cases hg), fun c => ⟨fun h => (kJ c h).elim, False.elim⟩, Nat.zero_le _, g2, g9, Apart.nil _⟩⟩ ?_
  rintro ⟨f, i, n, fst, S, l, sa, sc, so⟩ wr15 ⟨g3, ⟨L, hbi, heq, hfi, hown, hge, hvr, hSl, hlen, hb2, hg2, ha2⟩⟩; show CW _ _ _ _ [(4, .slice sa n sc), (5, .bool fst), (0, _), (2, _), (3, _)] _
  try dsimp only at L hbi heq hfi hown hge hvr hSl hlen hb2 hg2 ha2
  have hil := hbi.le; have a1 : Apart (some b) so := kE hbw hge; have f9 : Apart ob so := kE how hge; have I : Apart (some b) (some b2) := kE hbw hg2; have d5 : Apart ob (some b2) := kE how hg2; have hpi : (gX st i).pos = i := rfl; obtain ⟨f', hff⟩ : ∃ f', f = f' + 1 := ⟨f - 1, by omega⟩; refine aI (bG (aI (aI ?_))); refine eM (by kernel_rfl) (by kernel_rfl) ?_; refine bE (fun _ A => aY rfl) ?_; refine bE (fun _ A => aF rfl) ?_; refine bE (fun _ A => aA rfl aV) ?_; refine bE (fun _ A => aU rfl aQ (bA (A.blk0 L.blk) rfl)) ?_; refine bE (fun _ A => aY rfl) ?_; refine bE (fun _ A => aF rfl) ?_; refine bE (fun _ A => aA rfl cP) ?_; refine bE (fun _ A => aU rfl cT (bA (A.blk0 L.blk) rfl)) ?_; refine bE (fun _ A => cA rfl Tryz.underlying9 rfl) ?_; refine bE (fun _ A => mB rfl rfl) ?_; refine eS (fun h4 A => aB ?_); have b6 := g3.then A; refine aX rfl (fun g4 => ?_) (fun g4 => ?_)
  ·refine aG (cB (vs := [_]) cN rfl (eD 81) rfl ?_ ?_)
   ·intro pv wp hpp; obtain ⟨rfl, hpw⟩ := hpp
    exact And.intro rfl ⟨_, rfl, _, xP (by rw [hi0, heq, hff]; exact its_end (by omega)), rfl, (b6).then hpw⟩
   intro _ _ hF; exact hF.elim
  have hii : i < s.size := by omega
  refine aL (aB (aI (csr (aD (aC (fK rfl) ?_))))); refine aD (sH (t := 21) rfl (fun D => ?_) (fun D => ?_))
  ·replace D := congrArg Bool.not D; simp only [Bool.not_not, Bool.not_true, Bool.not_false] at D; subst D
   refine aT (aD (aT ?_)); refine aK (vs := [_, _]) iF rfl (mW ⟨(A.blk0 L.blk), (L.own.evo0 A), L.ne⟩ (by omega) 93 (by decide)) rfl ?_; rintro _ i2 ⟨rfl, d3, B⟩; have H := b6.step d3 (fun y hy => .inl hy); have c0 := (hown.evo0 A).evo d3 ((by first | exact a1.symm.own1 | exact a1.symm.nmem1)); have M := d3.blk (A.blk0 hb2) ((by first | exact I.symm.own1 | exact I.symm.nmem1)); refine bW (wnn (aX rfl (fun O => ?_) (fun O => ?_)))
   ·rw [if_pos O] at B; have hst := (heq.trans (congrArg (fun f => gE s f false S i) hff)).trans (VQ hii O.2); have h1 := qF hown; subst h1; refine cM (bK (sT rfl (bK (bK (cL (aB ?_)))))); refine aI (csr (aD (aC (aF rfl) (aC (aA rfl dS) (wfl rfl pF rfl gC B.blk rfl (wnn (fN rfl (fun F => ?_) (fun F => ?_))))))))
    ·replace F : st.now.fold = true := F; refine aG (aD ?_); refine aK (vs := [_]) vA rfl (BX c0 hvr (by omega) hSl) rfl ?_; rintro rv i3 ⟨a4, c4, ob4, rfl, g0, hg4, hl4, hcan4, heq4, U⟩; have c1 := H.then U; have c6 := U.blk0 M; refine wan (aI (csr (aD (wnn (aX rfl (fun J => ?_) (fun J => ?_))))))
     ·refine aG (aD ?_); refine aK (vs := [_]) jX rfl (lZ g0 (vW hcan4) (by omega) heq4) rfl ?_; rintro rv i4 ⟨a5, c5, ob5, rfl, e5, hg5, hl5, hcan5, heq5, V⟩; refine wan (csr (aD ?_)); refine aK (vs := [_]) gO rfl (mY e5 (vW hcan5) (by omega) heq5) rfl ?_; rintro rv h2 ⟨b7, c7⟩; have b8 := (c1.then V); have hb29 := eO (V.blk0 c6); obtain ⟨vs9, bs9, rfl, hOT, hFr⟩ := b7; obtain ⟨ra, rc, ka, kc, rfl⟩ := id hOT.nine; refine aW rfl rfl aS (c7.blk0 (V.blk0 c6)) rfl rfl ⟨by first | rfl | assumption, by first | rfl | assumption, by first | rfl | assumption, by first | rfl | assumption, by first | rfl | assumption, by first | rfl | assumption, by first | rfl | assumption, by first | rfl | assumption, by first | rfl | assumption, trivial⟩ fun i5 e6 c8 => ?_
      try simp only [cG, Nat.reduceAdd] at e6
      refine wnn (aH (cE (cH rfl (ResOk.cellA rfl bQ aS e6 rfl) ?_)))
      have hcl := zK (fl := st.now) (by rw [hi0]; exact hst)
      rw [if_pos J, if_pos F] at hcl; refine ⟨_, _, hcl, ⟨_, bs9, rfl, hOT.evo ((Evo.refl ([b2]) h2).step c8 (fun y hy => .inl hy)) (fun q hq h => ?_), hFr.older b8.size⟩, (((c1.then V).then c7).step c8 hg2.mem1), ⟨(c8.blk (c7.blk0 (V.blk0 (U.blk0 B.blk))) I.nmem1), ((((B.own.evo0 U).evo0 V).evo0 c7).evo c8 d5.own1), B.ne⟩⟩
      have := hFr.ge q hq; rw [List.mem_singleton.1 h] at this; omega
     refine aL (aB (csr (aD ?_))); refine aK (vs := [_]) gO rfl (mY g0 (vW hcan4) (by omega) heq4) rfl ?_; rintro rv h3 ⟨b7, c9⟩; have b8 := c1; have hb29 := eO c6; obtain ⟨vs9, bs9, rfl, hOT, hFr⟩ := b7; obtain ⟨ra, rc, ka, kc, rfl⟩ := id hOT.nine; refine aW rfl rfl aS (c9.blk0 c6) rfl rfl ⟨by first | rfl | assumption, by first | rfl | assumption, by first | rfl | assumption, by first | rfl | assumption, by first | rfl | assumption, by first | rfl | assumption, by first | rfl | assumption, by first | rfl | assumption, by first | rfl | assumption, trivial⟩ fun i6 e7 d0 => ?_
     try simp only [cG, Nat.reduceAdd] at e7
     refine wnn (aH (cE (cH rfl (ResOk.cellA rfl bQ aS e7 rfl) ?_)))
     have hcl := zK (fl := st.now) (by rw [hi0]; exact hst)
     rw [if_neg J, if_pos F] at hcl; refine ⟨_, _, hcl, ⟨_, bs9, rfl, hOT.evo ((Evo.refl ([b2]) h3).step d0 (fun y hy => .inl hy)) (fun q hq h => ?_), hFr.older b8.size⟩, ((c1.then c9).step d0 hg2.mem1), ⟨(d0.blk (c9.blk0 (U.blk0 B.blk)) I.nmem1), (((B.own.evo0 U).evo0 c9).evo d0 d5.own1), B.ne⟩⟩
     have := hFr.ge q hq; rw [List.mem_singleton.1 h] at this; omega
    replace F : st.now.fold = false := F; refine aL (aB (aI (csr (aD (wnn (aX rfl (fun J => ?_) (fun J => ?_)))))))
    ·refine aG (aD ?_); refine aK (vs := [_]) jX rfl (lZ c0 hvr (by omega) hSl) rfl ?_; rintro rv i7 ⟨a5, c5, ob5, rfl, e5, hg5, hl5, hcan5, heq5, a0⟩; refine wan (csr (aD ?_)); refine aK (vs := [_]) gO rfl (mY e5 (vW hcan5) (by omega) heq5) rfl ?_; rintro rv g5 ⟨b7, a6⟩; have b8 := (H.then a0); have hb29 := eO (a0.blk0 M); obtain ⟨vs9, bs9, rfl, hOT, hFr⟩ := b7; obtain ⟨ra, rc, ka, kc, rfl⟩ := id hOT.nine; refine aW rfl rfl aS (a6.blk0 (a0.blk0 M)) rfl rfl ⟨by first | rfl | assumption, by first | rfl | assumption, by first | rfl | assumption, by first | rfl | assumption, by first | rfl | assumption, by first | rfl | assumption, by first | rfl | assumption, by first | rfl | assumption, by first | rfl | assumption, trivial⟩ fun h5 d6 a7 => ?_
     try simp only [cG, Nat.reduceAdd] at d6
     refine wnn (aH (cE (cH rfl (ResOk.cellA rfl bQ aS d6 rfl) ?_)))
     have hcl := zK (fl := st.now) (by rw [hi0]; exact hst)
     rw [if_pos J, if_neg (show ¬ st.now.fold = true by simp [F])] at hcl; refine ⟨_, _, hcl, ⟨_, bs9, rfl, hOT.evo ((Evo.refl ([b2]) g5).step a7 (fun y hy => .inl hy)) (fun q hq h => ?_), hFr.older b8.size⟩, (((H.then a0).then a6).step a7 hg2.mem1), ⟨(a7.blk (a6.blk0 (a0.blk0 B.blk)) I.nmem1), (((B.own.evo0 a0).evo0 a6).evo a7 d5.own1), B.ne⟩⟩
     have := hFr.ge q hq; rw [List.mem_singleton.1 h] at this; omega
    refine aL (aB (csr (aD ?_))); refine aK (vs := [_]) gO rfl (mY c0 hvr (by omega) hSl) rfl ?_; rintro rv g6 ⟨b7, a8⟩; have b8 := H; have hb29 := eO M; obtain ⟨vs9, bs9, rfl, hOT, hFr⟩ := b7; obtain ⟨ra, rc, ka, kc, rfl⟩ := id hOT.nine; refine aW rfl rfl aS (a8.blk0 M) rfl rfl ⟨by first | rfl | assumption, by first | rfl | assumption, by first | rfl | assumption, by first | rfl | assumption, by first | rfl | assumption, by first | rfl | assumption, by first | rfl | assumption, by first | rfl | assumption, by first | rfl | assumption, trivial⟩ fun h6 d7 a9 => ?_
    try simp only [cG, Nat.reduceAdd] at d7
    refine wnn (aH (cE (cH rfl (ResOk.cellA rfl bQ aS d7 rfl) ?_)))
    have hcl := zK (fl := st.now) (by rw [hi0]; exact hst)
    rw [if_neg J, if_neg (show ¬ st.now.fold = true by simp [F])] at hcl; refine ⟨_, _, hcl, ⟨_, bs9, rfl, hOT.evo ((Evo.refl ([b2]) g6).step a9 (fun y hy => .inl hy)) (fun q hq h => ?_), hFr.older b8.size⟩, ((H.then a8).step a9 hg2.mem1), ⟨(a9.blk (a8.blk0 B.blk) I.nmem1), ((B.own.evo0 a8).evo a9 d5.own1), B.ne⟩⟩
    have := hFr.ge q hq; rw [List.mem_singleton.1 h] at this; omega
   rw [if_neg O] at B; refine aL (aB (aG (aD (aD ?_)))); refine cB (vs := [_]) vB rfl (OF ⟨B.blk, B.own, B.ne⟩ (by omega) hii hbi (hG.evo H hgb)) rfl ?_ ?_
   ·intro pv wp hpp; obtain ⟨e9, hpe, rfl, hpw⟩ := hpp
    exact And.intro rfl ⟨_, rfl, _, xP (by rw [hi0, heq, hff]; exact OE hii (fun h => O ⟨hii, h.2⟩) hpe), rfl, (H).step hpw (fun y hy => .inl hy)⟩
   rintro rv h7 ⟨T, j, hx, hT, d1, b9⟩; obtain ⟨a3, c3, ob3, li, rfl, e8, hg3, hv3, f0, hl3⟩ := hT; have d8 := H.step d1 (fun y hy => .inl hy); have f6 := c0.evo d1 ((by first | exact a1.symm.own1 | exact a1.symm.nmem1)); have d9 := d1.blk M ((by first | exact I.symm.own1 | exact I.symm.nmem1)); obtain ⟨hbj, hij⟩ := xK hx hbi hii; have hjl := hbj.le; refine dB rfl rfl rfl rfl eW f6 (Src.ofOwn e8 (pY li)) (by omega) fun a2 c2 h8 ob2 f5 b4 hob151 => ?_; refine bX (aP (aO (aB (aG (bX (aP (bB ?_))))))); refine ⟨⟨f', j, n + li.length, false, unS S T, l ++ li, a2, c2, ob2⟩, ?_, ⟨rfl, rfl, trivial⟩, ⟨rfl, rfl, rfl, trivial⟩, (d8.step b4 hge.mem), ?_⟩
   · (try dsimp only); omega
   try dsimp only
   refine ⟨⟨(b4.blk b9.blk a1.nmem), (b9.own.evo b4 f9.own), b9.ne⟩, hbj, ?_, (by show s.size + 1 ≤ f' + j; omega), ?_, (hge.app d8 hob151), JQ hvr hv3, un_in hSl f0, (by show n + li.length ≤ 16 * j; omega), (b4.blk d9 ha2.nmem), hg2, (ha2.app (Lt.blk d9) hob151)⟩
   · rw [heq, hff]; exact VS hii (fun h => O ⟨hii, h.2⟩) hx
   · rw [jL]; exact f5
  replace D := congrArg Bool.not D; simp only [Bool.not_not, Bool.not_true, Bool.not_false] at D; subst D
  refine aN (aN (bM (wnn (cS rfl ?_)))); refine aL (aB (aG (aD (aD ?_)))); refine cB (vs := [_]) vB rfl (OF ⟨(A.blk0 L.blk), (L.own.evo0 A), L.ne⟩ (by omega) hii hbi (hG.evo b6 hgb)) rfl ?_ ?_
  ·intro pv wp hpp; obtain ⟨e9, hpe, rfl, hpw⟩ := hpp
   exact And.intro rfl ⟨_, rfl, _, xP (by rw [hi0, heq, hff]; exact OE hii (fun h => (by cases h.1)) hpe), rfl, (b6).step hpw (fun y hy => .inl hy)⟩
  rintro rv h9 ⟨T, j, hx, hT, d2, b9⟩; obtain ⟨a3, c3, ob3, li, rfl, e8, hg3, hv3, f0, hl3⟩ := hT; have e0 := b6.step d2 (fun y hy => .inl hy); have f7 := (hown.evo0 A).evo d2 ((by first | exact a1.symm.own1 | exact a1.symm.nmem1)); have e1 := d2.blk (A.blk0 hb2) ((by first | exact I.symm.own1 | exact I.symm.nmem1)); obtain ⟨hbj, hij⟩ := xK hx hbi hii; have hjl := hbj.le; refine dB rfl rfl rfl rfl eW f7 (Src.ofOwn e8 (pY li)) (by omega) fun a2 c2 i1 ob2 f5 b5 hob178 => ?_; refine bX (aP (aO (aB (aG (bX (aP (bB ?_))))))); refine ⟨⟨f', j, n + li.length, false, unS S T, l ++ li, a2, c2, ob2⟩, ?_, ⟨rfl, rfl, trivial⟩, ⟨rfl, rfl, rfl, trivial⟩, (e0.step b5 hge.mem), ?_⟩
  · (try dsimp only); omega
  try dsimp only
  refine ⟨⟨(b5.blk b9.blk a1.nmem), (b9.own.evo b5 f9.own), b9.ne⟩, hbj, ?_, (by show s.size + 1 ≤ f' + j; omega), ?_, (hge.app e0 hob178), JQ hvr hv3, un_in hSl f0, (by show n + li.length ≤ 16 * j; omega), (b5.blk e1 ha2.nmem), hg2, (ha2.app (Lt.blk e1) hob178)⟩
  · rw [heq, hff]; exact VS hii (fun h => (by cases h.1)) hx
  · rw [jL]; exact f5
theorem vD : dU Tryz.prog 126 := ⟨_, Tryz.func126, by kernel_rfl, by kernel_rfl⟩
theorem yI {r : ByteArray} : ∀ {f i : Nat} {n : Int}, 0 ≤ n → n ≤ 1001 → i ≤ r.size → 0 ≤ (iQ r f i n).1 ∧ (iQ r f i n).1 ≤ 1001 ∧ i ≤ (iQ r f i n).2 ∧ (iQ r f i n).2 ≤ r.size
  | 0, i, n, h0, h1, hi => ⟨h0, h1, Nat.le_refl _, hi⟩
  | f + 1, i, n, h0, h1, hi => by
    rw [iQ]
    split
    · rename_i h
      have h2 : 48 ≤ sb r i ∧ sb r i ≤ 57 := h.2
      obtain ⟨i1, i2, i3, i4⟩ := yI (r := r) (f := f) (i := i + 1) (n := min (n * 10 + ((sb r i : Int) - 48)) 1001) (by omega) (by omega) (by omega)
      exact ⟨i1, i2, by omega, i4⟩
    · exact ⟨h0, h1, Nat.le_refl _, hi⟩
theorem pNum_go {r : ByteArray} {f i : Nat} {n : Int} (h : i < r.size) (h2 : 48 ≤ sb r i) (h3 : sb r i ≤ 57) : iQ r (f + 1) i n = iQ r f (i + 1) (min (n * 10 + ((sb r i : Int) - 48)) 1001) := by rw [iQ, if_pos ⟨h, h2, h3⟩]
theorem yH {r : ByteArray} {f i : Nat} {n : Int} (h : ¬ (i < r.size ∧ digN (sb r i))) : iQ r f i n = (n, i) := by
  cases f with
  | zero => rfl
  | succ f => rw [iQ, if_neg h]
structure NuG where
  f : Nat
  i : Nat
  n : Int
structure NuI (r : ByteArray) (i0 : Nat) (x : NuG) : Prop where
  hi : x.i ≤ r.size
  n0 : 0 ≤ x.n
  n1 : x.n ≤ 1001
  hf : r.size ≤ x.f + x.i
  eq : iQ r r.size i0 0 = iQ r x.f x.i x.n
theorem BL {w : World} (r : ByteArray) (i0 : Nat) (hi : i0 ≤ r.size) (hs : r.size ≤ 1000000) :
    Calls Tryz.prog 126 #[.string r, .int .i64 (i0 : Nat)] w (Ret fun v w' => v = .tuple #[iv (iQ r r.size i0 0).1, iv ((iQ r r.size i0 0).2 : Nat)] ∧ Evo [] w w') := by
  refine bD (N := 36) Tryz.func126 rfl rfl rfl ?_; refine csr (bX (wan (csr (wan (aI (bG ?_))))))
  refine dC (α := NuG) (⟨r.size, i0, 0⟩) (fun x => [(6, .int .i64 x.n), (1, .int .i64 (x.i : Nat))]) [(0, _), (4, _), (5, _)] (fun x wr => Evo [] w wr ∧ (NuI r i0 x)) (fun x => x.f) ⟨rfl, rfl, trivial⟩ ⟨rfl, rfl, rfl, trivial⟩ ⟨(Evo.refl [] w), ⟨hi, Int.le_refl _, (by show (0 : Int) ≤ 1001; omega), Nat.le_add_right _ _, rfl⟩⟩ ?_
  rintro ⟨f, i, n⟩ wr1 ⟨A, ⟨hi1, H, I, hf, heq⟩⟩; show CW _ _ _ _ [(6, .int .i64 n), (1, .int .i64 (i : Nat)), (0, _), (4, _), (5, _)] _
  try dsimp only at hi1 H I hf heq
  have hb := iS r i; refine aI (csr (aD (aD (aC (cA rfl Tryz.underlying9 rfl) ?_)))); refine aC (cX rfl rfl) ?_; refine aD (bF (t := 11) rfl (fun B => ?_) (fun B => ?_))
  ·refine aT (aD (aT (aD (aT ?_)))); refine aC (eA (n := i) rfl rfl Tryz.underlying9 rfl (by omega)) ?_; refine aT (aC (eF rfl rfl) ?_); refine bW (aD (bF (t := 17) rfl (fun D => ?_) (fun D => ?_)))
   ·refine aT (aD (aT (aD (aT ?_)))); refine aC (eA (n := i) rfl rfl Tryz.underlying9 rfl (by omega)) ?_; refine aT (aC (fE rfl rfl) ?_); refine bW (wnn (aX rfl (fun F => ?_) (fun F => ?_)))
    ·refine aL (aB (bG (csr (aD ?_)))); refine aC (fL rfl rfl (by omega) (by omega)) ?_; refine aD (aD ?_); refine aC (eA (n := i) rfl rfl Tryz.underlying9 rfl (by omega)) ?_; refine aC (lB rfl rfl (by omega) (by omega)) ?_; refine aC (iN rfl Tryz.underlying5 Tryz.underlying3 (tA (by omega) (by omega)).1 (tA (by omega) (by omega)).2) ?_; refine aC (aJ rfl rfl (by omega) (by omega)) ?_; refine aC (jJ rfl rfl) ?_; rw [yW]; refine wan (aG (aD ?_)); refine aC (aJ rfl rfl (by omega) (by omega)) ?_; refine bX (aP (aO (bB ?_))); refine ⟨⟨f - 1, i + 1, min (n * 10 + ((sb r i : Int) - 48)) 1001⟩, ?_, ⟨rfl, rfl, trivial⟩, ⟨rfl, rfl, rfl, trivial⟩, A, ?_⟩
     · (try dsimp only); show f - 1 < f; omega
     try dsimp only
     have hf2 : f = f - 1 + 1 := by omega
     exact ⟨(by show i + 1 ≤ r.size; omega), (by show 0 ≤ min _ _; omega), (by show min _ _ ≤ _; omega), (by show r.size ≤ f - 1 + (i + 1); omega), heq.trans (by rw [hf2]; exact pNum_go (by omega) (by omega) (by omega))⟩
    refine cM (bK (bK (cL (aB ?_)))); refine csr (aD (aD (bX (wan (aH (cJ rfl rfl rfl ?_))))))
    have hend := heq.trans (yH (by rintro ⟨h1, h2, h3⟩; omega))
    rw [hend]; exact ⟨rfl, A⟩
   refine aN (aN (aN (aN (bM (wnn (cS rfl ?_)))))); refine cM (bK (bK (cL (aB ?_)))); refine csr (aD (aD (bX (wan (aH (cJ rfl rfl rfl ?_))))))
   have hend := heq.trans (yH (by rintro ⟨h1, h2, h3⟩; omega))
   rw [hend]; exact ⟨rfl, A⟩
  refine aN (aN (aN (aN (bM (aD (aN (aN (aN (aN (bM (wnn (cS rfl ?_)))))))))))); refine cM (bK (bK (cL (aB ?_)))); refine csr (aD (aD (bX (wan (aH (cJ rfl rfl rfl ?_))))))
  have hend := heq.trans (yH (by rintro ⟨h1, h2, h3⟩; omega))
  rw [hend]; exact ⟨rfl, A⟩
section
variable {r : ByteArray}
theorem MV (h : sb r 0 = 42) : mP r = (0, -1, 1) := by unfold mP; rw [if_pos h]
theorem MW (h : sb r 0 = 43) : mP r = (1, -1, 1) := by unfold mP; rw [if_neg (by omega), if_pos h]
theorem pr_qu (h : sb r 0 = 63) : mP r = (0, 1, 1) := by unfold mP; rw [if_neg (by omega), if_neg (by omega), if_pos h]
theorem TT (h : ¬ sb r 0 = 42) (h2 : ¬ sb r 0 = 43) (h3 : ¬ sb r 0 = 63) (h4 : ¬ sb r 0 = 123) : mP r = (0, 0, 0) := by unfold mP; rw [if_neg h, if_neg h2, if_neg h3, if_pos h4]
theorem pr_br (h : sb r 0 = 123) {lo : Int} {i : Nat} (h2 : iQ r r.size 1 0 = (lo, i)) : mP r = if 1 < i ∧ isB r i 44 then (if isB r (iQ r r.size (i + 1) 0).2 125 then (lo, (if (iQ r r.size (i + 1) 0).2 = i + 1 then -1 else (iQ r r.size (i + 1) 0).1), (iQ r r.size (i + 1) 0).2 + 1) else (0, 0, 0))
    else if i = 1 ∨ ¬ isB r i 125 then (0, 0, 0) else (lo, lo, i + 1) := by
  unfold mP
  rw [if_neg (by omega), if_neg (by omega), if_neg (by omega), if_neg (by omega), h2]
end
theorem mV {p : Int × Int × Nat} {a b : Int} {c : Nat} (h : p = (a, b, c)) : (Value.tuple #[iv a, iv b, iv (c : Nat)]) = .tuple #[iv p.1, iv p.2.1, iv (p.2.2 : Nat)] := by rw [h]
theorem KF {w : World} {b : Nat} {s : ByteArray} {st : PS} {a : Option Addr} {c : Nat} {ob : Option Nat} (hR : RdAt w b s st a c ob) (hs : s.size ≤ 1000000) (hlt : st.pos < s.size) :
    Calls Tryz.prog 98 #[.pointer (some ⟨b, 0, none⟩)] w (Ret fun v w' => v = .tuple #[iv (mP (s.extract st.pos s.size)).1, iv (mP (s.extract st.pos s.size)).2.1, iv ((mP (s.extract st.pos s.size)).2.2 : Nat)] ∧ Evo [] w w') := by
  have hap := hR.ap; have hrs := fH (s := s) (a := st.pos) (Nat.le_refl s.size); refine bD (N := 78) Tryz.func98 rfl rfl rfl ?_; refine csr (bX (bX (wan (aI ?_)))); refine eM (by kernel_rfl) (by kernel_rfl) ?_; refine bE (fun _ A => aY rfl) ?_; refine bE (fun _ A => aF rfl) ?_; refine bE (fun _ A => aA rfl cP) ?_; refine bE (fun _ A => aU rfl cT (bA (A.blk0 hR.blk) rfl)) ?_; refine bE (fun _ A => aY rfl) ?_; refine bE (fun _ A => aF rfl) ?_; refine bE (fun _ A => aA rfl aV) ?_; refine bE (fun _ A => aU rfl aQ (bA (A.blk0 hR.blk) rfl)) ?_; refine bE (fun _ A => jO (l := st.pos) rfl rfl Tryz.underlying9 rfl (by omega)) ?_; refine bE (fun _ A => eK rfl) ?_; refine eS (fun a5 A => aB ?_); have J := (Evo.refl [] w).then A; refine aI (aI ?_)
  generalize s.extract st.pos s.size = r at *
  refine aG (aD ?_); refine aC (eA (n := 0) rfl rfl Tryz.underlying9 rfl (by omega)) ?_; refine wnn (bG (csr (wel ?_))); refine wan (aX rfl (fun L => ?_) (fun L => ?_))
  ·refine csr (bX (bX (wan (aH (aM (aE (dM rfl rfl rfl rfl ?_))))))); exact ⟨mV (MV (by omega)), J⟩
  refine csr (wel ?_); refine wan (aX rfl (fun M => ?_) (fun M => ?_))
  ·refine csr (bX (bX (wan (aH (aM (aE (dM rfl rfl rfl rfl ?_))))))); exact ⟨mV (MW (by omega)), J⟩
  refine csr (wel ?_); refine wan (aX rfl (fun O => ?_) (fun O => ?_))
  ·refine csr (bX (bX (wan (aH (aM (aE (dM rfl rfl rfl rfl ?_))))))); exact ⟨mV (pr_qu (by omega)), J⟩
  refine csr (wel ?_); refine wan (aX rfl (fun U => ?_) (fun U => ?_))
  ·refine aL (aO (aB (csr (aD ?_)))); refine aK (vs := [_, _]) vD rfl (BL r 1 (by omega) (by omega)) rfl ?_; rintro _ w6 ⟨rfl, a4⟩; obtain ⟨lo, i, hp1⟩ : ∃ lo i, iQ r r.size 1 0 = (lo, i) := ⟨_, _, rfl⟩; have hb1 := yI (r := r) (f := r.size) (i := 1) (n := 0) (by omega) (by omega) (by omega); have hbr := pr_br (r := r) (by omega) hp1; rw [hp1] at hb1 ⊢; simp only at hb1; have B := J.then a4; refine aD (aC (cD rfl rfl) ?_); refine aC (cD rfl rfl) ?_; refine bX (wan (csr (aD (wan (aI (csr (aD (aC (gL rfl rfl) ?_)))))))); refine aD (bF (t := 37) rfl (fun V => ?_) (fun V => ?_))
   ·refine aT (aD (aT (aD (aT (aC (cA rfl Tryz.underlying9 rfl) ?_))))); refine aT (aC (cX rfl rfl) ?_); refine bW (aD (bF (t := 43) rfl (fun a0 => ?_) (fun a0 => ?_)))
    ·refine aT (aD (aT (aD (aT ?_)))); refine aC (eA (n := i) rfl rfl Tryz.underlying9 rfl (by omega)) ?_; refine aT (wel ?_); refine bW (wnn (aX rfl (fun a1 => ?_) (fun a1 => ?_)))
     ·have hcm : 1 < i ∧ isB r i 44 := ⟨by omega, by omega, by omega⟩; refine csr (aD ?_); refine aC (aJ rfl rfl (by omega) (by omega)) ?_; refine wan (csr (aD (aD ?_))); refine aK (vs := [_, _]) vD rfl (BL r (i + 1) (by omega) (by omega)) rfl ?_; rintro _ a6 ⟨rfl, a2⟩; obtain ⟨hi2, m, hp2⟩ : ∃ hi2 m, iQ r r.size (i + 1) 0 = (hi2, m) := ⟨_, _, rfl⟩; have hb2 := yI (r := r) (f := r.size) (i := i + 1) (n := 0) (by omega) (by omega) (by omega); rw [if_pos hcm, hp2] at hbr; rw [hp2] at hb2 ⊢; simp only at hb2 hbr; have I := B.then a2; refine aD (aC (cD rfl rfl) ?_); refine aC (cD rfl rfl) ?_; refine bX (wan (csr (aD (aD (wel ?_))))); refine wnn (aX rfl (fun a3 => ?_) (fun a3 => ?_))
      ·have hmi : m = i + 1 := by omega
       refine aG (wan (aI (csr (aD (wel ?_))))); refine aD (bF (t := 62) rfl (fun D => ?_) (fun D => ?_))
       ·refine aN (aN (aN (aN (bW (aD (aN (aN (aN (aN (bW (wnn (dP rfl ?_)))))))))))); refine csr (bX (bX (wan (aH (aE (dM rfl rfl rfl rfl ?_))))))
        exact ⟨mV (hbr.trans (if_neg (fun h => by have h1 := h.1; have h2 := h.2; omega))), I⟩
       refine aT (aD (aT (aD (aT (aC (cA rfl Tryz.underlying9 rfl) ?_))))); refine aT (aC (eF rfl rfl) ?_); refine bM (aD (bF (t := 68) rfl (fun F => ?_) (fun F => ?_)))
       ·refine aN (aN (aN (aN (bW (wnn (dP rfl ?_)))))); refine csr (bX (bX (wan (aH (aE (dM rfl rfl rfl rfl ?_))))))
        exact ⟨mV (hbr.trans (if_neg (fun h => by have h1 := h.1; have h2 := h.2; omega))), I⟩
       refine aT (aD (aT (aD (aT ?_)))); refine aC (eA (n := m) rfl rfl Tryz.underlying9 rfl (by omega)) ?_; refine aT (aC (gU rfl rfl) ?_); refine bM (wnn (aX rfl (fun H => ?_) (fun H => ?_)))
       ·refine csr (bX (bX (wan (aH (aE (dM rfl rfl rfl rfl ?_))))))
        exact ⟨mV (hbr.trans (if_neg (fun h => by have h1 := h.1; have h2 := h.2; omega))), I⟩
       refine aL (aB (csr (aD (aD (aD ?_))))); refine aC (aJ rfl rfl (by omega) (by omega)) ?_; refine bX (bX (wan (aH (dM rfl rfl rfl rfl ?_)))); exact ⟨mV (hbr.trans ((if_pos ⟨by omega, by omega⟩).trans (by rw [if_pos hmi]))), I⟩
      refine aL (aB (aI (csr (aD (wel ?_))))); refine aD (bF (t := 62) rfl (fun D => ?_) (fun D => ?_))
      ·refine aN (aN (aN (aN (bW (aD (aN (aN (aN (aN (bW (wnn (dP rfl ?_)))))))))))); refine csr (bX (bX (wan (aH (aE (dM rfl rfl rfl rfl ?_))))))
       exact ⟨mV (hbr.trans (if_neg (fun h => by have h1 := h.1; have h2 := h.2; omega))), I⟩
      refine aT (aD (aT (aD (aT (aC (cA rfl Tryz.underlying9 rfl) ?_))))); refine aT (aC (eF rfl rfl) ?_); refine bM (aD (bF (t := 68) rfl (fun F => ?_) (fun F => ?_)))
      ·refine aN (aN (aN (aN (bW (wnn (dP rfl ?_)))))); refine csr (bX (bX (wan (aH (aE (dM rfl rfl rfl rfl ?_))))))
       exact ⟨mV (hbr.trans (if_neg (fun h => by have h1 := h.1; have h2 := h.2; omega))), I⟩
      refine aT (aD (aT (aD (aT ?_)))); refine aC (eA (n := m) rfl rfl Tryz.underlying9 rfl (by omega)) ?_; refine aT (aC (gU rfl rfl) ?_); refine bM (wnn (aX rfl (fun H => ?_) (fun H => ?_)))
      ·refine csr (bX (bX (wan (aH (aE (dM rfl rfl rfl rfl ?_))))))
       exact ⟨mV (hbr.trans (if_neg (fun h => by have h1 := h.1; have h2 := h.2; omega))), I⟩
      refine aL (aB (csr (aD (aD (aD ?_))))); refine aC (aJ rfl rfl (by omega) (by omega)) ?_; refine bX (bX (wan (aH (dM rfl rfl rfl rfl ?_)))); exact ⟨mV (hbr.trans ((if_pos ⟨by omega, by omega⟩).trans (by rw [if_neg (by omega)]))), I⟩
     refine aL (aB (aI (csr (aD (wel ?_))))); refine aD (bF (t := 62) rfl (fun D => ?_) (fun D => ?_))
     ·refine aN (aN (aN (aN (bW (aD (aN (aN (aN (aN (bW (wnn (dP rfl ?_)))))))))))); refine csr (bX (bX (wan (aH (aE (dM rfl rfl rfl rfl ?_))))))
      exact ⟨mV (hbr.trans ((if_neg (by rintro ⟨h1, h2, h3⟩; omega)).trans (if_pos (.inl (by omega))))), B⟩
     refine aT (aD (aT (aD (aT (aC (cA rfl Tryz.underlying9 rfl) ?_))))); refine aT (aC (eF rfl rfl) ?_); refine bM (aD (bF (t := 68) rfl (fun F => ?_) (fun F => ?_)))
     ·refine aN (aN (aN (aN (bW (wnn (dP rfl ?_)))))); refine csr (bX (bX (wan (aH (aE (dM rfl rfl rfl rfl ?_))))))
      exact ⟨mV (hbr.trans ((if_neg (by rintro ⟨h1, h2, h3⟩; omega)).trans (if_pos (.inr (fun h => by have h1 := h.1; have h2 := h.2; omega))))), B⟩
     refine aT (aD (aT (aD (aT ?_)))); refine aC (eA (n := i) rfl rfl Tryz.underlying9 rfl (by omega)) ?_; refine aT (aC (gU rfl rfl) ?_); refine bM (wnn (aX rfl (fun H => ?_) (fun H => ?_)))
     ·refine csr (bX (bX (wan (aH (aE (dM rfl rfl rfl rfl ?_))))))
      exact ⟨mV (hbr.trans ((if_neg (by rintro ⟨h1, h2, h3⟩; omega)).trans (if_pos (.inr (fun h => by have h1 := h.1; have h2 := h.2; omega))))), B⟩
     refine aL (aB (csr (aD (aD (aD ?_))))); refine aC (aJ rfl rfl (by omega) (by omega)) ?_; refine bX (bX (wan (aH (dM rfl rfl rfl rfl ?_))))
     exact ⟨mV (hbr.trans ((if_neg (by rintro ⟨h1, h2, h3⟩; omega)).trans (if_neg (by rintro (h | h); omega; exact h ⟨by omega, by omega⟩)))), B⟩
    refine aN (aN (aN (aN (bM (wnn (cS rfl ?_)))))); refine aL (aB (aI (csr (aD (wel ?_))))); refine aD (bF (t := 62) rfl (fun D => ?_) (fun D => ?_))
    ·refine aN (aN (aN (aN (bW (aD (aN (aN (aN (aN (bW (wnn (dP rfl ?_)))))))))))); refine csr (bX (bX (wan (aH (aE (dM rfl rfl rfl rfl ?_))))))
     exact ⟨mV (hbr.trans ((if_neg (by rintro ⟨h1, h2, h3⟩; omega)).trans (if_pos (.inl (by omega))))), B⟩
    refine aT (aD (aT (aD (aT (aC (cA rfl Tryz.underlying9 rfl) ?_))))); refine aT (aC (eF rfl rfl) ?_); refine bM (aD (bF (t := 68) rfl (fun F => ?_) (fun F => ?_)))
    ·refine aN (aN (aN (aN (bW (wnn (dP rfl ?_)))))); refine csr (bX (bX (wan (aH (aE (dM rfl rfl rfl rfl ?_))))))
     exact ⟨mV (hbr.trans ((if_neg (by rintro ⟨h1, h2, h3⟩; omega)).trans (if_pos (.inr (fun h => by have h1 := h.1; have h2 := h.2; omega))))), B⟩
    refine aT (aD (aT (aD (aT ?_)))); refine aC (eA (n := i) rfl rfl Tryz.underlying9 rfl (by omega)) ?_; refine aT (aC (gU rfl rfl) ?_); refine bM (wnn (aX rfl (fun H => ?_) (fun H => ?_)))
    ·refine csr (bX (bX (wan (aH (aE (dM rfl rfl rfl rfl ?_))))))
     exact ⟨mV (hbr.trans ((if_neg (by rintro ⟨h1, h2, h3⟩; omega)).trans (if_pos (.inr (fun h => by have h1 := h.1; have h2 := h.2; omega))))), B⟩
    refine aL (aB (csr (aD (aD (aD ?_))))); refine aC (aJ rfl rfl (by omega) (by omega)) ?_; refine bX (bX (wan (aH (dM rfl rfl rfl rfl ?_))))
    exact ⟨mV (hbr.trans ((if_neg (by rintro ⟨h1, h2, h3⟩; omega)).trans (if_neg (by rintro (h | h); omega; exact h ⟨by omega, by omega⟩)))), B⟩
   refine aN (aN (aN (aN (bM (aD (aN (aN (aN (aN (bM (wnn (cS rfl ?_)))))))))))); refine aL (aB (aI (csr (aD (wel ?_))))); refine aD (bF (t := 62) rfl (fun D => ?_) (fun D => ?_))
   ·refine aN (aN (aN (aN (bW (aD (aN (aN (aN (aN (bW (wnn (dP rfl ?_)))))))))))); refine csr (bX (bX (wan (aH (aE (dM rfl rfl rfl rfl ?_))))))
    exact ⟨mV (hbr.trans ((if_neg (by rintro ⟨h1, h2, h3⟩; omega)).trans (if_pos (.inl (by omega))))), B⟩
   refine aT (aD (aT (aD (aT (aC (cA rfl Tryz.underlying9 rfl) ?_))))); refine aT (aC (eF rfl rfl) ?_); refine bM (aD (bF (t := 68) rfl (fun F => ?_) (fun F => ?_)))
   ·refine aN (aN (aN (aN (bW (wnn (dP rfl ?_)))))); refine csr (bX (bX (wan (aH (aE (dM rfl rfl rfl rfl ?_))))))
    exact ⟨mV (hbr.trans ((if_neg (by rintro ⟨h1, h2, h3⟩; omega)).trans (if_pos (.inr (fun h => by have h1 := h.1; have h2 := h.2; omega))))), B⟩
   refine aT (aD (aT (aD (aT ?_)))); refine aC (eA (n := i) rfl rfl Tryz.underlying9 rfl (by omega)) ?_; refine aT (aC (gU rfl rfl) ?_); refine bM (wnn (aX rfl (fun H => ?_) (fun H => ?_)))
   ·refine csr (bX (bX (wan (aH (aE (dM rfl rfl rfl rfl ?_))))))
    exact ⟨mV (hbr.trans ((if_neg (by rintro ⟨h1, h2, h3⟩; omega)).trans (if_pos (.inr (fun h => by have h1 := h.1; have h2 := h.2; omega))))), B⟩
   refine aL (aB (csr (aD (aD (aD ?_))))); refine aC (aJ rfl rfl (by omega) (by omega)) ?_; refine bX (bX (wan (aH (dM rfl rfl rfl rfl ?_))))
   exact ⟨mV (hbr.trans ((if_neg (by rintro ⟨h1, h2, h3⟩; omega)).trans (if_neg (by rintro (h | h); omega; exact h ⟨by omega, by omega⟩)))), B⟩
  refine csr (bX (bX (wan (aH (aM (aE (dM rfl rfl rfl rfl ?_))))))); exact ⟨mV (TT (by omega) (by omega) (by omega) (by omega)), J⟩
theorem cQ : oT Tryz.prog 69 = some (71, 9) := by kernel_rfl
def KOut (w w' : World) (v : Value) (l : List Rx) : Prop := ∃ a c ob cs bs, v = .slice a l.length c ∧ OwnS w' 71 9 a l.length c cs ob ∧ OTs l w' cs bs ∧ Fr w (ob.toList ++ bs)
theorem iD {X : List Nat} {w w1 w2 : World} {x : Rx} {vs : List Value} {bs : List Nat} {g : Nat} (hO : OwnS w2 71 9 (some ⟨g, 0, none⟩) 1 1 vs (some g)) (hT : OT x w1 vs bs) (hF : Fr w bs) (hg : w1.heap.size ≤ g) (he : Evo X w1 w2) (hx : ∀ b, b ∈ bs → b ∉ X) (hw : w.heap.size ≤ w1.heap.size) : KOut w w2 (.slice (some ⟨g, 0, none⟩) 1 1) [x] := by
  refine ⟨_, _, some g, vs, bs, rfl, hO, OTs.single (hT.evo he hx), ⟨List.nodup_cons.2 ⟨fun h => ?_, hF.nd⟩, fun b hb => ?_⟩⟩
  · have := hT.lt g h; omega
  · rcases List.mem_cons.1 hb with rfl | hb
    · omega
    · exact hF.ge b hb
theorem ot_row (k : Int) {l : List Rx} {w : World} {a : Option Addr} {n c : Nat} {cs : List Value} {ob : Option Nat} {bs : List Nat} (hO : OwnS w 71 9 a n c cs ob) (hT : OTs l w cs bs) (hl : l.length ≤ 1000000) :
    OT (lG k l) w [iv k, .int .i32 0, .slice none 0 0, iv 0, iv 0, .bool false, iv 0, .string ByteArray.empty, .slice a n c] (ob.toList ++ bs) := by
  have h1 := hO.length
  have h2 := hT.len
  obtain rfl : n = l.length := by omega
  unfold lG
  rw [OT]
  exact ⟨none, 0, none, a, c, ob, cs, bs, rfl, OwnS.nil _ _ _, hO, hT, rfl, by simp, by show (0 : Nat) ≤ 1000000; omega, hl⟩
theorem PV {k : Int} {l : List Rx} (h : 2 ≤ l.length) : lC k l = lG k l := by
  match l, h with
  | x :: y :: l, _ => rfl
theorem CY {w : World} (k : Int) {l : List Rx} {a : Option Addr} {n c : Nat} {cs : List Value} {ob : Option Nat} {bs : List Nat} (hO : OwnS w 71 9 a n c cs ob) (hT : OTs l w cs bs) (hl : l.length ≤ 1000000) :
    Calls Tryz.prog 78 #[iv k, .slice a n c] w (Ret fun v w' => (∃ vs bs', v = .agg vs.toArray ∧ OT (lC k l) w' vs bs' ∧ bs'.Sublist (ob.toList ++ bs)) ∧ Evo [] w w') := by
  have h1 := hO.length; have h2 := hT.len
  obtain rfl : n = l.length := by omega
  refine bD (N := 18) Tryz.func78 rfl rfl rfl ?_; refine csr (cK rfl eG fun b4 w1 B D U => ?_); have a2 := D; have F := Ge.new (Evo.refl [] w) D; have A := (Evo.refl [] w).then U; refine wnn (aI (csr (aD (aC (bH rfl Tryz.underlying69 rfl) ?_)))); refine wnn (bG (csr (wel ?_))); refine wan (aX rfl (fun a3 => ?_) (fun a3 => ?_))
  ·refine csr (aC (cC (vs := [(0, _)]) dD rfl (cells := [_, _, _, _, _, _, _, _, _]) rfl) ?_); refine aW rfl rfl aS B rfl rfl ⟨by first | rfl | assumption, by first | rfl | assumption, by first | rfl | assumption, by first | rfl | assumption, by first | rfl | assumption, by first | rfl | assumption, by first | rfl | assumption, by first | rfl | assumption, by first | rfl | assumption, trivial⟩ fun w9 H V => ?_
   try simp only [cG, Nat.reduceAdd] at H
   refine wnn (aH (aM (aE (cH rfl (ResOk.cellA rfl bQ aS H rfl) ?_)))); obtain rfl := List.length_eq_zero_iff.1 (show l.length = 0 by omega); exact ⟨⟨_, [], rfl, qG 1 _, List.nil_sublist _⟩, (A.step V F.mem1)⟩
  refine csr (wel ?_); refine wan (aX rfl (fun a0 => ?_) (fun a0 => ?_))
  ·obtain ⟨x, rfl⟩ := List.length_eq_one_iff.1 (show l.length = 1 by omega); obtain ⟨g1, hg1', ha1, a4⟩ := hO.cells (by simp); have hX := hT.one'; obtain ⟨ra, rc, ka, kc, rfl⟩ := id hX.nine; refine csr (aD ?_); refine aC (eT (n := 0) rfl rfl ha1 dO (by omega)) ?_; refine aC (dF rfl bQ aS (vs := [_, _, _, _, _, _, _, _, _]) rfl (a4.evo A (by simp))) ?_; refine aW rfl rfl aS B rfl rfl ⟨by first | rfl | assumption, by first | rfl | assumption, by first | rfl | assumption, by first | rfl | assumption, by first | rfl | assumption, by first | rfl | assumption, by first | rfl | assumption, by first | rfl | assumption, by first | rfl | assumption, trivial⟩ fun a5 I a1 => ?_; have J := A.step a1 F.mem1
   try simp only [cG, Nat.reduceAdd] at I
   refine wnn (aH (aM (aE (cH rfl (ResOk.cellA rfl bQ aS I rfl) ?_)))); exact ⟨⟨_, bs, rfl, hX.evo J (fun b hb h => by cases h), List.sublist_append_right _ _⟩, J⟩
  refine aL (aO (aB (csr (aD (aD (aC (cC (vs := [(0, _), (8, _)]) dD rfl (cells := [_, _, _, _, _, _, _, _, _]) rfl) ?_)))))); refine aW rfl rfl aS B rfl rfl ⟨by first | rfl | assumption, by first | rfl | assumption, by first | rfl | assumption, by first | rfl | assumption, by first | rfl | assumption, by first | rfl | assumption, by first | rfl | assumption, by first | rfl | assumption, by first | rfl | assumption, trivial⟩ fun a6 L M => ?_; have O := A.step M F.mem1
  try simp only [cG, Nat.reduceAdd] at L
  refine wnn (aH (cH rfl (ResOk.cellA rfl bQ aS L rfl) ?_)); rw [PV (by omega)]; exact ⟨⟨_, _, rfl, ot_row k ((hO.evo0 U).evo M (Apart.new (Lt.own hO) D).own1) (hT.evo O (fun b hb h => by cases h)) hl, List.Sublist.refl _⟩, O⟩
theorem UO {w : World} (k k2 : Int) (t : Bool) : Calls Tryz.prog 133 #[iv k, iv k2, .bool t] w (Ret fun v w' => KOut w w' v [rxK (if t = true then k2 else k)] ∧ Evo [] w w') := by
  refine bD (N := 12) Tryz.func133 rfl rfl rfl ?_; refine csr (wan (aI (csr (aD (wnn (fN rfl (fun A => ?_) (fun A => ?_)))))))
  ·refine aG (aD (wan (csr (aD (aC (cC (vs := [(0, _)]) dD rfl (cells := [_, _, _, _, _, _, _, _, _]) rfl) ?_))))); refine bL (vs := [_]) rfl cQ rfl rfl rfl rfl fun H w1 I J L => ?_; have D := (Evo.refl [] w).then L; refine wan (aH (br1 ?_)); rw [if_pos A]; exact ⟨iD I (qG k2 _) (Fr.nil _) ((Ge.new (Evo.refl [] w) J) _ rfl) D (fun b hb => by cases hb) (Nat.le_refl _), D⟩
  refine aL (aB (csr (aD (aC (cC (vs := [(0, _)]) dD rfl (cells := [_, _, _, _, _, _, _, _, _]) rfl) ?_)))); refine bL (vs := [_]) rfl cQ rfl rfl rfl rfl fun H w7 M O F => ?_; have B := (Evo.refl [] w).then F; refine wan (aH (br1 ?_)); rw [if_neg (by simp [A])]; exact ⟨iD M (qG k _) (Fr.nil _) ((Ge.new (Evo.refl [] w) O) _ rfl) B (fun b hb => by cases hb) (Nat.le_refl _), B⟩
theorem jV : kU Tryz.prog 114 = some true := by kernel_rfl
theorem bZ : kU Tryz.prog 211 = some true := by kernel_rfl
theorem iY : kU Tryz.prog 26 = some false := by kernel_rfl
theorem kO : cZ Tryz.prog 116 4 = some 7 := by kernel_rfl
theorem dH : fR Tryz.prog 114 = some 4 := by kernel_rfl
theorem aZ : fR Tryz.prog 211 = some 9 := by kernel_rfl
theorem EU : mH Tryz.prog 221 = some #[.string ByteArray.empty, .string ByteArray.empty] := by kernel_rfl
theorem RdAt.mk' {w : World} {b : Nat} {s : ByteArray} {st : PS} {a : Option Addr} {n c : Nat} {ob : Option Nat} (hn : n = st.names.length)
    (hb : w.heap[b]? = some (.cells #[.string s, iv (st.pos : Nat), .bool st.now.fold, .bool st.now.lines, .bool st.now.dots, .bool st.now.lazy, iv (st.opn : Nat), .slice a n c] 116 (0, 0)))
    (ho : OwnS w 9 1 a n c (st.names.map sv) ob) (hne : ∀ g, ob = some g → g ≠ b) : RdAt w b s st a c ob := by subst hn; exact ⟨hb, ho, hne⟩
theorem QG {w : World} {e : TypeId} {a : Option Addr} {n c : Nat} {l : List ByteArray} {ob : Option Nat} (h : OwnS w e 1 a n c (l.map sv) ob) {k : Nat} (hk : k < l.length) : ∃ g, ob = some g ∧ a = some ⟨g, 0, none⟩ ∧ w.cell? ⟨g, 0 + k * 1, none⟩ = some (sv l[k]) := by
  have hl : l.length = n * 1 := by have := h.length; simpa using this
  obtain ⟨g, hg, ha, hc⟩ := h.cells (by omega)
  refine ⟨g, hg, ha, ?_⟩
  rw [Nat.mul_one]
  exact hc k _ (by simp [hk])
def RU (nm : ByteArray) (ns : List ByteArray) : Prop := ns.length = 100 ∨ (nm ≠ emp ∧ nm ∈ ns)
structure NgP (nm : ByteArray) (ns : List ByteArray) (k : Nat) : Prop where
  hk : k ≤ ns.length
  all : ∀ i (h : i < ns.length), i < k → nm = emp ∨ ns[i] ≠ nm
theorem ng_end {nm : ByteArray} {ns : List ByteArray} {k : Nat} (h : NgP nm ns k) (hk : ns.length ≤ k) (h1 : ns.length ≠ 100) : ¬ RU nm ns := by
  rintro (h2 | ⟨h2, h3⟩)
  · exact h1 h2
  · obtain ⟨i, hi, he⟩ := List.getElem_of_mem h3
    rcases h.all i hi (by omega) with h4 | h4
    · exact h2 h4
    · exact h4 he
theorem GW {w : World} {b : Nat} {s : ByteArray} {st : PS} {a : Option Addr} {c : Nat} {ob : Option Nat} (hR : RdAt w b s st a c ob) (nm : ByteArray) (hnl : st.names.length ≤ 100) :
    Calls Tryz.prog 147 #[.pointer (some ⟨b, 0, none⟩), .string nm] w (RetP (fun v w' => ¬ RU nm st.names ∧ v = iv ((st.names.length : Int) + 1) ∧ Evo (b :: ob.toList) w w' ∧ ∃ a' c' ob', RdAt w' b s { st with names := st.names ++ [nm] } a' c' ob' ∧ (ob' = ob ∨ ∃ g, ob' = some g ∧ w.heap.size ≤ g)) (fun v w' => RU nm st.names ∧ v = flt 85 ∧ Evo [] w w')) := by
  have hap := hR.ap; refine bD (N := 47) Tryz.func147 rfl rfl rfl ?_; refine csr (wan (aI (csr (aD (aC (aF rfl) (wfl rfl kO rfl jT hR.blk rfl (aC (bH rfl Tryz.underlying22 rfl) ?_))))))); refine wel ?_; refine wnn (aX rfl (fun U => ?_) (fun U => ?_))
  ·refine aG (cB (vs := [_]) cN rfl (eD 85) rfl ?_ ?_)
   ·intro pv wp hpp; obtain ⟨rfl, hpw⟩ := hpp; exact And.intro rfl ⟨_, rfl, .inl (by omega), rfl, ((Evo.refl [] w)).then hpw⟩
   intro _ _ hF; exact hF.elim
  refine aL (aB (aI (csr (aD (aC (aF rfl) (wfl rfl kO rfl jT hR.blk rfl (aC (bH rfl Tryz.underlying22 rfl) ?_))))))); refine aD (wnn (bG ?_)); refine dC (α := Nat) (0) (fun k => [(19, .int .i64 (k : Nat))]) [(0, _), (1, _), (4, _), (17, _), (18, _)] (fun k wr => Evo [] w wr ∧ (NgP nm st.names k)) (fun k => st.names.length - k) ⟨rfl, trivial⟩ ⟨rfl, rfl, rfl, rfl, rfl, trivial⟩ ⟨Evo.refl _ _, ⟨Nat.zero_le _, fun i h h2 => by omega⟩⟩ ?_; rintro k wr3 ⟨A, hng⟩; show CW _ _ _ _ [(19, _), (0, _), (1, _), (4, _), (17, _), (18, _)] _; have I := (Evo.refl [] w).then A; have a4 := (Evo.refl (b :: ob.toList) w).then A; have hngk := hng.hk; refine csr (aC (cX rfl rfl) ?_); refine wnn (aI (aX rfl (fun V => ?_) (fun V => ?_)))
  ·have hk' : k < st.names.length := by omega
   obtain ⟨g1, hg1, ha1, a5⟩ := QG hR.own hk'; refine aL (aB (aI (bG (csr ?_)))); refine aC (eT (n := k) rfl rfl ha1 sE (by omega)) ?_; refine aC (aU rfl cT ((I).cell a5 (by simp))) ?_; refine wan (csr (aD (aC (EG rfl rfl) ?_))); refine aD (bF (t := 25) rfl (fun D => ?_) (fun D => ?_))
   ·refine aT (aD (aT (aD (aT (aC (iH rfl rfl) ?_))))); refine bW (wnn (aX rfl (fun F => ?_) (fun F => ?_)))
    ·refine aG (cB (vs := [_]) cN rfl (eD 85) rfl ?_ ?_)
     ·intro pv wp hpp; obtain ⟨rfl, hpw⟩ := hpp; exact And.intro rfl ⟨_, rfl, .inr ⟨D, F ▸ List.getElem_mem hk'⟩, rfl, (I).then hpw⟩
     intro _ _ hF; exact hF.elim
    refine aL (aO (aB (aG ?_))); refine aC (aJ rfl rfl (by omega) (by omega)) ?_; refine aD (aP (bB ?_)); refine ⟨k + 1, ?_, ⟨rfl, trivial⟩, ⟨rfl, rfl, rfl, rfl, rfl, trivial⟩, A, ?_⟩
    · omega
    refine ⟨hk', fun i h h2 => ?_⟩
    by_cases e : i = k
    · subst e; exact .inr F
    · exact hng.all i h (by omega)
   refine aN (aN (aN (bM (wnn (cS rfl ?_))))); refine aL (aO (aB (aG ?_))); refine aC (aJ rfl rfl (by omega) (by omega)) ?_; refine aD (aP (bB ?_)); refine ⟨k + 1, ?_, ⟨rfl, trivial⟩, ⟨rfl, rfl, rfl, rfl, rfl, trivial⟩, A, ?_⟩
   · omega
   refine ⟨hk', fun i h h2 => ?_⟩
   by_cases e : i = k
   · subst e; exact .inl (Classical.not_not.1 D)
   · exact hng.all i h (by omega)
  refine cM (bK (bK (cL (aB ?_)))); refine csr (aD (aD (aC (aF rfl) (wfl rfl kO rfl jT (A.blk0 hR.blk) rfl (aD (bL (vs := [_]) rfl uT rfl rfl rfl rfl fun a8 a9 a0 a7 B => ?_)))))); have J := B.blk0 (A.blk0 hR.blk); have hx12 := (I.then B); refine dB rfl rfl rfl rfl tN ((hR.own.evo0 A).evo0 B) (Src.ofOwn a0 ⟨by first | rfl | assumption, trivial⟩) (by omega) fun a2 c2 b4 ob2 a6 L hob32 => ?_; have M := hap.app (Lt.blk J) hob32; have a1 := (a4.then B).step L (fun y hy => .inl (List.mem_cons_of_mem _ hy)); have hob2 := hob32; refine aC (aF rfl) (aC (aA rfl kO) ?_); refine bC rfl rfl (by first | rfl | assumption) wQ (L.blk J hap.nmem) rfl fun b5 H O => ?_
  have a3 := a1.step O (fun y hy => .inl (by rw [List.mem_singleton.1 hy]; simp))
  try simp only [cG, Nat.reduceAdd] at H
  refine wnn (csr (aD (aC (aF rfl) (wfl rfl kO rfl jT H rfl (aC (bH rfl Tryz.underlying22 rfl) ?_))))); refine wan (aH (cE (br1 ?_)))
  refine ⟨ng_end hng (by omega) (by omega), by rfl, a3, a2, c2, ob2, RdAt.mk' (by simp) H (by rw [List.map_append]; exact (a6.evo O M.symm.own1)) (fun g hg e => (M) g (congrArg some e.symm) hg), ?_⟩
  rcases hob2 with h | ⟨g, h, h2⟩
  · exact .inl h
  · exact .inr ⟨g, h, Nat.le_trans hx12.size h2⟩
theorem pE : cZ Tryz.prog 114 1 = some 1 := by kernel_rfl
theorem tL : cZ Tryz.prog 114 2 = some 2 := by kernel_rfl
theorem pD : cZ Tryz.prog 114 3 = some 3 := by kernel_rfl
theorem eU : cZ Tryz.prog 211 0 = some 0 := by kernel_rfl
theorem iI : cZ Tryz.prog 211 2 = some 2 := by kernel_rfl
theorem kK : cZ Tryz.prog 211 4 = some 7 := by kernel_rfl
theorem dR : cZ Tryz.prog 211 5 = some 8 := by kernel_rfl
theorem eH : fR Tryz.prog 26 = some 1 := by kernel_rfl
theorem iE : mH Tryz.prog 211 = some #[.int .i64 0, .string ByteArray.empty, .bool false, .bool false, .bool false, .bool false, .bool false, .bool false, .int .i64 0] := by kernel_rfl
def opV (o : Opn) : Array Value := #[iv (o.size : Nat), .string o.name, .bool o.thn.fold, .bool o.thn.lines, .bool o.thn.dots, .bool o.thn.lazy, .bool o.capt, .bool o.sett, iv o.err]
section
variable {s : ByteArray} {i f j : Nat} {b m : Bool} {n : Int} {fl : Fl}
theorem KJ (h : s.size ≤ j) : hD s i f j b n m fl = ⟨0, emp, fl, false, false, 84⟩ := by
  cases f with
  | zero => rfl
  | succ f => rw [hD, if_pos h]
theorem ps_i (h : j < s.size) (hc : sb s j = 105) : hD s i (f + 1) j b n m fl = hD s i f (j + 1) b (n + 1) m { fl with fold := b } := by rw [hD, if_neg (by omega), if_pos hc]
theorem ps_m (h : j < s.size) (hc : sb s j = 109) : hD s i (f + 1) j b n m fl = hD s i f (j + 1) b (n + 1) m { fl with lines := b } := by rw [hD, if_neg (by omega), if_neg (by omega), if_pos hc]
theorem ps_s (h : j < s.size) (hc : sb s j = 115) : hD s i (f + 1) j b n m fl = hD s i f (j + 1) b (n + 1) m { fl with dots := b } := by rw [hD, if_neg (by omega), if_neg (by omega), if_neg (by omega), if_pos hc]
theorem ps_u (h : j < s.size) (hc : sb s j = 85) : hD s i (f + 1) j b n m fl = hD s i f (j + 1) b (n + 1) m { fl with lazy := b } := by rw [hD, if_neg (by omega), if_neg (by omega), if_neg (by omega), if_neg (by omega), if_pos hc]
theorem TP (h : j < s.size) (hc : sb s j = 45) : hD s i (f + 1) j b n true fl = ⟨0, emp, fl, false, false, 84⟩ := by rw [hD, if_neg (by omega), if_neg (by omega), if_neg (by omega), if_neg (by omega), if_neg (by omega), if_pos hc, if_pos rfl]
theorem TQ (h : j < s.size) (hc : sb s j = 45) : hD s i (f + 1) j b n false fl = hD s i f (j + 1) false 0 true fl := by rw [hD, if_neg (by omega), if_neg (by omega), if_neg (by omega), if_neg (by omega), if_neg (by omega), if_pos hc, if_neg (by simp)]
theorem QA (h : j < s.size) (hc : sb s j = 58 ∨ sb s j = 41) : hD s i (f + 1) j b n m fl = ⟨j + 1 - i, emp, fl, false, decide (sb s j = 41), if n = 0 then 84 else 0⟩ := by rw [hD, if_neg (by omega), if_neg (by omega), if_neg (by omega), if_neg (by omega), if_neg (by omega), if_neg (by omega), if_pos hc]
theorem TO (h : j < s.size) (h1 : ¬ sb s j = 105) (h2 : ¬ sb s j = 109) (h3 : ¬ sb s j = 115) (h4 : ¬ sb s j = 85) (h5 : ¬ sb s j = 45) (h6 : ¬ (sb s j = 58 ∨ sb s j = 41)) : hD s i (f + 1) j b n m fl = ⟨0, emp, fl, false, false, 84⟩ := by rw [hD, if_neg (by omega), if_neg h1, if_neg h2, if_neg h3, if_neg h4, if_neg h5, if_neg h6]
end
structure SeG where
  f : Nat
  k : Nat
  q : Bool
  n : Int
  m : Bool
  fl : Fl
structure SeI (w wr : World) (b3 b4 : Nat) (s : ByteArray) (i : Nat) (fl0 : Fl) (x : SeG) : Prop where
  hk : i + x.k ≤ s.size
  hf : s.size ≤ x.f + (i + x.k)
  n0 : 0 ≤ x.n
  n1 : x.n ≤ x.k
  eq : hD s i s.size (i + 2) true 0 false fl0 = hD s i x.f (i + x.k) x.q x.n x.m x.fl
  hb3 : wr.heap[b3]? = some (.cells #[iv 0, .string emp, .bool x.fl.fold, .bool x.fl.lines, .bool x.fl.dots, .bool x.fl.lazy, .bool false, .bool false, iv 0] 211 (0, 0))
  hb4 : wr.heap[b4]? = some (.cells #[iv 0, .string emp, .bool false, .bool false, .bool false, .bool false, .bool false, .bool false, iv 0] 211 (0, 0))
  g3 : Ge w (some b3)
  g4 : Ge w (some b4)
  a34 : Apart (some b3) (some b4)
theorem JW {w : World} (s : ByteArray) (i : Nat) (fl0 : Fl) (hi : i + 2 ≤ s.size) (hs : s.size ≤ 1000000) :
    Calls Tryz.prog 159 #[.string (s.extract i s.size), .agg (opV ⟨0, emp, fl0, false, false, 0⟩)] w (Ret fun v w' => v = .agg (opV (hD s i s.size (i + 2) true 0 false fl0)) ∧ Evo [] w w') := by
  have hrs := fH (s := s) (a := i) (Nat.le_refl s.size); show Calls Tryz.prog 159 #[.string (s.extract i s.size), .agg #[iv 0, .string emp, .bool fl0.fold, .bool fl0.lines, .bool fl0.dots, .bool fl0.lazy, .bool false, .bool false, iv 0]] w _; refine bD (N := 64) Tryz.func159 rfl rfl rfl ?_; refine csr (gK rfl rfl fun b3 w1 g3 g4 h5 => ?_); have h6 := g4; have g5 := (Evo.refl [] w).then h5; refine cK rfl iE fun b4 w7 h7 c9 d0 => ?_; have h8 := c9; refine wnn (csr (bX (bX (wan (aI (csr (wan (bG ?_))))))))
  refine dC (α := SeG) (⟨s.size, 2, true, 0, false, fl0⟩) (fun x => [(8, .int .i64 (x.k : Nat)), (5, .bool x.q), (6, .int .i64 x.n), (7, .bool x.m)]) [(0, _), (3, _), (4, _)] (fun x wr => Evo [] w wr ∧ (SeI w wr b3 b4 s i fl0 x)) (fun x => x.f) ⟨rfl, rfl, rfl, rfl, trivial⟩ ⟨rfl, rfl, rfl, trivial⟩ ⟨(g5.then d0), ⟨hi, (by show s.size ≤ s.size + (i + 2); omega), Int.le_refl _, (by show (0 : Int) ≤ ((2 : Nat) : Int); omega), rfl, (d0.blk0 g3), h7, (Ge.new (Evo.refl [] w) g4), (Ge.new g5 c9), (Apart.new (Lt.blk g3) c9)⟩⟩ ?_
  rintro ⟨f, k, q, n, m, fl⟩ wr15 ⟨A, ⟨hk, hf, h9, i1, heq, hb3, hb4, hg3, hg4, ha34⟩⟩; show CW _ _ _ _ [(8, .int .i64 (k : Nat)), (5, .bool q), (6, .int .i64 n), (7, .bool m), (0, _), (3, _), (4, _)] _
  try dsimp only at hk hf h9 i1 heq hb3 hb4 hg3 hg4 ha34
  refine aI (csr (aD (aD (aC (cA rfl Tryz.underlying9 rfl) ?_)))); refine aC (cX rfl rfl) ?_; refine wnn (aX rfl (fun g6 => ?_) (fun g6 => ?_))
  ·have hik : i + k < s.size := by omega
   have e0 : sb (s.extract i s.size) k = sb s (i + k) := lF hik; obtain ⟨f', rfl⟩ : ∃ f', f = f' + 1 := ⟨f - 1, by omega⟩; have hb9 := iS s (i + k); refine aL (aB (aI (bG (aI (csr (aD (aD ?_))))))); refine aC (jB (n := k) rfl rfl Tryz.underlying9 rfl (by omega) e0) ?_; refine wnn (bG (csr (wel ?_))); refine wan (aX rfl (fun g7 => ?_) (fun g7 => ?_))
   ·refine aG (aD (aC (aA rfl iI) (aC (aA rfl pF) ?_))); refine bC rfl rfl (by first | rfl | assumption) fA hb3 rfl fun j2 d1 d2 => ?_
    try simp only [cG, Nat.reduceAdd] at d1
    refine aP (aO (aB (aG (aD ?_)))); refine aC (aJ rfl rfl (by omega) (by omega)) ?_; refine bX (aP (aO (aB (aG (aD ?_))))); refine aC (aJ rfl rfl (by omega) (by omega)) ?_; refine bX (aP (bB ?_)); refine ⟨⟨f', k + 1, q, n + 1, m, { fl with fold := q }⟩, ?_, ⟨rfl, rfl, rfl, rfl, trivial⟩, ⟨rfl, rfl, rfl, trivial⟩, (A.step d2 hg3.mem1), ?_⟩
    · (try dsimp only); show f' < f' + 1; omega
    try dsimp only
    exact ⟨(by show i + (k + 1) ≤ s.size; omega), (by show s.size ≤ f' + (i + (k + 1)); omega), (by show 0 ≤ n + 1; omega), (by show n + 1 ≤ ((k + 1 : Nat) : Int); omega), heq.trans (ps_i (by omega) (by omega)), d1, (d2.blk hb4 ha34.symm.nmem1), hg3, hg4, ha34⟩
   refine csr (wel ?_); refine wan (aX rfl (fun g8 => ?_) (fun g8 => ?_))
   ·refine aG (aD (aC (aA rfl iI) (aC (aA rfl pE) ?_))); refine bC rfl rfl (by first | rfl | assumption) fA hb3 rfl fun j3 d3 d4 => ?_
    try simp only [cG, Nat.reduceAdd] at d3
    refine aP (aO (aB (aG (aD ?_)))); refine aC (aJ rfl rfl (by omega) (by omega)) ?_; refine bX (aP (aO (aB (aG (aD ?_))))); refine aC (aJ rfl rfl (by omega) (by omega)) ?_; refine bX (aP (bB ?_)); refine ⟨⟨f', k + 1, q, n + 1, m, { fl with lines := q }⟩, ?_, ⟨rfl, rfl, rfl, rfl, trivial⟩, ⟨rfl, rfl, rfl, trivial⟩, (A.step d4 hg3.mem1), ?_⟩
    · (try dsimp only); show f' < f' + 1; omega
    try dsimp only
    exact ⟨(by show i + (k + 1) ≤ s.size; omega), (by show s.size ≤ f' + (i + (k + 1)); omega), (by show 0 ≤ n + 1; omega), (by show n + 1 ≤ ((k + 1 : Nat) : Int); omega), heq.trans (ps_m (by omega) (by omega)), d3, (d4.blk hb4 ha34.symm.nmem1), hg3, hg4, ha34⟩
   refine csr (wel ?_); refine wan (aX rfl (fun g9 => ?_) (fun g9 => ?_))
   ·refine aG (aD (aC (aA rfl iI) (aC (aA rfl tL) ?_))); refine bC rfl rfl (by first | rfl | assumption) fA hb3 rfl fun j4 d5 d6 => ?_
    try simp only [cG, Nat.reduceAdd] at d5
    refine aP (aO (aB (aG (aD ?_)))); refine aC (aJ rfl rfl (by omega) (by omega)) ?_; refine bX (aP (aO (aB (aG (aD ?_))))); refine aC (aJ rfl rfl (by omega) (by omega)) ?_; refine bX (aP (bB ?_)); refine ⟨⟨f', k + 1, q, n + 1, m, { fl with dots := q }⟩, ?_, ⟨rfl, rfl, rfl, rfl, trivial⟩, ⟨rfl, rfl, rfl, trivial⟩, (A.step d6 hg3.mem1), ?_⟩
    · (try dsimp only); show f' < f' + 1; omega
    try dsimp only
    exact ⟨(by show i + (k + 1) ≤ s.size; omega), (by show s.size ≤ f' + (i + (k + 1)); omega), (by show 0 ≤ n + 1; omega), (by show n + 1 ≤ ((k + 1 : Nat) : Int); omega), heq.trans (ps_s (by omega) (by omega)), d5, (d6.blk hb4 ha34.symm.nmem1), hg3, hg4, ha34⟩
   refine csr (wel ?_); refine wan (aX rfl (fun h0 => ?_) (fun h0 => ?_))
   ·refine aG (aD (aC (aA rfl iI) (aC (aA rfl pD) ?_))); refine bC rfl rfl (by first | rfl | assumption) fA hb3 rfl fun j5 d7 d8 => ?_
    try simp only [cG, Nat.reduceAdd] at d7
    refine aP (aO (aB (aG (aD ?_)))); refine aC (aJ rfl rfl (by omega) (by omega)) ?_; refine bX (aP (aO (aB (aG (aD ?_))))); refine aC (aJ rfl rfl (by omega) (by omega)) ?_; refine bX (aP (bB ?_)); refine ⟨⟨f', k + 1, q, n + 1, m, { fl with lazy := q }⟩, ?_, ⟨rfl, rfl, rfl, rfl, trivial⟩, ⟨rfl, rfl, rfl, trivial⟩, (A.step d8 hg3.mem1), ?_⟩
    · (try dsimp only); show f' < f' + 1; omega
    try dsimp only
    exact ⟨(by show i + (k + 1) ≤ s.size; omega), (by show s.size ≤ f' + (i + (k + 1)); omega), (by show 0 ≤ n + 1; omega), (by show n + 1 ≤ ((k + 1 : Nat) : Int); omega), heq.trans (ps_u (by omega) (by omega)), d7, (d8.blk hb4 ha34.symm.nmem1), hg3, hg4, ha34⟩
   refine csr (wel ?_); refine wan (aX rfl (fun h1 => ?_) (fun h1 => ?_))
   ·refine aI (csr (aD (wnn (fN rfl (fun a3 => ?_) (fun a3 => ?_)))))
    ·subst a3; refine csr (aC (aA rfl dR) ?_); refine bC rfl rfl (by first | rfl | assumption) eH hb3 rfl fun j6 d9 e3 => ?_
     try simp only [cG, Nat.reduceAdd] at d9
     refine wnn (csr (aC (bV rfl bZ aZ d9 rfl) ?_)); refine aW rfl rfl aZ (e3.blk hb4 ha34.symm.nmem1) rfl rfl ⟨by first | rfl | assumption, by first | rfl | assumption, by first | rfl | assumption, by first | rfl | assumption, by first | rfl | assumption, by first | rfl | assumption, by first | rfl | assumption, by first | rfl | assumption, by first | rfl | assumption, trivial⟩ fun j7 e4 h2 => ?_
     try simp only [cG, Nat.reduceAdd] at e4
     refine wnn (aH (aE (aM (aE (aM (aE (aE (aM (aE (cH rfl (ResOk.cellA rfl bZ aZ e4 rfl) ?_)))))))))); have hfin := heq.trans (TP (by omega) (by omega)); rw [hfin]; exact ⟨rfl, ((A.step e3 hg3.mem1).step h2 hg4.mem1)⟩
    subst a3; refine aL (aB (aG (bX (bX (bX (aP (aO (aB (aG (aD ?_)))))))))); refine aC (aJ rfl rfl (by omega) (by omega)) ?_; refine bX (aP (aO (aB (aG (aD ?_))))); refine aC (aJ rfl rfl (by omega) (by omega)) ?_; refine bX (aP (bB ?_)); refine ⟨⟨f', k + 1, false, 0, true, fl⟩, ?_, ⟨rfl, rfl, rfl, rfl, trivial⟩, ⟨rfl, rfl, rfl, trivial⟩, A, ?_⟩
    · (try dsimp only); show f' < f' + 1; omega
    try dsimp only
    exact ⟨(by show i + (k + 1) ≤ s.size; omega), (by show s.size ≤ f' + (i + (k + 1)); omega), Int.le_refl _, (by show (0 : Int) ≤ ((k + 1 : Nat) : Int); omega), heq.trans (TQ (by omega) (by omega)), hb3, hb4, hg3, hg4, ha34⟩
   refine aI (csr (wel ?_)); refine wan (aX rfl (fun J => ?_) (fun J => ?_))
   ·refine aL (aB (aX rfl (fun J => ?_) (fun J => ?_)))
    ·refine aI (csr (aD (wel ?_))); refine wnn (aX rfl (fun F => ?_) (fun F => ?_))
     ·refine aG (aC (aA rfl dR) ?_); refine bC rfl rfl (by first | rfl | assumption) eH hb3 rfl fun j8 e5 e6 => ?_
      try simp only [cG, Nat.reduceAdd] at e5
      refine wnn (aI ?_); refine fZ (fun w0 w' => Evo [b3] w0 w') (by kernel_rfl) (fun H a4 => ?_); refine aet 0 rfl (fun _ hS => aY rfl) (Evo.refl [b3] H) ?_; refine aet 1 rfl (fun _ hS => aJ rfl rfl (by omega) (by omega)) (Evo.refl [b3] H) ?_; refine aet 2 rfl (fun _ hS => aY rfl) (Evo.refl [b3] H) ?_; refine aet 3 rfl (fun _ hS => aY rfl) (Evo.refl [b3] H) ?_; refine aet 4 rfl (fun _ hS => jB (n := k) rfl rfl Tryz.underlying9 rfl (by omega) e0) (Evo.refl [b3] H) ?_; refine aet 5 rfl (fun _ hS => mB rfl rfl) (Evo.refl [b3] H) ?_; refine aet 6 rfl (fun _ hS => aA rfl eU) (Evo.refl [b3] H) ?_; refine bR [7] (by kernel_rfl) rfl ⟨?_, trivial⟩; refine bY rfl ?_; refine bC rfl rfl (by first | rfl | assumption) bO (a4.blk0 e5) rfl fun j9 e7 a5 => ?_; have a6 := (Evo.refl [b3] H).step a5 (fun y hy => .inl hy)
      try simp only [cG, Nat.reduceAdd] at e7
      refine aP (bN (.inl a6) ?_); refine aet 8 rfl (fun _ hS => aA rfl kK) a6 ?_; refine bR [9] (by kernel_rfl) rfl ⟨?_, trivial⟩; refine bY rfl ?_; refine bC rfl rfl (by first | rfl | assumption) fA e7 rfl fun k0 e8 a7 => ?_
      try simp only [cG, Nat.reduceAdd] at e8
      refine aP (bN (.inl (a6.step a7 (fun y hy => .inl hy))) ?_); refine dJ (by kernel_rfl) (aB ?_); refine csr (aC (bV rfl bZ aZ e8 rfl) ?_); refine aW rfl rfl aZ (a7.blk (a5.blk (a4.blk0 (e6.blk hb4 ha34.symm.nmem1)) ha34.symm.nmem1) ha34.symm.nmem1) rfl rfl ⟨by first | rfl | assumption, by first | rfl | assumption, by first | rfl | assumption, by first | rfl | assumption, by first | rfl | assumption, by first | rfl | assumption, by first | rfl | assumption, by first | rfl | assumption, by first | rfl | assumption, trivial⟩ fun k1 e9 h3 => ?_
      try simp only [cG, Nat.reduceAdd] at e9
      refine wnn (aH (aM (aE (aM (aE (aE (aM (aE (cH rfl (ResOk.cellA rfl bZ aZ e9 rfl) ?_))))))))); have hfin := heq.trans (QA (by omega) (by omega)); rw [if_pos F] at hfin; rw [hfin]
      have e1 : (((i + k + 1 - i : Nat)) : Int) = (k : Int) + 1 := by omega
      have e2 : decide (((sb s (i + k) : Nat) : Int) = 41) = decide (sb s (i + k) = 41) := decide_eq_decide.2 (by omega); refine ⟨?_, (((((A.step e6 hg3.mem1).then a4).step a5 hg3.mem1).step a7 hg3.mem1).step h3 hg4.mem1)⟩; simp only [opV, e1, e2]
     refine aL (aB (aI ?_)); refine fZ (fun w0 w' => Evo [b3] w0 w') (by kernel_rfl) (fun I a8 => ?_); refine aet 0 rfl (fun _ hS => aY rfl) (Evo.refl [b3] I) ?_; refine aet 1 rfl (fun _ hS => aJ rfl rfl (by omega) (by omega)) (Evo.refl [b3] I) ?_; refine aet 2 rfl (fun _ hS => aY rfl) (Evo.refl [b3] I) ?_; refine aet 3 rfl (fun _ hS => aY rfl) (Evo.refl [b3] I) ?_; refine aet 4 rfl (fun _ hS => jB (n := k) rfl rfl Tryz.underlying9 rfl (by omega) e0) (Evo.refl [b3] I) ?_; refine aet 5 rfl (fun _ hS => mB rfl rfl) (Evo.refl [b3] I) ?_; refine aet 6 rfl (fun _ hS => aA rfl eU) (Evo.refl [b3] I) ?_; refine bR [7] (by kernel_rfl) rfl ⟨?_, trivial⟩; refine bY rfl ?_; refine bC rfl rfl (by first | rfl | assumption) bO (a8.blk0 hb3) rfl fun k2 f0 a9 => ?_; have b5 := (Evo.refl [b3] I).step a9 (fun y hy => .inl hy)
     try simp only [cG, Nat.reduceAdd] at f0
     refine aP (bN (.inl b5) ?_); refine aet 8 rfl (fun _ hS => aA rfl kK) b5 ?_; refine bR [9] (by kernel_rfl) rfl ⟨?_, trivial⟩; refine bY rfl ?_; refine bC rfl rfl (by first | rfl | assumption) fA f0 rfl fun k3 f5 b6 => ?_
     try simp only [cG, Nat.reduceAdd] at f5
     refine aP (bN (.inl (b5.step b6 (fun y hy => .inl hy))) ?_); refine dJ (by kernel_rfl) (aB ?_); refine csr (aC (bV rfl bZ aZ f5 rfl) ?_); refine aW rfl rfl aZ (b6.blk (a9.blk (a8.blk0 hb4) ha34.symm.nmem1) ha34.symm.nmem1) rfl rfl ⟨by first | rfl | assumption, by first | rfl | assumption, by first | rfl | assumption, by first | rfl | assumption, by first | rfl | assumption, by first | rfl | assumption, by first | rfl | assumption, by first | rfl | assumption, by first | rfl | assumption, trivial⟩ fun k4 f6 h4 => ?_
     try simp only [cG, Nat.reduceAdd] at f6
     refine wnn (aH (aM (aE (aM (aE (aE (aM (aE (cH rfl (ResOk.cellA rfl bZ aZ f6 rfl) ?_))))))))); have hfin := heq.trans (QA (by omega) (by omega)); rw [if_neg F] at hfin; rw [hfin]
     have e1 : (((i + k + 1 - i : Nat)) : Int) = (k : Int) + 1 := by omega
     have e2 : decide (((sb s (i + k) : Nat) : Int) = 41) = decide (sb s (i + k) = 41) := decide_eq_decide.2 (by omega); refine ⟨?_, ((((A.then a8).step a9 hg3.mem1).step b6 hg3.mem1).step h4 hg4.mem1)⟩; simp only [opV, e1, e2]
    exfalso; omega
   refine aG (wel ?_); refine wan (aX rfl (fun J => ?_) (fun J => ?_))
   ·refine aI (csr (aD (wel ?_))); refine wnn (aX rfl (fun F => ?_) (fun F => ?_))
    ·refine aG (aC (aA rfl dR) ?_); refine bC rfl rfl (by first | rfl | assumption) eH hb3 rfl fun k5 f7 f8 => ?_
     try simp only [cG, Nat.reduceAdd] at f7
     refine wnn (aI ?_); refine fZ (fun w0 w' => Evo [b3] w0 w') (by kernel_rfl) (fun B L => ?_); refine aet 0 rfl (fun _ hS => aY rfl) (Evo.refl [b3] B) ?_; refine aet 1 rfl (fun _ hS => aJ rfl rfl (by omega) (by omega)) (Evo.refl [b3] B) ?_; refine aet 2 rfl (fun _ hS => aY rfl) (Evo.refl [b3] B) ?_; refine aet 3 rfl (fun _ hS => aY rfl) (Evo.refl [b3] B) ?_; refine aet 4 rfl (fun _ hS => jB (n := k) rfl rfl Tryz.underlying9 rfl (by omega) e0) (Evo.refl [b3] B) ?_; refine aet 5 rfl (fun _ hS => mB rfl rfl) (Evo.refl [b3] B) ?_; refine aet 6 rfl (fun _ hS => aA rfl eU) (Evo.refl [b3] B) ?_; refine bR [7] (by kernel_rfl) rfl ⟨?_, trivial⟩; refine bY rfl ?_; refine bC rfl rfl (by first | rfl | assumption) bO (L.blk0 f7) rfl fun i2 b7 M => ?_; have O := (Evo.refl [b3] B).step M (fun y hy => .inl hy)
     try simp only [cG, Nat.reduceAdd] at b7
     refine aP (bN (.inl O) ?_); refine aet 8 rfl (fun _ hS => aA rfl kK) O ?_; refine bR [9] (by kernel_rfl) rfl ⟨?_, trivial⟩; refine bY rfl ?_; refine bC rfl rfl (by first | rfl | assumption) fA b7 rfl fun i3 b8 U => ?_
     try simp only [cG, Nat.reduceAdd] at b8
     refine aP (bN (.inl (O.step U (fun y hy => .inl hy))) ?_); refine dJ (by kernel_rfl) (aB ?_); refine csr (aC (bV rfl bZ aZ b8 rfl) ?_); refine aW rfl rfl aZ (U.blk (M.blk (L.blk0 (f8.blk hb4 ha34.symm.nmem1)) ha34.symm.nmem1) ha34.symm.nmem1) rfl rfl ⟨by first | rfl | assumption, by first | rfl | assumption, by first | rfl | assumption, by first | rfl | assumption, by first | rfl | assumption, by first | rfl | assumption, by first | rfl | assumption, by first | rfl | assumption, by first | rfl | assumption, trivial⟩ fun i4 b9 f9 => ?_
     try simp only [cG, Nat.reduceAdd] at b9
     refine wnn (aH (aM (aE (aM (aE (aE (aM (aE (cH rfl (ResOk.cellA rfl bZ aZ b9 rfl) ?_))))))))); have hfin := heq.trans (QA (by omega) (by omega)); rw [if_pos F] at hfin; rw [hfin]
     have e1 : (((i + k + 1 - i : Nat)) : Int) = (k : Int) + 1 := by omega
     have e2 : decide (((sb s (i + k) : Nat) : Int) = 41) = decide (sb s (i + k) = 41) := decide_eq_decide.2 (by omega); refine ⟨?_, (((((A.step f8 hg3.mem1).then L).step M hg3.mem1).step U hg3.mem1).step f9 hg4.mem1)⟩; simp only [opV, e1, e2]
    refine aL (aB (aI ?_)); refine fZ (fun w0 w' => Evo [b3] w0 w') (by kernel_rfl) (fun D V => ?_); refine aet 0 rfl (fun _ hS => aY rfl) (Evo.refl [b3] D) ?_; refine aet 1 rfl (fun _ hS => aJ rfl rfl (by omega) (by omega)) (Evo.refl [b3] D) ?_; refine aet 2 rfl (fun _ hS => aY rfl) (Evo.refl [b3] D) ?_; refine aet 3 rfl (fun _ hS => aY rfl) (Evo.refl [b3] D) ?_; refine aet 4 rfl (fun _ hS => jB (n := k) rfl rfl Tryz.underlying9 rfl (by omega) e0) (Evo.refl [b3] D) ?_; refine aet 5 rfl (fun _ hS => mB rfl rfl) (Evo.refl [b3] D) ?_; refine aet 6 rfl (fun _ hS => aA rfl eU) (Evo.refl [b3] D) ?_; refine bR [7] (by kernel_rfl) rfl ⟨?_, trivial⟩; refine bY rfl ?_; refine bC rfl rfl (by first | rfl | assumption) bO (V.blk0 hb3) rfl fun i5 c0 a0 => ?_; have a1 := (Evo.refl [b3] D).step a0 (fun y hy => .inl hy)
    try simp only [cG, Nat.reduceAdd] at c0
    refine aP (bN (.inl a1) ?_); refine aet 8 rfl (fun _ hS => aA rfl kK) a1 ?_; refine bR [9] (by kernel_rfl) rfl ⟨?_, trivial⟩; refine bY rfl ?_; refine bC rfl rfl (by first | rfl | assumption) fA c0 rfl fun i6 c1 a2 => ?_
    try simp only [cG, Nat.reduceAdd] at c1
    refine aP (bN (.inl (a1.step a2 (fun y hy => .inl hy))) ?_); refine dJ (by kernel_rfl) (aB ?_); refine csr (aC (bV rfl bZ aZ c1 rfl) ?_); refine aW rfl rfl aZ (a2.blk (a0.blk (V.blk0 hb4) ha34.symm.nmem1) ha34.symm.nmem1) rfl rfl ⟨by first | rfl | assumption, by first | rfl | assumption, by first | rfl | assumption, by first | rfl | assumption, by first | rfl | assumption, by first | rfl | assumption, by first | rfl | assumption, by first | rfl | assumption, by first | rfl | assumption, trivial⟩ fun i7 c2 g0 => ?_
    try simp only [cG, Nat.reduceAdd] at c2
    refine wnn (aH (aM (aE (aM (aE (aE (aM (aE (cH rfl (ResOk.cellA rfl bZ aZ c2 rfl) ?_))))))))); have hfin := heq.trans (QA (by omega) (by omega)); rw [if_neg F] at hfin; rw [hfin]
    have e1 : (((i + k + 1 - i : Nat)) : Int) = (k : Int) + 1 := by omega
    have e2 : decide (((sb s (i + k) : Nat) : Int) = 41) = decide (sb s (i + k) = 41) := decide_eq_decide.2 (by omega); refine ⟨?_, ((((A.then V).step a0 hg3.mem1).step a2 hg3.mem1).step g0 hg4.mem1)⟩; simp only [opV, e1, e2]
   refine csr (aC (aA rfl dR) ?_); refine bC rfl rfl (by first | rfl | assumption) eH hb3 rfl fun i8 c3 c4 => ?_
   try simp only [cG, Nat.reduceAdd] at c3
   refine wnn (csr (aC (bV rfl bZ aZ c3 rfl) ?_)); refine aW rfl rfl aZ (c4.blk hb4 ha34.symm.nmem1) rfl rfl ⟨by first | rfl | assumption, by first | rfl | assumption, by first | rfl | assumption, by first | rfl | assumption, by first | rfl | assumption, by first | rfl | assumption, by first | rfl | assumption, by first | rfl | assumption, by first | rfl | assumption, trivial⟩ fun i9 c5 g1 => ?_
   try simp only [cG, Nat.reduceAdd] at c5
   refine wnn (aH (aM (aE (aM (aE (aE (aM (aE (cH rfl (ResOk.cellA rfl bZ aZ c5 rfl) ?_))))))))); have hfin := heq.trans (TO (by omega) (by omega) (by omega) (by omega) (by omega) (by omega) (by omega)); rw [hfin]; exact ⟨rfl, ((A.step c4 hg3.mem1).step g1 hg4.mem1)⟩
  refine cM (bK (bK (cL (aB ?_)))); refine csr (aC (aA rfl dR) ?_); refine bC rfl rfl (by first | rfl | assumption) eH hb3 rfl fun j0 c6 c7 => ?_
  try simp only [cG, Nat.reduceAdd] at c6
  refine wnn (csr (aC (bV rfl bZ aZ c6 rfl) ?_)); refine aW rfl rfl aZ (c7.blk hb4 ha34.symm.nmem1) rfl rfl ⟨by first | rfl | assumption, by first | rfl | assumption, by first | rfl | assumption, by first | rfl | assumption, by first | rfl | assumption, by first | rfl | assumption, by first | rfl | assumption, by first | rfl | assumption, by first | rfl | assumption, trivial⟩ fun j1 c8 g2 => ?_
  try simp only [cG, Nat.reduceAdd] at c8
  refine wnn (aH (cH rfl (ResOk.cellA rfl bZ aZ c8 rfl) ?_)); have hfin := heq.trans (KJ (by omega)); rw [hfin]; exact ⟨rfl, ((A.step c7 hg3.mem1).step g2 hg4.mem1)⟩
theorem AM : Build Tryz.prog 211 #[(0, 1), (1, 1), (2, 4), (6, 1), (7, 1), (8, 1)] #[.int .i64 0, .string ByteArray.empty, .bool false, .bool false, .bool false, .bool false, .bool false, .bool false, .int .i64 0] := ⟨_, .agg #[.int .i64 0, .string ByteArray.empty, .bool false, .bool false, .bool false, .bool false, .bool false, .bool false, .int .i64 0], Tryz.underlying211, by kernel_rfl, rfl, fun w => by kernel_rfl⟩
theorem jF : cZ Tryz.prog 211 1 = some 1 := by kernel_rfl
theorem gQ : cZ Tryz.prog 211 3 = some 6 := by kernel_rfl
theorem FI : dU Tryz.prog 159 := ⟨_, Tryz.func159, by kernel_rfl, by kernel_rfl⟩
def hd (k : Nat) : ByteArray := if k = 0 then ByteArray.mk #[40, 63, 80, 60] else ByteArray.mk #[40, 63, 60]
theorem hd_sz (k : Nat) : (k = 0 ∧ (hd k).size = 4) ∨ (k ≠ 0 ∧ (hd k).size = 3) := by
  unfold hd
  by_cases h : k = 0
  · rw [if_pos h]; exact .inl ⟨h, rfl⟩
  · rw [if_neg h]; exact .inr ⟨h, rfl⟩
theorem part_hd {k : Nat} (hk : k < 2) (w : World) : (part 9 #[.string (ByteArray.mk #[40, 63, 80, 60]), .string (ByteArray.mk #[40, 63, 60])] (k * 1)).run Tryz.prog w = .ok (.string (hd k)) w := by
  match k, hk with
  | 0, _ => exact BB w cT rfl
  | 1, _ => exact BB w cT rfl
theorem zA {s : ByteArray} {i k : Nat} (hi : i ≤ s.size) (h0 : isB s i 40 ∧ isB s (i + 1) 63) : Pre (s.extract i s.size) (hd k) ↔ (k = 0 ∧ isB s (i + 2) 80 ∧ isB s (i + 3) 60) ∨ (k ≠ 0 ∧ isB s (i + 2) 60) := by
  unfold hd
  by_cases h : k = 0
  · rw [if_pos h, pre4 hi]
    exact ⟨fun h1 => .inl ⟨h, h1.2.2⟩, fun h1 => by rcases h1 with h1 | h1; exact ⟨h0.1, h0.2, h1.2⟩; exact absurd h h1.1⟩
  · rw [if_neg h, pre3 hi]
    exact ⟨fun h1 => .inr ⟨h, h1.2.2⟩, fun h1 => by rcases h1 with h1 | h1; exact absurd h1.1 h; exact ⟨h0.1, h0.2, h1.2⟩⟩
theorem yK {s : ByteArray} {i : Nat} {fl : Fl} (h : ¬ (isB s i 40 ∧ isB s (i + 1) 63)) : fI s i fl = ⟨1, emp, fl, true, false, 0⟩ := by unfold fI; rw [if_pos h]
theorem QI {s : ByteArray} {i k : Nat} {fl : Fl} (hi : i ≤ s.size) (h0 : isB s i 40 ∧ isB s (i + 1) 63) (hk : k < 2) (h1 : Pre (s.extract i s.size) (hd k)) (h2 : ∀ j, j < k → ¬ Pre (s.extract i s.size) (hd j)) : fI s i fl = nR s i (hd k).size fl := by
  rcases (show k = 0 ∨ k = 1 by omega) with rfl | rfl
  · unfold fI
    rw [if_neg (fun h => h h0), show (hd 0).size = 4 from rfl]
    rcases (zA hi h0).1 h1 with h3 | h3
    · exact if_pos h3.2
    · exact absurd rfl h3.1
  · unfold fI
    rw [if_neg (fun h => h h0), show (hd 1).size = 3 from rfl, if_neg (fun h => h2 0 (by omega) ((zA hi h0).2 (.inl ⟨rfl, h⟩)))]
    rcases (zA hi h0).1 h1 with h3 | h3
    · exact absurd h3.1 (by omega)
    · exact if_pos h3.2
theorem open_no {s : ByteArray} {i : Nat} {fl : Fl} (hi : i ≤ s.size) (h0 : isB s i 40 ∧ isB s (i + 1) 63) (h2 : ∀ j, j < 2 → ¬ Pre (s.extract i s.size) (hd j)) : fI s i fl = if isB s (i + 2) 58 then ⟨3, emp, fl, false, false, 0⟩ else hD s i s.size (i + 2) true 0 false fl := by
  unfold fI
  rw [if_neg (fun h => h h0), if_neg (fun h => h2 0 (by omega) ((zA hi h0).2 (.inl ⟨rfl, h⟩))), if_neg (fun h => h2 1 (by omega) ((zA hi h0).2 (.inr ⟨by omega, h⟩)))]
theorem zC {w : World} {b : Nat} {s : ByteArray} {st : PS} {a : Option Addr} {c : Nat} {T : TypeId} {z : Nat × Nat} (h : w.heap[b]? = some (.cells (rdc s st a c) T z)) : ∀ j v, ([.bool st.now.fold, .bool st.now.lines, .bool st.now.dots, .bool st.now.lazy] : List Value)[j]? = some v → w.cell? ⟨b, 2 + j, none⟩ = some v
  | 0, v, e => by cases e; exact fC h rfl
  | 1, v, e => by cases e; exact fC h rfl
  | 2, v, e => by cases e; exact fC h rfl
  | 3, v, e => by cases e; exact fC h rfl
  | j + 4, v, e => by cases e
theorem UE {s : ByteArray} {f j : Nat} (h : j < s.size) (h2 : fU (sb s j)) : iB s (f + 1) j = iB s f (j + 1) := by rw [iB, if_pos ⟨h, h2⟩]
theorem jD {s : ByteArray} {f j : Nat} (h : ¬ (j < s.size ∧ fU (sb s j))) : iB s f j = j := by
  cases f with
  | zero => rfl
  | succ f => rw [iB, if_neg h]
theorem kY {s : ByteArray} {i h : Nat} {fl : Fl} {j : Nat} (e : iB s s.size (i + h) = j) (hc : j = i + h ∨ ¬ isB s j 62) : nR s i h fl = ⟨0, emp, fl, false, false, 85⟩ := by unfold nR; rw [e, if_pos hc]
theorem pK {s : ByteArray} {i h : Nat} {fl : Fl} {j : Nat} (e : iB s s.size (i + h) = j) (hc : ¬ (j = i + h ∨ ¬ isB s j 62)) : nR s i h fl = ⟨j + 1 - i, s.extract (i + h) j, fl, true, false, 0⟩ := by unfold nR; rw [e, if_neg hc]
structure HdI (w wr : World) (b2 b4 : Nat) (s : ByteArray) (i : Nat) (fl : Fl) (k : Nat) : Prop where
  hk : k ≤ 2
  no : ∀ j, j < k → ¬ Pre (s.extract i s.size) (hd j)
structure WdG where
  f : Nat
  m : Nat
structure WdI (s : ByteArray) (i h : Nat) (x : WdG) : Prop where
  hm : i + x.m ≤ s.size
  hh : h ≤ x.m
  hf : s.size ≤ x.f + (i + x.m)
  eq : iB s s.size (i + h) = iB s x.f (i + x.m)
theorem nS {w : World} {b : Nat} {s : ByteArray} {st : PS} {a : Option Addr} {c : Nat} {ob : Option Nat} (hR : RdAt w b s st a c ob) (hs : s.size ≤ 1000000) (hlt : st.pos < s.size) :
    Calls Tryz.prog 146 #[.pointer (some ⟨b, 0, none⟩)] w (Ret fun v w' => v = .agg (opV (fI s st.pos st.now)) ∧ Evo [] w w') := by
  have hap := hR.ap
  have hle : st.pos ≤ s.size := by omega
  have hrs := fH (s := s) (a := st.pos) (Nat.le_refl s.size); refine bD (N := 87) Tryz.func146 rfl rfl rfl ?_; refine csr (cK rfl iE fun b2 w1 l5 l6 l7 => ?_); have m2 := l6; have J := Ge.new (Evo.refl [] w) l6; have j2 := l7.blk0 hR.blk; refine wnn (aI ?_); refine eM (by kernel_rfl) (by kernel_rfl) ?_; refine bE (fun _ D => aY rfl) ?_; refine bE (fun _ D => aF rfl) ?_; refine bE (fun _ D => aA rfl cP) ?_; refine bE (fun _ D => aU rfl cT (bA (D.blk0 j2) rfl)) ?_; refine bE (fun _ D => aY rfl) ?_; refine bE (fun _ D => aF rfl) ?_; refine bE (fun _ D => aA rfl aV) ?_; refine bE (fun _ D => aU rfl aQ (bA (D.blk0 j2) rfl)) ?_; refine bE (fun _ D => jO (l := st.pos) rfl rfl Tryz.underlying9 rfl hle) ?_; refine bE (fun _ D => eK rfl) ?_; refine eS (fun m6 D => aB ?_); have j3 := ((Evo.refl [] w).then l7).then D; refine csr (aD (aC (aF rfl) (aC (aA rfl dS) (aC (dF (o := 2) rfl jV dH (vs := [.bool st.now.fold, .bool st.now.lines, .bool st.now.dots, .bool st.now.lazy]) rfl (zC (D.blk0 j2))) ?_)))); refine aC (cC (vs := [(2, _)]) AM rfl (cells := [_, _, _, _, _, _, _, _, _]) rfl) ?_; refine cK rfl iE fun b4 q0 l8 d4 j4 => ?_; have m3 := d4; have A := Apart.new (Lt.blk (D.blk0 l5)) d4
  have B := Ge.new j3 d4; refine aW rfl rfl aZ l8 rfl rfl ⟨by first | rfl | assumption, by first | rfl | assumption, by first | rfl | assumption, by first | rfl | assumption, by first | rfl | assumption, by first | rfl | assumption, by first | rfl | assumption, by first | rfl | assumption, by first | rfl | assumption, trivial⟩ fun q1 d5 j5 => ?_
  try simp only [cG, Nat.reduceAdd] at d5
  refine wnn (aI (csr (aD ?_))); refine aK (vs := [_, _]) nC rfl (xM (s.extract st.pos s.size) (ByteArray.mk #[40, 63]) (by omega) (show 2 ≤ 140737488355328 by omega)) rfl ?_; rintro _ m4 ⟨rfl, a7⟩; have d6 := ((j3.then j4).step j5 B.mem1).then a7; have d7 := a7.blk0 (j5.blk (j4.blk0 (D.blk0 l5)) A.nmem1); refine aC (oY rfl) ?_; refine wnn (aX rfl (fun d8 => ?_) (fun d8 => ?_))
  ·refine csr (aC (aA rfl eU) ?_); refine bC rfl rfl (by first | rfl | assumption) bO (a7.blk0 d5) rfl fun q2 j6 j7 => ?_
   try simp only [cG, Nat.reduceAdd] at j6
   refine aC (aA rfl gQ) ?_; refine bC rfl rfl (by first | rfl | assumption) fA j6 rfl fun q3 j8 j9 => ?_
   try simp only [cG, Nat.reduceAdd] at j8
   refine wnn (csr (aC (bV rfl bZ aZ j8 rfl) ?_)); refine aW rfl rfl aZ (j9.blk (j7.blk d7 A.nmem1) A.nmem1) rfl rfl ⟨by first | rfl | assumption, by first | rfl | assumption, by first | rfl | assumption, by first | rfl | assumption, by first | rfl | assumption, by first | rfl | assumption, by first | rfl | assumption, by first | rfl | assumption, by first | rfl | assumption, trivial⟩ fun q4 k0 l9 => ?_
   try simp only [cG, Nat.reduceAdd] at k0
   refine wnn (aH (aE (cH rfl (ResOk.cellA rfl bZ aZ k0 rfl) ?_))); rw [yK (fun h => d8 ((pre2 hle).2 h))]; exact ⟨rfl, (((d6.step j7 B.mem1).step j9 B.mem1).step l9 J.mem1)⟩
  have h40 := (pre2 hle).1 (Classical.not_not.1 d8); refine aL (aB (aI (csr ?_))); refine aC (sU (vs := [(0, _), (1, _)]) Tryz.underlying221 EU kV rfl (cells := #[.string (ByteArray.mk #[40, 63, 80, 60]), .string (ByteArray.mk #[40, 63, 60])]) (by kernel_rfl)) ?_; refine aD (wnn (bG ?_)); refine dC (α := Nat) (0) (fun k => [(29, .int .i64 (k : Nat))]) [(2, _), (3, _), (4, _), (28, _)] (fun k wr => Evo [] m4 wr ∧ (HdI w wr b2 b4 s st.pos st.now k)) (fun k => 2 - k) ⟨rfl, trivial⟩ ⟨rfl, rfl, rfl, rfl, trivial⟩ ⟨Evo.refl _ _, ⟨Nat.zero_le _, fun j h => by cases h⟩⟩ ?_; rintro k wr64 ⟨O, ⟨hk2, hno⟩⟩; show CW _ _ _ _ [(29, _), (2, _), (3, _), (4, _), (28, _)] _; have d9 := O.blk0 (a7.blk0 d5); refine csr (aC (cX rfl rfl) ?_); refine wnn (aI (aX rfl (fun m0 => ?_) (fun m0 => ?_)))
  ·refine aL (aB (aI (bG (csr ?_)))); refine aC (OR (n := k) rfl rfl Tryz.underlying221 rfl (by omega) kV (part_hd (by omega))) ?_; refine wan (aI (csr (aD (aD ?_))))
   refine aK (vs := [_, _]) nC rfl (xM (s.extract st.pos s.size) (hd k) (by omega) (by have := hd_sz k; omega)) rfl ?_
   rintro _ m5 ⟨rfl, a8⟩; refine aC (oY rfl) ?_; refine wnn (aX rfl (fun e1 => ?_) (fun e1 => ?_))
   ·refine cM (bK (cL (aB ?_))); refine aG ?_; refine aC (aJ rfl rfl (by omega) (by omega)) ?_; refine aD (aP (bB ?_)); refine ⟨k + 1, ?_, ⟨rfl, trivial⟩, ⟨rfl, rfl, rfl, rfl, trivial⟩, (O.then a8), ?_⟩
    · omega
    refine ⟨by omega, fun j hj => ?_⟩
    by_cases e : j = k
    · subst e; exact e1
    · exact hno j (by omega)
   have hpk := Classical.not_not.1 e1; have hsz := hd_sz k; have hsl : (hd k).size ≤ (s.extract st.pos s.size).size := hpk.1; have hop := QI (fl := st.now) hle h40 (by omega) hpk hno; refine aL (aB (csr (aD (aC (cA rfl Tryz.underlying9 rfl) ?_)))); refine wan (aI (bG ?_))
   refine dC (α := WdG) (⟨s.size, (hd k).size⟩) (fun x => [(7, .int .i64 (x.m : Nat))]) [(2, _), (3, _), (4, _), (6, _), (28, _), (29, _)] (fun x wr => Evo [] m5 wr ∧ (WdI s st.pos (hd k).size x)) (fun x => x.f) ⟨rfl, trivial⟩ ⟨rfl, rfl, rfl, rfl, rfl, rfl, trivial⟩ ⟨Evo.refl _ _, ⟨by show st.pos + (hd k).size ≤ s.size; omega, Nat.le_refl _, Nat.le_add_right _ _, rfl⟩⟩ ?_
   rintro ⟨f, m⟩ wr79 ⟨a9, ⟨hm, hhm, hf, heq⟩⟩; show CW _ _ _ _ [(7, .int .i64 (m : Nat)), (2, _), (3, _), (4, _), (6, _), (28, _), (29, _)] _
   try dsimp only at hm hhm hf heq
   have U := ((d6.then O).then a8).then a9; have V := a9.blk0 (a8.blk0 (O.blk0 d7)); have a0 := a9.blk0 (a8.blk0 d9); refine aI (csr (aD (aD (aC (cA rfl Tryz.underlying9 rfl) ?_)))); refine aC (cX rfl rfl) ?_; refine aD (bF (t := 42) rfl (fun m1 => ?_) (fun m1 => ?_))
   ·have e0 : sb (s.extract st.pos s.size) m = sb s (st.pos + m) := lF (by omega); refine aT (aD (aT (aD (aT ?_)))); refine aC (jB (n := m) rfl rfl Tryz.underlying9 rfl (by omega) e0) ?_; refine aT (aK (vs := [_]) qS rfl (CR (sb s (st.pos + m))) rfl ?_); rintro _ q5 ⟨rfl, b5⟩; have a4 := U.then b5; have a5 := b5.blk0 V; have a6 := b5.blk0 a0; refine bW (wnn (aX rfl (fun F => ?_) (fun F => ?_)))
    ·refine aL (aB (bG (aG (aD ?_)))); refine aC (aJ rfl rfl (by omega) (by omega)) ?_; refine bX (aP (aO (bB ?_))); refine ⟨⟨f - 1, m + 1⟩, ?_, ⟨rfl, trivial⟩, ⟨rfl, rfl, rfl, rfl, rfl, rfl, trivial⟩, (a9.then b5), ?_⟩
     · (try dsimp only); show f - 1 < f; omega
     try dsimp only
     have hf2 : f = f - 1 + 1 := by omega
     exact ⟨(by show st.pos + (m + 1) ≤ s.size; omega), Nat.le_succ_of_le hhm, (by show s.size ≤ f - 1 + (st.pos + (m + 1)); omega), heq.trans (by rw [hf2]; exact UE (by omega) F)⟩
    refine cM (bK (bK (cL (aB ?_)))); refine aI (csr (aD (aD (aC (cA rfl Tryz.underlying9 rfl) ?_)))); refine wel ?_; refine aD (bF (t := 54) rfl (fun e2 => ?_) (fun e2 => ?_))
    ·refine aN (aN (aN (aN (bW (aD (aN (aN (aN (aN (bW (wnn (dP rfl ?_)))))))))))); refine csr (aC (aA rfl dR) ?_); refine bC rfl rfl (by first | rfl | assumption) eH a6 rfl fun q6 k1 k2 => ?_
     try simp only [cG, Nat.reduceAdd] at k1
     refine wnn (csr (aC (bV rfl bZ aZ k1 rfl) ?_)); refine aW rfl rfl aZ (k2.blk a5 A.nmem1) rfl rfl ⟨by first | rfl | assumption, by first | rfl | assumption, by first | rfl | assumption, by first | rfl | assumption, by first | rfl | assumption, by first | rfl | assumption, by first | rfl | assumption, by first | rfl | assumption, by first | rfl | assumption, trivial⟩ fun m7 e6 k3 => ?_
     try simp only [cG, Nat.reduceAdd] at e6
     refine wnn (aH (aE (aM (aE (aE (aM (aE (cH rfl (ResOk.cellA rfl bZ aZ e6 rfl) ?_))))))))
     have hend := heq.trans (jD (by rintro ⟨h1, h2⟩; first | omega | exact F h2))
     rw [hop, kY hend (.inl (by omega))]; exact ⟨rfl, ((a4.step k2 B.mem1).step k3 J.mem1)⟩
    refine aT (aD (aT (aD (aT (aC (cA rfl Tryz.underlying9 rfl) ?_))))); refine aT (wel ?_); refine bM (aD (bF (t := 60) rfl (fun e3 => ?_) (fun e3 => ?_)))
    ·refine aN (aN (aN (aN (bW (wnn (dP rfl ?_)))))); refine csr (aC (aA rfl dR) ?_); refine bC rfl rfl (by first | rfl | assumption) eH a6 rfl fun m8 e7 e8 => ?_
     try simp only [cG, Nat.reduceAdd] at e7
     refine wnn (csr (aC (bV rfl bZ aZ e7 rfl) ?_)); refine aW rfl rfl aZ (e8.blk a5 A.nmem1) rfl rfl ⟨by first | rfl | assumption, by first | rfl | assumption, by first | rfl | assumption, by first | rfl | assumption, by first | rfl | assumption, by first | rfl | assumption, by first | rfl | assumption, by first | rfl | assumption, by first | rfl | assumption, trivial⟩ fun m9 e9 k4 => ?_
     try simp only [cG, Nat.reduceAdd] at e9
     refine wnn (aH (aE (aM (aE (aE (aM (aE (cH rfl (ResOk.cellA rfl bZ aZ e9 rfl) ?_))))))))
     have hend := heq.trans (jD (by rintro ⟨h1, h2⟩; first | omega | exact F h2))
     rw [hop, kY hend (.inr (fun h => by have := h.1; omega))]
     exact ⟨rfl, ((a4.step e8 B.mem1).step k4 J.mem1)⟩
    have e0 : sb (s.extract st.pos s.size) m = sb s (st.pos + m) := lF (by omega); refine aT (aD (aT (aD (aT ?_)))); refine aC (jB (n := m) rfl rfl Tryz.underlying9 rfl (by omega) e0) ?_; refine aT (aC (gU rfl rfl) ?_); refine bM (wnn (aX rfl (fun e4 => ?_) (fun e4 => ?_)))
    ·refine csr (aC (aA rfl dR) ?_); refine bC rfl rfl (by first | rfl | assumption) eH a6 rfl fun n0 f0 f5 => ?_
     try simp only [cG, Nat.reduceAdd] at f0
     refine wnn (csr (aC (bV rfl bZ aZ f0 rfl) ?_)); refine aW rfl rfl aZ (f5.blk a5 A.nmem1) rfl rfl ⟨by first | rfl | assumption, by first | rfl | assumption, by first | rfl | assumption, by first | rfl | assumption, by first | rfl | assumption, by first | rfl | assumption, by first | rfl | assumption, by first | rfl | assumption, by first | rfl | assumption, trivial⟩ fun n1 f6 k5 => ?_
     try simp only [cG, Nat.reduceAdd] at f6
     refine wnn (aH (aE (aM (aE (aE (aM (aE (cH rfl (ResOk.cellA rfl bZ aZ f6 rfl) ?_))))))))
     have hend := heq.trans (jD (by rintro ⟨h1, h2⟩; first | omega | exact F h2))
     rw [hop, kY hend (.inr (fun h => by have := h.2; omega))]
     exact ⟨rfl, ((a4.step f5 B.mem1).step k5 J.mem1)⟩
    have e74 : (s.extract st.pos s.size).extract (hd k).size m = s.extract (st.pos + (hd k).size) (st.pos + m) := zF (by omega) hhm; refine aL (aB (aI ?_)); refine fZ (fun w0 w' => Evo [b4] w0 w') (by kernel_rfl) (fun H L => ?_); refine aet 0 rfl (fun _ hS => aY rfl) (Evo.refl [b4] H) ?_; refine aet 1 rfl (fun _ hS => aJ rfl rfl (by omega) (by omega)) (Evo.refl [b4] H) ?_; refine aet 2 rfl (fun _ hS => aY rfl) (Evo.refl [b4] H) ?_; refine aet 3 rfl (fun _ hS => aY rfl) (Evo.refl [b4] H) ?_; refine aet 4 rfl (fun _ hS => cA rfl Tryz.underlying9 rfl) (Evo.refl [b4] H) ?_; refine aet 5 rfl (fun _ hS => aY rfl) (Evo.refl [b4] H) ?_; refine aet 7 rfl (fun _ hS => aA rfl eU) (Evo.refl [b4] H) ?_; refine bR [6, 8] (by kernel_rfl) rfl ⟨?_, ?_, trivial⟩
    ·refine bY rfl ?_; refine aC (rW (l := (hd k).size) (h := m) rfl rfl rfl Tryz.underlying9 rfl rfl hhm (by omega) e74) ?_; refine aP (bN (.inl (Evo.refl [b4] H)) ?_); refine bR [8] (by kernel_rfl) rfl ⟨?_, trivial⟩; refine bY rfl ?_; refine bC rfl rfl (by first | rfl | assumption) bO (L.blk0 a6) rfl fun n2 f7 b6 => ?_; have b7 := (Evo.refl [b4] H).step b6 (fun y hy => .inl hy)
     try simp only [cG, Nat.reduceAdd] at f7
     refine aP (bN (.inl b7) ?_); refine aet 9 rfl (fun _ hS => aA rfl jF) b7 ?_; refine bR [10] (by kernel_rfl) rfl ⟨?_, trivial⟩; refine bY rfl ?_; refine bC rfl rfl (by first | rfl | assumption) kV f7 rfl fun n3 f8 b8 => ?_; have b9 := b7.step b8 (fun y hy => .inl hy)
     try simp only [cG, Nat.reduceAdd] at f8
     refine aP (bN (.inl b9) ?_); refine aet 11 rfl (fun _ hS => aA rfl gQ) b9 ?_; refine bR [12] (by kernel_rfl) rfl ⟨?_, trivial⟩; refine bY rfl ?_; refine bC rfl rfl (by first | rfl | assumption) fA f8 rfl fun n4 f9 c0 => ?_
     try simp only [cG, Nat.reduceAdd] at f9
     refine aP (bN (.inl (b9.step c0 (fun y hy => .inl hy))) ?_); refine dJ (by kernel_rfl) (aB ?_); refine csr (aC (bV rfl bZ aZ f9 rfl) ?_); refine aW rfl rfl aZ (c0.blk (b8.blk (b6.blk (L.blk0 a5) A.nmem1) A.nmem1) A.nmem1) rfl rfl ⟨by first | rfl | assumption, by first | rfl | assumption, by first | rfl | assumption, by first | rfl | assumption, by first | rfl | assumption, by first | rfl | assumption, by first | rfl | assumption, by first | rfl | assumption, by first | rfl | assumption, trivial⟩ fun n5 g0 k6 => ?_
     try simp only [cG, Nat.reduceAdd] at g0
     refine wnn (aH (aM (aE (aE (aM (aE (cH rfl (ResOk.cellA rfl bZ aZ g0 rfl) ?_)))))))
     have hend := heq.trans (jD (by rintro ⟨h1, h2⟩; first | omega | exact F h2))
     rw [hop, pK hend (by rintro (h | h); omega; exact h ⟨by omega, by omega⟩)]
     refine ⟨?_, (((((a4.then L).step b6 B.mem1).step b8 B.mem1).step c0 B.mem1).step k6 J.mem1)⟩; simp only [opV]; rw [show ((st.pos + m + 1 - st.pos : Nat) : Int) = (m : Int) + 1 by omega]
    refine bY rfl ?_; refine bC rfl rfl (by first | rfl | assumption) bO (L.blk0 a6) rfl fun n6 g1 c1 => ?_; have a1 := (Evo.refl [b4] H).step c1 (fun y hy => .inl hy)
    try simp only [cG, Nat.reduceAdd] at g1
    refine aP (bN (.inl a1) ?_); refine bR [6] (by kernel_rfl) rfl ⟨?_, trivial⟩; refine bY rfl ?_; refine aC (rW (l := (hd k).size) (h := m) rfl rfl rfl Tryz.underlying9 rfl rfl hhm (by omega) e74) ?_; refine aP (bN (.inl a1) ?_); refine aet 9 rfl (fun _ hS => aA rfl jF) a1 ?_; refine bR [10] (by kernel_rfl) rfl ⟨?_, trivial⟩; refine bY rfl ?_; refine bC rfl rfl (by first | rfl | assumption) kV g1 rfl fun n7 g2 c2 => ?_; have c3 := a1.step c2 (fun y hy => .inl hy)
    try simp only [cG, Nat.reduceAdd] at g2
    refine aP (bN (.inl c3) ?_); refine aet 11 rfl (fun _ hS => aA rfl gQ) c3 ?_; refine bR [12] (by kernel_rfl) rfl ⟨?_, trivial⟩; refine bY rfl ?_; refine bC rfl rfl (by first | rfl | assumption) fA g2 rfl fun n8 g3 c4 => ?_
    try simp only [cG, Nat.reduceAdd] at g3
    refine aP (bN (.inl (c3.step c4 (fun y hy => .inl hy))) ?_); refine dJ (by kernel_rfl) (aB ?_); refine csr (aC (bV rfl bZ aZ g3 rfl) ?_); refine aW rfl rfl aZ (c4.blk (c2.blk (c1.blk (L.blk0 a5) A.nmem1) A.nmem1) A.nmem1) rfl rfl ⟨by first | rfl | assumption, by first | rfl | assumption, by first | rfl | assumption, by first | rfl | assumption, by first | rfl | assumption, by first | rfl | assumption, by first | rfl | assumption, by first | rfl | assumption, by first | rfl | assumption, trivial⟩ fun n9 g4 k7 => ?_
    try simp only [cG, Nat.reduceAdd] at g4
    refine wnn (aH (aM (aE (aE (aM (aE (cH rfl (ResOk.cellA rfl bZ aZ g4 rfl) ?_)))))))
    have hend := heq.trans (jD (by rintro ⟨h1, h2⟩; first | omega | exact F h2))
    rw [hop, pK hend (by rintro (h | h); omega; exact h ⟨by omega, by omega⟩)]
    refine ⟨?_, (((((a4.then L).step c1 B.mem1).step c2 B.mem1).step c4 B.mem1).step k7 J.mem1)⟩; simp only [opV]; rw [show ((st.pos + m + 1 - st.pos : Nat) : Int) = (m : Int) + 1 by omega]
   refine aN (aN (aN (aN (bM (wnn (cS rfl ?_)))))); refine cM (bK (bK (cL (aB ?_)))); refine aI (csr (aD (aD (aC (cA rfl Tryz.underlying9 rfl) ?_)))); refine wel ?_; refine aD (bF (t := 54) rfl (fun e2 => ?_) (fun e2 => ?_))
   ·refine aN (aN (aN (aN (bW (aD (aN (aN (aN (aN (bW (wnn (dP rfl ?_)))))))))))); refine csr (aC (aA rfl dR) ?_); refine bC rfl rfl (by first | rfl | assumption) eH a0 rfl fun o0 g5 g6 => ?_
    try simp only [cG, Nat.reduceAdd] at g5
    refine wnn (csr (aC (bV rfl bZ aZ g5 rfl) ?_)); refine aW rfl rfl aZ (g6.blk V A.nmem1) rfl rfl ⟨by first | rfl | assumption, by first | rfl | assumption, by first | rfl | assumption, by first | rfl | assumption, by first | rfl | assumption, by first | rfl | assumption, by first | rfl | assumption, by first | rfl | assumption, by first | rfl | assumption, trivial⟩ fun o1 g7 k8 => ?_
    try simp only [cG, Nat.reduceAdd] at g7
    refine wnn (aH (aE (aM (aE (aE (aM (aE (cH rfl (ResOk.cellA rfl bZ aZ g7 rfl) ?_))))))))
    have hend := heq.trans (jD (by rintro ⟨h1, h2⟩; first | omega | exact F h2))
    rw [hop, kY hend (.inl (by omega))]; exact ⟨rfl, ((U.step g6 B.mem1).step k8 J.mem1)⟩
   refine aT (aD (aT (aD (aT (aC (cA rfl Tryz.underlying9 rfl) ?_))))); refine aT (wel ?_); refine bM (aD (bF (t := 60) rfl (fun e3 => ?_) (fun e3 => ?_)))
   ·refine aN (aN (aN (aN (bW (wnn (dP rfl ?_)))))); refine csr (aC (aA rfl dR) ?_); refine bC rfl rfl (by first | rfl | assumption) eH a0 rfl fun o2 g8 g9 => ?_
    try simp only [cG, Nat.reduceAdd] at g8
    refine wnn (csr (aC (bV rfl bZ aZ g8 rfl) ?_)); refine aW rfl rfl aZ (g9.blk V A.nmem1) rfl rfl ⟨by first | rfl | assumption, by first | rfl | assumption, by first | rfl | assumption, by first | rfl | assumption, by first | rfl | assumption, by first | rfl | assumption, by first | rfl | assumption, by first | rfl | assumption, by first | rfl | assumption, trivial⟩ fun o3 h0 k9 => ?_
    try simp only [cG, Nat.reduceAdd] at h0
    refine wnn (aH (aE (aM (aE (aE (aM (aE (cH rfl (ResOk.cellA rfl bZ aZ h0 rfl) ?_))))))))
    have hend := heq.trans (jD (by rintro ⟨h1, h2⟩; first | omega | exact F h2))
    rw [hop, kY hend (.inr (fun h => by have := h.1; omega))]
    exact ⟨rfl, ((U.step g9 B.mem1).step k9 J.mem1)⟩
   have e0 : sb (s.extract st.pos s.size) m = sb s (st.pos + m) := lF (by omega); refine aT (aD (aT (aD (aT ?_)))); refine aC (jB (n := m) rfl rfl Tryz.underlying9 rfl (by omega) e0) ?_; refine aT (aC (gU rfl rfl) ?_); refine bM (wnn (aX rfl (fun e4 => ?_) (fun e4 => ?_)))
   ·refine csr (aC (aA rfl dR) ?_); refine bC rfl rfl (by first | rfl | assumption) eH a0 rfl fun o4 h3 h4 => ?_
    try simp only [cG, Nat.reduceAdd] at h3
    refine wnn (csr (aC (bV rfl bZ aZ h3 rfl) ?_)); refine aW rfl rfl aZ (h4.blk V A.nmem1) rfl rfl ⟨by first | rfl | assumption, by first | rfl | assumption, by first | rfl | assumption, by first | rfl | assumption, by first | rfl | assumption, by first | rfl | assumption, by first | rfl | assumption, by first | rfl | assumption, by first | rfl | assumption, trivial⟩ fun o5 h5 l0 => ?_
    try simp only [cG, Nat.reduceAdd] at h5
    refine wnn (aH (aE (aM (aE (aE (aM (aE (cH rfl (ResOk.cellA rfl bZ aZ h5 rfl) ?_))))))))
    have hend := heq.trans (jD (by rintro ⟨h1, h2⟩; first | omega | exact F h2))
    rw [hop, kY hend (.inr (fun h => by have := h.2; omega))]
    exact ⟨rfl, ((U.step h4 B.mem1).step l0 J.mem1)⟩
   have e74 : (s.extract st.pos s.size).extract (hd k).size m = s.extract (st.pos + (hd k).size) (st.pos + m) := zF (by omega) hhm; refine aL (aB (aI ?_)); refine fZ (fun w0 w' => Evo [b4] w0 w') (by kernel_rfl) (fun I M => ?_); refine aet 0 rfl (fun _ hS => aY rfl) (Evo.refl [b4] I) ?_; refine aet 1 rfl (fun _ hS => aJ rfl rfl (by omega) (by omega)) (Evo.refl [b4] I) ?_; refine aet 2 rfl (fun _ hS => aY rfl) (Evo.refl [b4] I) ?_; refine aet 3 rfl (fun _ hS => aY rfl) (Evo.refl [b4] I) ?_; refine aet 4 rfl (fun _ hS => cA rfl Tryz.underlying9 rfl) (Evo.refl [b4] I) ?_; refine aet 5 rfl (fun _ hS => aY rfl) (Evo.refl [b4] I) ?_; refine aet 7 rfl (fun _ hS => aA rfl eU) (Evo.refl [b4] I) ?_; refine bR [6, 8] (by kernel_rfl) rfl ⟨?_, ?_, trivial⟩
   ·refine bY rfl ?_; refine aC (rW (l := (hd k).size) (h := m) rfl rfl rfl Tryz.underlying9 rfl rfl hhm (by omega) e74) ?_; refine aP (bN (.inl (Evo.refl [b4] I)) ?_); refine bR [8] (by kernel_rfl) rfl ⟨?_, trivial⟩; refine bY rfl ?_; refine bC rfl rfl (by first | rfl | assumption) bO (M.blk0 a0) rfl fun o6 h6 c5 => ?_; have c6 := (Evo.refl [b4] I).step c5 (fun y hy => .inl hy)
    try simp only [cG, Nat.reduceAdd] at h6
    refine aP (bN (.inl c6) ?_); refine aet 9 rfl (fun _ hS => aA rfl jF) c6 ?_; refine bR [10] (by kernel_rfl) rfl ⟨?_, trivial⟩; refine bY rfl ?_; refine bC rfl rfl (by first | rfl | assumption) kV h6 rfl fun o7 h7 c7 => ?_; have c8 := c6.step c7 (fun y hy => .inl hy)
    try simp only [cG, Nat.reduceAdd] at h7
    refine aP (bN (.inl c8) ?_); refine aet 11 rfl (fun _ hS => aA rfl gQ) c8 ?_; refine bR [12] (by kernel_rfl) rfl ⟨?_, trivial⟩; refine bY rfl ?_; refine bC rfl rfl (by first | rfl | assumption) fA h7 rfl fun o8 h8 c9 => ?_
    try simp only [cG, Nat.reduceAdd] at h8
    refine aP (bN (.inl (c8.step c9 (fun y hy => .inl hy))) ?_); refine dJ (by kernel_rfl) (aB ?_); refine csr (aC (bV rfl bZ aZ h8 rfl) ?_); refine aW rfl rfl aZ (c9.blk (c7.blk (c5.blk (M.blk0 V) A.nmem1) A.nmem1) A.nmem1) rfl rfl ⟨by first | rfl | assumption, by first | rfl | assumption, by first | rfl | assumption, by first | rfl | assumption, by first | rfl | assumption, by first | rfl | assumption, by first | rfl | assumption, by first | rfl | assumption, by first | rfl | assumption, trivial⟩ fun o9 h9 l1 => ?_
    try simp only [cG, Nat.reduceAdd] at h9
    refine wnn (aH (aM (aE (aE (aM (aE (cH rfl (ResOk.cellA rfl bZ aZ h9 rfl) ?_)))))))
    have hend := heq.trans (jD (by rintro ⟨h1, h2⟩; first | omega | exact F h2))
    rw [hop, pK hend (by rintro (h | h); omega; exact h ⟨by omega, by omega⟩)]
    refine ⟨?_, (((((U.then M).step c5 B.mem1).step c7 B.mem1).step c9 B.mem1).step l1 J.mem1)⟩; simp only [opV]; rw [show ((st.pos + m + 1 - st.pos : Nat) : Int) = (m : Int) + 1 by omega]
   refine bY rfl ?_; refine bC rfl rfl (by first | rfl | assumption) bO (M.blk0 a0) rfl fun p1 i1 d0 => ?_; have a2 := (Evo.refl [b4] I).step d0 (fun y hy => .inl hy)
   try simp only [cG, Nat.reduceAdd] at i1
   refine aP (bN (.inl a2) ?_); refine bR [6] (by kernel_rfl) rfl ⟨?_, trivial⟩; refine bY rfl ?_; refine aC (rW (l := (hd k).size) (h := m) rfl rfl rfl Tryz.underlying9 rfl rfl hhm (by omega) e74) ?_; refine aP (bN (.inl a2) ?_); refine aet 9 rfl (fun _ hS => aA rfl jF) a2 ?_; refine bR [10] (by kernel_rfl) rfl ⟨?_, trivial⟩; refine bY rfl ?_; refine bC rfl rfl (by first | rfl | assumption) kV i1 rfl fun p2 i2 d1 => ?_; have d2 := a2.step d1 (fun y hy => .inl hy)
   try simp only [cG, Nat.reduceAdd] at i2
   refine aP (bN (.inl d2) ?_); refine aet 11 rfl (fun _ hS => aA rfl gQ) d2 ?_; refine bR [12] (by kernel_rfl) rfl ⟨?_, trivial⟩; refine bY rfl ?_; refine bC rfl rfl (by first | rfl | assumption) fA i2 rfl fun p3 i3 d3 => ?_
   try simp only [cG, Nat.reduceAdd] at i3
   refine aP (bN (.inl (d2.step d3 (fun y hy => .inl hy))) ?_); refine dJ (by kernel_rfl) (aB ?_); refine csr (aC (bV rfl bZ aZ i3 rfl) ?_); refine aW rfl rfl aZ (d3.blk (d1.blk (d0.blk (M.blk0 V) A.nmem1) A.nmem1) A.nmem1) rfl rfl ⟨by first | rfl | assumption, by first | rfl | assumption, by first | rfl | assumption, by first | rfl | assumption, by first | rfl | assumption, by first | rfl | assumption, by first | rfl | assumption, by first | rfl | assumption, by first | rfl | assumption, trivial⟩ fun p4 i4 l2 => ?_
   try simp only [cG, Nat.reduceAdd] at i4
   refine wnn (aH (aM (aE (aE (aM (aE (cH rfl (ResOk.cellA rfl bZ aZ i4 rfl) ?_)))))))
   have hend := heq.trans (jD (by rintro ⟨h1, h2⟩; first | omega | exact F h2))
   rw [hop, pK hend (by rintro (h | h); omega; exact h ⟨by omega, by omega⟩)]
   refine ⟨?_, (((((U.then M).step d0 B.mem1).step d1 B.mem1).step d3 B.mem1).step l2 J.mem1)⟩; simp only [opV]; rw [show ((st.pos + m + 1 - st.pos : Nat) : Int) = (m : Int) + 1 by omega]
  have hnn : ∀ j, j < 2 → ¬ Pre (s.extract st.pos s.size) (hd j) := fun j hj => hno j (by omega); have hop := open_no (fl := st.now) hle h40 hnn; refine cM (bK (bK (cL (aB ?_)))); refine aI (csr (aD ?_)); refine aK (vs := [_, _]) nC rfl (xM (s.extract st.pos s.size) (ByteArray.mk #[40, 63, 58]) (by omega) (show 3 ≤ 140737488355328 by omega)) rfl ?_; rintro _ p5 ⟨rfl, a3⟩; have i5 := (d6.then O).then a3; have i6 := a3.blk0 (O.blk0 d7); refine wnn (aX rfl (fun e5 => ?_) (fun e5 => ?_))
  ·refine csr (aC (aA rfl eU) ?_); refine bC rfl rfl (by first | rfl | assumption) bO (a3.blk0 d9) rfl fun p6 i7 i8 => ?_
   try simp only [cG, Nat.reduceAdd] at i7
   refine wnn (csr (aC (bV rfl bZ aZ i7 rfl) ?_)); refine aW rfl rfl aZ (i8.blk i6 A.nmem1) rfl rfl ⟨by first | rfl | assumption, by first | rfl | assumption, by first | rfl | assumption, by first | rfl | assumption, by first | rfl | assumption, by first | rfl | assumption, by first | rfl | assumption, by first | rfl | assumption, by first | rfl | assumption, trivial⟩ fun p7 i9 l3 => ?_
   try simp only [cG, Nat.reduceAdd] at i9
   refine wnn (aH (aE (cH rfl (ResOk.cellA rfl bZ aZ i9 rfl) ?_))); have h58 : isB s (st.pos + 2) 58 := ((pre3 hle).1 e5).2.2; rw [hop, if_pos h58]; exact ⟨rfl, ((i5.step i8 B.mem1).step l3 J.mem1)⟩
  refine aL (aB (csr (aD (aC (bV rfl bZ aZ (a3.blk0 d9) rfl) ?_))))
  refine aK (vs := [_, _]) FI rfl (JW s st.pos st.now (by have := h40.2.1; omega) hs) rfl ?_
  rintro _ p8 ⟨rfl, j0⟩; refine aW rfl rfl aZ (j0.blk0 i6) rfl rfl ⟨by first | rfl | assumption, by first | rfl | assumption, by first | rfl | assumption, by first | rfl | assumption, by first | rfl | assumption, by first | rfl | assumption, by first | rfl | assumption, by first | rfl | assumption, by first | rfl | assumption, trivial⟩ fun p9 j1 l4 => ?_
  try simp only [cG, Nat.reduceAdd] at j1
  refine wnn (aH (cH rfl (ResOk.cellA rfl bZ aZ j1 rfl) ?_)); have h58 : ¬ isB s (st.pos + 2) 58 := fun h => e5 ((pre3 hle).2 ⟨h40.1, h40.2, h⟩); rw [hop, if_neg h58]; exact ⟨rfl, ((i5.then j0).step l4 J.mem1)⟩
theorem mG : AG Tryz.prog 69 69 = some (71, 9, 112) := by kernel_rfl
theorem nD : dU Tryz.prog 134 := ⟨_, Tryz.func134, by kernel_rfl, by kernel_rfl⟩
theorem OTs.evo0 {l : List Rx} {w w' : World} {cs : List Value} {bs : List Nat} (h : OTs l w cs bs) (he : Evo [] w w') : OTs l w' cs bs := h.evo he (fun b hb h => by cases h)
theorem OT.evo0 {x : Rx} {w w' : World} {vs : List Value} {bs : List Nat} (h : OT x w vs bs) (he : Evo [] w w') : OT x w' vs bs := h.evo he (fun b hb h => by cases h)
theorem rD {w : World} {o : Option Nat} {bs : List Nat} (h : Fr w (o.toList ++ bs)) : ∀ q, q ∈ bs → q ∉ o.toList := fun q hq ho => (List.nodup_append.1 h.nd).2.2 q ho q hq rfl
theorem oL {w : World} {o : Option Nat} {bs : List Nat} (h : Fr w (o.toList ++ bs)) : Ge w o := fun g hg => h.ge g (by simp [hg])
theorem Fr.grow {w w1 w2 : World} {o o2 : Option Nat} {bs bx : List Nat} (h : Fr w (o.toList ++ bs)) (hl : ∀ b, b ∈ o.toList ++ bs → b < w1.heap.size) (hx : Fr w1 bx) (hx2 : ∀ b, b ∈ bx → b < w2.heap.size) (hw : w.heap.size ≤ w1.heap.size) (h12 : w1.heap.size ≤ w2.heap.size)
    (hob : o2 = o ∨ ∃ g, o2 = some g ∧ w2.heap.size ≤ g) : Fr w (o2.toList ++ (bs ++ bx)) := by
  rcases hob with rfl | ⟨g, rfl, hg⟩
  · rw [← List.append_assoc]
    exact h.app hx hw hl
  · have hb : Fr w (bs ++ bx) := Fr.app ⟨(List.nodup_append.1 h.nd).2.1, fun b hb => h.ge b (List.mem_append_right _ hb)⟩ hx hw (fun b hb => hl b (List.mem_append_right _ hb))
    refine ⟨List.nodup_cons.2 ⟨fun hm => ?_, hb.nd⟩, fun b hb2 => ?_⟩
    · have hm' : g ∈ bs ++ bx := by simpa using hm
      rcases List.mem_append.1 hm' with hm' | hm'
      · have := hl g (List.mem_append_right _ hm'); omega
      · have := hx2 g hm'; omega
    · rcases List.mem_cons.1 hb2 with rfl | hb2
      · omega
      · exact hb.ge b hb2
theorem oU {w : World} {a : Option Addr} {n c : Nat} {cs : List Value} {o : Option Nat} {l : List Rx} {bs : List Nat} (hO : OwnS w 71 9 a n c cs o) (hT : OTs l w cs bs) : ∀ b, b ∈ o.toList ++ bs → b < w.heap.size := fun b hb => (List.mem_append.1 hb).elim (DK hO b) (hT.lt b)
theorem NQ {w : World} {o : Option Nat} {bs : List Nat} {b : Nat} (h : Fr w (o.toList ++ bs)) (hb : Lt w (some b)) : ∀ q, q ∈ bs → q ∉ [b] := fun q hq hm => by
  have h1 := h.ge q (List.mem_append_right _ hq)
  have h2 := hb b rfl
  rw [List.mem_singleton.1 hm] at h1; omega
theorem ON {s : ByteArray} {a b j k : Nat} (h : kH s a b s.size j = some k) : sb s k = a ∧ sb s (k + 1) = b := ((qL s a b s.size j (by omega)).1 k h).2.1.2
structure QuG where
  f : Nat
  i : Nat
  n : Nat
  l : List Rx
  qa : Option Addr
  qc : Nat
  qo : Option Nat
  bs : List Nat
structure QuI (w wr : World) (b : Nat) (s : ByteArray) (st : PS) (a : Option Addr) (c : Nat) (ob : Option Nat) (e i0 : Nat) (x : QuG) : Prop where
  hr : RdAt wr b s (gX st x.i) a c ob
  bd : Bd s x.i
  eq : kR s st.now e s.size [] i0 = kR s st.now e x.f x.l x.i
  hf : s.size ≤ x.f + x.i
  kt : ∃ cs, OwnS wr 71 9 x.qa x.n x.qc cs x.qo ∧ OTs x.l wr cs x.bs
  fr : Fr w (x.qo.toList ++ x.bs)
  len : x.l.length + i0 ≤ x.i
  ie : x.i ≤ e
theorem TM {s : ByteArray} {fl : Fl} {e f i : Nat} {l : List Rx} (h : i < e) : kR s fl e (f + 1) l i = kR s fl e f (l ++ [lD fl (bJ s i).1]) (i + (bJ s i).2) := by rw [kR, if_pos h]
theorem MS {s : ByteArray} {fl : Fl} {e f i : Nat} {l : List Rx} (h : ¬ i < e) : kR s fl e f l i = (l, i) := by
  cases f with
  | zero => rfl
  | succ f => rw [kR, if_neg h]
theorem rP {w : World} {a : Option Addr} {n c : Nat} {cs : List Value} {o : Option Nat} {l : List Rx} {bs : List Nat} (hO : OwnS w 71 9 a n c cs o) (hT : OTs l w cs bs) : n = l.length := by have h1 := hO.length; have h2 := hT.len; omega
theorem pq_some {s : ByteArray} {st : PS} {k : Nat} (h : kH s 92 69 s.size (st.pos + 2) = some k) : nQ s st = .ok ((kR s st.now k s.size [] (st.pos + 2)).1, { st with pos := (kR s st.now k s.size [] (st.pos + 2)).2 + 2 }) := by unfold nQ; rw [h]
theorem pq_none {s : ByteArray} {st : PS} (h : kH s 92 69 s.size (st.pos + 2) = none) : nQ s st = .ok ((kR s st.now s.size s.size [] (st.pos + 2)).1, { st with pos := (kR s st.now s.size s.size [] (st.pos + 2)).2 }) := by unfold nQ; rw [h]
theorem PE {s : ByteArray} {i e : Nat} (h : Bd s i) (hi : i < e) (he : Bd s e) : i + (bJ s i).2 ≤ e := by
  obtain ⟨N, k, hU, hk, rfl⟩ := h
  obtain ⟨M, m, hV, hm, rfl⟩ := he
  have hkm : k < m := by
    rcases Nat.lt_or_ge k m with h | h
    · exact h
    · have := sN s h; omega
  exact sN s (show k + 1 ≤ m from hkm)
theorem Bd.size {s : ByteArray} {i : Nat} (h : Bd s i) : Bd s s.size := by obtain ⟨N, k, hU, hk, _⟩ := h; exact ⟨N, N, hU, Nat.le_refl _, hU.1⟩
theorem CZ {w : World} {b : Nat} {s : ByteArray} {st : PS} {a : Option Addr} {c : Nat} {ob : Option Nat} (hR : RdAt w b s st a c ob) (hs : s.size ≤ 10000) (hb : Bd s (st.pos + 2)) (hG : Glb w) :
    Calls Tryz.prog 151 #[.pointer (some ⟨b, 0, none⟩)] w (Ret fun v w' => ∃ l st', nQ s st = .ok (l, st') ∧ KOut w w' v l ∧ Evo [b] w w' ∧ RdAt w' b s st' a c ob ∧ st'.opn = st.opn ∧ st'.names = st.names ∧ st.pos + 2 ≤ st'.pos ∧ Bd s st'.pos ∧ l.length + st.pos ≤ st'.pos) := by
  have hap := hR.ap; have hgb : oC ∉ [b] := fun h => hR.glb hG (List.mem_singleton.1 h).symm; have hle := hb.le; have hbw : Lt w (some b) := Lt.blk hR.blk; have how : Lt w ob := Lt.own hR.own; refine bD (N := 59) Tryz.func151 rfl rfl rfl ?_; refine csr (wan (csr (aD (aC (aF rfl) (wfl rfl aV rfl aQ hR.blk rfl ?_))))); refine aC (aJ rfl rfl (by omega) (by omega)) ?_; refine aC (aF rfl) (aC (aA rfl aV) ?_); refine bC rfl rfl (by first | rfl | assumption) bO hR.blk rfl fun w1 a8 d4 => ?_
  try simp only [cG, Nat.reduceAdd] at a8
  refine wnn (csr (aD (aC (aF rfl) (wfl rfl cP rfl cT a8 rfl (aC (cA rfl Tryz.underlying9 rfl) ?_))))); refine bX (wan (aI (aI ?_))); refine fZ (fun w0 w' => Evo [] w0 w') (by kernel_rfl) (fun w6 a9 => ?_); have b4 := ((Evo.refl [b] w).step d4 (fun y hy => .inl hy)).then a9; have b5 := a9.blk0 a8; refine aet 0 rfl (fun _ hS => aY rfl) (Evo.refl [] w6) ?_; refine aet 1 rfl (fun _ hS => aF rfl) (Evo.refl [] w6) ?_; refine aet 2 rfl (fun _ hS => aA rfl cP) (Evo.refl [] w6) ?_; refine aet 3 rfl (fun _ hS => aU rfl cT (bA (hS.blk0 b5) rfl)) (Evo.refl [] w6) ?_; refine aet 4 rfl (fun _ hS => aY rfl) (Evo.refl [] w6) ?_; refine aet 5 rfl (fun _ hS => aF rfl) (Evo.refl [] w6) ?_; refine aet 6 rfl (fun _ hS => aA rfl aV) (Evo.refl [] w6) ?_; refine aet 7 rfl (fun _ hS => aU rfl aQ (bA (hS.blk0 b5) rfl)) (Evo.refl [] w6) ?_; refine bR [8] (by kernel_rfl) rfl ⟨?_, trivial⟩; refine bY rfl ?_
  refine aC (jO (l := st.pos + 2) rfl rfl Tryz.underlying9 rfl hle) ?_; refine aP (bN (.inl (Evo.refl [] w6)) ?_); refine bR [9] (by kernel_rfl) rfl ⟨?_, trivial⟩; refine bY rfl ?_; refine aK (vs := [_, _]) uX rfl (OH s 92 69 (st.pos + 2) hle (by omega) (hG.evo b4 hgb)) rfl ?_; rintro _ e6 ⟨rfl, O⟩; have b6 := (Evo.refl [] w6).then O; have a0 := O.blk0 b5; have b7 := ((hR.own.evo d4 hap.symm.own1).evo0 a9).evo0 O; refine aP (bN (.inl b6) ?_); refine aet 10 rfl (fun _ hS => eK rfl) b6 ?_; refine dJ (by kernel_rfl) (aB ?_); refine csr (aD (aC (eF rfl rfl) ?_)); refine wnn (aX rfl (fun a1 => ?_) (fun a1 => ?_))
  ·obtain ⟨k, hk, hfk, hk2, hk3⟩ := OM a1; rw [hfk]
   have hbk : Bd s k := nK hb (by omega) (by omega) (by have h9 : sb s k = 92 := (ON hk).1; omega)
   refine aG (aD (aC (aF rfl) (wfl rfl aV rfl aQ a0 rfl (aD ?_)))); refine aC (OS (r := ((k : Nat) : Int)) rfl rfl (by omega) (by omega) (by omega)) ?_; refine bX (wan (csr (wan (aI (bG ?_)))))
   refine dC (α := QuG) (⟨s.size, st.pos + 2, 0, [], none, 0, none, []⟩) (fun x => [(6, .slice x.qa x.n x.qc)]) [(0, _), (2, _), (3, _), (4, _)] (fun x wr => Evo [b] w wr ∧ (QuI w wr b s st a c ob k (st.pos + 2) x)) (fun x => x.f) ⟨rfl, trivial⟩ ⟨rfl, rfl, rfl, rfl, trivial⟩ ⟨(b4.then O), ⟨⟨a0, b7, hR.ne⟩, hb, rfl, Nat.le_add_right _ _, ⟨[], OwnS.nil _ _ _, OTs.nil _⟩, Fr.nil _, (by show 0 + (st.pos + 2) ≤ st.pos + 2; omega), (by show st.pos + 2 ≤ _; omega)⟩⟩ ?_
   rintro ⟨f, i, n, l, qa, qc, qo, bs⟩ wr17 ⟨b8, ⟨A, hbi, heq, hfi, ⟨cs, hown, hts⟩, hfr, hlen, hie⟩⟩; show CW _ _ _ _ [(6, .slice qa n qc), (0, _), (2, _), (3, _), (4, _)] _
   try dsimp only at A hbi heq hfi cs hown hts hfr hlen hie
   have hpi : (gX st i).pos = i := rfl; have hil := hbi.le; have b9 : Apart ob qo := kE how (oL hfr); have F : Apart (some b) qo := kE hbw (oL hfr); refine aI (csr (aD (aC (aF rfl) (wfl rfl aV rfl aQ A.blk rfl (aD (aC (cX rfl rfl) ?_)))))); refine wnn (aX rfl (fun a3 => ?_) (fun a3 => ?_))
   ·have hii : i < k := by omega
    have hsz2 := (hbk).le; obtain ⟨d8, d9, c0, hr0, hr1⟩ := hbi.next (by omega); have c1 := PE hbi hii (hbk); obtain ⟨f', rfl⟩ : ∃ f', f = f' + 1 := ⟨f - 1, by omega⟩; have hql := oU hown hts; refine aL (aB (bG (aG (aD (aD (aD ?_)))))); refine aK (vs := [_]) nE rfl (xH ⟨A.blk, A.own, A.ne⟩ (by omega) hbi) rfl ?_; rintro _ e7 ⟨rfl, a4, H⟩; have c3 := b8.step a4 (fun y hy => .inl hy); have c4 := hown.evo a4 ((by first | exact F.symm.own1 | exact F.symm.nmem1)); have c5 := hts.evo a4 (NQ hfr hbw); refine aK (vs := [_, _]) nD rfl (DX H (bJ s i).1 hr0 hr1) rfl ?_; rintro rv e0 ⟨hT, J⟩; have hcall9 := J; have c6 := c3; have hl1 := oU c4 c5; have hql2 : ∀ q, q ∈ qo.toList → q < _ := fun q hq => hl1 q (List.mem_append_left _ hq); obtain ⟨vs, bx, rfl, hOT, hFx⟩ := hT; obtain ⟨ra, rc, ka, kc, rfl⟩ := id hOT.nine; refine bL (vs := [_]) rfl cQ rfl rfl rfl rfl fun e8 e9 d5 e2 B => ?_; have a5 := (hOT.evo0 B); have hVV := ((Evo.refl [] e0).then B)
    refine dB rfl rfl rfl rfl mG ((c4.evo0 J).evo0 B) (Src.ofOwn d5 ⟨by first | rfl | assumption, by first | rfl | assumption, by first | rfl | assumption, by first | rfl | assumption, by first | rfl | assumption, by first | rfl | assumption, by first | rfl | assumption, by first | rfl | assumption, by first | rfl | assumption, trivial⟩) (by have := rP hown hts; omega) fun a2 c2 f0 ob2 c7 U hob54 => ?_
    have d6 := (hOT.evo0 B).evo U (fun q hq h => by have h8 := hFx.ge q hq; have h9 := hql2 q h; omega)
    have hob2 := hob54; have hFr9 := Fr.grow hfr hl1 hFx (OT.lt a5) c6.size (Nat.le_trans hcall9.size hVV.size) hob2; refine bX (aP (aO (bB ?_))); refine ⟨⟨f', i + (bJ s i).2, n + 1, l ++ [lD st.now (bJ s i).1], a2, c2, ob2, bs ++ bx⟩, ?_, ⟨rfl, trivial⟩, ⟨rfl, rfl, rfl, rfl, trivial⟩, (((c3.then J).then B).step U (oL hfr).mem), ?_⟩
    · (try dsimp only); omega
    try dsimp only
    have hTs := OTs.app (((c5.evo0 J).evo0 B).evo U (rD hfr)) (OTs.single d6)
    refine ⟨⟨(U.blk (B.blk0 (J.blk0 H.blk)) F.nmem), (((H.own.evo0 J).evo0 B).evo U b9.own), H.ne⟩, c0, ?_, (by show s.size ≤ f' + (i + (bJ s i).2); omega), ⟨_, c7, hTs⟩, hFr9, ?_, c1⟩
    · rw [heq]; exact TM hii
    · show (l ++ [lD st.now (bJ s i).1]).length + (st.pos + 2) ≤ i + (bJ s i).2; rw [List.length_append]; simp; omega
   refine cM (bK (bK (cL (aB ?_)))); refine csr (aD (aC (aF rfl) (wfl rfl aV rfl aQ A.blk rfl (aD ?_)))); refine aC (aJ rfl rfl (by omega) (by omega)) ?_; refine aC (aF rfl) (aC (aA rfl aV) ?_); refine bC rfl rfl (by first | rfl | assumption) bO A.blk rfl fun f5 c8 V => ?_
   try simp only [cG, Nat.reduceAdd] at c8
   refine wnn (csr (aD (wan (aH (br1 ?_))))); have hend := heq.trans (MS (by omega)); obtain rfl := rP hown hts; have h69 : sb s k = 92 ∧ sb s (k + 1) = 69 := ON hk
   obtain rfl : i = k := by omega
   have hb2 : Bd s (i + 1) := isB.asc (b := 92) ⟨by omega, h69.1⟩ (by decide) hbi; have hb3 : Bd s (i + 2) := isB.asc (b := 69) ⟨by omega, h69.2⟩ (by decide) hb2
   exact ⟨l, gX st (i + 2), (pq_some hk).trans (by rw [hend]; rfl), ⟨_, _, _, _, _, rfl, (hown.evo V F.symm.own1), (hts.evo V (NQ hfr hbw)), hfr⟩, (b8.step V (fun y hy => .inl hy)), ⟨c8, (A.own.evo V A.ap.symm.own1), A.ne⟩, rfl, rfl, (by show st.pos + 2 ≤ i + 2; omega), hb3, (by show l.length + st.pos ≤ i + 2; omega)⟩
  refine aL (aB (csr (wan (aI (bG ?_)))))
  refine dC (α := QuG) (⟨s.size, st.pos + 2, 0, [], none, 0, none, []⟩) (fun x => [(6, .slice x.qa x.n x.qc)]) [(0, _), (2, _), (3, _), (4, _)] (fun x wr => Evo [b] w wr ∧ (QuI w wr b s st a c ob s.size (st.pos + 2) x)) (fun x => x.f) ⟨rfl, trivial⟩ ⟨rfl, rfl, rfl, rfl, trivial⟩ ⟨(b4.then O), ⟨⟨a0, b7, hR.ne⟩, hb, rfl, Nat.le_add_right _ _, ⟨[], OwnS.nil _ _ _, OTs.nil _⟩, Fr.nil _, (by show 0 + (st.pos + 2) ≤ st.pos + 2; omega), (by show st.pos + 2 ≤ _; omega)⟩⟩ ?_
  rintro ⟨f, i, n, l, qa, qc, qo, bs⟩ wr73 ⟨c9, ⟨A, hbi, heq, hfi, ⟨cs, hown, hts⟩, hfr, hlen, hie⟩⟩; show CW _ _ _ _ [(6, .slice qa n qc), (0, _), (2, _), (3, _), (4, _)] _
  try dsimp only at A hbi heq hfi cs hown hts hfr hlen hie
  have hpi : (gX st i).pos = i := rfl; have hil := hbi.le; have b9 : Apart ob qo := kE how (oL hfr); have F : Apart (some b) qo := kE hbw (oL hfr); refine aI (csr (aD (aC (aF rfl) (wfl rfl aV rfl aQ A.blk rfl (aD (aC (cX rfl rfl) ?_)))))); refine wnn (aX rfl (fun a3 => ?_) (fun a3 => ?_))
  ·have hii : i < s.size := by omega
   have hsz2 := (hb.size).le; obtain ⟨d8, d9, c0, hr0, hr1⟩ := hbi.next (by omega); have c1 := PE hbi hii (hb.size); obtain ⟨f', rfl⟩ : ∃ f', f = f' + 1 := ⟨f - 1, by omega⟩; have hql := oU hown hts; refine aL (aB (bG (aG (aD (aD (aD ?_)))))); refine aK (vs := [_]) nE rfl (xH ⟨A.blk, A.own, A.ne⟩ (by omega) hbi) rfl ?_; rintro _ f6 ⟨rfl, a6, H⟩; have d0 := c9.step a6 (fun y hy => .inl hy); have d1 := hown.evo a6 ((by first | exact F.symm.own1 | exact F.symm.nmem1)); have d2 := hts.evo a6 (NQ hfr hbw); refine aK (vs := [_, _]) nD rfl (DX H (bJ s i).1 hr0 hr1) rfl ?_; rintro rv e1 ⟨hT, L⟩; have hcall9 := L; have c6 := d0; have hl1 := oU d1 d2; have hql2 : ∀ q, q ∈ qo.toList → q < _ := fun q hq => hl1 q (List.mem_append_left _ hq); obtain ⟨vs, bx, rfl, hOT, hFx⟩ := hT; obtain ⟨ra, rc, ka, kc, rfl⟩ := id hOT.nine; refine bL (vs := [_]) rfl cQ rfl rfl rfl rfl fun f7 f8 d7 e3 D => ?_; have a5 := (hOT.evo0 D); have hVV := ((Evo.refl [] e1).then D)
   refine dB rfl rfl rfl rfl mG ((d1.evo0 L).evo0 D) (Src.ofOwn d7 ⟨by first | rfl | assumption, by first | rfl | assumption, by first | rfl | assumption, by first | rfl | assumption, by first | rfl | assumption, by first | rfl | assumption, by first | rfl | assumption, by first | rfl | assumption, by first | rfl | assumption, trivial⟩) (by have := rP hown hts; omega) fun a2 c2 e4 ob2 c7 I hob110 => ?_
   have d3 := (hOT.evo0 D).evo I (fun q hq h => by have h8 := hFx.ge q hq; have h9 := hql2 q h; omega)
   have hob2 := hob110; have hFr9 := Fr.grow hfr hl1 hFx (OT.lt a5) c6.size (Nat.le_trans hcall9.size hVV.size) hob2; refine bX (aP (aO (bB ?_))); refine ⟨⟨f', i + (bJ s i).2, n + 1, l ++ [lD st.now (bJ s i).1], a2, c2, ob2, bs ++ bx⟩, ?_, ⟨rfl, trivial⟩, ⟨rfl, rfl, rfl, rfl, trivial⟩, (((d0.then L).then D).step I (oL hfr).mem), ?_⟩
   · (try dsimp only); omega
   try dsimp only
   have hTs := OTs.app (((d2.evo0 L).evo0 D).evo I (rD hfr)) (OTs.single d3)
   refine ⟨⟨(I.blk (D.blk0 (L.blk0 H.blk)) F.nmem), (((H.own.evo0 L).evo0 D).evo I b9.own), H.ne⟩, c0, ?_, (by show s.size ≤ f' + (i + (bJ s i).2); omega), ⟨_, c7, hTs⟩, hFr9, ?_, c1⟩
   · rw [heq]; exact TM hii
   · show (l ++ [lD st.now (bJ s i).1]).length + (st.pos + 2) ≤ i + (bJ s i).2; rw [List.length_append]; simp; omega
  refine cM (bK (bK (cL (aB ?_)))); refine csr (aD (aC (aF rfl) (wfl rfl aV rfl aQ A.blk rfl (aD ?_)))); refine aC (aJ rfl rfl (by omega) (by omega)) ?_; refine aC (aF rfl) (aC (aA rfl aV) ?_); refine bC rfl rfl (by first | rfl | assumption) bO A.blk rfl fun e5 a7 M => ?_
  try simp only [cG, Nat.reduceAdd] at a7
  refine wnn (csr (aD (wan (aH (br1 ?_))))); have hend := heq.trans (MS (by omega)); obtain rfl := rP hown hts
  exact ⟨l, gX st (i), (pq_none (WG a1)).trans (by rw [hend]; rfl), ⟨_, _, _, _, _, rfl, (hown.evo M F.symm.own1), (hts.evo M (NQ hfr hbw)), hfr⟩, (c9.step M (fun y hy => .inl hy)), ⟨a7, (A.own.evo M A.ap.symm.own1), A.ne⟩, rfl, rfl, (by show st.pos + 2 ≤ i; omega), hbi, (by show l.length + st.pos ≤ i; omega)⟩
theorem FJ : dU Tryz.prog 151 := ⟨_, Tryz.func151, by kernel_rfl, by kernel_rfl⟩
section
variable {s : ByteArray} {st : PS} {S : Int → Prop} {v j : Nat} {e : Int}
theorem es_end (h : s.size ≤ st.pos + 1) : fQ s st = .error 83 := by unfold fQ; rw [if_pos h]
theorem es_A (h : ¬ s.size ≤ st.pos + 1) (c : sb s (st.pos + 1) = 65) : fQ s st = .ok ([rxK 8], gX st (st.pos + 2)) := by unfold fQ; rw [if_neg h, if_pos c]; rfl
theorem es_z (h : ¬ s.size ≤ st.pos + 1) (c : sb s (st.pos + 1) = 122) : fQ s st = .ok ([rxK 9], gX st (st.pos + 2)) := by unfold fQ; rw [if_neg h, if_neg (by omega), if_pos c]; rfl
theorem es_b (h : ¬ s.size ≤ st.pos + 1) (c : sb s (st.pos + 1) = 98) : fQ s st = .ok ([rxK 12], gX st (st.pos + 2)) := by unfold fQ; rw [if_neg h, if_neg (by omega), if_neg (by omega), if_pos c]; rfl
theorem es_B (h : ¬ s.size ≤ st.pos + 1) (c : sb s (st.pos + 1) = 66) : fQ s st = .ok ([rxK 13], gX st (st.pos + 2)) := by unfold fQ; rw [if_neg h, if_neg (by omega), if_neg (by omega), if_neg (by omega), if_pos c]; rfl
theorem es_Q (h : ¬ s.size ≤ st.pos + 1) (c : sb s (st.pos + 1) = 81) : fQ s st = nQ s st := by unfold fQ; rw [if_neg h, if_neg (by omega), if_neg (by omega), if_neg (by omega), if_neg (by omega), if_pos c]
theorem OU (h : ¬ s.size ≤ st.pos + 1) (c1 : ¬ sb s (st.pos + 1) = 65) (c2 : ¬ sb s (st.pos + 1) = 122) (c3 : ¬ sb s (st.pos + 1) = 98) (c4 : ¬ sb s (st.pos + 1) = 66) (c5 : ¬ sb s (st.pos + 1) = 81) : fQ s st = (match vR (sb s (st.pos + 1)) with
    | some S => .ok ([kI S], { st with pos := st.pos + 2 })
    | none => match mX s st.pos with
      | .error e => .error e
      | .ok (v, j) => .ok ([lD st.now v], { st with pos := j })) := by unfold fQ; rw [if_neg h, if_neg c1, if_neg c2, if_neg c3, if_neg c4, if_neg c5]; rfl
end
theorem KOut.older {w w1 w' : World} {v : Value} {l : List Rx} (h : KOut w1 w' v l) (hw : w.heap.size ≤ w1.heap.size) : KOut w w' v l := by
  obtain ⟨a, c, o, cs, bs, h1, h2, h3, h4⟩ := h
  exact ⟨a, c, o, cs, bs, h1, h2, h3, h4.older hw⟩
theorem OA {c : Nat} {S : Int → Prop} (h : vR c = some S) : c < 128 := by
  rcases Nat.lt_or_ge c 128 with h1 | h1
  · exact h1
  · rw [vQ (by omega)] at h; cases h
theorem RE {w : World} {b : Nat} {s : ByteArray} {st : PS} {a : Option Addr} {c : Nat} {ob : Option Nat} (hR : RdAt w b s st a c ob) (hs : s.size ≤ 10000) (hlt : st.pos < s.size) (h92 : sb s st.pos = 92) (hb : Bd s st.pos) (hG : Glb w) :
    Calls Tryz.prog 129 #[.pointer (some ⟨b, 0, none⟩)] w (RetP (fun v w' => ∃ l st', fQ s st = .ok (l, st') ∧ KOut w w' v l ∧ Evo [b] w w' ∧ RdAt w' b s st' a c ob ∧ st'.opn = st.opn ∧ st'.names = st.names ∧ st.pos < st'.pos ∧ Bd s st'.pos ∧ l.length + st.pos ≤ st'.pos) (fun v w' => ∃ e, fQ s st = .error e ∧ v = flt e ∧ Evo [b] w w')) := by
  have hap := hR.ap; have hgb : oC ∉ [b] := fun h => hR.glb hG (List.mem_singleton.1 h).symm; have hb1 := (hb.asc hlt (by omega)).1; have hb9 := iS s (st.pos + 1); refine bD (N := 98) Tryz.func129 rfl rfl rfl ?_; refine csr (wan (aI (aI ?_))); refine eM (by kernel_rfl) (by kernel_rfl) ?_; refine bE (fun _ A => aY rfl) ?_; refine bE (fun _ A => aF rfl) ?_; refine bE (fun _ A => aA rfl aV) ?_; refine bE (fun _ A => aU rfl aQ (bA (A.blk0 hR.blk) rfl)) ?_; refine bE (fun _ A => aJ rfl rfl (by omega) (by omega)) ?_; refine bE (fun _ A => aY rfl) ?_; refine bE (fun _ A => aF rfl) ?_; refine bE (fun _ A => aA rfl cP) ?_; refine bE (fun _ A => aU rfl cT (bA (A.blk0 hR.blk) rfl)) ?_; refine bE (fun _ A => cA rfl Tryz.underlying9 rfl) ?_; refine bE (fun _ A => mB rfl rfl) ?_; refine eS (fun i1 A => aB ?_); have e4 := (Evo.refl [b] w).then A; have b4 := A.blk0 hR.blk; refine aX rfl (fun e6 => ?_) (fun e6 => ?_)
  ·refine aG (cB (vs := [_]) cN rfl (eD 83) rfl ?_ ?_)
   ·intro pv wp hpp; obtain ⟨rfl, hpw⟩ := hpp; exact And.intro rfl ⟨_, rfl, _, es_end (by omega), rfl, (e4).then hpw⟩
   intro _ _ hF; exact hF.elim
  have hle2 : ¬ s.size ≤ st.pos + 1 := by omega
  refine aL (aB (aI (aI ?_))); refine eM (by kernel_rfl) (by kernel_rfl) ?_; refine bE (fun _ B => aY rfl) ?_; refine bE (fun _ B => aF rfl) ?_; refine bE (fun _ B => aA rfl cP) ?_; refine bE (fun _ B => aU rfl cT (bA (B.blk0 b4) rfl)) ?_; refine bE (fun _ B => aY rfl) ?_; refine bE (fun _ B => aF rfl) ?_; refine bE (fun _ B => aA rfl aV) ?_; refine bE (fun _ B => aU rfl aQ (bA (B.blk0 b4) rfl)) ?_; refine bE (fun _ B => aJ rfl rfl (by omega) (by omega)) ?_; refine bE (fun _ B => eA (n := st.pos + 1) rfl rfl Tryz.underlying9 rfl (by omega)) ?_; refine bE (fun _ B => eK rfl) ?_; refine eS (fun i2 B => aB ?_); have F := e4.then B; have D := B.blk0 b4; have H := (hR.own.evo0 A).evo0 B; refine csr (aD (wnn (bG (csr (wel ?_))))); refine wan (aX rfl (fun e7 => ?_) (fun e7 => ?_))
  ·refine csr (aD (aC (aF rfl) (wfl rfl aV rfl aQ D rfl ?_))); refine aC (aJ rfl rfl (by omega) (by omega)) ?_; refine aC (aF rfl) (aC (aA rfl aV) ?_); refine bC rfl rfl (by first | rfl | assumption) bO D rfl fun i3 b5 b6 => ?_; have b7 := F.step b6 (fun y hy => .inl hy)
   try simp only [cG, Nat.reduceAdd] at b5
   refine wnn (csr (aC (cC (vs := [(0, _)]) dD rfl (cells := [_, _, _, _, _, _, _, _, _]) rfl) ?_)); refine bL (vs := [_]) rfl cQ rfl rfl rfl rfl fun i4 i5 e8 e9 a2 => ?_; have b8 := b7.then a2; have f0 := a2.blk0 b5; have f5 := (H.evo b6 hap.symm.own1).evo0 a2; refine wan (aH (aM (aE (cE (br1 ?_)))))
   exact ⟨_, _, es_A hle2 (by omega), iD e8 (qG 8 _) (Fr.nil _) ((Ge.new b7 e9) _ rfl) b8 (fun b hb => by cases hb) (Nat.le_refl _), b8, ⟨f0, f5, hR.ne⟩, rfl, rfl, (by show st.pos < st.pos + 2; omega), (hb1.asc (by omega) (by omega)).1, (by show 1 + st.pos ≤ st.pos + 2; omega)⟩
  refine csr (wel ?_); refine wan (aX rfl (fun f6 => ?_) (fun f6 => ?_))
  ·refine csr (aD (aC (aF rfl) (wfl rfl aV rfl aQ D rfl ?_))); refine aC (aJ rfl rfl (by omega) (by omega)) ?_; refine aC (aF rfl) (aC (aA rfl aV) ?_); refine bC rfl rfl (by first | rfl | assumption) bO D rfl fun i6 b9 c0 => ?_; have c2 := F.step c0 (fun y hy => .inl hy)
   try simp only [cG, Nat.reduceAdd] at b9
   refine wnn (csr (aC (cC (vs := [(0, _)]) dD rfl (cells := [_, _, _, _, _, _, _, _, _]) rfl) ?_)); refine bL (vs := [_]) rfl cQ rfl rfl rfl rfl fun i7 i8 f7 f8 a3 => ?_; have c3 := c2.then a3; have f9 := a3.blk0 b9; have g0 := (H.evo c0 hap.symm.own1).evo0 a3; refine wan (aH (aM (aE (cE (br1 ?_)))))
   exact ⟨_, _, es_z hle2 (by omega), iD f7 (qG 9 _) (Fr.nil _) ((Ge.new c2 f8) _ rfl) c3 (fun b hb => by cases hb) (Nat.le_refl _), c3, ⟨f9, g0, hR.ne⟩, rfl, rfl, (by show st.pos < st.pos + 2; omega), (hb1.asc (by omega) (by omega)).1, (by show 1 + st.pos ≤ st.pos + 2; omega)⟩
  refine csr (wel ?_); refine wan (aX rfl (fun g1 => ?_) (fun g1 => ?_))
  ·refine csr (aD (aC (aF rfl) (wfl rfl aV rfl aQ D rfl ?_))); refine aC (aJ rfl rfl (by omega) (by omega)) ?_; refine aC (aF rfl) (aC (aA rfl aV) ?_); refine bC rfl rfl (by first | rfl | assumption) bO D rfl fun i9 c4 c5 => ?_; have c6 := F.step c5 (fun y hy => .inl hy)
   try simp only [cG, Nat.reduceAdd] at c4
   refine wnn (csr (aC (cC (vs := [(0, _)]) dD rfl (cells := [_, _, _, _, _, _, _, _, _]) rfl) ?_)); refine bL (vs := [_]) rfl cQ rfl rfl rfl rfl fun j0 j1 g2 g3 a4 => ?_; have c7 := c6.then a4; have g4 := a4.blk0 c4; have g5 := (H.evo c5 hap.symm.own1).evo0 a4; refine wan (aH (aM (aE (cE (br1 ?_)))))
   exact ⟨_, _, es_b hle2 (by omega), iD g2 (qG 12 _) (Fr.nil _) ((Ge.new c6 g3) _ rfl) c7 (fun b hb => by cases hb) (Nat.le_refl _), c7, ⟨g4, g5, hR.ne⟩, rfl, rfl, (by show st.pos < st.pos + 2; omega), (hb1.asc (by omega) (by omega)).1, (by show 1 + st.pos ≤ st.pos + 2; omega)⟩
  refine csr (wel ?_); refine wan (aX rfl (fun g6 => ?_) (fun g6 => ?_))
  ·refine csr (aD (aC (aF rfl) (wfl rfl aV rfl aQ D rfl ?_))); refine aC (aJ rfl rfl (by omega) (by omega)) ?_; refine aC (aF rfl) (aC (aA rfl aV) ?_); refine bC rfl rfl (by first | rfl | assumption) bO D rfl fun j2 c8 c9 => ?_; have d0 := F.step c9 (fun y hy => .inl hy)
   try simp only [cG, Nat.reduceAdd] at c8
   refine wnn (csr (aC (cC (vs := [(0, _)]) dD rfl (cells := [_, _, _, _, _, _, _, _, _]) rfl) ?_)); refine bL (vs := [_]) rfl cQ rfl rfl rfl rfl fun j3 j4 g7 g8 a5 => ?_; have d1 := d0.then a5; have g9 := a5.blk0 c8; have h0 := (H.evo c9 hap.symm.own1).evo0 a5; refine wan (aH (aM (aE (cE (br1 ?_)))))
   exact ⟨_, _, es_B hle2 (by omega), iD g7 (qG 13 _) (Fr.nil _) ((Ge.new d0 g8) _ rfl) d1 (fun b hb => by cases hb) (Nat.le_refl _), d1, ⟨g9, h0, hR.ne⟩, rfl, rfl, (by show st.pos < st.pos + 2; omega), (hb1.asc (by omega) (by omega)).1, (by show 1 + st.pos ≤ st.pos + 2; omega)⟩
  refine csr (wel ?_); refine wan (aX rfl (fun h1 => ?_) (fun h1 => ?_))
  ·refine csr (aD ?_)
   refine aK (vs := [_]) FJ rfl (CZ ⟨D, H, hR.ne⟩ hs (by have := hb1.asc (by omega) (by omega); exact this.1) (hG.evo F hgb)) rfl ?_
   rintro rv j5 ⟨l, st', hq, hK, h2, h5, ho, hnm, hp, hbd, hll⟩; have L := F; refine wan (aH (aM (aE (cE (br1 ?_))))); exact ⟨_, _, (es_Q hle2 (by omega)).trans hq, hK.older L.size, (F.step h2 (fun y hy => .inl hy)), h5, ho, hnm, by omega, hbd, hll⟩
  have hrest := OU hle2 (by omega) (by omega) (by omega) (by omega) (by omega); refine csr (aD (aK (vs := [_]) uZ rfl (uI (sb s (st.pos + 1)) hb9) rfl ?_)); rintro rv j6 ⟨hL, O⟩; obtain ⟨a1, c1, ob1, l1, rfl, h6, hg1, hv1, hl1, h7⟩ := hL.uni; have a6 := F.then O; have a7 := O.blk0 D; refine aD (aC (cD rfl rfl) ?_); refine aC (cD rfl rfl) ?_; refine bX (wan (csr (aD (wnn (fN rfl (fun U => ?_) (fun U => ?_))))))
  ·obtain ⟨S1, hS1'⟩ := CU U; refine csr (aD (aC (aF rfl) (wfl rfl aV rfl aQ a7 rfl ?_))); refine aC (aJ rfl rfl (by omega) (by omega)) ?_; refine aC (aF rfl) (aC (aA rfl aV) ?_); refine bC rfl rfl (by first | rfl | assumption) bO a7 rfl fun j7 d2 a8 => ?_; have d3 := a6.step a8 (fun y hy => .inl hy)
   try simp only [cG, Nat.reduceAdd] at d2
   refine wnn (csr (aD ?_)); refine aK (vs := [_]) gO rfl (mY (h6.evo a8 (Apart.fresh (Lt.blk D) hg1).symm.own1) hv1 (by omega) (h7 S1 hS1')) rfl ?_; rintro rv e5 ⟨hT, V⟩; have hcall9 := V; have L := d3; obtain ⟨vs, bx, rfl, hOT, hFx⟩ := hT; obtain ⟨ra, rc, ka, kc, rfl⟩ := id hOT.nine; refine bL (vs := [_]) rfl cQ rfl rfl rfl rfl fun j8 j9 h3 h4 a0 => ?_; have d5 := (d3.then V).then a0; have d6 := a0.blk0 (V.blk0 d2); have d7 := (((H.evo0 O).evo a8 hap.symm.own1).evo0 V).evo0 a0; refine wan (aH (aM (aE (cE (br1 ?_)))))
   exact ⟨[kI S1], gX st (st.pos + 2), hrest.trans (by rw [hS1']; rfl), iD h3 hOT (hFx.older L.size) ((Ge.new (Evo.refl ([]) e5) h4) _ rfl) ((Evo.refl ([]) e5).then a0) (fun b hb h => by cases h) (Nat.le_trans L.size hcall9.size), d5, ⟨d6, d7, hR.ne⟩, rfl, rfl, (by show st.pos < st.pos + 2; omega), (hb1.asc (by omega) (OA hS1')).1, (by show 1 + st.pos ≤ st.pos + 2; omega)⟩
  refine aL (aO (aB (csr (aD (aD ?_))))); refine cB (vs := [_]) uY rfl (zI ⟨a7, (H.evo0 O), hR.ne⟩ (by omega) hlt) rfl ?_ ?_
  ·intro pv wp hpp; obtain ⟨hpe, rfl, hpw⟩ := hpp; exact And.intro rfl ⟨_, rfl, _, hrest.trans (by rw [yO U, hpe]), rfl, (a6).step hpw (fun y hy => .inl hy)⟩
  rintro _ h8 ⟨n, j, hx, rfl, d8, M⟩; have a9 := a6.step d8 (fun y hy => .inl hy); obtain ⟨hbj, hij, k0⟩ := KT hx hb h92; have hjl := hbj.le; refine aK (vs := [_, _]) nD rfl (DX (st := gX st j) ⟨M.blk, M.own, M.ne⟩ ((n : Nat) : Int) (by omega) (by omega)) rfl ?_; rintro rv d4 ⟨hT, I⟩; have hcall9 := I; have L := a9; obtain ⟨vs, bx, rfl, hOT, hFx⟩ := hT; obtain ⟨ra, rc, ka, kc, rfl⟩ := id hOT.nine; refine bL (vs := [_]) rfl cQ rfl rfl rfl rfl fun k1 h9 d9 e0 J => ?_; have e1 := (a9.then I).then J; have e2 := J.blk0 (I.blk0 M.blk); have e3 := (M.own.evo0 I).evo0 J; refine wan (aH (cE (br1 ?_)))
  exact ⟨[lD st.now ((n : Nat) : Int)], gX st j, hrest.trans (by rw [yO U, hx]; rfl), iD d9 hOT (hFx.older L.size) ((Ge.new (Evo.refl ([]) d4) e0) _ rfl) ((Evo.refl ([]) d4).then J) (fun b hb h => by cases h) (Nat.le_trans L.size hcall9.size), e1, ⟨e2, e3, M.ne⟩, rfl, rfl, hij, hbj, (by show 1 + st.pos ≤ j; omega)⟩
end Go.Proofs.YtidpigbinpaaeaaGreat
namespace Go.Proofs.YtidpigbinpaaeaaGreat
open Go.RowKit Go.W
theorem yG {s : ByteArray} : ∀ {f j : Nat}, j ≤ iB s f j
  | 0, j => Nat.le_refl _
  | f + 1, j => by
    rw [iB]
    split
    · exact Nat.le_trans (Nat.le_succ j) yG
    · exact Nat.le_refl _
theorem UF {s : ByteArray} {i : Nat} : ∀ {f j : Nat} {b m : Bool} {n : Int} {fl : Fl}, (hD s i f j b n m fl).err = 0 → ∃ k, j ≤ k ∧ k < s.size ∧ (sb s k = 58 ∨ sb s k = 41) ∧ (hD s i f j b n m fl).size = k + 1 - i ∧ (hD s i f j b n m fl).name = emp
  | 0, j, b, m, n, fl, h => absurd h (show ¬ (84 : Int) = 0 by omega)
  | f + 1, j, b, m, n, fl, h => by
    have step : ∀ {b' m' : Bool} {n' : Int} {fl' : Fl}, hD s i (f + 1) j b n m fl = hD s i f (j + 1) b' n' m' fl' → ∃ k, j ≤ k ∧ k < s.size ∧ (sb s k = 58 ∨ sb s k = 41) ∧ (hD s i (f + 1) j b n m fl).size = k + 1 - i ∧ (hD s i (f + 1) j b n m fl).name = emp := by
      intro b' m' n' fl' e
      rw [e] at h ⊢
      obtain ⟨k, h1, h2⟩ := UF h
      exact ⟨k, by omega, h2⟩
    have no : ∀ {fl' : Fl}, hD s i (f + 1) j b n m fl = ⟨0, emp, fl', false, false, 84⟩ → False := fun e => by rw [e] at h; exact absurd h (show ¬ (84 : Int) = 0 by omega)
    by_cases h0 : s.size ≤ j
    · exact (no (KJ h0)).elim
    · by_cases h1 : sb s j = 105
      · exact step (ps_i (by omega) h1)
      · by_cases h2 : sb s j = 109
        · exact step (ps_m (by omega) h2)
        · by_cases h3 : sb s j = 115
          · exact step (ps_s (by omega) h3)
          · by_cases h4 : sb s j = 85
            · exact step (ps_u (by omega) h4)
            · by_cases h5 : sb s j = 45
              · cases m with
                | true => exact (no (TP (by omega) h5)).elim
                | false => exact step (TQ (by omega) h5)
              · by_cases h6 : sb s j = 58 ∨ sb s j = 41
                · have e := QA (i := i) (f := f) (b := b) (n := n) (m := m) (fl := fl) (show j < s.size by omega) h6
                  rw [e]
                  exact ⟨j, Nat.le_refl _, by omega, h6, rfl, rfl⟩
                · exact (no (TO (by omega) h1 h2 h3 h4 h5 h6)).elim
theorem NA {s : ByteArray} {i h : Nat} {fl : Fl} (he : (nR s i h fl).err = 0) : ∃ k, i + h ≤ k ∧ isB s k 62 ∧ (nR s i h fl).size = k + 1 - i ∧ (nR s i h fl).name.size ≤ s.size := by
  have hge : i + h ≤ iB s s.size (i + h) := yG
  generalize e : iB s s.size (i + h) = j at hge
  by_cases hc : j = i + h ∨ ¬ isB s j 62
  · rw [kY e hc] at he
    exact absurd he (show ¬ (85 : Int) = 0 by omega)
  · rw [pK e hc]
    have hj : isB s j 62 := Classical.not_not.1 (fun h => hc (.inr h))
    refine ⟨j, hge, hj, rfl, ?_⟩
    show (s.extract (i + h) j).size ≤ _
    rw [fH (by have := hj.1; omega)]
    have := hj.1; omega
theorem DG {s : ByteArray} {i : Nat} {fl : Fl} (hb : Bd s i) (h40 : isB s i 40) (he : (fI s i fl).err = 0) : 1 ≤ (fI s i fl).size ∧ Bd s (i + (fI s i fl).size) ∧ (fI s i fl).name.size ≤ s.size := by
  have h1 := h40.asc (by decide) hb
  by_cases h : isB s i 40 ∧ isB s (i + 1) 63
  · by_cases ha : isB s (i + 2) 80 ∧ isB s (i + 3) 60
    · have e : fI s i fl = nR s i 4 fl := by unfold fI; rw [if_neg (fun h9 => h9 h), if_pos ha]
      rw [e] at he ⊢
      obtain ⟨k, h2, h3, h4, h5⟩ := NA he
      have h6 : Bd s (k + 1) := h3.asc (by decide) (nK hb (by omega) h3.1 (by rw [h3.2]; decide))
      exact ⟨by omega, by rw [h4, show i + (k + 1 - i) = k + 1 by omega]; exact h6, h5⟩
    · by_cases hc : isB s (i + 2) 60
      · have e : fI s i fl = nR s i 3 fl := by unfold fI; rw [if_neg (fun h9 => h9 h), if_neg ha, if_pos hc]
        rw [e] at he ⊢
        obtain ⟨k, h2, h3, h4, h5⟩ := NA he
        have h6 : Bd s (k + 1) := h3.asc (by decide) (nK hb (by omega) h3.1 (by rw [h3.2]; decide))
        exact ⟨by omega, by rw [h4, show i + (k + 1 - i) = k + 1 by omega]; exact h6, h5⟩
      · by_cases hd : isB s (i + 2) 58
        · have e : fI s i fl = ⟨3, emp, fl, false, false, 0⟩ := by unfold fI; rw [if_neg (fun h9 => h9 h), if_neg ha, if_neg hc, if_pos hd]
          rw [e]
          exact ⟨by show 1 ≤ 3; omega, hd.asc (by decide) (h.2.asc (by decide) h1), Nat.zero_le _⟩
        · have e : fI s i fl = hD s i s.size (i + 2) true 0 false fl := by unfold fI; rw [if_neg (fun h9 => h9 h), if_neg ha, if_neg hc, if_neg hd]
          rw [e] at he ⊢
          obtain ⟨k, h2, h3, h4, h5, h6⟩ := UF he
          have h7 : Bd s (k + 1) := ((nK hb (by omega) h3 (by omega)).asc h3 (by omega)).1
          exact ⟨by omega, by rw [h5, show i + (k + 1 - i) = k + 1 by omega]; exact h7, by rw [h6]; exact Nat.zero_le _⟩
  · have e : fI s i fl = ⟨1, emp, fl, true, false, 0⟩ := yK h
    rw [e]
    exact ⟨Nat.le_refl _, h1, Nat.zero_le _⟩
theorem pOpen_e {s : ByteArray} {i : Nat} {fl : Fl} : (fI s i fl).size ≤ s.size + 3 := by
  have hn : ∀ h, (nR s i h fl).size ≤ s.size + 3 := fun h => by
    by_cases hc : iB s s.size (i + h) = i + h ∨ ¬ isB s (iB s s.size (i + h)) 62
    · rw [kY rfl hc]; exact Nat.zero_le _
    · rw [pK rfl hc]
      have hj : isB s (iB s s.size (i + h)) 62 := Classical.not_not.1 (fun h => hc (.inr h))
      have := hj.1
      show iB s s.size (i + h) + 1 - i ≤ _
      omega
  have hs : ∀ {f j : Nat} {b m : Bool} {n : Int} {fl : Fl}, (hD s i f j b n m fl).size ≤ s.size + 3 := by
    intro f
    induction f with
    | zero => intro j b m n fl; exact Nat.zero_le _
    | succ f ih =>
      intro j b m n fl
      by_cases h0 : s.size ≤ j
      · rw [KJ h0]; exact Nat.zero_le _
      · by_cases h1 : sb s j = 105
        · rw [ps_i (by omega) h1]; exact ih
        · by_cases h2 : sb s j = 109
          · rw [ps_m (by omega) h2]; exact ih
          · by_cases h3 : sb s j = 115
            · rw [ps_s (by omega) h3]; exact ih
            · by_cases h4 : sb s j = 85
              · rw [ps_u (by omega) h4]; exact ih
              · by_cases h5 : sb s j = 45
                · cases m with
                  | true => rw [TP (by omega) h5]; exact Nat.zero_le _
                  | false => rw [TQ (by omega) h5]; exact ih
                · by_cases h6 : sb s j = 58 ∨ sb s j = 41
                  · rw [QA (by omega) h6]; show j + 1 - i ≤ _; omega
                  · rw [TO (by omega) h1 h2 h3 h4 h5 h6]; exact Nat.zero_le _
  unfold fI
  split
  · show 1 ≤ _; omega
  · split
    · exact hn 4
    · split
      · exact hn 3
      · split
        · show 3 ≤ _; omega
        · exact hs
def NB (w : World) (o o' : Option Nat) : Prop := o' = o ∨ ∃ g, o' = some g ∧ w.heap.size ≤ g
structure Mv (s : ByteArray) (st st' : PS) : Prop where
  opn : st'.opn = st.opn
  le : st.pos ≤ st'.pos
  bd : Bd s st'.pos
  nm : st'.names.length ≤ 100
def MI (b : Nat) (s : ByteArray) (ex : PS → PX Rx) (st : PS) (ob : Option Nat) (w : World) (v : Value) (w' : World) : Prop :=
  ∃ x st', ex st = .ok (x, st') ∧ Evo (b :: ob.toList) w w' ∧ Mv s st st' ∧ ∃ a' c' ob' vs bs, v = .agg vs.toArray ∧ OT x w' vs bs ∧ Fr w bs ∧ RdAt w' b s st' a' c' ob' ∧ NB w ob ob'
def ExPan (b : Nat) {α : Type} (ex : PS → PX α) (st : PS) (ob : Option Nat) (w : World) (v : Value) (w' : World) : Prop := ∃ e, ex st = .error e ∧ v = flt e ∧ Evo (b :: ob.toList) w w'
def PcPost (b : Nat) (s : ByteArray) (pp : PS → PL) (st : PS) (ob : Option Nat) (w : World) (v : Value) (w' : World) : Prop :=
  ∃ l st', pp st = .ok (l, st') ∧ Evo (b :: ob.toList) w w' ∧ Mv s st st' ∧ st.pos < st'.pos ∧ l.length + st.pos ≤ st'.pos ∧
    ∃ a' c' ob' ka kc ko cs bs, v = .slice ka l.length kc ∧ OwnS w' 71 9 ka l.length kc cs ko ∧ OTs l w' cs bs ∧ Fr w (ko.toList ++ bs) ∧ RdAt w' b s st' a' c' ob' ∧ NB w ob ob'
def tP (b : Nat) (s : ByteArray) (ex : PS → PX Rx) (m : Nat) : Prop := ∀ {w : World} {st : PS} {a : Option Addr} {c : Nat} {ob : Option Nat}, RdAt w b s st a c ob → st.opn = m → Bd s st.pos → st.names.length ≤ 100 → Glb w → Apart (some oC) ob →
  Calls Tryz.prog 52 #[.pointer (some ⟨b, 0, none⟩)] w (RetP (MI b s ex st ob w) (ExPan b ex st ob w))
theorem oV {w : World} {b : Nat} {o o1 : Option Nat} (h : NB w o o1) : ∀ y, y ∈ b :: o1.toList → y ∈ b :: o.toList ∨ w.heap.size ≤ y := fun y hy => by
  rcases List.mem_cons.1 hy with rfl | hy
  · exact .inl (List.mem_cons_self ..)
  · rcases h with rfl | ⟨g, rfl, hg⟩
    · exact .inl (List.mem_cons_of_mem _ hy)
    · rw [List.mem_singleton.1 hy]; exact .inr hg
theorem NB.older {w w1 : World} {o o1 o2 : Option Nat} (h : NB w o o1) (h2 : NB w1 o1 o2) (hw : w.heap.size ≤ w1.heap.size) : NB w o o2 := by
  rcases h2 with rfl | ⟨g, rfl, hg⟩
  · exact h
  · exact .inr ⟨g, rfl, Nat.le_trans hw hg⟩
theorem yD {b : Nat} {s : ByteArray} {pp : PS → PL} {st st' : PS} {a : Option Addr} {c : Nat} {ob : Option Nat} {w w' : World} {v : Value} {l : List Rx} (hR : RdAt w b s st a c ob) (h1 : pp st = .ok (l, st')) (hK : KOut w w' v l) (he : Evo [b] w w') (hR' : RdAt w' b s st' a c ob)
    (ho : st'.opn = st.opn) (hn : st'.names = st.names) (hn2 : st.names.length ≤ 100) (hp : st.pos < st'.pos) (hb : Bd s st'.pos) (hl : l.length + st.pos ≤ st'.pos) : PcPost b s pp st ob w v w' := by
  obtain ⟨ka, kc, ko, cs, bs, rfl, h2, h3, h4⟩ := hK
  exact ⟨l, st', h1, he.mono (fun q hq => by rw [List.mem_singleton.1 hq]; simp), ⟨ho, by omega, hb, by rw [hn]; exact hn2⟩, hp, hl, a, c, ob, ka, kc, ko, cs, bs, rfl, h2, h3, h4, hR', .inl rfl⟩
theorem UD {b : Nat} {α : Type} {pp : PS → PX α} {st : PS} {ob : Option Nat} {w w' : World} {e : Int} (h : pp st = .error e) (he : Evo [b] w w') : ExPan b pp st ob w (flt e) w' := ⟨e, h, rfl, he.mono (fun q hq => by rw [List.mem_singleton.1 hq]; simp)⟩
end Go.Proofs.YtidpigbinpaaeaaGreat
namespace Go.Proofs.YtidpigbinpaaeaaGreat
open Go.RowKit Go.W
attribute [local irreducible] Decidable.decide
theorem fX : cZ Tryz.prog 116 3 = some 6 := by kernel_rfl
theorem lO : dU Tryz.prog 146 := ⟨_, Tryz.func146, by kernel_rfl, by kernel_rfl⟩
theorem FK : dU Tryz.prog 147 := ⟨_, Tryz.func147, by kernel_rfl, by kernel_rfl⟩
theorem sB : dU Tryz.prog 52 := ⟨_, Tryz.func52, by kernel_rfl, by kernel_rfl⟩
theorem lM : mH Tryz.prog 114 = some #[.bool false, .bool false, .bool false, .bool false] := by kernel_rfl
structure BrG where
  b3 : Nat
  b4 : Nat
structure BrI (w wr : World) (b : Nat) (s : ByteArray) (st : PS) (a : Option Addr) (c : Nat) (ob : Option Nat) (x : BrG) : Prop where
  hr : RdAt wr b s st a c ob
  h3 : wr.heap[x.b3]? = some (.cells (opV (fI s st.pos st.now)) 211 (0, 0))
  h4 : wr.heap[x.b4]? = some (.cells #[.bool st.now.fold, .bool st.now.lines, .bool st.now.dots, .bool st.now.lazy] 114 (0, 0))
  g3 : Ge w (some x.b3)
  g4 : Ge w (some x.b4)
  a34 : Apart (some x.b3) (some x.b4)
theorem vM {w : World} {b : Nat} {o : Opn} {T : TypeId} {z : Nat × Nat} (h : w.heap[b]? = some (.cells (opV o) T z)) : ∀ j v, ([.bool o.thn.fold, .bool o.thn.lines, .bool o.thn.dots, .bool o.thn.lazy] : List Value)[j]? = some v → w.cell? ⟨b, 2 + j, none⟩ = some v
  | 0, v, e => by cases e; exact fC h rfl
  | 1, v, e => by cases e; exact fC h rfl
  | 2, v, e => by cases e; exact fC h rfl
  | 3, v, e => by cases e; exact fC h rfl
  | j + 4, v, e => by cases e
section
variable {s : ByteArray} {ex : PS → PX Rx} {st : PS} {o : Opn} {e : Int} {x : Rx} {st2 : PS}
theorem br_set (ho : fI s st.pos st.now = o) (h : o.err = 0) (h2 : o.sett = true) : qE s ex st = .ok ([], { st with pos := st.pos + o.size, now := o.thn }) := by unfold qE; rw [ho]; exact if_pos ⟨h, h2⟩
theorem br_deep (ho : fI s st.pos st.now = o) (h : ¬ (o.err = 0 ∧ o.sett = true)) (h2 : st.opn = 250) : qE s ex st = .error 3 := by unfold qE; rw [ho]; exact (if_neg h).trans (if_pos h2)
theorem br_err (ho : fI s st.pos st.now = o) (h : ¬ (o.err = 0 ∧ o.sett = true)) (h2 : ¬ st.opn = 250) (h3 : o.err ≠ 0) : qE s ex st = .error o.err := by unfold qE; rw [ho]; exact (if_neg h).trans ((if_neg h2).trans (if_pos h3))
theorem br_full (ho : fI s st.pos st.now = o) (h : ¬ (o.err = 0 ∧ o.sett = true)) (h2 : ¬ st.opn = 250) (h3 : ¬ o.err ≠ 0) (h4 : o.capt = true) (h5 : RU o.name st.names) : qE s ex st = .error 85 := by unfold qE; rw [ho]; exact (if_neg h).trans ((if_neg h2).trans ((if_neg h3).trans (if_pos ⟨h4, h5⟩)))
theorem zO (ho : fI s st.pos st.now = o) (h : ¬ (o.err = 0 ∧ o.sett = true)) (h2 : ¬ st.opn = 250) (h3 : ¬ o.err ≠ 0) (h4 : ¬ (o.capt = true ∧ RU o.name st.names)) : qE s ex st = match ex ⟨st.pos + o.size, o.thn, st.opn + 1, if o.capt = true then st.names ++ [o.name] else st.names⟩ with
    | .error e => .error e
    | .ok (x, st2) => if isB s st2.pos 41 then
        .ok ([if o.capt = true then oE ((st.names.length : Int) + 1) o.name x else x], { st2 with pos := st2.pos + 1, opn := st2.opn - 1, now := st.now })
      else .error 80 := by unfold qE; rw [ho]; exact (if_neg h).trans ((if_neg h2).trans ((if_neg h3).trans (if_neg h4)))
end
theorem ot_grp {X : List Nat} {w w1 w2 : World} {x : Rx} {vs : List Value} {bs : List Nat} {g : Nat} {n : Int} {nm : ByteArray} (hO : OwnS w2 71 9 (some ⟨g, 0, none⟩) 1 1 vs (some g)) (hT : OT x w1 vs bs) (hF : Fr w bs) (hg : w1.heap.size ≤ g) (he : Evo X w1 w2) (hx : ∀ b, b ∈ bs → b ∉ X) (hw : w.heap.size ≤ w1.heap.size) (hn : nm.size ≤ 1000000) :
    OT (oE n nm x) w2 [iv 7, .int .i32 0, .slice none 0 0, iv 0, iv 0, .bool false, iv n, .string nm, .slice (some ⟨g, 0, none⟩) 1 1] (g :: bs) ∧ Fr w (g :: bs) := by
  refine ⟨?_, ⟨List.nodup_cons.2 ⟨fun h => ?_, hF.nd⟩, fun b hb => ?_⟩⟩
  · unfold oE
    rw [OT]
    exact ⟨none, 0, none, _, 1, some g, vs, bs, rfl, OwnS.nil _ _ _, hO, OTs.single (hT.evo he hx), rfl, by simp, hn, by simp⟩
  · have := hT.lt g h; omega
  · rcases List.mem_cons.1 hb with rfl | hb
    · omega
    · exact hF.ge b hb
theorem AB {q b : Nat} {o : Option Nat} (h1 : Apart (some q) (some b)) (h2 : Apart (some q) o) : q ∉ b :: o.toList := fun h => by
  rcases List.mem_cons.1 h with rfl | h
  · exact h1 q rfl rfl
  · exact h2 q rfl (Option.mem_toList.1 h)
theorem LI {w : World} (h : Glb w) : Lt w (some oC) := fun g e => by
  cases e
  obtain ⟨m, hm⟩ := h
  rcases Nat.lt_or_ge oC w.heap.size with h1 | h1
  · exact h1
  · have h2 : w.heap[oC]? = none := Array.getElem?_eq_none h1
    simp [World.cell?, h2] at hm
theorem WA {b : Nat} {o : Option Nat} (h1 : oC ∉ [b]) (h2 : Apart (some oC) o) : oC ∉ b :: o.toList := fun h => by
  rcases List.mem_cons.1 h with e | h
  · exact h1 (by rw [e]; simp)
  · exact h2 _ rfl (Option.mem_toList.1 h)
theorem QU {w w1 : World} {b : Nat} {bs : List Nat} (h : Fr w1 bs) (hb : Lt w (some b)) (hw : w.heap.size ≤ w1.heap.size) : ∀ q, q ∈ bs → q ∉ [b] := fun q hq hm => by
  have h1 := h.ge q hq
  have h2 := hb b rfl
  rw [List.mem_singleton.1 hm] at h1; omega
theorem MA {ex : PS → PX Rx} {w : World} {b : Nat} {s : ByteArray} {st : PS} {a : Option Addr} {c : Nat} {ob : Option Nat} (hex : st.opn < 250 → tP b s ex (st.opn + 1)) (hR : RdAt w b s st a c ob) (hs : s.size ≤ 4096) (h40 : isB s st.pos 40) (hop : st.opn ≤ 250) (hb : Bd s st.pos) (hnl : st.names.length ≤ 100) (hG : Glb w) (hGo : Apart (some oC) ob) :
    Calls Tryz.prog 127 #[.pointer (some ⟨b, 0, none⟩)] w (RetP (PcPost b s (qE s ex) st ob w) (ExPan b (qE s ex) st ob w)) := by
  have hap := hR.ap; have hgb : oC ∉ [b] := fun h => hR.glb hG (List.mem_singleton.1 h).symm; have hgw := WA hgb hGo; have hbw : Lt w (some b) := Lt.blk hR.blk; have how : Lt w ob := Lt.own hR.own; refine bD (N := 100) Tryz.func127 rfl rfl rfl ?_; refine csr (wan (aI (nX (α := BrG) (fun x => [(3, .pointer (some ⟨x.b3, 0, none⟩)), (4, .pointer (some ⟨x.b4, 0, none⟩))]) [(0, _), (2, _)] (fun x wr => Evo (b :: ob.toList) w wr ∧ (BrI w wr b s st a c ob x)) ⟨rfl, rfl, trivial⟩ ?_ ?_)))
  ·refine fZ (fun w0 w' => Evo [] w0 w') (by kernel_rfl) (fun w1 s8 => ?_); have m1 := (Evo.refl (b :: ob.toList) w).then s8; have j7 := s8.blk0 hR.blk; have k5 := hR.own.evo0 s8; refine aet 0 rfl (fun _ hS => aY rfl) (Evo.refl [] w1) ?_; refine aet 2 rfl (fun _ hS => aY rfl) (Evo.refl [] w1) ?_; refine aet 3 rfl (fun _ hS => aF rfl) (Evo.refl [] w1) ?_; refine aet 4 rfl (fun _ hS => aA rfl dS) (Evo.refl [] w1) ?_; refine aet 5 rfl (fun _ hS => dF (o := 2) rfl jV dH (vs := [.bool st.now.fold, .bool st.now.lines, .bool st.now.dots, .bool st.now.lazy]) rfl (zC (hS.blk0 j7))) (Evo.refl [] w1) ?_; refine bR [1, 6, 7] (by kernel_rfl) rfl ⟨?_, ?_, ?_, trivial⟩
   ·refine bY rfl ?_; refine aK (vs := [_]) lO rfl (nS ⟨j7, k5, hR.ne⟩ (by omega) h40.1) rfl ?_; rintro _ w6 ⟨rfl, m8⟩; have i1 := m1.then m8; have m2 := (Evo.refl [] w1).then m8; have h0 := m8.blk0 j7; have h1 := k5.evo0 m8; refine aP (bN (.inl m2) ?_); refine bR [6, 7] (by kernel_rfl) rfl ⟨?_, ?_, trivial⟩
    ·refine bY rfl ?_; refine cK rfl iE fun b3 D4 s9 h2 d9 => ?_; have e3 := h2; have k6 := m2.then d9; refine aP (bN (.inl k6) ?_); refine bR [7] (by kernel_rfl) rfl ⟨?_, trivial⟩; refine bY rfl ?_; refine cK rfl lM fun b4 D5 y5 h3 h4 => ?_; have e4 := h3; have m4 := Apart.new (Lt.blk s9) h3; have t1 := Ge.new (i1.then d9) h3; refine aP (bN (.inl (k6.then h4)) ?_); refine bR [8] (by kernel_rfl) rfl ⟨?_, trivial⟩; refine bY rfl ?_; refine aW rfl rfl aZ (h4.blk0 s9) rfl rfl ⟨by first | rfl | assumption, by first | rfl | assumption, by first | rfl | assumption, by first | rfl | assumption, by first | rfl | assumption, by first | rfl | assumption, by first | rfl | assumption, by first | rfl | assumption, by first | rfl | assumption, trivial⟩ fun D6 t2 j8 => ?_; have t3 := (k6.then h4).step j8 (Ge.new m2 h2).mem1
     try simp only [cG, Nat.reduceAdd] at t2
     refine aP (bN (.inl t3) ?_); refine bR [9] (by kernel_rfl) rfl ⟨?_, trivial⟩; refine bY rfl ?_; refine aW rfl rfl dH (j8.blk y5 m4.symm.nmem1) rfl rfl ⟨by first | rfl | assumption, by first | rfl | assumption, by first | rfl | assumption, by first | rfl | assumption, trivial⟩ fun D7 t4 j9 => ?_
     try simp only [cG, Nat.reduceAdd] at t4
     refine aP (bN (.inl (t3.step j9 (Ge.new k6 h3).mem1)) ?_); refine dJ (by kernel_rfl) (bB ?_); refine ⟨⟨b3, b4⟩, ⟨rfl, rfl, trivial⟩, ⟨rfl, rfl, trivial⟩, ((((i1.then d9).then h4).step j8 (Ge.new i1 h2).mem1).step j9 t1.mem1), ?_⟩; exact ⟨⟨(j9.blk (j8.blk (h4.blk0 (d9.blk0 h0)) (Apart.new (Lt.blk h0) h2).nmem1) (Apart.new (Lt.blk (d9.blk0 h0)) h3).nmem1), ((((h1.evo0 d9).evo0 h4).evo j8 (Apart.new (Lt.own h1) h2).own1).evo j9 (Apart.new (Lt.own (h1.evo0 d9)) h3).own1), hR.ne⟩, (j9.blk t2 m4.nmem1), t4, (Ge.new i1 h2), t1, m4⟩
    refine bY rfl ?_; refine cK rfl lM fun b4 D8 t5 h5 e0 => ?_; have e4 := h5; have k7 := m2.then e0; refine aP (bN (.inl k7) ?_); refine bR [6] (by kernel_rfl) rfl ⟨?_, trivial⟩; refine bY rfl ?_; refine cK rfl iE fun b3 D9 y6 h6 h7 => ?_; have e3 := h6; have m5 := Apart.new (Lt.blk t5) h6; have t6 := Ge.new (i1.then e0) h6; refine aP (bN (.inl (k7.then h7)) ?_); refine bR [8] (by kernel_rfl) rfl ⟨?_, trivial⟩; refine bY rfl ?_; refine aW rfl rfl aZ y6 rfl rfl ⟨by first | rfl | assumption, by first | rfl | assumption, by first | rfl | assumption, by first | rfl | assumption, by first | rfl | assumption, by first | rfl | assumption, by first | rfl | assumption, by first | rfl | assumption, by first | rfl | assumption, trivial⟩ fun E0 t7 k0 => ?_; have t8 := (k7.then h7).step k0 (Ge.new k7 h6).mem1
    try simp only [cG, Nat.reduceAdd] at t7
    refine aP (bN (.inl t8) ?_); refine bR [9] (by kernel_rfl) rfl ⟨?_, trivial⟩; refine bY rfl ?_; refine aW rfl rfl dH (k0.blk (h7.blk0 t5) m5.nmem1) rfl rfl ⟨by first | rfl | assumption, by first | rfl | assumption, by first | rfl | assumption, by first | rfl | assumption, trivial⟩ fun E1 t9 k1 => ?_
    try simp only [cG, Nat.reduceAdd] at t9
    refine aP (bN (.inl (t8.step k1 (Ge.new m2 h5).mem1)) ?_); refine dJ (by kernel_rfl) (bB ?_); refine ⟨⟨b3, b4⟩, ⟨rfl, rfl, trivial⟩, ⟨rfl, rfl, trivial⟩, ((((i1.then e0).then h7).step k0 t6.mem1).step k1 (Ge.new i1 h5).mem1), ?_⟩; exact ⟨⟨(k1.blk (k0.blk (h7.blk0 (e0.blk0 h0)) (Apart.new (Lt.blk (e0.blk0 h0)) h6).nmem1) (Apart.new (Lt.blk h0) h5).nmem1), ((((h1.evo0 e0).evo0 h7).evo k0 (Apart.new (Lt.own (h1.evo0 e0)) h6).own1).evo k1 (Apart.new (Lt.own h1) h5).own1), hR.ne⟩, (k1.blk t7 m5.symm.nmem1), t9, t6, (Ge.new i1 h5), m5.symm⟩
   ·refine bY rfl ?_; refine cK rfl iE fun b3 E2 k8 k2 k9 => ?_; have e3 := k2; have m9 := Apart.new (Lt.blk j7) k2; have n0 := Apart.new (Lt.own k5) k2; have i2 := Ge.new m1 k2; have n1 := Ge.new (Evo.refl [] w1) k2; have e5 := m1.then k9; have e6 := (Evo.refl [] w1).then k9; have a9 := k9.blk0 j7; have b5 := k5.evo0 k9; refine aP (bN (.inl e6) ?_); refine bR [1, 7] (by kernel_rfl) rfl ⟨?_, ?_, trivial⟩
    ·refine bY rfl ?_; refine aK (vs := [_]) lO rfl (nS ⟨a9, b5, hR.ne⟩ (by omega) h40.1) rfl ?_; rintro _ z5 ⟨rfl, D⟩; have i3 := e6.then D; refine aP (bN (.inl i3) ?_); refine bR [7] (by kernel_rfl) rfl ⟨?_, trivial⟩; refine bY rfl ?_; refine cK rfl lM fun b4 z6 u6 b7 b8 => ?_; have e4 := b7; have l0 := Apart.new (Lt.blk (D.blk0 k8)) b7; have n2 := Ge.new (e5.then D) b7; refine aP (bN (.inl (i3.then b8)) ?_); refine bR [8] (by kernel_rfl) rfl ⟨?_, trivial⟩; refine bY rfl ?_; refine aW rfl rfl aZ (b8.blk0 (D.blk0 k8)) rfl rfl ⟨by first | rfl | assumption, by first | rfl | assumption, by first | rfl | assumption, by first | rfl | assumption, by first | rfl | assumption, by first | rfl | assumption, by first | rfl | assumption, by first | rfl | assumption, by first | rfl | assumption, trivial⟩ fun z7 n3 e7 => ?_; have n4 := (i3.then b8).step e7 n1.mem1
     try simp only [cG, Nat.reduceAdd] at n3
     refine aP (bN (.inl n4) ?_); refine bR [9] (by kernel_rfl) rfl ⟨?_, trivial⟩; refine bY rfl ?_; refine aW rfl rfl dH (e7.blk u6 l0.symm.nmem1) rfl rfl ⟨by first | rfl | assumption, by first | rfl | assumption, by first | rfl | assumption, by first | rfl | assumption, trivial⟩ fun z8 n5 e8 => ?_
     try simp only [cG, Nat.reduceAdd] at n5
     refine aP (bN (.inl (n4.step e8 (Ge.new i3 b7).mem1)) ?_); refine dJ (by kernel_rfl) (bB ?_); refine ⟨⟨b3, b4⟩, ⟨rfl, rfl, trivial⟩, ⟨rfl, rfl, trivial⟩, ((((e5.then D).then b8).step e7 i2.mem1).step e8 n2.mem1), ?_⟩; exact ⟨⟨(e8.blk (e7.blk (b8.blk0 (D.blk0 a9)) m9.nmem1) (Apart.new (Lt.blk (D.blk0 a9)) b7).nmem1), ((((b5.evo0 D).evo0 b8).evo e7 n0.own1).evo e8 (Apart.new (Lt.own (b5.evo0 D)) b7).own1), hR.ne⟩, (e8.blk n3 l0.nmem1), n5, i2, n2, l0⟩
    refine bY rfl ?_; refine cK rfl lM fun b4 z9 u7 a4 I => ?_; have e4 := a4; have l1 := Apart.new (Lt.blk k8) a4; refine aP (bN (.inl (e6.then I)) ?_); refine bR [1] (by kernel_rfl) rfl ⟨?_, trivial⟩; refine bY rfl ?_; refine aK (vs := [_]) lO rfl (nS ⟨(I.blk0 a9), (b5.evo0 I), hR.ne⟩ (by omega) h40.1) rfl ?_; rintro _ A0 ⟨rfl, b9⟩; have n6 := (e6.then I).then b9; refine aP (bN (.inl n6) ?_); refine bR [8] (by kernel_rfl) rfl ⟨?_, trivial⟩; refine bY rfl ?_; refine aW rfl rfl aZ (b9.blk0 (I.blk0 k8)) rfl rfl ⟨by first | rfl | assumption, by first | rfl | assumption, by first | rfl | assumption, by first | rfl | assumption, by first | rfl | assumption, by first | rfl | assumption, by first | rfl | assumption, by first | rfl | assumption, by first | rfl | assumption, trivial⟩ fun A1 n7 f0 => ?_; have n8 := n6.step f0 n1.mem1
    try simp only [cG, Nat.reduceAdd] at n7
    refine aP (bN (.inl n8) ?_); refine bR [9] (by kernel_rfl) rfl ⟨?_, trivial⟩; refine bY rfl ?_; refine aW rfl rfl dH (f0.blk (b9.blk0 u7) l1.symm.nmem1) rfl rfl ⟨by first | rfl | assumption, by first | rfl | assumption, by first | rfl | assumption, by first | rfl | assumption, trivial⟩ fun A2 n9 f5 => ?_
    try simp only [cG, Nat.reduceAdd] at n9
    refine aP (bN (.inl (n8.step f5 (Ge.new e6 a4).mem1)) ?_); refine dJ (by kernel_rfl) (bB ?_); refine ⟨⟨b3, b4⟩, ⟨rfl, rfl, trivial⟩, ⟨rfl, rfl, trivial⟩, ((((e5.then I).then b9).step f0 i2.mem1).step f5 (Ge.new e5 a4).mem1), ?_⟩; exact ⟨⟨(f5.blk (f0.blk (b9.blk0 (I.blk0 a9)) m9.nmem1) (Apart.new (Lt.blk a9) a4).nmem1), ((((b5.evo0 I).evo0 b9).evo f0 n0.own1).evo f5 (Apart.new (Lt.own b5) a4).own1), hR.ne⟩, (f5.blk n7 l1.nmem1), n9, i2, (Ge.new e5 a4), l1⟩
   refine bY rfl ?_; refine cK rfl lM fun b4 A3 i4 f6 i5 => ?_; have e4 := f6; have o0 := Apart.new (Lt.blk j7) f6; have o1 := Apart.new (Lt.own k5) f6; have i6 := Ge.new m1 f6; have o2 := Ge.new (Evo.refl [] w1) f6; have f7 := m1.then i5; have f8 := (Evo.refl [] w1).then i5; have c0 := i5.blk0 j7; have c1 := k5.evo0 i5; refine aP (bN (.inl f8) ?_); refine bR [1, 6] (by kernel_rfl) rfl ⟨?_, ?_, trivial⟩
   ·refine bY rfl ?_; refine aK (vs := [_]) lO rfl (nS ⟨c0, c1, hR.ne⟩ (by omega) h40.1) rfl ?_; rintro _ A4 ⟨rfl, F⟩; have i7 := f8.then F; refine aP (bN (.inl i7) ?_); refine bR [6] (by kernel_rfl) rfl ⟨?_, trivial⟩; refine bY rfl ?_; refine cK rfl iE fun b3 A5 u8 c4 c5 => ?_; have e3 := c4; have l2 := Apart.new (Lt.blk (F.blk0 i4)) c4; have o3 := Ge.new (f7.then F) c4; refine aP (bN (.inl (i7.then c5)) ?_); refine bR [8] (by kernel_rfl) rfl ⟨?_, trivial⟩; refine bY rfl ?_; refine aW rfl rfl aZ u8 rfl rfl ⟨by first | rfl | assumption, by first | rfl | assumption, by first | rfl | assumption, by first | rfl | assumption, by first | rfl | assumption, by first | rfl | assumption, by first | rfl | assumption, by first | rfl | assumption, by first | rfl | assumption, trivial⟩ fun A6 o4 f9 => ?_; have o5 := (i7.then c5).step f9 (Ge.new i7 c4).mem1
    try simp only [cG, Nat.reduceAdd] at o4
    refine aP (bN (.inl o5) ?_); refine bR [9] (by kernel_rfl) rfl ⟨?_, trivial⟩; refine bY rfl ?_; refine aW rfl rfl dH (f9.blk (c5.blk0 (F.blk0 i4)) l2.nmem1) rfl rfl ⟨by first | rfl | assumption, by first | rfl | assumption, by first | rfl | assumption, by first | rfl | assumption, trivial⟩ fun A7 o6 g0 => ?_
    try simp only [cG, Nat.reduceAdd] at o6
    refine aP (bN (.inl (o5.step g0 o2.mem1)) ?_); refine dJ (by kernel_rfl) (bB ?_); refine ⟨⟨b3, b4⟩, ⟨rfl, rfl, trivial⟩, ⟨rfl, rfl, trivial⟩, ((((f7.then F).then c5).step f9 o3.mem1).step g0 i6.mem1), ?_⟩; exact ⟨⟨(g0.blk (f9.blk (c5.blk0 (F.blk0 c0)) (Apart.new (Lt.blk (F.blk0 c0)) c4).nmem1) o0.nmem1), ((((c1.evo0 F).evo0 c5).evo f9 (Apart.new (Lt.own (c1.evo0 F)) c4).own1).evo g0 o1.own1), hR.ne⟩, (g0.blk o4 l2.symm.nmem1), o6, o3, i6, l2.symm⟩
   refine bY rfl ?_; refine cK rfl iE fun b3 A8 u9 a5 J => ?_; have e3 := a5; have l3 := Apart.new (Lt.blk i4) a5; refine aP (bN (.inl (f8.then J)) ?_); refine bR [1] (by kernel_rfl) rfl ⟨?_, trivial⟩; refine bY rfl ?_; refine aK (vs := [_]) lO rfl (nS ⟨(J.blk0 c0), (c1.evo0 J), hR.ne⟩ (by omega) h40.1) rfl ?_; rintro _ A9 ⟨rfl, c6⟩; have o7 := (f8.then J).then c6; refine aP (bN (.inl o7) ?_); refine bR [8] (by kernel_rfl) rfl ⟨?_, trivial⟩; refine bY rfl ?_; refine aW rfl rfl aZ (c6.blk0 u9) rfl rfl ⟨by first | rfl | assumption, by first | rfl | assumption, by first | rfl | assumption, by first | rfl | assumption, by first | rfl | assumption, by first | rfl | assumption, by first | rfl | assumption, by first | rfl | assumption, by first | rfl | assumption, trivial⟩ fun B0 o8 g1 => ?_; have o9 := o7.step g1 (Ge.new f8 a5).mem1
   try simp only [cG, Nat.reduceAdd] at o8
   refine aP (bN (.inl o9) ?_); refine bR [9] (by kernel_rfl) rfl ⟨?_, trivial⟩; refine bY rfl ?_; refine aW rfl rfl dH (g1.blk (c6.blk0 (J.blk0 i4)) l3.nmem1) rfl rfl ⟨by first | rfl | assumption, by first | rfl | assumption, by first | rfl | assumption, by first | rfl | assumption, trivial⟩ fun B1 p1 g2 => ?_
   try simp only [cG, Nat.reduceAdd] at p1
   refine aP (bN (.inl (o9.step g2 o2.mem1)) ?_); refine dJ (by kernel_rfl) (bB ?_); refine ⟨⟨b3, b4⟩, ⟨rfl, rfl, trivial⟩, ⟨rfl, rfl, trivial⟩, ((((f7.then J).then c6).step g1 (Ge.new f7 a5).mem1).step g2 i6.mem1), ?_⟩; exact ⟨⟨(g2.blk (g1.blk (c6.blk0 (J.blk0 c0)) (Apart.new (Lt.blk c0) a5).nmem1) o0.nmem1), ((((c1.evo0 J).evo0 c6).evo g1 (Apart.new (Lt.own c1) a5).own1).evo g2 o1.own1), hR.ne⟩, (g2.blk o8 l3.symm.nmem1), p1, (Ge.new f7 a5), i6, l3.symm⟩
  rintro ⟨b3, b4⟩ y7 ⟨L, ⟨B, hb3, hb4, hg3, hg4, ha34⟩⟩; refine aB ?_; show CW _ _ _ _ [(3, .pointer (some ⟨b3, 0, none⟩)), (4, .pointer (some ⟨b4, 0, none⟩)), (0, _), (2, _)] _
  try dsimp only at B hb3 hb4 hg3 hg4 ha34
  have A : Apart (some b) (some b3) := kE hbw hg3; have H : Apart (some b) (some b4) := kE hbw hg4; have p2 : Apart ob (some b3) := kE how hg3; have p3 : Apart ob (some b4) := kE how hg4; have hob0 := DG (fl := st.now) hb h40; have hoe := pOpen_e (s := s) (i := st.pos) (fl := st.now)
  generalize ho : fI s st.pos st.now = o at *
  have hbdl := hb.le; refine aI (aI (nX (α := Bool) (fun z19 => [(19, .bool z19)]) [(0, _), (2, _), (3, _), (4, _)] (fun z19 wr => y7 = wr ∧ (z19 = true ↔ (o.err = 0 ∧ o.sett = true))) ⟨rfl, rfl, rfl, rfl, trivial⟩ ?_ ?_))
  ·refine aG (wfl rfl dR rfl iY hb3 rfl (wel ?_)); refine aD (bF (t := 16) rfl (fun k3 => ?_) (fun k3 => ?_))
   ·refine aT (aC (aA rfl kK) (aT (aC (aU rfl gC (bA hb3 rfl)) (bW (aP (bB ?_)))))); refine ⟨_, ⟨rfl, trivial⟩, ⟨rfl, rfl, rfl, rfl, trivial⟩, rfl, ?_⟩
    first | (simp only [Bool.false_eq_true, false_iff]; exact fun h9 => k3 h9.1) | exact ⟨fun h9 => ⟨k3, h9⟩, fun h9 => h9.2⟩
   refine aN (aN (bM (aP (bB ?_)))); refine ⟨_, ⟨rfl, trivial⟩, ⟨rfl, rfl, rfl, rfl, trivial⟩, rfl, ?_⟩
   first | (simp only [Bool.false_eq_true, false_iff]; exact fun h9 => k3 h9.1) | exact ⟨fun h9 => ⟨k3, h9⟩, fun h9 => h9.2⟩
  rintro z19 _ ⟨rfl, hz19⟩; refine aB ?_; show CW _ _ _ _ [(19, _), (0, _), (2, _), (3, _), (4, _)] _; refine fN rfl (fun m6 => ?_) (fun m6 => ?_)
  ·subst m6; have hj19 := hz19.1 rfl; obtain ⟨hz1, hz2, hz3⟩ := hob0 hj19.1; refine aI ?_; refine fZ (fun w0 w' => Evo [b] w0 w') (by kernel_rfl) (fun M c7 => ?_); refine aet 0 rfl (fun _ hS => aY rfl) (Evo.refl [b] M) ?_; refine aet 1 rfl (fun _ hS => aF rfl) (Evo.refl [b] M) ?_; refine aet 2 rfl (fun _ hS => aA rfl aV) (Evo.refl [b] M) ?_; refine aet 4 rfl (fun _ hS => aA rfl eU) (Evo.refl [b] M) ?_; refine aet 5 rfl (fun _ hS => aU rfl aQ (bA (hS.blk (c7.blk0 hb3) (A.symm.nmem1)) rfl)) (Evo.refl [b] M) ?_; refine bR [3] (by kernel_rfl) rfl ⟨?_, trivial⟩; refine bY rfl ?_; refine aC (aU rfl aQ (bA (c7.blk0 B.blk) rfl)) (aP (bN (.inl (Evo.refl [b] M)) ?_)); refine aet 6 rfl (fun _ hS => aJ rfl rfl (by omega) (by omega)) (Evo.refl [b] M) ?_; refine aet 7 rfl (fun _ hS => aF rfl) (Evo.refl [b] M) ?_; refine aet 8 rfl (fun _ hS => aA rfl aV) (Evo.refl [b] M) ?_; refine bR [9] (by kernel_rfl) rfl ⟨?_, trivial⟩; refine bY rfl ?_; refine bC rfl rfl (by first | rfl | assumption) bO (c7.blk0 B.blk) rfl fun B2 p4 i8 => ?_
   have v0 := (L.then c7).step i8 (fun y hy => .inl (by rw [List.mem_singleton.1 hy]; simp))
   try simp only [cG, Nat.reduceAdd] at p4
   refine aP (bN (.inl ((Evo.refl [b] M).step i8 (fun y hy => .inl hy))) ?_); refine dJ (by kernel_rfl) (aB ?_); refine csr (aD (aC (aA rfl iI) (aC (dF (o := 2) rfl jV dH (vs := [.bool o.thn.fold, .bool o.thn.lines, .bool o.thn.dots, .bool o.thn.lazy]) rfl (vM (i8.blk (c7.blk0 hb3) A.symm.nmem1))) ?_))); refine aC (aF rfl) (aC (aA rfl dS) (pG (f1 := .bool o.thn.fold) (f2 := .bool o.thn.lines) (f3 := .bool o.thn.dots) (f4 := .bool o.thn.lazy) rfl rfl dH ⟨rfl, rfl, rfl, rfl, trivial⟩ p4 fun B3 v1 p5 => ?_))
   have v2 := v0.step p5 (fun y hy => .inl (by rw [List.mem_singleton.1 hy]; simp))
   refine wnn (csr (wan (aH (aE (cE (br1 ?_))))))
   exact ⟨[], { st with pos := st.pos + o.size, now := o.thn }, br_set ho hj19.1 hj19.2, v2, ⟨rfl, Nat.le_add_right _ _, hz2, hnl⟩, (by show st.pos < st.pos + o.size; omega), (by show 0 + st.pos ≤ st.pos + o.size; omega), a, c, ob, none, 0, none, [], [], rfl, OwnS.nil _ _ _, OTs.nil _, Fr.nil _, ⟨v1, (((B.own.evo0 c7).evo i8 B.ap.symm.own1).evo p5 B.ap.symm.own1), hR.ne⟩, .inl rfl⟩
  subst m6
  have hj19 : ¬ (o.err = 0 ∧ o.sett = true) := fun h9 => by have := hz19.2 h9; cases this
  refine aL (aB (aI (aI ?_))); have hno : ¬ (o.err = 0 ∧ o.sett = true) := hj19; refine aG (aD (aC (aF rfl) (wfl rfl fX rfl aQ B.blk rfl (wel ?_)))); refine wnn (aX rfl (fun y8 => ?_) (fun y8 => ?_))
  ·refine aG (cB (vs := [_]) cN rfl (eD 3) rfl ?_ ?_)
   ·intro pv wp hpp; obtain ⟨rfl, hpw⟩ := hpp; exact And.intro rfl ⟨_, rfl, _, br_deep ho hno (by omega), rfl, (L).then hpw⟩
   intro _ _ hF; exact hF.elim
  refine aL (aB (aI (aI ?_)))
  have hne250 : ¬ st.opn = 250 := by omega
  refine aG (wfl rfl dR rfl iY hb3 rfl (aC (gU rfl rfl) ?_)); refine wnn (aX rfl (fun O => ?_) (fun O => ?_))
  ·refine aG (wfl rfl dR rfl iY hb3 rfl (cB (vs := [_]) cN rfl (eD o.err) rfl ?_ ?_))
   ·intro pv wp hpp; obtain ⟨rfl, hpw⟩ := hpp; exact And.intro rfl ⟨_, rfl, _, br_err ho hno hne250 O, rfl, (L).then hpw⟩
   intro _ _ hF; exact hF.elim
  refine aL (aB (aI ?_)); have herr : o.err = 0 := Classical.not_not.1 O; obtain ⟨hz1, hz2, hz3⟩ := hob0 herr; refine aG (wan (aI (csr (wfl rfl gQ rfl gC hb3 rfl (wnn (fN rfl (fun a6 => ?_) (fun a6 => ?_)))))))
  ·have y9 := L; refine aG (aD (wfl rfl jF rfl cT hb3 rfl (cB (vs := [_, _]) FK rfl (GW ⟨B.blk, B.own, B.ne⟩ o.name hnl) rfl ?_ ?_)))
   ·intro pv wp hpp; obtain ⟨hfl, rfl, hpw⟩ := hpp; exact And.intro rfl ⟨_, rfl, _, br_full ho hno hne250 O a6 hfl, rfl, (L).then hpw⟩
   rintro _ B4 ⟨hnf, rfl, l4, a2, c2, ob2, k4, hnb⟩; have u0 := fT p2.symm (Lt.blk hb3) hnb; have u1 := fT p3.symm (Lt.blk hb4) hnb; have hGo2 := fT hGo (LI (hG.evo L hgw)) hnb; have hnb2 : NB w ob ob2 := (show NB w ob ob from .inl rfl).older hnb y9.size; have hpp2 : ({ st with names := st.names ++ [o.name] } : PS).pos = st.pos := rfl; have hpo2 : ({ st with names := st.names ++ [o.name] } : PS).opn = st.opn := rfl
   have hnl2 : (st.names ++ [o.name]).length ≤ 100 := by rw [List.length_append]; have : st.names.length ≠ 100 := fun h => hnf (.inl h); simp; omega
   refine wan (aI ?_); refine fZ (fun w0 w' => Evo [b] w0 w') (by kernel_rfl) (fun U c8 => ?_); have v3 := (L.step l4 (fun y hy => .inl hy)).then c8; have p6 := c8.blk0 (l4.blk hb3 (AB A.symm p2.symm)); refine aet 0 rfl (fun _ hS => aY rfl) (Evo.refl [b] U) ?_; refine aet 1 rfl (fun _ hS => aF rfl) (Evo.refl [b] U) ?_; refine aet 2 rfl (fun _ hS => aA rfl aV) (Evo.refl [b] U) ?_; refine aet 4 rfl (fun _ hS => aA rfl eU) (Evo.refl [b] U) ?_; refine aet 5 rfl (fun _ hS => aU rfl aQ (bA (hS.blk p6 (A.symm.nmem1)) rfl)) (Evo.refl [b] U) ?_; refine bR [3] (by kernel_rfl) rfl ⟨?_, trivial⟩; refine bY rfl ?_; refine aC (aU rfl aQ (bA (c8.blk0 k4.blk) rfl)) (aP (bN (.inl (Evo.refl [b] U)) ?_)); refine aet 6 rfl (fun _ hS => aJ rfl rfl (by omega) (by omega)) (Evo.refl [b] U) ?_; refine aet 7 rfl (fun _ hS => aF rfl) (Evo.refl [b] U) ?_; refine aet 8 rfl (fun _ hS => aA rfl aV) (Evo.refl [b] U) ?_; refine bR [9] (by kernel_rfl) rfl ⟨?_, trivial⟩; refine bY rfl ?_
   refine bC rfl rfl (by first | rfl | assumption) bO (c8.blk0 k4.blk) rfl fun B5 l5 g3 => ?_
   have v4 := v3.step g3 (fun y hy => .inl (by rw [List.mem_singleton.1 hy]; simp))
   try simp only [cG, Nat.reduceAdd] at l5
   refine aP (bN (.inl ((Evo.refl [b] U).step g3 (fun y hy => .inl hy))) ?_); refine dJ (by kernel_rfl) (aB ?_); refine csr (aD (aC (aF rfl) (wfl rfl fX rfl aQ l5 rfl ?_))); refine aC (aJ rfl rfl (by omega) (by omega)) ?_; refine aC (aF rfl) (aC (aA rfl fX) ?_); refine bC rfl rfl (by first | rfl | assumption) bO l5 rfl fun B6 p7 i9 => ?_
   have v5 := v4.step i9 (fun y hy => .inl (by rw [List.mem_singleton.1 hy]; simp))
   have p8 := i9.blk (g3.blk p6 A.symm.nmem1) A.symm.nmem1
   try simp only [cG, Nat.reduceAdd] at p7
   refine wnn (csr (aD (aC (aA rfl iI) (aC (dF (o := 2) rfl jV dH (vs := [.bool o.thn.fold, .bool o.thn.lines, .bool o.thn.dots, .bool o.thn.lazy]) rfl (vM p8)) ?_)))); refine aC (aF rfl) (aC (aA rfl dS) (pG (f1 := .bool o.thn.fold) (f2 := .bool o.thn.lines) (f3 := .bool o.thn.dots) (f4 := .bool o.thn.lazy) rfl rfl dH ⟨rfl, rfl, rfl, rfl, trivial⟩ p7 fun B7 v6 j0 => ?_))
   have j1 := v5.step j0 (fun y hy => .inl (by rw [List.mem_singleton.1 hy]; simp))
   have p9 := j0.blk p8 A.symm.nmem1; have q0 := j0.blk (i9.blk (g3.blk (c8.blk0 (l4.blk hb4 (AB H.symm p3.symm))) H.symm.nmem1) H.symm.nmem1) H.symm.nmem1; refine wnn (csr (aD ?_)); refine cB (vs := [_]) sB rfl (hex (by omega) (st := ⟨st.pos + o.size, o.thn, st.opn + 1, st.names ++ [o.name]⟩) ⟨v6, ((((k4.own.evo0 c8).evo g3 k4.ap.symm.own1).evo i9 k4.ap.symm.own1).evo j0 k4.ap.symm.own1), k4.ne⟩ rfl hz2 hnl2 (hG.evo j1 hgw) hGo2) rfl ?_ ?_
   ·intro pv wp hpp; obtain ⟨e9, hpe, rfl, hpw⟩ := hpp; exact And.intro rfl ⟨_, rfl, _, (zO ho hno hne250 O (fun h => hnf h.2)).trans (by rw [if_pos a6, hpe]), rfl, (j1).step hpw (oV hnb2)⟩
   rintro rv B8 ⟨x, st2, hx, l6, hmv, a3, c3, ob3, vs, bs, rfl, hOT, hFr, a0, hnb3⟩; have m3 := j1; have z0 := fT u0 (Lt.blk p9) hnb3; have z1 := fT u1 (Lt.blk q0) hnb3; have hnb4 := hnb2.older hnb3 m3.size; have hFr9 : Fr w bs := hFr.older m3.size; have l7 := j1.step l6 (oV hnb2); have q1 := l6.blk p9 (AB A.symm u0); have q2 := l6.blk q0 (AB H.symm u1); obtain ⟨ra, rc, ka, kc, rfl⟩ := id hOT.nine; have hltx := hOT.lt; refine cK rfl eG fun b6 B9 v7 a7 c9 => ?_; have u2 := a7; have d0 := Apart.new (Lt.blk a0.blk) a7; have q3 := Apart.new (Lt.own a0.own) a7; refine aW rfl rfl aS v7 rfl rfl ⟨by first | rfl | assumption, by first | rfl | assumption, by first | rfl | assumption, by first | rfl | assumption, by first | rfl | assumption, by first | rfl | assumption, by first | rfl | assumption, by first | rfl | assumption, by first | rfl | assumption, trivial⟩ fun C0 q4 d1 => ?_
   have v8 := (hOT.evo0 c9).evo d1 (fun q hq h => by have h8 := hltx q hq; have h9 := List.mem_singleton.1 h; omega)
   try simp only [cG, Nat.reduceAdd] at q4
   refine wnn (aI (csr (aD ?_))); refine aK (vs := [_, _]) iF rfl (mW ⟨(d1.blk (c9.blk0 a0.blk) d0.nmem1), ((a0.own.evo0 c9).evo d1 q3.own1), a0.ne⟩ (by omega) 41 (by decide)) rfl ?_; rintro _ C1 ⟨rfl, g4, a1⟩
   have q5 := ((l7.then c9).step d1 (Ge.new l7 a7).mem1).step g4 (fun y hy => .inl (by rw [List.mem_singleton.1 hy]; simp))
   have v9 := g4.blk (d1.blk (c9.blk0 q1) (Apart.new (Lt.blk q1) a7).nmem1) ((by first | exact A.symm.own1 | exact A.symm.nmem1)); have w2 := g4.blk (d1.blk (c9.blk0 q2) (Apart.new (Lt.blk q2) a7).nmem1) ((by first | exact H.symm.own1 | exact H.symm.nmem1)); have w3 := v8.evo g4 (QU hFr9 hbw (Nat.le_refl _)); have w4 := g4.blk q4 ((by first | exact d0.symm.own1 | exact d0.symm.nmem1)); refine aC (oY rfl) ?_; refine wnn (aX rfl (fun e1 => ?_) (fun e1 => ?_))
   ·refine aG (cB (vs := [_]) cN rfl (eD 80) rfl ?_ ?_)
    ·intro pv wp hpp; obtain ⟨rfl, hpw⟩ := hpp
     exact And.intro rfl ⟨_, rfl, _, (zO ho hno hne250 O (fun h => hnf h.2)).trans (by rw [if_pos a6, hx]; exact if_neg e1), rfl, (q5).then hpw⟩
    intro _ _ hF; exact hF.elim
   have h41 : isB s st2.pos 41 := Classical.not_not.1 e1; rw [if_pos h41] at a1; have ho2 : st2.opn = st.opn + 1 := hmv.opn; have hle2 : st.pos + o.size ≤ st2.pos := hmv.le
   have ho3 : ((adv st2 1).opn : Int) - 1 = ((st2.opn - 1 : Nat) : Int) := by show ((st2.opn : Nat) : Int) - 1 = _; omega
   refine aL (aB (csr (aD (aC (aF rfl) (wfl rfl fX rfl aQ a1.blk rfl ?_))))); refine aC (dL rfl rfl (by omega) (by omega)) ?_; rw [ho3]; refine aC (aF rfl) (aC (aA rfl fX) ?_); refine bC rfl rfl (by first | rfl | assumption) bO a1.blk rfl fun C2 q6 d2 => ?_
   have w5 := q5.step d2 (fun y hy => .inl (by rw [List.mem_singleton.1 hy]; simp))
   try simp only [cG, Nat.reduceAdd] at q6
   refine wnn (csr (aD (aC (bV rfl jV dH (d2.blk w2 H.symm.nmem1) rfl) (aC (aF rfl) (aC (aA rfl dS) (pG (f1 := .bool st.now.fold) (f2 := .bool st.now.lines) (f3 := .bool st.now.dots) (f4 := .bool st.now.lazy) rfl rfl dH ⟨rfl, rfl, rfl, rfl, trivial⟩ q6 fun u3 w7 g5 => ?_))))))
   have q7 := w5.step g5 (fun y hy => .inl (by rw [List.mem_singleton.1 hy]; simp))
   have q8 := g5.blk (d2.blk v9 A.symm.nmem1) A.symm.nmem1; have q9 := (w3.evo d2 (QU hFr9 hbw (Nat.le_refl _))).evo g5 (QU hFr9 hbw (Nat.le_refl _)); have l8 := g5.blk (d2.blk w4 d0.symm.nmem1) d0.symm.nmem1; refine wnn (aI (csr (wfl rfl gQ rfl gC q8 rfl (wnn (fN rfl (fun e2 => ?_) (fun e2 => ?_))))))
   ·have z2 := q9; refine aG (aD (wfl rfl jF rfl cT q8 rfl (aC (bV rfl bQ aS l8 rfl) (bL (vs := [_]) rfl cQ rfl rfl rfl rfl fun E3 C3 w8 r0 d3 => ?_)))); refine aC (cC (vs := [(0, _), (6, _), (7, _), (8, _)]) dD rfl (cells := [_, _, _, _, _, _, _, _, _]) rfl) ?_; refine aW rfl rfl aS (d3.blk0 l8) rfl rfl ⟨by first | rfl | assumption, by first | rfl | assumption, by first | rfl | assumption, by first | rfl | assumption, by first | rfl | assumption, by first | rfl | assumption, by first | rfl | assumption, by first | rfl | assumption, by first | rfl | assumption, trivial⟩ fun u4 r1 d4 => ?_; have r5 := (q7.then d3).step d4 (Ge.new l7 a7).mem1
    have z4 := (q9.evo0 d3).evo d4 (fun q hq h => by have h8 := hltx q hq; have h9 := List.mem_singleton.1 h; omega)
    try simp only [cG, Nat.reduceAdd] at r1
    refine wnn (aI ?_)
    have hgr := ot_grp (n := (st.names.length : Int) + 1) (nm := o.name) (w8.evo d4 (Apart.new (Lt.blk l8) r0).symm.own1) z2 hFr9 ((Ge.new (Evo.refl ([b6]) u3) r0) _ rfl) (((Evo.refl ([b6]) u3).then d3).step d4 (fun y hy => .inl hy)) (fun q hq h => by have h8 := hltx q hq; have h9 := List.mem_singleton.1 h; omega) q7.size (by omega)
    obtain ⟨hgT, hgF⟩ := hgr; have m7 := r5; refine aG (aC (bV rfl bQ aS r1 rfl) (bL (vs := [_]) rfl cQ rfl rfl rfl rfl fun z3 C4 w9 x0 j2 => ?_)); refine wan (aH (cE (br1 ?_))); have hK := iD w9 hgT hgF ((Ge.new (Evo.refl ([]) u4) x0) _ rfl) ((Evo.refl ([]) u4).then j2) (fun _ _ h => by cases h) m7.size; obtain ⟨ka9, kc9, ko9, cs9, bs9, hv9, hk1, hk2, hk3⟩ := hK
    refine ⟨[oE ((st.names.length : Int) + 1) o.name x], { st2 with pos := st2.pos + 1, opn := st2.opn - 1, now := st.now }, (zO ho hno hne250 O (fun h => hnf h.2)).trans (by rw [if_pos a6, hx]; exact (if_pos h41).trans (by rw [if_pos a6])), (r5.then j2), ⟨(by show st2.opn - 1 = st.opn; omega), (by show st.pos ≤ st2.pos + 1; omega), h41.asc (by decide) hmv.bd, hmv.nm⟩, (by show st.pos < st2.pos + 1; omega), (by show 1 + st.pos ≤ st2.pos + 1; omega), a3, c3, ob3, ka9, kc9, ko9, cs9, bs9, hv9, hk1, hk2, hk3, ⟨(j2.blk0 (d4.blk (d3.blk0 w7) d0.nmem1)), (((((a1.own.evo d2 a1.ap.symm.own1).evo g5 a1.ap.symm.own1).evo0 d3).evo d4 q3.own1).evo0 j2), a0.ne⟩, hnb4⟩
   rw [a6] at e2; cases e2
  have hnc : ¬ o.capt = true := by rw [a6]; simp
  refine aL (aB (aI ?_)); refine fZ (fun w0 w' => Evo [b] w0 w') (by kernel_rfl) (fun V a8 => ?_); refine aet 0 rfl (fun _ hS => aY rfl) (Evo.refl [b] V) ?_; refine aet 1 rfl (fun _ hS => aF rfl) (Evo.refl [b] V) ?_; refine aet 2 rfl (fun _ hS => aA rfl aV) (Evo.refl [b] V) ?_; refine aet 4 rfl (fun _ hS => aA rfl eU) (Evo.refl [b] V) ?_; refine aet 5 rfl (fun _ hS => aU rfl aQ (bA (hS.blk (a8.blk0 hb3) (A.symm.nmem1)) rfl)) (Evo.refl [b] V) ?_; refine bR [3] (by kernel_rfl) rfl ⟨?_, trivial⟩; refine bY rfl ?_; refine aC (aU rfl aQ (bA (a8.blk0 B.blk) rfl)) (aP (bN (.inl (Evo.refl [b] V)) ?_)); refine aet 6 rfl (fun _ hS => aJ rfl rfl (by omega) (by omega)) (Evo.refl [b] V) ?_; refine aet 7 rfl (fun _ hS => aF rfl) (Evo.refl [b] V) ?_; refine aet 8 rfl (fun _ hS => aA rfl aV) (Evo.refl [b] V) ?_; refine bR [9] (by kernel_rfl) rfl ⟨?_, trivial⟩; refine bY rfl ?_; refine bC rfl rfl (by first | rfl | assumption) bO (a8.blk0 B.blk) rfl fun C5 l9 g6 => ?_
  have x1 := (L.then a8).step g6 (fun y hy => .inl (by rw [List.mem_singleton.1 hy]; simp))
  try simp only [cG, Nat.reduceAdd] at l9
  refine aP (bN (.inl ((Evo.refl [b] V).step g6 (fun y hy => .inl hy))) ?_); refine dJ (by kernel_rfl) (aB ?_); refine csr (aD (aC (aF rfl) (wfl rfl fX rfl aQ l9 rfl ?_))); refine aC (aJ rfl rfl (by omega) (by omega)) ?_; refine aC (aF rfl) (aC (aA rfl fX) ?_); refine bC rfl rfl (by first | rfl | assumption) bO l9 rfl fun C6 r6 j3 => ?_
  have x2 := x1.step j3 (fun y hy => .inl (by rw [List.mem_singleton.1 hy]; simp))
  have r7 := j3.blk (g6.blk (a8.blk0 hb3) A.symm.nmem1) A.symm.nmem1
  try simp only [cG, Nat.reduceAdd] at r6
  refine wnn (csr (aD (aC (aA rfl iI) (aC (dF (o := 2) rfl jV dH (vs := [.bool o.thn.fold, .bool o.thn.lines, .bool o.thn.dots, .bool o.thn.lazy]) rfl (vM r7)) ?_)))); refine aC (aF rfl) (aC (aA rfl dS) (pG (f1 := .bool o.thn.fold) (f2 := .bool o.thn.lines) (f3 := .bool o.thn.dots) (f4 := .bool o.thn.lazy) rfl rfl dH ⟨rfl, rfl, rfl, rfl, trivial⟩ r6 fun C7 x3 j4 => ?_))
  have j5 := x2.step j4 (fun y hy => .inl (by rw [List.mem_singleton.1 hy]; simp))
  have r8 := j4.blk r7 A.symm.nmem1; have r9 := j4.blk (j3.blk (g6.blk (a8.blk0 hb4) H.symm.nmem1) H.symm.nmem1) H.symm.nmem1; refine wnn (csr (aD ?_)); refine cB (vs := [_]) sB rfl (hex (by omega) (st := ⟨st.pos + o.size, o.thn, st.opn + 1, st.names⟩) ⟨x3, ((((B.own.evo0 a8).evo g6 B.ap.symm.own1).evo j3 B.ap.symm.own1).evo j4 B.ap.symm.own1), B.ne⟩ rfl hz2 hnl (hG.evo j5 hgw) hGo) rfl ?_ ?_
  ·intro pv wp hpp; obtain ⟨e9, hpe, rfl, hpw⟩ := hpp; exact And.intro rfl ⟨_, rfl, _, (zO ho hno hne250 O (fun h => hnc h.1)).trans (by rw [if_neg hnc, hpe]), rfl, (j5).step hpw (oV (show NB w ob ob from .inl rfl))⟩
  rintro rv C8 ⟨x, st2, hx, m0, hmv, a3, c3, ob3, vs, bs, rfl, hOT, hFr, a0, hnb3⟩; have m3 := j5; have z0 := fT p2.symm (Lt.blk r8) hnb3; have z1 := fT p3.symm (Lt.blk r9) hnb3; have hnb4 := (show NB w ob ob from .inl rfl).older hnb3 m3.size; have hFr9 : Fr w bs := hFr.older m3.size; have s0 := j5.step m0 (oV (show NB w ob ob from .inl rfl)); have s2 := m0.blk r8 (AB A.symm p2.symm); have s3 := m0.blk r9 (AB H.symm p3.symm); obtain ⟨ra, rc, ka, kc, rfl⟩ := id hOT.nine; have hltx := hOT.lt; refine cK rfl eG fun b6 C9 x4 d5 d6 => ?_; have u2 := d5; have g7 := Apart.new (Lt.blk a0.blk) d5; refine aW rfl rfl aS x4 rfl rfl ⟨by first | rfl | assumption, by first | rfl | assumption, by first | rfl | assumption, by first | rfl | assumption, by first | rfl | assumption, by first | rfl | assumption, by first | rfl | assumption, by first | rfl | assumption, by first | rfl | assumption, trivial⟩ fun D0 s4 d7 => ?_
  have x5 := (hOT.evo0 d6).evo d7 (fun q hq h => by have h8 := hltx q hq; have h9 := List.mem_singleton.1 h; omega)
  try simp only [cG, Nat.reduceAdd] at s4
  refine wnn (aI (csr (aD ?_))); refine aK (vs := [_, _]) iF rfl (mW ⟨(d7.blk (d6.blk0 a0.blk) g7.nmem1), ((a0.own.evo0 d6).evo d7 (Apart.new (Lt.own a0.own) d5).own1), a0.ne⟩ (by omega) 41 (by decide)) rfl ?_; rintro _ D1 ⟨rfl, g8, a1⟩
  have s5 := ((s0.then d6).step d7 (Ge.new s0 d5).mem1).step g8 (fun y hy => .inl (by rw [List.mem_singleton.1 hy]; simp))
  have x6 := g8.blk (d7.blk (d6.blk0 s2) (Apart.new (Lt.blk s2) d5).nmem1) ((by first | exact A.symm.own1 | exact A.symm.nmem1)); have x7 := g8.blk (d7.blk (d6.blk0 s3) (Apart.new (Lt.blk s3) d5).nmem1) ((by first | exact H.symm.own1 | exact H.symm.nmem1)); have x8 := x5.evo g8 (QU hFr9 hbw (Nat.le_refl _)); have x9 := g8.blk s4 ((by first | exact g7.symm.own1 | exact g7.symm.nmem1)); refine aC (oY rfl) ?_; refine wnn (aX rfl (fun e1 => ?_) (fun e1 => ?_))
  ·refine aG (cB (vs := [_]) cN rfl (eD 80) rfl ?_ ?_)
   ·intro pv wp hpp; obtain ⟨rfl, hpw⟩ := hpp
    exact And.intro rfl ⟨_, rfl, _, (zO ho hno hne250 O (fun h => hnc h.1)).trans (by rw [if_neg hnc, hx]; exact if_neg e1), rfl, (s5).then hpw⟩
   intro _ _ hF; exact hF.elim
  have h41 : isB s st2.pos 41 := Classical.not_not.1 e1; rw [if_pos h41] at a1; have ho2 : st2.opn = st.opn + 1 := hmv.opn; have hle2 : st.pos + o.size ≤ st2.pos := hmv.le
  have ho3 : ((adv st2 1).opn : Int) - 1 = ((st2.opn - 1 : Nat) : Int) := by show ((st2.opn : Nat) : Int) - 1 = _; omega
  refine aL (aB (csr (aD (aC (aF rfl) (wfl rfl fX rfl aQ a1.blk rfl ?_))))); refine aC (dL rfl rfl (by omega) (by omega)) ?_; rw [ho3]; refine aC (aF rfl) (aC (aA rfl fX) ?_); refine bC rfl rfl (by first | rfl | assumption) bO a1.blk rfl fun D2 s6 d8 => ?_
  have y1 := s5.step d8 (fun y hy => .inl (by rw [List.mem_singleton.1 hy]; simp))
  try simp only [cG, Nat.reduceAdd] at s6
  refine wnn (csr (aD (aC (bV rfl jV dH (d8.blk x7 H.symm.nmem1) rfl) (aC (aF rfl) (aC (aA rfl dS) (pG (f1 := .bool st.now.fold) (f2 := .bool st.now.lines) (f3 := .bool st.now.dots) (f4 := .bool st.now.lazy) rfl rfl dH ⟨rfl, rfl, rfl, rfl, trivial⟩ s6 fun u5 y2 g9 => ?_))))))
  have s7 := y1.step g9 (fun y hy => .inl (by rw [List.mem_singleton.1 hy]; simp))
  refine wnn (aI (csr (wfl rfl gQ rfl gC (g9.blk (d8.blk x6 A.symm.nmem1) A.symm.nmem1) rfl (wnn (fN rfl (fun e2 => ?_) (fun e2 => ?_))))))
  ·rw [a6] at e2; cases e2
  refine aL (aB (aI ?_)); have hgr : OT x _ _ bs ∧ Fr w bs := ⟨((x8.evo d8 (QU hFr9 hbw (Nat.le_refl _))).evo g9 (QU hFr9 hbw (Nat.le_refl _))), hFr9⟩; obtain ⟨hgT, hgF⟩ := hgr; have m7 := s7; refine aG (aC (bV rfl bQ aS (g9.blk (d8.blk x9 g7.symm.nmem1) g7.symm.nmem1) rfl) (bL (vs := [_]) rfl cQ rfl rfl rfl rfl fun z3 D3 y3 y4 j6 => ?_)); refine wan (aH (cE (br1 ?_))); have hK := iD y3 hgT hgF ((Ge.new (Evo.refl ([]) u5) y4) _ rfl) ((Evo.refl ([]) u5).then j6) (fun _ _ h => by cases h) m7.size; obtain ⟨ka9, kc9, ko9, cs9, bs9, hv9, hk1, hk2, hk3⟩ := hK
  refine ⟨[x], { st2 with pos := st2.pos + 1, opn := st2.opn - 1, now := st.now }, (zO ho hno hne250 O (fun h => hnc h.1)).trans (by rw [if_neg hnc, hx]; exact (if_pos h41).trans (by rw [if_neg hnc])), (s7.then j6), ⟨(by show st2.opn - 1 = st.opn; omega), (by show st.pos ≤ st2.pos + 1; omega), h41.asc (by decide) hmv.bd, hmv.nm⟩, (by show st.pos < st2.pos + 1; omega), (by show 1 + st.pos ≤ st2.pos + 1; omega), a3, c3, ob3, ka9, kc9, ko9, cs9, bs9, hv9, hk1, hk2, hk3, ⟨(j6.blk0 y2), (((a1.own.evo d8 a1.ap.symm.own1).evo g9 a1.ap.symm.own1).evo0 j6), a0.ne⟩, hnb4⟩
end Go.Proofs.YtidpigbinpaaeaaGreat
