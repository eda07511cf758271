/- The plain law of RxRuns: a search that goes back on its steps, and one layer after the other, find the same. No program stands here. -/
import Derived.Test.YtopjnoblhleimaaFw
namespace Go.Proofs.Ytopjnoblhleimaa

/-- Slots that were saved on the way, the last one ahead. -/
abbrev Notes := List (Nat × Nat)
abbrev Th := Nat × Notes
/-- What an instruction does at a place. -/
inductive Mv where
  | rune (out : Option Nat)
  | mat
  | go (o : Nat)
  | split (o a : Nat)
  | save (s o : Nat)
  | dead
def Mv.leaf : Mv → Bool
  | .rune _ => true
  | .mat => true
  | _ => false
abbrev Vis := Nat → Bool
def Vis.add (V : Vis) (i : Nat) : Vis := fun j => if j = i then true else V j
abbrev Wt := Nat → Vis
def Wt.lay (W : Wt) (a : Nat) (V : Vis) : Wt := fun b => if b = a then V else W b
theorem lay_same {W : Wt} {a : Nat} {V : Vis} : W.lay a V a = V := by simp [Wt.lay]
theorem lay_ne {W : Wt} {a b : Nat} {V : Vis} (h : b ≠ a) : W.lay a V b = W b := by simp [Wt.lay, h]
theorem lay_lay {W : Wt} {a : Nat} {V U : Vis} : (W.lay a V).lay a U = W.lay a U := by
  funext b; by_cases h : b = a <;> simp [Wt.lay, h]
theorem lay_comm {W : Wt} {a b : Nat} {V U : Vis} (h : a ≠ b) : (W.lay a V).lay b U = (W.lay b U).lay a V := by
  funext c
  simp only [Wt.lay]
  by_cases h1 : c = a
  · subst h1; simp [h]
  · simp [h1]
theorem lay_id {W : Wt} {a : Nat} : W.lay a (W a) = W := by
  funext b; by_cases h : b = a
  · subst h; simp [Wt.lay]
  · simp [Wt.lay, h]

section
variable (mv : Nat → Nat → Mv) (nxt : Nat → Option Nat) (len : Nat)

/-- Within one place: the ways in their order; those that take a rune or end. -/
inductive Eps (at' : Nat) : List Th → Vis → List Th → Vis → Prop
  | nil {V} : Eps at' [] V [] V
  | seen {i t st V L V'} (h : V i = true) (k : Eps at' st V L V') : Eps at' ((i, t) :: st) V L V'
  | leaf {i t st V L V'} (h : V i = false) (hl : (mv at' i).leaf = true) (k : Eps at' st (V.add i) L V') : Eps at' ((i, t) :: st) V ((i, t) :: L) V'
  | go {i t st V L V' o} (h : V i = false) (hm : mv at' i = .go o) (k : Eps at' ((o, t) :: st) (V.add i) L V') : Eps at' ((i, t) :: st) V L V'
  | split {i t st V L V' o a} (h : V i = false) (hm : mv at' i = .split o a) (k : Eps at' ((o, t) :: (a, t) :: st) (V.add i) L V') : Eps at' ((i, t) :: st) V L V'
  | save {i t st V L V' s o} (h : V i = false) (hm : mv at' i = .save s o) (k : Eps at' ((o, (s, at') :: t) :: st) (V.add i) L V') : Eps at' ((i, t) :: st) V L V'
  | dead {i t st V L V'} (h : V i = false) (hm : mv at' i = .dead) (k : Eps at' st (V.add i) L V') : Eps at' ((i, t) :: st) V L V'

/-- The threads of the next place. -/
def nexts (at' : Nat) (L : List Th) : List Th := L.filterMap fun x => match mv at' x.1 with | .rune (some o) => some (o, x.2) | _ => none
/-- The first that ends. -/
def first (at' : Nat) (L : List Th) : Option Notes := (L.find? fun x => match mv at' x.1 with | .mat => true | _ => false).map (·.2)

def Mv.isMat : Mv → Bool
  | .mat => true
  | _ => false
def Mv.outs : Mv → Option Nat
  | .rune o => o
  | _ => none
theorem first_eq (at' : Nat) (L : List Th) : first mv at' L = (L.find? fun x => (mv at' x.1).isMat).map (·.2) := by
  unfold first
  congr 2
theorem nexts_one (at' : Nat) (d : Th) : nexts mv at' [d] = ((mv at' d.1).outs.map fun o => (o, d.2)).toList := by
  unfold nexts
  simp only [List.filterMap_cons, List.filterMap_nil]
  cases h : mv at' d.1 with
  | rune o => cases o <;> simp [Mv.outs]
  | mat => simp [Mv.outs]
  | go o => simp [Mv.outs]
  | split o b => simp [Mv.outs]
  | save a o => simp [Mv.outs]
  | dead => simp [Mv.outs]
/-- Place after place. -/
inductive Pk : Nat → List Th → Wt → Option Notes → Wt → Prop
  | last {a E W L V'} (h : a = len) (k : Eps mv a E (W a) L V') : Pk a E W (first mv a L) (W.lay a V')
  | stop {a E W L V'} (h : a ≠ len) (hn : nxt a = none) (k : Eps mv a E (W a) L V') : Pk a E W none (W.lay a V')
  | next {a b E W L V' r W'} (h : a ≠ len) (hn : nxt a = some b) (k : Eps mv a E (W a) L V') (p : Pk b (nexts mv a L) W r W') : Pk a E W r (W'.lay a V')

/-- Going back on its steps: points still to be tried, with the notes of their ways. -/
inductive Dr : List (Nat × Nat × Notes) → Wt → Option Notes → Wt → Prop
  | nil {W} : Dr [] W none W
  | seen {a i t g W r W'} (h : W a i = true) (k : Dr g W r W') : Dr ((a, i, t) :: g) W r W'
  | found {a i t g W} (h : W a i = false) (hm : mv a i = .mat) (ha : a = len) : Dr ((a, i, t) :: g) W (some t) W
  | mat {a i t g W r W'} (h : W a i = false) (hm : mv a i = .mat) (ha : a ≠ len) (k : Dr g (W.lay a ((W a).add i)) r W') : Dr ((a, i, t) :: g) W r W'
  | rune {a b i t g W r W' o} (h : W a i = false) (hm : mv a i = .rune (some o)) (hl : a ≠ len) (hn : nxt a = some b) (k : Dr ((b, o, t) :: g) (W.lay a ((W a).add i)) r W') : Dr ((a, i, t) :: g) W r W'
  | miss {a i t g W r W'} (h : W a i = false) (hm : mv a i = .rune none ∨ ((∃ o, mv a i = .rune o) ∧ (a = len ∨ nxt a = none))) (k : Dr g (W.lay a ((W a).add i)) r W') : Dr ((a, i, t) :: g) W r W'
  | go {a i t g W r W' o} (h : W a i = false) (hm : mv a i = .go o) (k : Dr ((a, o, t) :: g) (W.lay a ((W a).add i)) r W') : Dr ((a, i, t) :: g) W r W'
  | split {a i t g W r W' o b} (h : W a i = false) (hm : mv a i = .split o b) (k : Dr ((a, o, t) :: (a, b, t) :: g) (W.lay a ((W a).add i)) r W') : Dr ((a, i, t) :: g) W r W'
  | save {a i t g W r W' s o} (h : W a i = false) (hm : mv a i = .save s o) (k : Dr ((a, o, (s, a) :: t) :: g) (W.lay a ((W a).add i)) r W') : Dr ((a, i, t) :: g) W r W'
  | dead {a i t g W r W'} (h : W a i = false) (hm : mv a i = .dead) (k : Dr g (W.lay a ((W a).add i)) r W') : Dr ((a, i, t) :: g) W r W'
variable {mv nxt len}

theorem Dr.uniq {g : List (Nat × Nat × Notes)} {W W1 W2 : Wt} {r q : Option Notes} (h : Dr mv nxt len g W r W1) : Dr mv nxt len g W q W2 → r = q := by
  induction h generalizing q W2 with
  | nil => intro k; cases k; rfl
  | seen h _ ih => intro k; cases k <;> simp_all; exact ih (by assumption)
  | found h hm ha => intro k; cases k <;> simp_all
  | mat h hm ha _ ih => intro k; cases k <;> simp_all; exact ih (by assumption)
  | rune h hm hl hn _ ih => intro k; cases k <;> simp_all; exact ih (by assumption)
  | miss h hm _ ih =>
    intro k
    cases k <;> try (simp_all; done)
    all_goals first | exact ih (by assumption) | (rcases hm with hm | ⟨⟨o, hm⟩, hm2⟩ <;> simp_all)
  | go h hm _ ih => intro k; cases k <;> simp_all; exact ih (by assumption)
  | split h hm _ ih => intro k; cases k <;> simp_all; exact ih (by assumption)
  | save h hm _ ih => intro k; cases k <;> simp_all; exact ih (by assumption)
  | dead h hm _ ih => intro k; cases k <;> simp_all; exact ih (by assumption)

theorem Dr.app {g g2 : List (Nat × Nat × Notes)} {W W1 W2 : Wt} {r q : Option Notes} (h : Dr mv nxt len g W r W1) (hr : r = none) (k : Dr mv nxt len g2 W1 q W2) : Dr mv nxt len (g ++ g2) W q W2 := by
  induction h with
  | nil => exact k
  | seen h _ ih => exact .seen h (ih hr k)
  | found h hm ha => cases hr
  | mat h hm ha _ ih => exact .mat h hm ha (ih hr k)
  | rune h hm hl hn _ ih => exact .rune h hm hl hn (ih hr k)
  | miss h hm _ ih => exact .miss h hm (ih hr k)
  | go h hm _ ih => exact .go h hm (ih hr k)
  | split h hm _ ih => exact .split h hm (ih hr k)
  | save h hm _ ih => exact .save h hm (ih hr k)
  | dead h hm _ ih => exact .dead h hm (ih hr k)
theorem Dr.appF {g : List (Nat × Nat × Notes)} {W W1 : Wt} {r : Option Notes} (h : Dr mv nxt len g W r W1) {t : Notes} (hr : r = some t) (g2 : List (Nat × Nat × Notes)) : Dr mv nxt len (g ++ g2) W r W1 := by
  induction h with
  | nil => cases hr
  | seen h _ ih => exact .seen h (ih hr)
  | found h hm ha => exact .found h hm ha
  | mat h hm ha _ ih => exact .mat h hm ha (ih hr)
  | rune h hm hl hn _ ih => exact .rune h hm hl hn (ih hr)
  | miss h hm _ ih => exact .miss h hm (ih hr)
  | go h hm _ ih => exact .go h hm (ih hr)
  | split h hm _ ih => exact .split h hm (ih hr)
  | save h hm _ ih => exact .save h hm (ih hr)
  | dead h hm _ ih => exact .dead h hm (ih hr)

theorem Eps.app {a : Nat} {s1 s2 L1 L2 : List Th} {V V1 V2 : Vis} (h : Eps mv a s1 V L1 V1) (k : Eps mv a s2 V1 L2 V2) : Eps mv a (s1 ++ s2) V (L1 ++ L2) V2 := by
  induction h with
  | nil => exact k
  | seen h _ ih => exact .seen h (ih k)
  | leaf h hl _ ih => exact .leaf h hl (ih k)
  | go h hm _ ih => exact .go h hm (ih k)
  | split h hm _ ih => exact .split h hm (ih k)
  | save h hm _ ih => exact .save h hm (ih k)
  | dead h hm _ ih => exact .dead h hm (ih k)
theorem Eps.cut {a : Nat} {s L : List Th} {V V' : Vis} (h : Eps mv a s V L V') : ∀ {s1 s2 : List Th}, s = s1 ++ s2 → ∃ L1 L2 V1, L = L1 ++ L2 ∧ Eps mv a s1 V L1 V1 ∧ Eps mv a s2 V1 L2 V' := by
  induction h with
  | nil => intro s1 s2 hs; obtain ⟨rfl, rfl⟩ := List.append_eq_nil_iff.1 hs.symm; exact ⟨[], [], _, rfl, .nil, .nil⟩
  | @seen i t st V L V' h k ih =>
    intro s1 s2 hs
    cases s1 with
    | nil => cases hs; exact ⟨[], _, _, rfl, .nil, .seen h k⟩
    | cons x s1 => cases hs; obtain ⟨L1, L2, V1, e, h1, h2⟩ := ih rfl; exact ⟨L1, L2, V1, e, .seen h h1, h2⟩
  | @leaf i t st V L V' h hl k ih =>
    intro s1 s2 hs
    cases s1 with
    | nil => cases hs; exact ⟨[], _, _, rfl, .nil, .leaf h hl k⟩
    | cons x s1 => cases hs; obtain ⟨L1, L2, V1, e, h1, h2⟩ := ih rfl; exact ⟨(i, t) :: L1, L2, V1, by rw [e]; rfl, .leaf h hl h1, h2⟩
  | @go i t st V L V' o h hm k ih =>
    intro s1 s2 hs
    cases s1 with
    | nil => cases hs; exact ⟨[], _, _, rfl, .nil, .go h hm k⟩
    | cons x s1 => cases hs; obtain ⟨L1, L2, V1, e, h1, h2⟩ := ih (s1 := (o, t) :: s1) rfl; exact ⟨L1, L2, V1, e, .go h hm h1, h2⟩
  | @split i t st V L V' o b h hm k ih =>
    intro s1 s2 hs
    cases s1 with
    | nil => cases hs; exact ⟨[], _, _, rfl, .nil, .split h hm k⟩
    | cons x s1 => cases hs; obtain ⟨L1, L2, V1, e, h1, h2⟩ := ih (s1 := (o, t) :: (b, t) :: s1) rfl; exact ⟨L1, L2, V1, e, .split h hm h1, h2⟩
  | @save i t st V L V' s o h hm k ih =>
    intro s1 s2 hs
    cases s1 with
    | nil => cases hs; exact ⟨[], _, _, rfl, .nil, .save h hm k⟩
    | cons x s1 => cases hs; obtain ⟨L1, L2, V1, e, h1, h2⟩ := ih (s1 := (o, (s, a) :: t) :: s1) rfl; exact ⟨L1, L2, V1, e, .save h hm h1, h2⟩
  | @dead i t st V L V' h hm k ih =>
    intro s1 s2 hs
    cases s1 with
    | nil => cases hs; exact ⟨[], _, _, rfl, .nil, .dead h hm k⟩
    | cons x s1 => cases hs; obtain ⟨L1, L2, V1, e, h1, h2⟩ := ih rfl; exact ⟨L1, L2, V1, e, .dead h hm h1, h2⟩
theorem nexts_app (a : Nat) (L1 L2 : List Th) : nexts mv a (L1 ++ L2) = nexts mv a L1 ++ nexts mv a L2 := by simp [nexts]
theorem first_app (a : Nat) (L1 L2 : List Th) : first mv a (L1 ++ L2) = (first mv a L1).or (first mv a L2) := by
  simp only [first, List.find?_append]
  cases List.find? _ L1 <;> simp
/-- What lies ahead of a place plays no part. -/
theorem Pk.frame (hup : ∀ a b, nxt a = some b → a < b) {a : Nat} {E : List Th} {W W' : Wt} {r : Option Notes} (h : Pk mv nxt len a E W r W') : ∀ {c : Nat}, c < a → ∀ V, Pk mv nxt len a E (W.lay c V) r (W'.lay c V) := by
  induction h with
  | last h k => intro c hc V; rw [← lay_comm (by omega)]; exact .last h (by rw [lay_ne (by omega)]; exact k)
  | stop h hn k => intro c hc V; rw [← lay_comm (by omega)]; exact .stop h hn (by rw [lay_ne (by omega)]; exact k)
  | next h hn k p ih => intro c hc V; have := hup _ _ hn; rw [← lay_comm (by omega)]; exact .next h hn (by rw [lay_ne (by omega)]; exact k) (ih (by omega) V)
/-- A row of threads, in two parts. -/
theorem Pk.cut (hup : ∀ a b, nxt a = some b → a < b) {a : Nat} {E : List Th} {W W' : Wt} {r : Option Notes} (h : Pk mv nxt len a E W r W') : ∀ {E1 E2 : List Th}, E = E1 ++ E2 → ∃ r1 W1, Pk mv nxt len a E1 W r1 W1 ∧ (r1 = none → Pk mv nxt len a E2 W1 r W') ∧ (∀ t, r1 = some t → r = some t) := by
  induction h with
  | @last a E W L V' h k =>
    intro E1 E2 hE
    obtain ⟨L1, L2, V1, e, h1, h2⟩ := k.cut hE
    refine ⟨_, _, .last h h1, fun hr => ?_, fun t ht => ?_⟩
    · rw [e, first_app, hr]
      have := Pk.last (nxt := nxt) (len := len) (W := W.lay a V1) (E := E2) h (by rw [lay_same]; exact h2)
      rw [lay_lay] at this
      simpa using this
    · rw [e, first_app, ht]; rfl
  | @stop a E W L V' h hn k =>
    intro E1 E2 hE
    obtain ⟨L1, L2, V1, e, h1, h2⟩ := k.cut hE
    refine ⟨_, _, .stop h hn h1, fun hr => ?_, fun t ht => by cases ht⟩
    have := Pk.stop (W := W.lay a V1) (E := E2) h hn (by rw [lay_same]; exact h2)
    rw [lay_lay] at this
    exact this
  | @next a b E W L V' r W' h hn k p ih =>
    intro E1 E2 hE
    obtain ⟨L1, L2, V1, e, h1, h2⟩ := k.cut hE
    obtain ⟨r1, W1, p1, p2, p3⟩ := ih (by rw [e, nexts_app])
    refine ⟨r1, _, .next h hn h1 p1, fun hr => ?_, p3⟩
    have hab := hup _ _ hn
    have := Pk.next (W := W1.lay a V1) (E := E2) h hn (by rw [lay_same]; exact h2) ((p2 hr).frame hup hab V1)
    rw [lay_lay] at this
    exact this
/-- The way of one place, carried out with what comes behind it at once. -/
def here (a : Nat) (st : List Th) : List (Nat × Nat × Notes) := st.map fun x => (a, x.1, x.2)
theorem eps_deep (hup : ∀ a b, nxt a = some b → a < b) {a b : Nat} (ha : a ≠ len) (hn : nxt a = some b) (ih : ∀ {E : List Th} {W W' : Wt} {r : Option Notes}, Pk mv nxt len b E W r W' → ∃ W2, Dr mv nxt len (here b E) W r W2 ∧ (r = none → W2 = W'))
    {st L : List Th} {V V' : Vis} (h : Eps mv a st V L V') : ∀ {W W' : Wt} {r : Option Notes}, Pk mv nxt len b (nexts mv a L) W r W' → ∃ W2, Dr mv nxt len (here a st) (W.lay a V) r W2 ∧ (r = none → W2 = W'.lay a V') := by
  have hab := hup _ _ hn
  have keep : ∀ {W : Wt} {V : Vis} {i : Nat}, (W.lay a V).lay a (((W.lay a V) a).add i) = W.lay a (V.add i) := by intro W V i; rw [lay_same, lay_lay]
  induction h with
  | @nil V =>
    intro W W' r p
    obtain ⟨W2, h1, h2⟩ := ih (p.frame hup hab V)
    have hu : r = none := by
      have := Dr.uniq h1 (.nil : Dr mv nxt len [] _ none _)
      exact this
    subst hu
    refine ⟨_, .nil, fun _ => ?_⟩
    have h3 := h2 rfl
    have h1' : Dr mv nxt len [] (W.lay a V) none W2 := h1
    cases h1'
    exact h3
  | @seen i t st V L V' h k ih2 =>
    intro W W' r p
    obtain ⟨W2, h1, h2⟩ := ih2 p
    exact ⟨W2, .seen (by rw [lay_same]; exact h) h1, h2⟩
  | @leaf i t st V L V' h hl k ih2 =>
    intro W W' r p
    have hw : (W.lay a V) a i = false := by rw [lay_same]; exact h
    cases hm : mv a i with
    | rune o =>
      cases o with
      | none =>
        have e : nexts mv a ((i, t) :: L) = nexts mv a L := by simp [nexts, hm]
        rw [e] at p
        obtain ⟨W2, h1, h2⟩ := ih2 p
        exact ⟨W2, .miss hw (.inl hm) (by rw [keep]; exact h1), h2⟩
      | some o =>
        have e : nexts mv a ((i, t) :: L) = [(o, t)] ++ nexts mv a L := by simp [nexts, hm]
        rw [e] at p
        obtain ⟨r1, W1, p1, p2, p3⟩ := p.cut hup rfl
        obtain ⟨W3, d1, d2⟩ := ih (p1.frame hup hab (V.add i))
        cases r1 with
        | some u =>
          have hr := p3 u rfl
          subst hr
          refine ⟨W3, .rune hw hm ha hn ?_, fun h => by cases h⟩
          rw [keep]
          exact Dr.appF d1 rfl (here a st)
        | none =>
          have hw3 := d2 rfl
          subst hw3
          obtain ⟨W2, h1, h2⟩ := ih2 (p2 rfl)
          refine ⟨W2, .rune hw hm ha hn ?_, h2⟩
          rw [keep]
          exact Dr.app d1 rfl h1
    | mat =>
      have e : nexts mv a ((i, t) :: L) = nexts mv a L := by simp [nexts, hm]
      rw [e] at p
      obtain ⟨W2, h1, h2⟩ := ih2 p
      exact ⟨W2, .mat hw hm ha (by rw [keep]; exact h1), h2⟩
    | go o => rw [hm] at hl; cases hl
    | split o b => rw [hm] at hl; cases hl
    | save s o => rw [hm] at hl; cases hl
    | dead => rw [hm] at hl; cases hl
  | go h hm k ih2 => intro W W' r p; obtain ⟨W2, h1, h2⟩ := ih2 p; exact ⟨W2, .go (by rw [lay_same]; exact h) hm (by rw [keep]; exact h1), h2⟩
  | split h hm k ih2 => intro W W' r p; obtain ⟨W2, h1, h2⟩ := ih2 p; exact ⟨W2, .split (by rw [lay_same]; exact h) hm (by rw [keep]; exact h1), h2⟩
  | save h hm k ih2 => intro W W' r p; obtain ⟨W2, h1, h2⟩ := ih2 p; exact ⟨W2, .save (by rw [lay_same]; exact h) hm (by rw [keep]; exact h1), h2⟩
  | dead h hm k ih2 => intro W W' r p; obtain ⟨W2, h1, h2⟩ := ih2 p; exact ⟨W2, .dead (by rw [lay_same]; exact h) hm (by rw [keep]; exact h1), h2⟩
theorem eps_stop {a : Nat} (ha : a ≠ len) (hn : nxt a = none) {st L : List Th} {V V' : Vis} (h : Eps mv a st V L V') : ∀ {W : Wt}, Dr mv nxt len (here a st) (W.lay a V) none (W.lay a V') := by
  have keep : ∀ {W : Wt} {V : Vis} {i : Nat}, (W.lay a V).lay a (((W.lay a V) a).add i) = W.lay a (V.add i) := by intro W V i; rw [lay_same, lay_lay]
  induction h with
  | nil => intro W; exact .nil
  | seen h k ih => intro W; exact .seen (by rw [lay_same]; exact h) ih
  | @leaf i t st V L V' h hl k ih =>
    intro W
    cases hm : mv a i with
    | rune o => exact .miss (by rw [lay_same]; exact h) (.inr ⟨⟨o, hm⟩, .inr hn⟩) (by rw [keep]; exact ih)
    | mat => exact .mat (by rw [lay_same]; exact h) hm ha (by rw [keep]; exact ih)
    | go o => rw [hm] at hl; cases hl
    | split o b => rw [hm] at hl; cases hl
    | save s o => rw [hm] at hl; cases hl
    | dead => rw [hm] at hl; cases hl
  | go h hm k ih => intro W; exact .go (by rw [lay_same]; exact h) hm (by rw [keep]; exact ih)
  | split h hm k ih => intro W; exact .split (by rw [lay_same]; exact h) hm (by rw [keep]; exact ih)
  | save h hm k ih => intro W; exact .save (by rw [lay_same]; exact h) hm (by rw [keep]; exact ih)
  | dead h hm k ih => intro W; exact .dead (by rw [lay_same]; exact h) hm (by rw [keep]; exact ih)
theorem eps_last {a : Nat} (ha : a = len) {st L : List Th} {V V' : Vis} (h : Eps mv a st V L V') : ∀ {W : Wt}, ∃ W2, Dr mv nxt len (here a st) (W.lay a V) (first mv a L) W2 ∧ (first mv a L = none → W2 = W.lay a V') := by
  have keep : ∀ {W : Wt} {V : Vis} {i : Nat}, (W.lay a V).lay a (((W.lay a V) a).add i) = W.lay a (V.add i) := by intro W V i; rw [lay_same, lay_lay]
  induction h with
  | nil => intro W; exact ⟨_, .nil, fun _ => rfl⟩
  | seen h k ih => intro W; obtain ⟨W2, h1, h2⟩ := ih (W := W); exact ⟨W2, .seen (by rw [lay_same]; exact h) h1, h2⟩
  | @leaf i t st V L V' h hl k ih =>
    intro W
    cases hm : mv a i with
    | rune o =>
      obtain ⟨W2, h1, h2⟩ := ih (W := W)
      have e : first mv a ((i, t) :: L) = first mv a L := by simp [first, hm]
      rw [e]
      exact ⟨W2, .miss (by rw [lay_same]; exact h) (.inr ⟨⟨o, hm⟩, .inl ha⟩) (by rw [keep]; exact h1), h2⟩
    | mat =>
      have e : first mv a ((i, t) :: L) = some t := by simp [first, hm]
      rw [e]
      exact ⟨_, .found (by rw [lay_same]; exact h) hm ha, fun h => by cases h⟩
    | go o => rw [hm] at hl; cases hl
    | split o b => rw [hm] at hl; cases hl
    | save s o => rw [hm] at hl; cases hl
    | dead => rw [hm] at hl; cases hl
  | go h hm k ih => intro W; obtain ⟨W2, h1, h2⟩ := ih (W := W); exact ⟨W2, .go (by rw [lay_same]; exact h) hm (by rw [keep]; exact h1), h2⟩
  | split h hm k ih => intro W; obtain ⟨W2, h1, h2⟩ := ih (W := W); exact ⟨W2, .split (by rw [lay_same]; exact h) hm (by rw [keep]; exact h1), h2⟩
  | save h hm k ih => intro W; obtain ⟨W2, h1, h2⟩ := ih (W := W); exact ⟨W2, .save (by rw [lay_same]; exact h) hm (by rw [keep]; exact h1), h2⟩
  | dead h hm k ih => intro W; obtain ⟨W2, h1, h2⟩ := ih (W := W); exact ⟨W2, .dead (by rw [lay_same]; exact h) hm (by rw [keep]; exact h1), h2⟩
/-- Both find the same. -/
theorem pk_dr (hup : ∀ a b, nxt a = some b → a < b) (hle : ∀ a b, nxt a = some b → b ≤ len) : ∀ (n a : Nat), len + 1 - a = n → ∀ {E : List Th} {W W' : Wt} {r : Option Notes}, Pk mv nxt len a E W r W' → ∃ W2, Dr mv nxt len (here a E) W r W2 ∧ (r = none → W2 = W') := by
  intro n
  induction n using Nat.strongRecOn with
  | _ n ih =>
    intro a hn E W W' r p
    cases p with
    | last h k =>
      obtain ⟨W2, h1, h2⟩ := eps_last (nxt := nxt) h k (W := W)
      rw [lay_id] at h1
      exact ⟨W2, h1, h2⟩
    | stop h hs k =>
      have := eps_stop h hs k (W := W)
      rw [lay_id] at this
      exact ⟨_, this, fun _ => rfl⟩
    | next h hs k p =>
      have h1 := hup _ _ hs
      have h2 := hle _ _ hs
      obtain ⟨W2, h3, h4⟩ := eps_deep hup h hs (fun q => ih _ (by omega) _ rfl q) k p (W := W)
      rw [lay_id] at h3
      exact ⟨W2, h3, h4⟩
end
end Go.Proofs.Ytopjnoblhleimaa
