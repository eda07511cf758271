/- Code that grows: plain. -/
import Derived.Test.YtgboffefbpligaaPb
namespace Go.Proofs.Ytgboffefbpligaa
open Go.W Go.RowKit
set_option linter.unusedVariables false
set_option linter.unusedSimpArgs false

abbrev Iv := In × Value
def Iv.cells (e : Iv) : List Value := [iv e.1.op, iv e.1.out, iv e.1.alt, iv e.1.arg, e.2]
def flat (es : List Iv) : List Value := es.flatMap Iv.cells
theorem flat_cons (e : Iv) (es : List Iv) : flat (e :: es) = e.cells ++ flat es := rfl
theorem flat_append (a b : List Iv) : flat (a ++ b) = flat a ++ flat b := by unfold flat; rw [List.flatMap_append]
theorem flat_length (es : List Iv) : (flat es).length = es.length * 5 := by
  induction es with
  | nil => rfl
  | cons e es ih => rw [flat_cons, List.length_append, ih, List.length_cons]; show 5 + es.length * 5 = _; omega
theorem flat_get {es : List Iv} {k j : Nat} (hk : k < es.length) (hj : j < 5) : (flat es)[k * 5 + j]? = (Iv.cells es[k])[j]? := by
  induction es generalizing k with
  | nil => simp at hk
  | cons e es ih =>
    rw [flat_cons]
    cases k with
    | zero => rw [List.getElem?_append_left (by show 0 * 5 + j < 5; omega)]; simp
    | succ k =>
      rw [List.getElem?_append_right (by show 5 ≤ _; omega)]
      simp only [List.getElem_cons_succ]
      rw [← ih (by simpa using hk)]
      congr 1
      show (k + 1) * 5 + j - 5 = _
      omega
def Iv.setOut (o : Int) (e : Iv) : Iv := (⟨e.1.op, o, e.1.alt, e.1.arg, e.1.rs⟩, e.2)
def Iv.setAlt (o : Int) (e : Iv) : Iv := (⟨e.1.op, e.1.out, o, e.1.arg, e.1.rs⟩, e.2)
theorem modify_cons_succ {α} (f : α → α) (a : α) (l : List α) (k : Nat) : (a :: l).modify (k + 1) f = a :: l.modify k f := by simp [List.modify]
theorem flat_set {es : List Iv} {k j : Nat} {v : Value} {f : Iv → Iv} (hf : ∀ e : Iv, (f e).cells = e.cells.set j v) (hk : k < es.length) (hj : j < 5) : (flat es).set (k * 5 + j) v = flat (es.modify k f) := by
  induction es generalizing k with
  | nil => simp at hk
  | cons e es ih =>
    cases k with
    | zero =>
      rw [flat_cons, List.set_append_left _ _ (by show 0 * 5 + j < 5; omega), show (e :: es).modify 0 f = f e :: es from by simp [List.modify], flat_cons, hf, Nat.zero_mul, Nat.zero_add]
    | succ k =>
      rw [flat_cons, List.set_append_right _ _ (by show 5 ≤ _; omega), modify_cons_succ, flat_cons, ← ih (by simpa using hk)]
      congr 2
      show (k + 1) * 5 + j - 5 = _
      omega
theorem flat_setOut {es : List Iv} {k : Nat} (hk : k < es.length) (o : Int) : (flat es).set (k * 5 + 1) (iv o) = flat (es.modify k (Iv.setOut o)) := flat_set (fun _ => rfl) hk (by omega)
theorem flat_setAlt {es : List Iv} {k : Nat} (hk : k < es.length) (o : Int) : (flat es).set (k * 5 + 2) (iv o) = flat (es.modify k (Iv.setAlt o)) := flat_set (fun _ => rfl) hk (by omega)

/-! ### pieces -/
def Has (l : List In) (a : Nat) (k : List In) : Prop := ∀ i (h : i < k.length), l[a + i]? = some k[i]
theorem Has.left {l : List In} {a : Nat} {k k' : List In} (h : Has l a (k ++ k')) : Has l a k := fun i hi => by
  rw [h i (by rw [List.length_append]; omega), List.getElem_append_left hi]
theorem Has.right {l : List In} {a : Nat} {k k' : List In} (h : Has l a (k ++ k')) : Has l (a + k.length) k' := fun i hi => by
  rw [Nat.add_assoc, h (k.length + i) (by rw [List.length_append]; omega), List.getElem_append_right (by omega)]
  simp
theorem Has.one {l : List In} {a : Nat} {c : In} (h : Has l a [c]) : l[a]? = some c := h 0 (by simp)
def Codes (x : Rx) (a : Nat) (k : List In) : Prop := ∀ l, Has l a k → Blk l x a (a + k.length)
theorem blks_one {l : List In} {x : Rx} {a b : Nat} : Blks l [x] a b ↔ Blk l x a b := by
  rw [Blks]
  constructor
  · rintro ⟨m, h1, h2⟩; rw [Blks] at h2; subst h2; exact h1
  · exact fun h => ⟨b, h, by rw [Blks]⟩
/-- A piece some of whose places have been written over. -/
def Pat (l : List In) (a : Nat) (k : List In) (js : List Nat) (f : Nat → In → In) : Prop := ∀ i (h : i < k.length), l[a + i]? = some (if a + i ∈ js then f (a + i) k[i] else k[i])
theorem Pat.left {l : List In} {a : Nat} {k k' : List In} {js js' : List Nat} {f : Nat → In → In} (h : Pat l a (k ++ k') (js ++ js') f) (hj : ∀ p, p ∈ js' → a + k.length ≤ p) : Pat l a k js f := fun i hi => by
  rw [h i (by rw [List.length_append]; omega), List.getElem_append_left hi]
  have : a + i ∉ js' := fun hm => by have := hj _ hm; omega
  simp [List.mem_append, this]
theorem Pat.right {l : List In} {a : Nat} {k k' : List In} {js js' : List Nat} {f : Nat → In → In} (h : Pat l a (k ++ k') (js ++ js') f) (hj : ∀ p, p ∈ js → p < a + k.length) : Pat l (a + k.length) k' js' f := fun i hi => by
  rw [Nat.add_assoc, h (k.length + i) (by rw [List.length_append]; omega), List.getElem_append_right (by omega)]
  have : a + (k.length + i) ∉ js := fun hm => by have := hj _ hm; omega
  simp [List.mem_append, this]
theorem Pat.has {l : List In} {a : Nat} {k : List In} {f : Nat → In → In} (h : Pat l a k [] f) : Has l a k := fun i hi => by rw [h i hi]; simp
theorem Pat.clean {l : List In} {a : Nat} {k : List In} {js : List Nat} {f : Nat → In → In} (h : Pat l a k js f) (hj : ∀ p, p ∈ js → p < a ∨ a + k.length ≤ p) : Has l a k := fun i hi => by
  rw [h i hi, if_neg (fun hm => by have := hj _ hm; omega)]

/-! ### a choice -/
def outTo (e : Nat) : Nat → In → In := fun _ c => ⟨c.op, e, c.alt, c.arg, c.rs⟩
structure AltPre (ks : List Rx) (a : Nat) (k : List In) (js : List Nat) : Prop where
  at' : ∀ p, p ∈ js → a ≤ p ∧ p < a + k.length
  blk : ∀ l e, Pat l a k js (outTo e) → ∀ rest, rest ≠ [] → BlkA l rest (a + k.length) e → BlkA l (ks ++ rest) a e
theorem AltPre.nil (a : Nat) : AltPre [] a [] [] := ⟨fun p h => (by cases h), fun l e _ rest _ h => h⟩
theorem AltPre.snoc {ks : List Rx} {a : Nat} {k kx : List In} {js : List Nat} {x : Rx} {o : Int} {m' : Nat} (h : AltPre ks a k js) (hx : Codes x (a + k.length + 1) kx) (hm : m' = a + k.length + 1 + kx.length) :
    AltPre (ks ++ [x]) a (k ++ ([In.sp false (a + k.length + 1) (m' + 1)] ++ (kx ++ [⟨10, o, 0, 0, []⟩]))) (js ++ [m']) := by
  subst hm
  refine ⟨fun p hp => ?_, fun l e hp rest hr hb => ?_⟩
  · simp only [List.length_append, List.length_cons, List.length_nil]
    rcases List.mem_append.1 hp with hp | hp
    · have := h.at' p hp; omega
    · rw [List.mem_singleton] at hp; omega
  · have hl : (k ++ ([In.sp false (a + k.length + 1) (a + k.length + 1 + kx.length + 1)] ++ (kx ++ [(⟨10, o, 0, 0, []⟩ : In)]))).length = k.length + 1 + kx.length + 1 := by simp only [List.length_append, List.length_cons, List.length_nil]; omega
    rw [hl] at hb
    have p1 := hp.left (fun p hp => by rw [List.mem_singleton] at hp; omega)
    have p2 := hp.right (fun p hp => (h.at' p hp).2)
    have q1 := (Pat.left (js := []) (js' := [a + k.length + 1 + kx.length]) p2 (fun p hp => by rw [List.mem_singleton] at hp; simp only [List.length_cons, List.length_nil]; omega)).has.one
    have q2 := Pat.right (js := []) (js' := [a + k.length + 1 + kx.length]) p2 (fun p hp => by cases hp)
    simp only [List.length_cons, List.length_nil, Nat.zero_add] at q2
    have q3 := (Pat.left (js := []) (js' := [a + k.length + 1 + kx.length]) q2 (fun p hp => by rw [List.mem_singleton] at hp; omega)).has
    have q4 := Pat.right (js := []) (js' := [a + k.length + 1 + kx.length]) q2 (fun p hp => by cases hp)
    have q5 := q4 0 (by simp)
    rw [if_pos (by simp)] at q5
    rw [List.append_assoc]
    refine h.blk l e p1 _ (by simp) ?_
    show BlkA l (x :: rest) _ _
    rw [BlkA]
    refine ⟨fun h => (hr h).elim, fun _ => ⟨_, q1, hx l q3, q5, ?_⟩⟩
    have : a + (k.length + 1 + kx.length + 1) = a + k.length + 1 + kx.length + 1 := by omega
    rw [this] at hb
    exact hb
theorem AltPre.done {ks : List Rx} {a : Nat} {k kx : List In} {js : List Nat} {x : Rx} (h : AltPre ks a k js) (hx : Codes x (a + k.length) kx) {l : List In} (hp : Pat l a (k ++ kx) js (outTo (a + k.length + kx.length))) : BlkA l (ks ++ [x]) a (a + k.length + kx.length) := by
  have hp' : Pat l a (k ++ kx) (js ++ []) (outTo (a + k.length + kx.length)) := by rw [List.append_nil]; exact hp
  refine h.blk l _ (hp'.left (fun p hp => by cases hp)) [x] (by simp) ?_
  rw [BlkA]
  exact ⟨fun _ => hx l (hp'.right (fun p hp => (h.at' p hp).2)).has, fun h => (h rfl).elim⟩

/-! ### a repeat -/
def turnTo (z : Bool) (e : Nat) : Nat → In → In := fun p c => ⟨c.op, if z then (e : Int) else (p : Int) + 1, if z then (p : Int) + 1 else (e : Int), c.arg, c.rs⟩
theorem rep_snoc {B : Nat → Nat → Prop} : ∀ {j a m m'}, Rep B j a m → B m m' → Rep B (j + 1) a m'
  | 0, a, m, m', h, hb => by cases h; exact ⟨m', hb, rfl⟩
  | j + 1, a, m, m', ⟨k, h1, h2⟩, hb => ⟨k, h1, rep_snoc h2 hb⟩
def RepC (ks : List Rx) (j a : Nat) (k : List In) : Prop := ∀ l, Has l a k → Rep (Blks l ks) j a (a + k.length)
theorem RepC.nil (ks : List Rx) (a : Nat) : RepC ks 0 a [] := fun l _ => rfl
theorem RepC.snoc {x : Rx} {j a : Nat} {k kx : List In} (h : RepC [x] j a k) (hx : Codes x (a + k.length) kx) : RepC [x] (j + 1) a (k ++ kx) := fun l hl => by
  rw [List.length_append, ← Nat.add_assoc]
  exact rep_snoc (h l hl.left) (blks_one.2 (hx l hl.right))
theorem RepC.stop {x : Rx} {j a : Nat} {k : List In} (h : RepC [x] j a k) (hx : Codes x (a + k.length) []) (i : Nat) : RepC [x] (j + i) a k := by
  induction i with
  | zero => exact h
  | succ i ih => have := ih.snoc hx; rw [List.append_nil] at this; exact this
theorem opt_snoc {l : List In} {z : Bool} {B : Nat → Nat → Prop} {e r a : Nat} (h : Opt l z B e r a) : Opt l z B e (0 + r) a := by rw [Nat.zero_add]; exact h
structure OptPre (z : Bool) (x : Rx) (j a : Nat) (k : List In) (js : List Nat) : Prop where
  at' : ∀ p, p ∈ js → a ≤ p ∧ p < a + k.length
  blk : ∀ l e, Pat l a k js (turnTo z e) → ∀ r, Opt l z (Blks l [x]) e r (a + k.length) → Opt l z (Blks l [x]) e (j + r) a
theorem OptPre.nil (z : Bool) (x : Rx) (a : Nat) : OptPre z x 0 a [] [] := ⟨fun p h => (by cases h), fun l e _ r h => by rw [Nat.zero_add]; exact h⟩
theorem turn_sp (z : Bool) (p e : Nat) (o al : Int) : turnTo z e p ⟨3, o, al, 0, []⟩ = In.sp z (p + 1) e := by unfold turnTo In.sp; cases z <;> rfl
theorem OptPre.snoc {z : Bool} {x : Rx} {j a : Nat} {k kx : List In} {js : List Nat} {o al : Int} {m : Nat} (h : OptPre z x j a k js) (hm : m = a + k.length) (hx : Codes x (m + 1) kx) :
    OptPre z x (j + 1) a (k ++ ([⟨3, o, al, 0, []⟩] ++ kx)) (js ++ [m]) := by
  subst hm
  refine ⟨fun p hp => ?_, fun l e hp r hb => ?_⟩
  · simp only [List.length_append, List.length_cons, List.length_nil]
    rcases List.mem_append.1 hp with hp | hp
    · have := h.at' p hp; omega
    · rw [List.mem_singleton] at hp; omega
  · have hl : (k ++ ([(⟨3, o, al, 0, []⟩ : In)] ++ kx)).length = k.length + 1 + kx.length := by simp only [List.length_append, List.length_cons, List.length_nil]; omega
    rw [hl] at hb
    have p1 := hp.left (fun p hp => by rw [List.mem_singleton] at hp; omega)
    have p2 := hp.right (fun p hp => (h.at' p hp).2)
    have q1 := p2 0 (by simp)
    rw [if_pos (by simp)] at q1
    have q2 := Pat.right (js := [a + k.length]) (js' := []) (k := [(⟨3, o, al, 0, []⟩ : In)]) (k' := kx) (by simpa using p2) (fun p hp => by rw [List.mem_singleton] at hp; simp only [List.length_cons, List.length_nil]; omega)
    rw [show j + 1 + r = j + (r + 1) from by omega]
    refine h.blk l e p1 _ ⟨_, q1.trans (congrArg some (turn_sp z _ e o al)), blks_one.2 (hx l q2.has), ?_⟩
    rw [show a + k.length + 1 + kx.length = a + (k.length + 1 + kx.length) from by omega]
    exact hb

/-! ### writing over -/
def patch (f : Nat → Iv → Iv) (js : List Nat) (es : List Iv) : List Iv := js.foldl (fun l p => l.modify p (f p)) es
theorem patch_length (f : Nat → Iv → Iv) (js : List Nat) (es : List Iv) : (patch f js es).length = es.length := by
  induction js generalizing es with
  | nil => rfl
  | cons p js ih => show (patch f js _).length = _; rw [ih, List.length_modify]
theorem patch_get {f : Nat → Iv → Iv} (hf : ∀ p e, f p (f p e) = f p e) (js : List Nat) (es : List Iv) (q : Nat) : (patch f js es)[q]? = (es[q]?).map (fun e => if q ∈ js then f q e else e) := by
  induction js generalizing es with
  | nil => simp [patch]
  | cons p js ih =>
    show (patch f js (es.modify p (f p)))[q]? = _
    rw [ih, List.getElem?_modify]
    by_cases e : p = q
    · subst e
      cases h : es[p]? with
      | none => simp
      | some v => simp only [Option.map_some, if_true, List.mem_cons, true_or]; split <;> simp [hf]
    · cases h : es[q]? with
      | none => simp [e]
      | some v => simp [e, show ¬ q = p from fun h => e h.symm]
theorem patch_snoc (f : Nat → Iv → Iv) (js : List Nat) (p : Nat) (es : List Iv) : patch f (js ++ [p]) es = (patch f js es).modify p (f p) := by unfold patch; rw [List.foldl_append]; rfl
def Iv.outTo (e : Nat) : Nat → Iv → Iv := fun p x => (Go.Proofs.Ytgboffefbpligaa.outTo e p x.1, x.2)
def Iv.turnTo (z : Bool) (e : Nat) : Nat → Iv → Iv := fun p x => (Go.Proofs.Ytgboffefbpligaa.turnTo z e p x.1, x.2)
theorem patch_tail {f : Nat → Iv → Iv} (hf : ∀ p e, f p (f p e) = f p e) {js : List Nat} {es new : List Iv} (hj : ∀ p, p ∈ js → es.length ≤ p) : ∃ new', patch f js (es ++ new) = es ++ new' ∧ new'.length = new.length ∧
    ∀ i (h : i < new.length), new'[i]? = some (if es.length + i ∈ js then f (es.length + i) new[i] else new[i]) := by
  refine ⟨(patch f js (es ++ new)).drop es.length, ?_, by simp [patch_length], fun i hi => ?_⟩
  · apply List.ext_getElem?
    intro q
    by_cases hq : q < es.length
    · rw [patch_get hf, List.getElem?_append_left hq, List.getElem?_append_left hq, if_neg_mem hj hq]
    · rw [List.getElem?_append_right (by omega), List.getElem?_drop, show es.length + (q - es.length) = q from by omega]
  · rw [List.getElem?_drop, patch_get hf, List.getElem?_append_right (by omega), show es.length + i - es.length = i from by omega, List.getElem?_eq_getElem hi]
    rfl
where
  if_neg_mem {f : Nat → Iv → Iv} {js : List Nat} {n q : Nat} {o : Option Iv} (hj : ∀ p, p ∈ js → n ≤ p) (hq : q < n) : o.map (fun e => if q ∈ js then f q e else e) = o := by
    rw [show (fun e => if q ∈ js then f q e else e) = id from funext fun e => if_neg (fun h => by have := hj q h; omega)]; simp
/-- What stands in a piece written over. -/
theorem pat_of {g : Nat → In → In} {f : Nat → Iv → Iv} (hg : ∀ p e, (f p e).1 = g p e.1) {a : Nat} {new new' : List Iv} {js : List Nat} (h1 : new'.length = new.length) (h2 : ∀ i (h : i < new.length), new'[i]? = some (if a + i ∈ js then f (a + i) new[i] else new[i])) {l : List In} (hl : Has l a (new'.map (·.1))) : Pat l a (new.map (·.1)) js g := fun i hi => by
  have hi' : i < new.length := by simpa using hi
  have hi2 : i < new'.length := by omega
  rw [hl i (by simpa using hi2)]
  have := h2 i hi'
  rw [List.getElem?_eq_getElem hi2, Option.some.injEq] at this
  simp only [List.getElem_map, this]
  split
  · rw [hg]
  · rfl
end Go.Proofs.Ytgboffefbpligaa
