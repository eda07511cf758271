/- Quo: part 2 of 5 of what the law rests on. -/
import Derived.Test.YtidpigbinpaaeaaGreatVkA
set_option linter.unusedSectionVars false
set_option linter.unusedSimpArgs false
set_option linter.unusedVariables false
namespace Go.Proofs.YtidpigbinpaaeaaGreat
open Go.RowKit Go.W
mutual
theorem CF : ∀ (x : Rx) (b : Int) (st st' : St), x.fine b st = some st' → Good x
  | .mk k r rs mn mx lz cp nm ks, b, st, st', h => by
    by_cases hc : st.1 + 1 ≤ 8194 ∧ (if (Rx.mk k r rs mn mx lz cp nm ks).kind = 7 then b + 1 else b) ≤ 250 ∧ NodeP (.mk k r rs mn mx lz cp nm ks) ∧ ((Rx.mk k r rs mn mx lz cp nm ks).kind = 7 → iZ (Rx.mk k r rs mn mx lz cp nm ks).cap (Rx.mk k r rs mn mx lz cp nm ks).name st.2)
    · rw [jN hc] at h
      refine ⟨hc.2.2.1, fun h7 => ?_, tD ks _ _ _ _ h⟩
      obtain ⟨h1, h2, -⟩ := hc.2.2.2 h7
      omega
    · rw [oO hc] at h; cases h
theorem tD : ∀ (l : List Rx) (k b : Int) (st st' : St), cY l k b st = some st' → ∀ x, x ∈ l → Good x
  | [], _, _, _, _, _, x, hx => by cases hx
  | y :: ys, k, b, st, st', h, x, hx => by
    rw [cY] at h
    cases hy : y.fine (b + if Brk y.kind k then 1 else 0) st with
    | none => rw [hy] at h; cases h
    | some s1 =>
      rw [hy] at h
      rcases List.mem_cons.1 hx with e | hx
      · rw [e]; exact CF y _ _ _ hy
      · exact tD ys _ _ _ _ h x hx
end
theorem Rx.Ok.good {x : Rx} (h : x.Ok) : Good x := by obtain ⟨st, h⟩ := h; exact CF _ _ _ _ h
theorem sV {l : List Rx} {k : Nat} (h : k < l.length) : gV (l.take (k + 1)) = gV (l.take k) + l[k].esz := by
  induction l generalizing k with
  | nil => simp at h
  | cons x xs ih =>
    cases k with
    | zero => simp [gV]
    | succ k =>
      have := ih (k := k) (by simpa using h)
      simp only [List.take_succ_cons, gV, List.getElem_cons_succ]
      omega
theorem HU {l : List Rx} (h : l.length = 1) : gV l = (l[0]'(by omega)).esz := by
  match l, h with
  | [x], _ => simp [gV]
theorem esz1 {t : Rx} (h : t.kind = 1) : (t.esz : Int) = 0 := by rw [Rx.esz_eq, if_pos h]; rfl
theorem esz4 {t : Rx} (h : t.kind = 4) : (t.esz : Int) = gV t.kids := by rw [Rx.esz_eq, if_neg (by omega), if_pos h]
theorem esz5 {t : Rx} (h : t.kind = 5) (hg : 1 ≤ t.kids.length) : (t.esz : Int) = gV t.kids + 2 * ((t.kids.length : Int) - 1) := by rw [Rx.esz_eq, if_neg (by omega), if_neg (by omega), if_pos h]; omega
theorem esz7 {t : Rx} (h : t.kind = 7) : (t.esz : Int) = gV t.kids + 2 := by rw [Rx.esz_eq, if_neg (by omega), if_neg (by omega), if_neg (by omega), if_neg (by omega), if_pos h]; rfl
theorem esz6a {t : Rx} (h : t.kind = 6) (h0 : 0 ≤ t.min) (hm : t.max = -1) : (t.esz : Int) = t.min * gV t.kids + gV t.kids + 2 := by
  rw [Rx.esz_eq, if_neg (by omega), if_neg (by omega), if_neg (by omega), if_pos h, if_pos hm, Int.natCast_add, Int.natCast_add, Int.natCast_mul, Int.toNat_of_nonneg h0]; rfl
theorem esz6b {t : Rx} (h : t.kind = 6) (h0 : 0 ≤ t.min) (hm : t.min ≤ t.max) : (t.esz : Int) = t.min * gV t.kids + (t.max - t.min) * (gV t.kids + 1) := by
  rw [Rx.esz_eq, if_neg (by omega), if_neg (by omega), if_neg (by omega), if_pos h, if_neg (by omega), Int.natCast_add, Int.natCast_mul, Int.natCast_mul, Int.toNat_of_nonneg h0, Int.toNat_of_nonneg (by omega), Int.natCast_add]; rfl
theorem zH {t : Rx} (h : t.kind ≠ 1 ∧ t.kind ≠ 4 ∧ t.kind ≠ 5 ∧ t.kind ≠ 6 ∧ t.kind ≠ 7) : (t.esz : Int) = 1 := by
  obtain ⟨h1, h2, h3, h4, h5⟩ := h
  rw [Rx.esz_eq, if_neg h1, if_neg h2, if_neg h3, if_neg h4, if_neg h5]; rfl
theorem NS {m k : Int} (hm : 0 ≤ m) (hk : 0 ≤ k) : m * k = 0 ∨ k ≤ m * k := by
  by_cases e : m = 0
  · left; rw [e, Int.zero_mul]
  · right
    have : (m - 1) * k ≥ 0 := Int.mul_nonneg (by omega) hk
    rw [Int.sub_mul, Int.one_mul] at this
    omega
theorem IH {m k : Int} (hm : 0 ≤ m) (hk : 0 ≤ k) : min (m * min k 10001 + min k 10001 + 2) 10001 = min (m * k + k + 2) 10001 := by
  by_cases e : k ≤ 10001
  · rw [Int.min_eq_left e]
  · rw [Int.min_eq_right (show (10001 : Int) ≤ k by omega)]
    have h1 := Int.mul_nonneg hm hk
    have h2 := Int.mul_nonneg hm (show (0 : Int) ≤ 10001 by omega)
    omega
theorem IG {m d k : Int} (hm : 0 ≤ m) (hd : 0 ≤ d) (hk : 0 ≤ k) : min (m * min k 10001 + d * (min k 10001 + 1)) 10001 = min (m * k + d * (k + 1)) 10001 := by
  by_cases e : k ≤ 10001
  · rw [Int.min_eq_left e]
  · rw [Int.min_eq_right (show (10001 : Int) ≤ k by omega)]
    have h1 := Int.mul_nonneg hm hk
    have h3 := Int.mul_nonneg hd (show (0 : Int) ≤ k + 1 by omega)
    by_cases e1 : m = 0
    · subst e1
      by_cases e2 : d = 0
      · subst e2; simp
      · have h2 := NS hd (show (0 : Int) ≤ k + 1 by omega)
        have h4 : d * (k + 1) ≠ 0 := fun h => by rcases Int.mul_eq_zero.1 h with h | h <;> omega
        omega
    · have h2 := NS hm (show (0 : Int) ≤ k by omega)
      have h4 : m * k ≠ 0 := fun h => by rcases Int.mul_eq_zero.1 h with h | h <;> omega
      omega
theorem DU {m k a b : Int} (hm : 0 ≤ m) (hm2 : m ≤ a) (hk : 0 ≤ k) (hk2 : k ≤ b) : 0 ≤ m * k ∧ m * k ≤ a * b :=
  ⟨Int.mul_nonneg hm hk, Int.mul_le_mul hm2 hk2 hk (by omega)⟩
abbrev Iv := In × Value
def Iv.cells (e : Iv) : List Value := [iv e.1.op, iv e.1.out, iv e.1.alt, iv e.1.arg, e.2]
def oX (es : List Iv) : List Value := es.flatMap Iv.cells
theorem pR (e : Iv) (es : List Iv) : oX (e :: es) = e.cells ++ oX es := rfl
theorem rV (a b : List Iv) : oX (a ++ b) = oX a ++ oX b := by unfold oX; rw [List.flatMap_append]
theorem HL (es : List Iv) : (oX es).length = es.length * 5 := by
  induction es with
  | nil => rfl
  | cons e es ih => rw [pR, List.length_append, ih, List.length_cons]; show 5 + es.length * 5 = _; omega
def Iv.setOut (o : Int) (e : Iv) : Iv := (⟨e.1.op, o, e.1.alt, e.1.arg, e.1.rs⟩, e.2)
def Iv.setAlt (o : Int) (e : Iv) : Iv := (⟨e.1.op, e.1.out, o, e.1.arg, e.1.rs⟩, e.2)
theorem mA {α} (f : α → α) (a : α) (l : List α) (k : Nat) : (a :: l).modify (k + 1) f = a :: l.modify k f := by simp [List.modify]
theorem HJ {es : List Iv} {k j : Nat} {v : Value} {f : Iv → Iv} (hf : ∀ e : Iv, (f e).cells = e.cells.set j v) (hk : k < es.length) (hj : j < 5) : (oX es).set (k * 5 + j) v = oX (es.modify k f) := by
  induction es generalizing k with
  | nil => simp at hk
  | cons e es ih =>
    cases k with
    | zero =>
      rw [pR, List.set_append_left _ _ (by show 0 * 5 + j < 5; omega), show (e :: es).modify 0 f = f e :: es from by simp [List.modify], pR, hf, Nat.zero_mul, Nat.zero_add]
    | succ k =>
      rw [pR, List.set_append_right _ _ (by show 5 ≤ _; omega), mA, pR, ← ih (by simpa using hk)]
      congr 2
      show (k + 1) * 5 + j - 5 = _
      omega
theorem oN {es : List Iv} {k : Nat} (hk : k < es.length) (o : Int) : (oX es).set (k * 5 + 1) (iv o) = oX (es.modify k (Iv.setOut o)) := HJ (fun _ => rfl) hk (by omega)
theorem wN {es : List Iv} {k : Nat} (hk : k < es.length) (o : Int) : (oX es).set (k * 5 + 2) (iv o) = oX (es.modify k (Iv.setAlt o)) := HJ (fun _ => rfl) hk (by omega)
def Has (l : List In) (a : Nat) (k : List In) : Prop := ∀ i (h : i < k.length), l[a + i]? = some k[i]
theorem Has.left {l : List In} {a : Nat} {k k' : List In} (h : Has l a (k ++ k')) : Has l a k := fun i hi => by
  rw [h i (by rw [List.length_append]; omega), List.getElem_append_left hi]
theorem Has.right {l : List In} {a : Nat} {k k' : List In} (h : Has l a (k ++ k')) : Has l (a + k.length) k' := fun i hi => by
  rw [Nat.add_assoc, h (k.length + i) (by rw [List.length_append]; omega), List.getElem_append_right (by omega)]
  simp
theorem Has.one {l : List In} {a : Nat} {c : In} (h : Has l a [c]) : l[a]? = some c := h 0 (by simp)
def gR (x : Rx) (a : Nat) (k : List In) : Prop := ∀ l, Has l a k → Blk l x a (a + k.length)
theorem rY {l : List In} {x : Rx} {a b : Nat} : iP l [x] a b ↔ Blk l x a b := by
  rw [iP]
  constructor
  · rintro ⟨m, h1, h2⟩; rw [iP] at h2; subst h2; exact h1
  · exact fun h => ⟨b, h, by rw [iP]⟩
def Pat (l : List In) (a : Nat) (k : List In) (js : List Nat) (f : Nat → In → In) : Prop := ∀ i (h : i < k.length), l[a + i]? = some (if a + i ∈ js then f (a + i) k[i] else k[i])
theorem Pat.left {l : List In} {a : Nat} {k k' : List In} {js js' : List Nat} {f : Nat → In → In} (h : Pat l a (k ++ k') (js ++ js') f) (hj : ∀ p, p ∈ js' → a + k.length ≤ p) : Pat l a k js f := fun i hi => by
  rw [h i (by rw [List.length_append]; omega), List.getElem_append_left hi]
  have : a + i ∉ js' := fun hm => by have := hj _ hm; omega
  simp [List.mem_append, this]
theorem Pat.right {l : List In} {a : Nat} {k k' : List In} {js js' : List Nat} {f : Nat → In → In} (h : Pat l a (k ++ k') (js ++ js') f) (hj : ∀ p, p ∈ js → p < a + k.length) : Pat l (a + k.length) k' js' f := fun i hi => by
  rw [Nat.add_assoc, h (k.length + i) (by rw [List.length_append]; omega), List.getElem_append_right (by omega)]
  have : a + (k.length + i) ∉ js := fun hm => by have := hj _ hm; omega
  simp [List.mem_append, this]
theorem Pat.has {l : List In} {a : Nat} {k : List In} {f : Nat → In → In} (h : Pat l a k [] f) : Has l a k := fun i hi => by rw [h i hi]; simp
def outTo (e : Nat) : Nat → In → In := fun _ c => ⟨c.op, e, c.alt, c.arg, c.rs⟩
structure AltPre (ks : List Rx) (a : Nat) (k : List In) (js : List Nat) : Prop where
  at' : ∀ p, p ∈ js → a ≤ p ∧ p < a + k.length
  blk : ∀ l e, Pat l a k js (outTo e) → ∀ rest, rest ≠ [] → rG l rest (a + k.length) e → rG l (ks ++ rest) a e
theorem AltPre.nil (a : Nat) : AltPre [] a [] [] := ⟨fun p h => (by cases h), fun l e _ rest _ h => h⟩
theorem AltPre.snoc {ks : List Rx} {a : Nat} {k kx : List In} {js : List Nat} {x : Rx} {o : Int} {m' : Nat} (h : AltPre ks a k js) (hx : gR x (a + k.length + 1) kx) (hm : m' = a + k.length + 1 + kx.length) :
    AltPre (ks ++ [x]) a (k ++ ([In.sp false (a + k.length + 1) (m' + 1)] ++ (kx ++ [⟨10, o, 0, 0, []⟩]))) (js ++ [m']) := by
  subst hm
  refine ⟨fun p hp => ?_, fun l e hp rest hr hb => ?_⟩
  · simp only [List.length_append, List.length_cons, List.length_nil]
    rcases List.mem_append.1 hp with hp | hp
    · have := h.at' p hp; omega
    · rw [List.mem_singleton] at hp; omega
  · have hl : (k ++ ([In.sp false (a + k.length + 1) (a + k.length + 1 + kx.length + 1)] ++ (kx ++ [(⟨10, o, 0, 0, []⟩ : In)]))).length = k.length + 1 + kx.length + 1 := by simp only [List.length_append, List.length_cons, List.length_nil]; omega
    rw [hl] at hb
    have p1 := hp.left (fun p hp => by rw [List.mem_singleton] at hp; omega)
    have p2 := hp.right (fun p hp => (h.at' p hp).2)
    have q1 := (Pat.left (js := []) (js' := [a + k.length + 1 + kx.length]) p2 (fun p hp => by rw [List.mem_singleton] at hp; simp only [List.length_cons, List.length_nil]; omega)).has.one
    have q2 := Pat.right (js := []) (js' := [a + k.length + 1 + kx.length]) p2 (fun p hp => by cases hp)
    simp only [List.length_cons, List.length_nil, Nat.zero_add] at q2
    have q3 := (Pat.left (js := []) (js' := [a + k.length + 1 + kx.length]) q2 (fun p hp => by rw [List.mem_singleton] at hp; omega)).has
    have q4 := Pat.right (js := []) (js' := [a + k.length + 1 + kx.length]) q2 (fun p hp => by cases hp)
    have q5 := q4 0 (by simp)
    rw [if_pos (by simp)] at q5
    rw [List.append_assoc]
    refine h.blk l e p1 _ (by simp) ?_
    show rG l (x :: rest) _ _
    rw [rG]
    refine ⟨fun h => (hr h).elim, fun _ => ⟨_, q1, hx l q3, q5, ?_⟩⟩
    have : a + (k.length + 1 + kx.length + 1) = a + k.length + 1 + kx.length + 1 := by omega
    rw [this] at hb
    exact hb
theorem AltPre.done {ks : List Rx} {a : Nat} {k kx : List In} {js : List Nat} {x : Rx} (h : AltPre ks a k js) (hx : gR x (a + k.length) kx) {l : List In} (hp : Pat l a (k ++ kx) js (outTo (a + k.length + kx.length))) : rG l (ks ++ [x]) a (a + k.length + kx.length) := by
  have hp' : Pat l a (k ++ kx) (js ++ []) (outTo (a + k.length + kx.length)) := by rw [List.append_nil]; exact hp
  refine h.blk l _ (hp'.left (fun p hp => by cases hp)) [x] (by simp) ?_
  rw [rG]
  exact ⟨fun _ => hx l (hp'.right (fun p hp => (h.at' p hp).2)).has, fun h => (h rfl).elim⟩
def turnTo (z : Bool) (e : Nat) : Nat → In → In := fun p c => ⟨c.op, if z then (e : Int) else (p : Int) + 1, if z then (p : Int) + 1 else (e : Int), c.arg, c.rs⟩
theorem GG {B : Nat → Nat → Prop} : ∀ {j a m m'}, Rep B j a m → B m m' → Rep B (j + 1) a m'
  | 0, a, m, m', h, hb => by cases h; exact ⟨m', hb, rfl⟩
  | j + 1, a, m, m', ⟨k, h1, h2⟩, hb => ⟨k, h1, GG h2 hb⟩
def RepC (ks : List Rx) (j a : Nat) (k : List In) : Prop := ∀ l, Has l a k → Rep (iP l ks) j a (a + k.length)
theorem RepC.nil (ks : List Rx) (a : Nat) : RepC ks 0 a [] := fun l _ => rfl
theorem RepC.snoc {x : Rx} {j a : Nat} {k kx : List In} (h : RepC [x] j a k) (hx : gR x (a + k.length) kx) : RepC [x] (j + 1) a (k ++ kx) := fun l hl => by
  rw [List.length_append, ← Nat.add_assoc]
  exact GG (h l hl.left) (rY.2 (hx l hl.right))
theorem RepC.stop {x : Rx} {j a : Nat} {k : List In} (h : RepC [x] j a k) (hx : gR x (a + k.length) []) (i : Nat) : RepC [x] (j + i) a k := by
  induction i with
  | zero => exact h
  | succ i ih => have := ih.snoc hx; rw [List.append_nil] at this; exact this
structure OptPre (z : Bool) (x : Rx) (j a : Nat) (k : List In) (js : List Nat) : Prop where
  at' : ∀ p, p ∈ js → a ≤ p ∧ p < a + k.length
  blk : ∀ l e, Pat l a k js (turnTo z e) → ∀ r, Opt l z (iP l [x]) e r (a + k.length) → Opt l z (iP l [x]) e (j + r) a
theorem OptPre.nil (z : Bool) (x : Rx) (a : Nat) : OptPre z x 0 a [] [] := ⟨fun p h => (by cases h), fun l e _ r h => by rw [Nat.zero_add]; exact h⟩
theorem turn_sp (z : Bool) (p e : Nat) (o al : Int) : turnTo z e p ⟨3, o, al, 0, []⟩ = In.sp z (p + 1) e := by unfold turnTo In.sp; cases z <;> rfl
theorem OptPre.snoc {z : Bool} {x : Rx} {j a : Nat} {k kx : List In} {js : List Nat} {o al : Int} {m : Nat} (h : OptPre z x j a k js) (hm : m = a + k.length) (hx : gR x (m + 1) kx) :
    OptPre z x (j + 1) a (k ++ ([⟨3, o, al, 0, []⟩] ++ kx)) (js ++ [m]) := by
  subst hm
  refine ⟨fun p hp => ?_, fun l e hp r hb => ?_⟩
  · simp only [List.length_append, List.length_cons, List.length_nil]
    rcases List.mem_append.1 hp with hp | hp
    · have := h.at' p hp; omega
    · rw [List.mem_singleton] at hp; omega
  · have hl : (k ++ ([(⟨3, o, al, 0, []⟩ : In)] ++ kx)).length = k.length + 1 + kx.length := by simp only [List.length_append, List.length_cons, List.length_nil]; omega
    rw [hl] at hb
    have p1 := hp.left (fun p hp => by rw [List.mem_singleton] at hp; omega)
    have p2 := hp.right (fun p hp => (h.at' p hp).2)
    have q1 := p2 0 (by simp)
    rw [if_pos (by simp)] at q1
    have q2 := Pat.right (js := [a + k.length]) (js' := []) (k := [(⟨3, o, al, 0, []⟩ : In)]) (k' := kx) (by simpa using p2) (fun p hp => by rw [List.mem_singleton] at hp; simp only [List.length_cons, List.length_nil]; omega)
    rw [show j + 1 + r = j + (r + 1) from by omega]
    refine h.blk l e p1 _ ⟨_, q1.trans (congrArg some (turn_sp z _ e o al)), rY.2 (hx l q2.has), ?_⟩
    rw [show a + k.length + 1 + kx.length = a + (k.length + 1 + kx.length) from by omega]
    exact hb
def nO (f : Nat → Iv → Iv) (js : List Nat) (es : List Iv) : List Iv := js.foldl (fun l p => l.modify p (f p)) es
theorem pZ (f : Nat → Iv → Iv) (js : List Nat) (es : List Iv) : (nO f js es).length = es.length := by
  induction js generalizing es with
  | nil => rfl
  | cons p js ih => show (nO f js _).length = _; rw [ih, List.length_modify]
theorem BD {f : Nat → Iv → Iv} (hf : ∀ p e, f p (f p e) = f p e) (js : List Nat) (es : List Iv) (q : Nat) : (nO f js es)[q]? = (es[q]?).map (fun e => if q ∈ js then f q e else e) := by
  induction js generalizing es with
  | nil => simp [nO]
  | cons p js ih =>
    show (nO f js (es.modify p (f p)))[q]? = _
    rw [ih, List.getElem?_modify]
    by_cases e : p = q
    · subst e
      cases h : es[p]? with
      | none => simp
      | some v => simp only [Option.map_some, if_true, List.mem_cons, true_or]; split <;> simp [hf]
    · cases h : es[q]? with
      | none => simp [e]
      | some v => simp [e, show ¬ q = p from fun h => e h.symm]
theorem yF (f : Nat → Iv → Iv) (js : List Nat) (p : Nat) (es : List Iv) : nO f (js ++ [p]) es = (nO f js es).modify p (f p) := by unfold nO; rw [List.foldl_append]; rfl
def Iv.outTo (e : Nat) : Nat → Iv → Iv := fun p x => (Go.Proofs.YtidpigbinpaaeaaGreat.outTo e p x.1, x.2)
def Iv.turnTo (z : Bool) (e : Nat) : Nat → Iv → Iv := fun p x => (Go.Proofs.YtidpigbinpaaeaaGreat.turnTo z e p x.1, x.2)
theorem yE {f : Nat → Iv → Iv} (hf : ∀ p e, f p (f p e) = f p e) {js : List Nat} {es new : List Iv} (hj : ∀ p, p ∈ js → es.length ≤ p) : ∃ new', nO f js (es ++ new) = es ++ new' ∧ new'.length = new.length ∧
    ∀ i (h : i < new.length), new'[i]? = some (if es.length + i ∈ js then f (es.length + i) new[i] else new[i]) := by
  refine ⟨(nO f js (es ++ new)).drop es.length, ?_, by simp [pZ], fun i hi => ?_⟩
  · apply List.ext_getElem?
    intro q
    by_cases hq : q < es.length
    · rw [BD hf, List.getElem?_append_left hq, List.getElem?_append_left hq, if_neg_mem hj hq]
    · rw [List.getElem?_append_right (by omega), List.getElem?_drop, show es.length + (q - es.length) = q from by omega]
  · rw [List.getElem?_drop, BD hf, List.getElem?_append_right (by omega), show es.length + i - es.length = i from by omega, List.getElem?_eq_getElem hi]
    rfl
where
  if_neg_mem {f : Nat → Iv → Iv} {js : List Nat} {n q : Nat} {o : Option Iv} (hj : ∀ p, p ∈ js → n ≤ p) (hq : q < n) : o.map (fun e => if q ∈ js then f q e else e) = o := by
    rw [show (fun e => if q ∈ js then f q e else e) = id from funext fun e => if_neg (fun h => by have := hj q h; omega)]; simp
theorem UB {g : Nat → In → In} {f : Nat → Iv → Iv} (hg : ∀ p e, (f p e).1 = g p e.1) {a : Nat} {new new' : List Iv} {js : List Nat} (h1 : new'.length = new.length) (h2 : ∀ i (h : i < new.length), new'[i]? = some (if a + i ∈ js then f (a + i) new[i] else new[i])) {l : List In} (hl : Has l a (new'.map (·.1))) : Pat l a (new.map (·.1)) js g := fun i hi => by
  have hi' : i < new.length := by simpa using hi
  have hi2 : i < new'.length := by omega
  rw [hl i (by simpa using hi2)]
  have := h2 i hi'
  rw [List.getElem?_eq_getElem hi2, Option.some.injEq] at this
  simp only [List.getElem_map, this]
  split
  · rw [hg]
  · rfl
end Go.Proofs.YtidpigbinpaaeaaGreat
namespace Go.Proofs.YtidpigbinpaaeaaGreat
open Go.Lib Go.W
def IsR (n : Int) : Prop := 0 ≤ n ∧ n ≤ 1114111 ∧ (n < 55296 ∨ 57343 < n)
instance (n : Int) : Decidable (IsR n) := by unfold IsR; infer_instance
def kB (m : Nat) : List Nat :=
  if m < 128 then [m] else if m < 2048 then [192 + m / 64, 128 + m % 64] else if m < 65536 then [224 + m / 4096, 128 + m / 64 % 64, 128 + m % 64]
  else [240 + m / 262144, 128 + m / 4096 % 64, 128 + m / 64 % 64, 128 + m % 64]
def dE (n : Int) : List Nat := if IsR n then kB n.toNat else []
theorem uL (n : Int) : ∀ b, b ∈ dE n → b < 256 := by
  unfold dE
  split
  · rename_i h
    unfold IsR at h
    unfold kB
    repeat' split
    all_goals (intro b hb; simp at hb; omega)
  · intro b hb; cases hb
theorem QV (n : Int) : (dE n).length ≤ 4 := by
  unfold dE kB
  repeat' split
  all_goals simp
def dN (s : ByteArray) (a w : Nat) : Int :=
  if w = 1 then (sb s a : Int) else if w = 2 then ((sb s a : Int) - 192) * 64 + sb s (a + 1) - 128
  else if w = 3 then (((sb s a : Int) - 224) * 64 + sb s (a + 1) - 128) * 64 + sb s (a + 2) - 128
  else ((((sb s a : Int) - 240) * 64 + sb s (a + 1) - 128) * 64 + sb s (a + 2) - 128) * 64 + sb s (a + 3) - 128
def gW (s : ByteArray) (a w : Nat) : List Nat := (List.range w).map fun k => sb s (a + k)
theorem zM (s : ByteArray) (a w : Nat) : ∀ b, b ∈ gW s a w → b < 256 := by
  intro b hb
  simp only [gW, List.mem_map] at hb
  obtain ⟨k, _, rfl⟩ := hb
  exact iS _ _
theorem tG (s : ByteArray) (a w : Nat) (h : a + w ≤ s.size) : s.extract a (a + w) = fS (gW s a w) := by
  apply ByteArray.ext
  apply Array.ext
  · have e1 : (s.extract a (a + w)).data.size = w := by have := s.size_extract (b := a) (e := a + w); rw [ByteArray.size] at this; omega
    rw [e1]; simp [fS, gW]
  · intro i h1 h2
    simp only [fS, gW, List.map_map, List.getElem_toArray, List.getElem_map, List.getElem_range, Function.comp_def, ByteArray.data_extract, Array.getElem_extract]
    have h3 : a + i < s.size := by simp [fS, gW] at h2; omega
    apply UInt8.toNat_inj.1
    have := iS s (a + i)
    rw [UInt8.toNat_ofNat_of_lt' (by simpa using this), rL s _ h3]
    rfl
def Hit (s : ByteArray) (a w : Nat) : Prop := dE (dN s a w) = gW s a w
theorem DZ {s : ByteArray} {a w : Nat} (h : Hit s a w) : (dE (dN s a w)).length = w := by rw [h]; simp [gW]
theorem VU {s : ByteArray} {a w : Nat} (h : a + w ≤ s.size) : Hit s a w ↔ s.extract a (a + w) = fS (dE (dN s a w)) := by
  rw [tG s a w h, IL (zM s a w) (uL _)]
  exact ⟨fun h => h.symm, fun h => h.symm⟩
section
variable {b0 b1 b2 b3 : Nat}
theorem form1 (h0 : b0 < 256) : dE (b0 : Int) = [b0] ↔ b0 < 128 := by
  unfold dE kB
  constructor
  · intro h
    repeat' split at h
    all_goals simp at h
    all_goals omega
  · intro h
    rw [if_pos (by unfold IsR; omega), if_pos (by omega)]; simp
theorem form2 (h0 : b0 < 256) (h1 : b1 < 256) : dE (((b0 : Int) - 192) * 64 + b1 - 128) = [b0, b1] ↔ (b0 / 32 = 6 ∧ b1 / 64 = 2 ∧ 128 ≤ b0 % 32 * 64 + b1 % 64) := by
  unfold dE kB
  constructor
  · intro h
    repeat' split at h
    all_goals simp at h
    all_goals unfold IsR at *
    all_goals omega
  · intro h
    rw [if_pos (by unfold IsR; omega), if_neg (by omega), if_pos (by omega)]; simp; omega
theorem form3 (h0 : b0 < 256) (h1 : b1 < 256) (h2 : b2 < 256) : dE ((((b0 : Int) - 224) * 64 + b1 - 128) * 64 + b2 - 128) = [b0, b1, b2] ↔
    (b0 / 16 = 14 ∧ b1 / 64 = 2 ∧ b2 / 64 = 2 ∧ 2048 ≤ b0 % 16 * 4096 + b1 % 64 * 64 + b2 % 64 ∧ (b0 % 16 * 4096 + b1 % 64 * 64 + b2 % 64 < 55296 ∨ 57343 < b0 % 16 * 4096 + b1 % 64 * 64 + b2 % 64)) := by
  unfold dE kB
  constructor
  · intro h
    repeat' split at h
    all_goals simp at h
    all_goals unfold IsR at *
    all_goals omega
  · intro h
    rw [if_pos (by unfold IsR; omega), if_neg (by omega), if_neg (by omega), if_pos (by omega)]; simp; omega
theorem form4 (h0 : b0 < 256) (h1 : b1 < 256) (h2 : b2 < 256) (h3 : b3 < 256) : dE (((((b0 : Int) - 240) * 64 + b1 - 128) * 64 + b2 - 128) * 64 + b3 - 128) = [b0, b1, b2, b3] ↔
    (b0 / 8 = 30 ∧ b1 / 64 = 2 ∧ b2 / 64 = 2 ∧ b3 / 64 = 2 ∧ 65536 ≤ b0 % 8 * 262144 + b1 % 64 * 4096 + b2 % 64 * 64 + b3 % 64 ∧ b0 % 8 * 262144 + b1 % 64 * 4096 + b2 % 64 * 64 + b3 % 64 ≤ 1114111) := by
  unfold dE kB
  constructor
  · intro h
    repeat' split at h
    all_goals simp at h
    all_goals unfold IsR at *
    all_goals omega
  · intro h
    rw [if_pos (by unfold IsR; omega), if_neg (by omega), if_neg (by omega), if_neg (by omega)]; simp; omega
end
theorem hit1 (s : ByteArray) (a : Nat) : Hit s a 1 ↔ sb s a < 128 := by
  have := form1 (iS s a)
  simpa [Hit, dN, gW] using this
theorem hit2 (s : ByteArray) (a : Nat) : Hit s a 2 ↔ (sb s a / 32 = 6 ∧ sb s (a + 1) / 64 = 2 ∧ 128 ≤ sb s a % 32 * 64 + sb s (a + 1) % 64) := by
  have := form2 (iS s a) (iS s (a + 1))
  simpa [Hit, dN, gW, List.range_succ] using this
theorem hit3 (s : ByteArray) (a : Nat) : Hit s a 3 ↔ (sb s a / 16 = 14 ∧ sb s (a + 1) / 64 = 2 ∧ sb s (a + 2) / 64 = 2 ∧ 2048 ≤ sb s a % 16 * 4096 + sb s (a + 1) % 64 * 64 + sb s (a + 2) % 64 ∧ (sb s a % 16 * 4096 + sb s (a + 1) % 64 * 64 + sb s (a + 2) % 64 < 55296 ∨ 57343 < sb s a % 16 * 4096 + sb s (a + 1) % 64 * 64 + sb s (a + 2) % 64)) := by
  have := form3 (iS s a) (iS s (a + 1)) (iS s (a + 2))
  simpa [Hit, dN, gW, List.range_succ] using this
theorem hit4 (s : ByteArray) (a : Nat) : Hit s a 4 ↔ (sb s a / 8 = 30 ∧ sb s (a + 1) / 64 = 2 ∧ sb s (a + 2) / 64 = 2 ∧ sb s (a + 3) / 64 = 2 ∧ 65536 ≤ sb s a % 8 * 262144 + sb s (a + 1) % 64 * 4096 + sb s (a + 2) % 64 * 64 + sb s (a + 3) % 64 ∧ sb s a % 8 * 262144 + sb s (a + 1) % 64 * 4096 + sb s (a + 2) % 64 * 64 + sb s (a + 3) % 64 ≤ 1114111) := by
  have := form4 (iS s a) (iS s (a + 1)) (iS s (a + 2)) (iS s (a + 3))
  simpa [Hit, dN, gW, List.range_succ] using this
theorem vU (s : ByteArray) (i : Nat) : Utf8.decode s i = decodeN (s.size - i) (sb s i) (sb s (i + 1)) (sb s (i + 2)) (sb s (i + 3)) := decode_at s i
theorem fM (s : ByteArray) (a : Nat) (ha : a < s.size) :
    (∃ w, 1 ≤ w ∧ w ≤ 4 ∧ a + w ≤ s.size ∧ Hit s a w ∧ Utf8.decode s a = ((dN s a w).toNat, w) ∧ 0 ≤ dN s a w ∧ (dN s a w ≤ 1114111) ∧ ∀ w', Hit s a w' → 1 ≤ w' → w' ≤ 4 → w' = w) ∨
    ((∀ w, 1 ≤ w → w ≤ 4 → a + w ≤ s.size → ¬ Hit s a w) ∧ Utf8.decode s a = (65533, 1)) := by
  have h0 := iS s a
  have h1 := iS s (a + 1)
  have h2 := iS s (a + 2)
  have h3 := iS s (a + 3)
  have k1 := hit1 s a
  have k2 := hit2 s a
  have k3 := hit3 s a
  have k4 := hit4 s a
  have all : ∀ {p : Nat → Prop}, p 1 → p 2 → p 3 → p 4 → ∀ w, 1 ≤ w → w ≤ 4 → p w := by
    intro p p1 p2 p3 p4 w hw hw'
    have : w = 1 ∨ w = 2 ∨ w = 3 ∨ w = 4 := by omega
    rcases this with rfl | rfl | rfl | rfl <;> assumption
  rw [vU]
  unfold decodeN
  split
  · rename_i c
    exact .inl ⟨1, by omega, by omega, by omega, k1.2 c, by simp [dN], by simp [dN], by simp [dN]; omega, fun w' hw h1 h4 => by revert hw; revert w'; exact fun w' h1 h4 => all (p := fun w' => Hit s a w' → w' = 1) (fun _ => rfl) (fun h => by have := k2.1 h; omega) (fun h => by have := k3.1 h; omega) (fun h => by have := k4.1 h; omega) w' h1 h4⟩
  · rename_i c1
    split
    · rename_i c2
      split
      · rename_i c3
        exact .inl ⟨2, by omega, by omega, by omega, k2.2 ⟨c2.1, c2.2.2, c3⟩, by simp [dN]; omega, by simp [dN]; omega, by simp [dN]; omega, fun w' hw h1 h4 => by revert hw; revert w'; exact fun w' h1 h4 => all (p := fun w' => Hit s a w' → w' = 2) (fun h => by have := k1.1 h; omega) (fun h => rfl) (fun h => by have := k3.1 h; omega) (fun h => by have := k4.1 h; omega) w' h1 h4⟩
      · rename_i c3
        exact .inr ⟨all (p := fun w => a + w ≤ s.size → ¬ Hit s a w) (fun _ h => by have := k1.1 h; omega) (fun _ h => by have := k2.1 h; omega) (fun _ h => by have := k3.1 h; omega) (fun _ h => by have := k4.1 h; omega), rfl⟩
    · rename_i c2
      split
      · rename_i c4
        split
        · rename_i c3
          exact .inl ⟨3, by omega, by omega, by omega, k3.2 (by omega), by simp [dN]; omega, by simp [dN]; omega, by simp [dN]; omega, fun w' hw h1 h4 => by revert hw; revert w'; exact fun w' h1 h4 => all (p := fun w' => Hit s a w' → w' = 3) (fun h => by have := k1.1 h; omega) (fun h => by have := k2.1 h; omega) (fun h => rfl) (fun h => by have := k4.1 h; omega) w' h1 h4⟩
        · rename_i c3
          exact .inr ⟨all (p := fun w => a + w ≤ s.size → ¬ Hit s a w) (fun _ h => by have := k1.1 h; omega) (fun _ h => by have := k2.1 h; omega) (fun _ h => by have := k3.1 h; omega) (fun _ h => by have := k4.1 h; omega), rfl⟩
      · rename_i c4
        split
        · rename_i c5
          split
          · rename_i c3
            exact .inl ⟨4, by omega, by omega, by omega, k4.2 (by omega), by simp [dN]; omega, by simp [dN]; omega, by simp [dN]; omega, fun w' hw h1 h4 => by revert hw; revert w'; exact fun w' h1 h4 => all (p := fun w' => Hit s a w' → w' = 4) (fun h => by have := k1.1 h; omega) (fun h => by have := k2.1 h; omega) (fun h => by have := k3.1 h; omega) (fun h => rfl) w' h1 h4⟩
          · rename_i c3
            exact .inr ⟨all (p := fun w => a + w ≤ s.size → ¬ Hit s a w) (fun _ h => by have := k1.1 h; omega) (fun _ h => by have := k2.1 h; omega) (fun _ h => by have := k3.1 h; omega) (fun _ h => by have := k4.1 h; omega), rfl⟩
        · rename_i c5
          exact .inr ⟨all (p := fun w => a + w ≤ s.size → ¬ Hit s a w) (fun _ h => by have := k1.1 h; omega) (fun _ h => by have := k2.1 h; omega) (fun _ h => by have := k3.1 h; omega) (fun _ h => by have := k4.1 h; omega), rfl⟩
theorem pN {s : ByteArray} {a w : Nat} (hw : 1 ≤ w) (hw4 : w ≤ 4) (hs : a + w ≤ s.size) (h : Hit s a w) : bJ s a = (dN s a w, w) ∧ 0 ≤ dN s a w ∧ dN s a w ≤ 1114111 := by
  rcases fM s a (by omega) with ⟨w', h1, h2, h3, h4, h5, h6, h7, h8⟩ | ⟨h1, _⟩
  · have : w = w' := h8 w h hw hw4
    subst this
    have hne : ¬ (((dN s a w).toNat, w).1 = 65533 ∧ ((dN s a w).toNat, w).2 = 1) := fun ⟨e1, e2⟩ => by
      simp only at e1 e2
      subst e2
      have := (hit1 s a).1 h
      simp [dN] at e1
      omega
    refine ⟨?_, h6, h7⟩
    unfold bJ
    rw [h5, if_pos ⟨by omega, hne⟩]
    simp only [Int.toNat_of_nonneg h6]
  · exact absurd h (h1 w hw hw4 hs)
theorem sO {s : ByteArray} {a : Nat} (h : ∀ w, 1 ≤ w → w ≤ 4 → a + w ≤ s.size → ¬ Hit s a w) : bJ s a = (-1, 0) := by
  unfold bJ
  by_cases ha : a < s.size
  · rcases fM s a ha with ⟨w', h1, h2, h3, h4, _⟩ | ⟨_, h2⟩
    · exact absurd h4 (h w' h1 h2 h3)
    · rw [h2]; simp
  · rw [if_neg (by omega)]
theorem pM {s : ByteArray} {a : Nat} (h : s.size ≤ a) : bJ s a = (-1, 0) := sO fun w h1 h2 h3 => by omega
theorem lY (s : ByteArray) (a : Nat) : bJ s a = (-1, 0) ∨ (0 ≤ (bJ s a).1 ∧ (bJ s a).1 ≤ 1114111 ∧ 1 ≤ (bJ s a).2 ∧ (bJ s a).2 ≤ 4 ∧ a + (bJ s a).2 ≤ s.size) := by
  by_cases ha : a < s.size
  · rcases fM s a ha with ⟨w', h1, h2, h3, h4, h5, h6, h7, _⟩ | ⟨h1, h2⟩
    · right
      rw [(pN h1 h2 h3 h4).1]
      exact ⟨h6, h7, h1, h2, h3⟩
    · exact .inl (sO h1)
  · exact .inl (pM (by omega))
theorem dQ {s : ByteArray} {a b k : Nat} (hb : b ≤ s.size) (hk : a + k < b) : sb (s.extract a b) k = sb s (a + k) := by
  rw [rL _ _ (by simp; omega), rL _ _ (by omega)]
  simp only [ByteArray.getElem_extract]
theorem HZ {n m b0 b1 b2 b3 c1 c2 c3 : Nat} (h : m = min n 4) (h1 : 1 < n → c1 = b1) (h2 : 2 < n → c2 = b2) (h3 : 3 < n → c3 = b3) : decodeN m b0 c1 c2 c3 = decodeN n b0 b1 b2 b3 := by
  have e1 : (1 < m) = (1 < n) := propext (by omega)
  have e2 : (2 < m) = (2 < n) := propext (by omega)
  have e3 : (3 < m) = (3 < n) := propext (by omega)
  unfold decodeN
  simp only [e1, e2, e3]
  by_cases k1 : 1 < n <;> by_cases k2 : 2 < n <;> by_cases k3 : 3 < n <;> simp only [k1, k2, k3, h1, h2, h3, true_and, and_true, false_and, and_false, if_false, ↓reduceIte]
theorem LU (s : ByteArray) (a : Nat) (ha : a < s.size) : Utf8.decode (s.extract a (min s.size (a + 4))) 0 = Utf8.decode s a := by
  rw [vU, vU]
  simp only [Nat.zero_add]
  have hsz : (s.extract a (min s.size (a + 4))).size = min (s.size - a) 4 := by simp; omega
  have hb : min s.size (a + 4) ≤ s.size := by omega
  have h0 : sb (s.extract a (min s.size (a + 4))) 0 = sb s a := by rw [dQ hb (by omega)]; rfl
  rw [h0]
  refine HZ (by omega) (fun h => ?_) (fun h => ?_) (fun h => ?_) <;> rw [dQ hb (by omega)]
theorem HY (s : ByteArray) (a : Nat) (h : (Utf8.decode s a).1 = 65533) (ha : a < s.size) : (Utf8.decode s a).2 = 1 ∨ (Utf8.decode s a).2 = 3 := by
  rcases fM s a ha with ⟨w, h1, h2, h3, h4, h5, h6, h7, _⟩ | ⟨_, h2⟩
  · rw [h5] at h ⊢
    simp only at h ⊢
    have hh := h4
    unfold Hit at hh
    have e : dN s a w = 65533 := by omega
    rw [e] at hh
    have := congrArg List.length hh
    simp [gW, dE, IsR, kB] at this
    omega
  · rw [h2]; exact .inl rfl
theorem rX (s : ByteArray) (a : Nat) (h : (Utf8.decode s a).1 = 65533) (ha : a < s.size) : (Utf8.decode s a).2 = 3 ↔ (a + 3 ≤ s.size ∧ s.extract a (a + 3) = fS [239, 191, 189]) := by
  constructor
  · intro h3
    rcases fM s a ha with ⟨w, h1, h2, hs, h4, h5, h6, h7, _⟩ | ⟨_, h2⟩
    · rw [h5] at h h3
      simp only at h h3
      subst h3
      refine ⟨hs, ?_⟩
      rw [(VU hs).1 h4]
      have e : dN s a 3 = 65533 := by omega
      rw [e]; rfl
    · rw [h2] at h3; cases h3
  · rintro ⟨hs, he⟩
    have hg : gW s a 3 = [239, 191, 189] := by
      rw [tG s a 3 hs] at he
      exact (IL (zM s a 3) (by intro b hb; simp at hb; omega)).1 he
    simp [gW, List.range_succ] at hg
    have k3 := (hit3 s a).2 (by omega)
    have := (pN (by omega) (by omega) hs k3)
    rcases fM s a ha with ⟨w, h1, h2, hs, h4, h5, h6, h7, h8⟩ | ⟨hn, h2⟩
    · rw [h5]; exact (h8 3 k3 (by omega) (by omega)).symm
    · exact absurd k3 (hn 3 (by omega) (by omega) hs)
theorem EL (s : ByteArray) (a : Nat) (ha : a < s.size) (h : ¬ ((Utf8.decode s a).1 = 65533 ∧ (Utf8.decode s a).2 = 1)) :
    (Utf8.decode s a).2 = if (Utf8.decode s a).1 < 128 then 1 else if (Utf8.decode s a).1 < 2048 then 2 else if (Utf8.decode s a).1 < 65536 then 3 else 4 := by
  rcases fM s a ha with ⟨w, h1, h2, h3, h4, h5, h6, h7, _⟩ | ⟨_, h2⟩
  · rw [h5]
    have hl := DZ h4
    unfold dE kB at hl
    simp only
    repeat' split at hl
    all_goals simp at hl
    all_goals subst hl
    all_goals (repeat' split)
    all_goals omega
  · rw [h2] at h; exact absurd ⟨rfl, rfl⟩ h
end Go.Proofs.YtidpigbinpaaeaaGreat
namespace Go.Proofs.YtidpigbinpaaeaaGreat
open Go.RowKit Go.W
def cV (s : ByteArray) : Nat → Nat
  | 0 => 0
  | k + 1 => cV s k + (bJ s (cV s k)).2
def runeK (s : ByteArray) (k : Nat) : Int := (bJ s (cV s k)).1
def Utf (s : ByteArray) (N : Nat) : Prop := cV s N = s.size ∧ ∀ k, k < N → 0 < (bJ s (cV s k)).2
def cW (s : ByteArray) (N : Nat) : List Int := (List.range N).map (runeK s)
theorem lV (s : ByteArray) (N : Nat) : (cW s N).length = N := by simp [cW]
theorem lW {s : ByteArray} {N k : Nat} (h : k < N) : (cW s N)[k]? = some (runeK s k) := by simp [cW, h]
theorem uG (s : ByteArray) (k : Nat) : cV s k ≤ s.size := by
  induction k with
  | zero => exact Nat.zero_le _
  | succ k ih =>
    rw [cV]
    rcases lY s (cV s k) with h | h
    · rw [h]; exact ih
    · exact h.2.2.2.2
theorem sN (s : ByteArray) {a b : Nat} (h : a ≤ b) : cV s a ≤ cV s b := by
  induction h with
  | refl => exact Nat.le_refl _
  | step _ ih => rw [cV]; omega
theorem uF {s : ByteArray} {N a b : Nat} (h : ∀ k, k < N → 0 < (bJ s (cV s k)).2) (hab : a < b) (hb : b ≤ N) : cV s a < cV s b := by
  have h1 := h a (by omega)
  have h2 : cV s (a + 1) ≤ cV s b := sN s hab
  rw [cV] at h2
  omega
theorem pO {s : ByteArray} {a : Nat} (h : 0 < (bJ s a).2) : a + (bJ s a).2 ≤ s.size ∧ ((bJ s a).1 < 128 → (bJ s a).2 = 1 ∧ (sb s a : Int) = (bJ s a).1) ∧
    (128 ≤ (bJ s a).1 → 128 ≤ sb s a ∧ 128 ≤ sb s (a + (bJ s a).2 - 1)) ∧ 0 ≤ (bJ s a).1 := by
  by_cases ha : a < s.size
  · rcases fM s a ha with ⟨w, h1, h2, h3, hh, -, h4, h5, -⟩ | ⟨h1, -⟩
    · rw [(pN h1 h2 h3 hh).1]
      refine ⟨h3, ?_, ?_, h4⟩
      all_goals
        have e : w = 1 ∨ w = 2 ∨ w = 3 ∨ w = 4 := by omega
        rcases e with rfl | rfl | rfl | rfl
        · have := (hit1 s a).1 hh
          intro hg
          rw [show dN s a 1 = (sb s a : Int) from by simp [dN]] at hg ⊢
          dsimp only
          omega
        · have := (hit2 s a).1 hh
          intro hg
          simp only [dN, if_true, show (2 : Nat) ≠ 1 from by decide, if_false, show a + 2 - 1 = a + 1 from by omega] at hg ⊢
          omega
        · have := (hit3 s a).1 hh
          intro hg
          simp only [dN, if_true, show (3 : Nat) ≠ 1 from by decide, show (3 : Nat) ≠ 2 from by decide, if_false, show a + 3 - 1 = a + 2 from by omega] at hg ⊢
          omega
        · have := (hit4 s a).1 hh
          intro hg
          simp only [dN, if_true, show (4 : Nat) ≠ 1 from by decide, show (4 : Nat) ≠ 2 from by decide, show (4 : Nat) ≠ 3 from by decide, if_false, show a + 4 - 1 = a + 3 from by omega] at hg ⊢
          omega
    · rw [sO h1] at h; cases h
  · rw [pM (by omega)] at h; cases h
def tH (s : ByteArray) (j : Int) : Prop := 0 ≤ j ∧ j < s.size ∧ fU (sb s j.toNat)
instance (s : ByteArray) (j : Int) : Decidable (tH s j) := by unfold tH; infer_instance
def tO (s : ByteArray) (c : In) (i : Nat) : Prop := c.op = 3 ∨ c.op = 4 ∨ c.op = 10 ∨ (c.op = 5 ∧ i = 0) ∨ (c.op = 6 ∧ i = s.size) ∨ (c.op = 7 ∧ (i = 0 ∨ sb s (i - 1) = 10)) ∨ (c.op = 8 ∧ (i = s.size ∨ sb s i = 10)) ∨
  (c.op = 9 ∧ (¬ (tH s ((i : Int) - 1) ↔ tH s i) ↔ c.arg = 0))
def YA (l : List In) (s : ByteArray) (i p q : Nat) : Prop := ∃ c, l[p]? = some c ∧ tO s c i ∧ ((q : Int) = c.out ∨ (c.op = 3 ∧ (q : Int) = c.alt))
def EatB (l : List In) (s : ByteArray) (i p q : Nat) : Prop := ∃ c, l[p]? = some c ∧ c.op = 2 ∧ (q : Int) = c.out ∧ 0 < (bJ s i).2 ∧ InR (bJ s i).1 c.rs
theorem GD {s : ByteArray} {a : Nat} (h : 0 < (bJ s a).2) : (sb s a = 10 ↔ (bJ s a).1 = 10) ∧ (sb s (a + (bJ s a).2 - 1) = 10 ↔ (bJ s a).1 = 10) := by
  obtain ⟨h1, h2, h3, h4⟩ := pO h
  by_cases e : (bJ s a).1 < 128
  · obtain ⟨h5, h6⟩ := h2 e
    rw [h5, Nat.add_sub_cancel]; omega
  · have := h3 (by omega); omega
theorem BA {s : ByteArray} {a : Nat} (h : 0 < (bJ s a).2) : (fU (sb s a) ↔ xT (bJ s a).1) ∧ (fU (sb s (a + (bJ s a).2 - 1)) ↔ xT (bJ s a).1) := by
  obtain ⟨h1, h2, h3, h4⟩ := pO h
  unfold fU xT
  by_cases e : (bJ s a).1 < 128
  · obtain ⟨h5, h6⟩ := h2 e
    rw [h5, Nat.add_sub_cancel]; omega
  · have := h3 (by omega); omega
theorem bef_iff {s : ByteArray} {N k : Nat} (hU : Utf s N) (hk : k ≤ N) : tH s ((cV s k : Nat) - 1) ↔ Bef (cW s N) k := by
  unfold tH Bef
  cases k with
  | zero => simp [cV]
  | succ k =>
    have hw := hU.2 k (by omega)
    have h1 := uG s (k + 1)
    rw [Nat.add_sub_cancel, lW (by omega)]
    rw [cV] at h1 ⊢
    rw [show (((cV s k + (bJ s (cV s k)).2 : Nat) : Int) - 1).toNat = cV s k + (bJ s (cV s k)).2 - 1 from by omega, (BA hw).2]
    constructor
    · exact fun h => ⟨by omega, _, rfl, h.2.2⟩
    · rintro ⟨-, c, hc, h⟩
      cases hc
      exact ⟨by omega, by omega, h⟩
theorem DO {s : ByteArray} {N k : Nat} (hU : Utf s N) (hk : k ≤ N) : cV s k = s.size ↔ k = N := by
  constructor
  · intro h
    by_cases e : k = N
    · exact e
    · have := uF hU.2 (show k < N by omega) (Nat.le_refl _)
      rw [hU.1] at this; omega
  · rintro rfl; exact hU.1
theorem UP {s : ByteArray} {N k : Nat} (hU : Utf s N) (hk : k ≤ N) : cV s k = 0 ↔ k = 0 := by
  constructor
  · intro h
    by_cases e : k = 0
    · exact e
    · have := uF hU.2 (show 0 < k by omega) hk
      omega
  · rintro rfl; rfl
theorem aft_iff {s : ByteArray} {N k : Nat} (hU : Utf s N) (hk : k ≤ N) : tH s (cV s k : Nat) ↔ Aft (cW s N) k := by
  unfold tH Aft
  by_cases e : k = N
  · have h1 := (DO hU hk).2 e
    constructor
    · intro h; omega
    · rintro ⟨c, hc, -⟩
      rw [List.getElem?_eq_none (by rw [lV]; omega)] at hc; cases hc
  · have hw := hU.2 k (by omega)
    have h1 := (pO hw).1
    rw [lW (by omega), Int.toNat_natCast, (BA hw).1]
    constructor
    · exact fun h => ⟨_, rfl, h.2.2⟩
    · rintro ⟨c, hc, h⟩
      cases hc
      exact ⟨by omega, by omega, h⟩
theorem HB {s : ByteArray} {N k : Nat} (hU : Utf s N) (hk : k ≤ N) (c : In) : tO s c (cV s k) ↔ kF (cW s N) c k := by
  have e1 := UP hU hk
  have e2 := DO hU hk
  have e3 := bef_iff hU hk
  have e4 := aft_iff hU hk
  have e5 : k = 0 ∨ (sb s (cV s k - 1) = 10 ↔ (cW s N)[k - 1]? = some 10) := by
    cases k with
    | zero => exact .inl rfl
    | succ k =>
      right
      rw [Nat.add_sub_cancel, lW (by omega), cV, (GD (hU.2 k (by omega))).2, Option.some.injEq]
      rfl
  have e6 : k = N ∨ (sb s (cV s k) = 10 ↔ (cW s N)[k]? = some 10) := by
    by_cases e : k = N
    · exact .inl e
    · right
      rw [lW (by omega), (GD (hU.2 k (by omega))).1, Option.some.injEq]
      rfl
  unfold tO kF Plc
  rw [lV]
  by_cases h3 : c.op = 3
  · simp [h3]
  by_cases h4 : c.op = 4
  · simp [h4]
  by_cases h10 : c.op = 10
  · simp [h10]
  by_cases h5 : c.op = 5
  · simp [h5, e1]
  by_cases h6 : c.op = 6
  · simp [h6, e2]
  by_cases h7 : c.op = 7
  · simp [h7, e1]
    rcases e5 with e5 | e5
    · simp [e5]
    · rw [e5]
  by_cases h8 : c.op = 8
  · simp [h8, e2]
    rcases e6 with e6 | e6
    · simp [e6]
    · rw [e6]
  by_cases h9 : c.op = 9
  · rw [e3, e4]
    by_cases ha : c.arg = 0
    · simp [h9, ha]
    · simp [h9, ha]
  · have n1 : ¬ (5 ≤ c.op ∧ c.op ≤ 8) := by clear e1 e2 e3 e4 e5 e6; omega
    simp only [h3, h4, h10, h5, h6, h7, h8, h9, false_and, false_or, or_false]
    exact iff_of_false id (fun ⟨a, b, _⟩ => n1 ⟨a, b⟩)
inductive WB (l : List In) (s : ByteArray) : Nat → Nat → Prop
  | init : WB l s 0 0
  | eps {p q k : Nat} : WB l s p k → YA l s (cV s k) p q → WB l s q k
  | eat {p q k : Nat} : WB l s p k → EatB l s (cV s k) p q → WB l s q (k + 1)
def mS (c : In) : Prop := c.op ≠ 1 ∧ 0 ≤ c.out ∧ 0 ≤ c.alt ∧ c.rs.length ≤ 1048576
structure ProgOk (x : Rx) (l : List In) (n : Nat) : Prop where
  len : l.length = n + 1
  last : l[n]? = some ⟨1, 0, 0, 0, []⟩
  ops : ∀ p c, p < n → l[p]? = some c → mS c
  blk : Blk l x 0 n
  good : Good x
section
variable {x : Rx} {l : List In} {n : Nat}
theorem ProgOk.leads (h : ProgOk x l n) (rs : List Int) : Leads l rs 0 n (Mt rs x) := sW h.good 0 n h.blk
theorem ProgOk.stuck (h : ProgOk x l n) {rs : List Int} {i q j : Nat} : ¬ zW l rs n i q j := fun hs => by
  rcases rI h.last hs with ⟨-, hg, -⟩ | ⟨-, h2, -⟩
  · unfold kF at hg; simp at hg
  · cases h2
theorem OW {s : ByteArray} {N k p q : Nat} (hU : Utf s N) (hk : k ≤ N) : YA l s (cV s k) p q ↔ Eps l (cW s N) k p q := by
  unfold YA Eps
  constructor
  · rintro ⟨c, h1, h2, h3⟩; exact ⟨c, h1, (HB hU hk c).1 h2, h3⟩
  · rintro ⟨c, h1, h2, h3⟩; exact ⟨c, h1, (HB hU hk c).2 h2, h3⟩
theorem OX {s : ByteArray} {N k p q : Nat} (hU : Utf s N) (hk : k ≤ N) : EatB l s (cV s k) p q ↔ Eat l (cW s N) k p q := by
  unfold EatB Eat
  constructor
  · rintro ⟨c, h1, h2, h3, h4, h5⟩
    have : k < N := by
      by_cases e : k = N
      · have := (pO h4).1
        have h6 := (DO hU hk).2 e
        omega
      · omega
    exact ⟨c, h1, h2, h3, _, lW this, h5⟩
  · rintro ⟨c, h1, h2, h3, r, h4, h5⟩
    have hk' : k < N := by
      by_cases e : k < N
      · exact e
      · rw [List.getElem?_eq_none (by rw [lV]; omega)] at h4; cases h4
    rw [lW hk'] at h4
    cases h4
    exact ⟨c, h1, h2, h3, hU.2 k hk', h5⟩
theorem wb_way {s : ByteArray} {N : Nat} (hP : ProgOk x l n) (hU : Utf s N) {p k : Nat} (h : WB l s p k) : k ≤ N → p ≤ n ∧ Way l (cW s N) 0 n p k 0 0 := by
  have hL := hP.leads (cW s N)
  induction h with
  | init => exact fun _ => ⟨by omega, .nil⟩
  | eps hw he ih =>
    rename_i p q k
    intro hk
    obtain ⟨h1, h2⟩ := ih hk
    have hs : zW l (cW s N) p k q k := .inl ⟨rfl, (OW hU hk).1 he⟩
    have hp : p < n := by
      by_cases e : p = n
      · subst e; exact (hP.stuck hs).elim
      · omega
    exact ⟨(hL.cl _ _ _ _ (by omega) hp hs).2, h2.trans (.cons (by omega) hp hs .nil)⟩
  | eat hw he ih =>
    rename_i p q k
    intro hk
    obtain ⟨h1, h2⟩ := ih (by omega)
    have hs : zW l (cW s N) p k q (k + 1) := .inr ⟨rfl, (OX hU (by omega)).1 he⟩
    have hp : p < n := by
      by_cases e : p = n
      · subst e; exact (hP.stuck hs).elim
      · omega
    exact ⟨(hL.cl _ _ _ _ (by omega) hp hs).2, h2.trans (.cons (by omega) hp hs .nil)⟩
theorem way_le {rs : List Int} {a b q j p i : Nat} (h : Way l rs a b q j p i) : i ≤ j := by
  induction h with
  | nil => exact Nat.le_refl _
  | cons _ _ hs _ ih => rcases hs with ⟨rfl, -⟩ | ⟨rfl, -⟩ <;> omega
theorem way_wb {s : ByteArray} {N : Nat} (hU : Utf s N) {q j p i : Nat} (h : Way l (cW s N) 0 n q j p i) : j ≤ N → WB l s p i → WB l s q j := by
  induction h with
  | nil => exact fun _ h => h
  | cons ha hb hs hw ih =>
    rename_i p i p' i'
    intro hj hp
    refine ih hj ?_
    have hle : i' ≤ j := way_le hw
    rcases hs with ⟨rfl, he⟩ | ⟨rfl, he⟩
    · exact .eps hp ((OW hU (by omega)).2 he)
    · exact .eat hp ((OX hU (by omega)).2 he)
theorem AW {s : ByteArray} {N : Nat} (hP : ProgOk x l n) (hU : Utf s N) : (∃ p c, WB l s p N ∧ l[p]? = some c ∧ c.op = 1) ↔ Mt (cW s N) x 0 N := by
  rw [← (hP.leads _).way]
  constructor
  · rintro ⟨p, c, h1, h2, h3⟩
    obtain ⟨h4, h5⟩ := wb_way hP hU h1 (Nat.le_refl _)
    by_cases e : p = n
    · subst e; exact h5
    · exact ((hP.ops p c (by omega) h2).1 h3).elim
  · exact fun h => ⟨n, _, way_wb hU h (Nat.le_refl _) .init, hP.last, rfl⟩
end
section
variable {l : List In} {s : ByteArray} {i : Nat} {init ls out : List Nat} {k : Nat}
end
end Go.Proofs.YtidpigbinpaaeaaGreat
namespace Go.W
open Go.RowKit
section
variable {P : Program} {σ : Env} {w : World} {dst : Option Nat} {T : TypeId} {pos : String} {after : Array Edge} {g : Option (Nat × Bool)}
theorem TC (n : Nat) {t e : TypeId} {a : Option Addr} {k c : Nat} (ht : P.underlying t = some (.slice e)) : (Op.equalIn (n + 1) t (.slice a k c) (.slice none 0 0)).run P w = .ok a.isNone w := by
  cases a <;> simp [Op.equalIn, run_underlying ht]
theorem OP {x y : Operand} {t e t' : TypeId} {a : Option Addr} {k c : Nat} (hx : σ.ev x = some (.slice a k c)) (hy : σ.ev y = some (.slice none 0 0)) (ht : P.underlying t = some (.slice e)) :
    Ex P σ ⟨dst, .binOp .eql t x y t', T, pos, after, g⟩ w (.bool a.isNone) w := fun ρ hρ => by
  have h1 : (Op.equal t (.slice a k c) (.slice none 0 0)).run P w = .ok a.isNone w := TC 9999 ht
  simp [execOp, hρ x _ hx, hρ y _ hy, eqGuard, Go.binOp, h1]
theorem eT {x i : Operand} {t : TypeId} {k : IntKind} {n sz b o len c : Nat} {a : Option Addr} (hx : σ.ev x = some (.slice a len c)) (hi : σ.ev i = some (.int k (n : Nat))) (ha : a = some ⟨b, o, none⟩) (he : pT P t = some sz) (hlt : n < len) :
    Ex P σ ⟨dst, .indexAddr t x i, T, pos, after, g⟩ w (.pointer (some ⟨b, o + n * sz, none⟩)) w := by
  subst ha; exact cF hx hi he hlt
theorem jO {x lo : Operand} {t : TypeId} {s : ByteArray} {lv : Int} {l : Nat} (hx : σ.ev x = some (.string s)) (hlo : σ.ev lo = some (.int .i64 lv)) (ht : P.underlying t = some .string) (hl : lv = (l : Int)) (hlh : l ≤ s.size) :
    Ex P σ ⟨dst, .slice t x (some lo) none none, T, pos, after, g⟩ w (.string (s.extract l s.size)) w := fun ρ hρ => by
  subst hl
  have := run_slice_string_l (P := P) w t s ht .i64 (l : Int) (by omega) (by omega)
  simp only [execOp, hρ x _ hx, Option.map_some, Option.map_none, hρ lo _ hlo, Instr.sliceAt, run_underlying ht, Sem.run_bind, Result.andThen_ok, this, Int.toNat_natCast, Sem.run_pure]
theorem RD {x hi : Operand} {t : TypeId} {s : ByteArray} {hv : Int} {h : Nat} (hx : σ.ev x = some (.string s)) (hhi : σ.ev hi = some (.int .i64 hv)) (ht : P.underlying t = some .string) (hh : hv = (h : Int)) (hhc : h ≤ s.size) :
    Ex P σ ⟨dst, .slice t x none (some hi) none, T, pos, after, g⟩ w (.string (s.extract 0 h)) w := fun ρ hρ => by
  subst hh
  have := run_slice_string_h (P := P) w t s ht .i64 (h : Int) (by omega) (by omega)
  simp only [execOp, hρ x _ hx, Option.map_some, Option.map_none, hρ hi _ hhi, Instr.sliceAt, run_underlying ht, Sem.run_bind, Result.andThen_ok, this, Int.toNat_natCast, Sem.run_pure]
end
end Go.W
namespace Go.Proofs.YtidpigbinpaaeaaGreat
open Go.RowKit Go.W
attribute [local irreducible] Decidable.decide
theorem dX : kU Tryz.prog 120 = some false := by kernel_rfl
theorem oS : kU Tryz.prog 123 = some true := by kernel_rfl
theorem eW : AG Tryz.prog 68 68 = some (135, 2, 8) := by kernel_rfl
theorem mQ : AG Tryz.prog 120 120 = some (123, 5, 56) := by kernel_rfl
theorem jZ : pT Tryz.prog 120 = some 5 := by kernel_rfl
theorem fW : cZ Tryz.prog 123 1 = some 1 := by kernel_rfl
theorem pC : cZ Tryz.prog 123 2 = some 2 := by kernel_rfl
theorem qQ : fR Tryz.prog 120 = some 1 := by kernel_rfl
theorem jW : fR Tryz.prog 123 = some 5 := by kernel_rfl
theorem fV : oT Tryz.prog 68 = some (135, 2) := by kernel_rfl
theorem pA : oT Tryz.prog 120 = some (123, 5) := by kernel_rfl
structure CdAt (w : World) (cb : Nat) (es : List Iv) (a : Option Addr) (c : Nat) (ob : Option Nat) (Z : List Nat) : Prop where
  blk : w.heap[cb]? = some (.cells #[.slice a es.length c] 120 (0, 0))
  own : OwnS w 123 5 a es.length c (oX es) ob
  ne : ∀ g, ob = some g → g ≠ cb
  rs : ∀ e, e ∈ es → RSl 2 RRg (cb :: (ob.toList ++ Z)) w e.2 e.1.rs
theorem CdAt.lt {w : World} {cb : Nat} {es : List Iv} {a : Option Addr} {c : Nat} {ob : Option Nat} {Z : List Nat} (h : CdAt w cb es a c ob Z) : ∀ y, y ∈ cb :: ob.toList → y < w.heap.size := fun y hy => by
  rcases List.mem_cons.1 hy with e | e
  · rw [e]; exact eO h.blk
  · have : ob = some y := by simpa using e
    subst this; exact h.own.lt
theorem dY {w : World} {cb : Nat} {ob ob' : Option Nat} (h : ob' = ob ∨ ∃ g, ob' = some g ∧ w.heap.size ≤ g) : ∀ y, y ∈ cb :: ob'.toList → y ∈ cb :: ob.toList ∨ w.heap.size ≤ y := fun y hy => by
  rcases List.mem_cons.1 hy with e | e
  · left; simp [e]
  · have e' : ob' = some y := by simpa using e
    rcases h with rfl | ⟨g, h1, h2⟩
    · left; simp [e']
    · rw [e'] at h1; cases h1; exact .inr h2
theorem DV {w : World} {cb : Nat} {ob ob' : Option Nat} {Z : List Nat} (h : ob' = ob ∨ ∃ g, ob' = some g ∧ w.heap.size ≤ g) : ∀ y, y ∈ cb :: (ob'.toList ++ Z) → y ∈ cb :: (ob.toList ++ Z) ∨ w.heap.size ≤ y := fun y hy => by
  rw [← List.cons_append] at hy
  rcases List.mem_append.1 hy with e | e
  · exact (dY h y e).imp (fun h => by rw [← List.cons_append]; exact List.mem_append_left _ h) id
  · left; rw [← List.cons_append]; exact List.mem_append_right _ e
theorem dZ {X : List Nat} {w w1 : World} {o o1 o2 : Option Nat} (h1 : o1 = o ∨ ∃ g, o1 = some g ∧ w.heap.size ≤ g) (he : Evo X w w1) (h2 : o2 = o1 ∨ ∃ g, o2 = some g ∧ w1.heap.size ≤ g) : o2 = o ∨ ∃ g, o2 = some g ∧ w.heap.size ≤ g := by
  rcases h2 with rfl | ⟨g, h3, h4⟩
  · exact h1
  · exact .inr ⟨g, h3, Nat.le_trans he.size h4⟩
theorem pJ {X Y : List Nat} {w w' : World} {v : Value} {l : List (Int × Int)} (h : RSl 2 RRg X w v l) (he : Evo X w w') (hy : ∀ y, y ∈ Y → y ∈ X ∨ w.heap.size ≤ y) : RSl 2 RRg Y w' v l := by
  have h1 : RSl 2 RRg (Y ++ X) w v l := RSl.fresh (by decide) RRg.fresh (fun y hm => by rcases List.mem_append.1 hm with h | h; exact hy y h; exact .inl h) h
  have h2 := RSl.evo RRg.pers (he.mono (fun b hb => by simp [hb])) h1
  obtain ⟨a, c, hv, hc, h3⟩ := h2
  exact ⟨a, c, hv, hc, fun k hk => by obtain ⟨b, o, vs, ha, hb, hl, hcs, hr⟩ := h3 k hk; exact ⟨b, o, vs, ha, fun hm => hb (by simp [hm]), hl, hcs, hr⟩⟩
theorem RRg.one : ∀ X w vs d, RRg X w vs d → ∀ u, u ∈ vs → u.oneCell' = true := fun _ _ _ _ h u hu => by
  subst h; simp at hu; rcases hu with rfl | rfl <;> rfl
theorem yV {α : Type} (f g : α → α) (l : List α) (k : Nat) : (l.modify k f).modify k g = l.modify k (fun e => g (f e)) := by
  apply List.ext_getElem?
  intro i
  rw [List.getElem?_modify, List.getElem?_modify, List.getElem?_modify]
  cases l[i]? with
  | none => rfl
  | some v => by_cases e : k = i <;> simp [e]
def JO (w w' : World) (cb : Nat) (ob : Option Nat) (es : List Iv) (Z : List Nat) : Prop := ∃ a c ob', CdAt w' cb es a c ob' Z ∧ (ob' = ob ∨ ∃ g, ob' = some g ∧ w.heap.size ≤ g)
theorem CdAt.evo {w w' : World} {cb : Nat} {es : List Iv} {a : Option Addr} {c : Nat} {ob : Option Nat} {Y Z Z' : List Nat} (h : CdAt w cb es a c ob Z) (he : Evo Y w w') (h1 : cb ∉ Y) (h2 : ∀ g, ob = some g → g ∉ Y) (hY : ∀ y, y ∈ Y → y ∈ Z) (hZ : ∀ z, z ∈ Z' → z ∈ Z ∨ w.heap.size ≤ z) : CdAt w' cb es a c ob Z' :=
  ⟨he.blk h.blk h1, h.own.evo he h2, h.ne, fun e hm => pJ (h.rs e hm) (he.mono (fun b hb => List.mem_cons_of_mem _ (List.mem_append_right _ (hY b hb)))) (fun y hy => by
    rw [← List.cons_append] at hy
    rcases List.mem_append.1 hy with e | e
    · left; rw [← List.cons_append]; exact List.mem_append_left _ e
    · exact (hZ y e).imp (fun h => by rw [← List.cons_append]; exact List.mem_append_right _ h) id)⟩
theorem CdAt.evo0 {w w' : World} {cb : Nat} {es : List Iv} {a : Option Addr} {c : Nat} {ob : Option Nat} {Z : List Nat} (h : CdAt w cb es a c ob Z) (he : Evo [] w w') : CdAt w' cb es a c ob Z := h.evo he (by simp) (by simp) (by simp) (fun z hz => .inl hz)
theorem kQ {w : World} {cb : Nat} {es : List Iv} {a : Option Addr} {c : Nat} {ob : Option Nat} {op o al arg : Int} {vr : Value} {rs : List (Int × Int)} {Z : List Nat} (hC : CdAt w cb es a c ob Z) (hr : RSl 2 RRg (cb :: (ob.toList ++ Z)) w vr rs) (hl : es.length ≤ 1000000) :
    Calls Tryz.prog 81 #[.pointer (some ⟨cb, 0, none⟩), .agg #[iv op, iv o, iv al, iv arg, vr]] w (Ret fun v w' => v = iv (es.length : Nat) ∧ Evo (cb :: ob.toList) w w' ∧ JO w w' cb ob (es ++ [(⟨op, (es.length : Nat) + 1, al, arg, rs⟩, vr)]) Z) := by
  have a8 := hC; obtain ⟨hB, hO, hne, hrs⟩ := hC
  have hAJN : Apart (some cb) ob := fun g h1 h2 => by cases h1; exact hne cb h2 rfl
  have hone := hr.one
  have hmZ : ∀ b, b ∈ cb :: ob.toList → b ∈ cb :: (ob.toList ++ Z) := fun b hb => by rw [← List.cons_append]; exact List.mem_append_left _ hb
  have hcell := hr.cell; refine bD (N := 22) Tryz.func81 rfl rfl rfl ?_; refine csr (gK rfl rfl fun b1 w2 a9 M L => ?_); have a4 := Apart.new (Lt.own hO) M; refine wan (csr (aD (aC (aF rfl) (aC (aU rfl dX (bA (L.blk0 hB) rfl)) (aC (bH rfl Tryz.underlying120 rfl) ?_))))); refine wan (csr (aD ?_)); refine aC (aJ rfl rfl (by omega) (by omega)) ?_; refine aC (aA rfl fW) ?_; refine bC rfl rfl (by first | rfl | assumption) bO a9 rfl fun b6 O F => ?_
  try simp only [cG, Nat.reduceAdd] at O
  refine wnn (aI ?_); refine fZ (fun w0 w' => Evo ob.toList w0 w') (by kernel_rfl) (fun B D => ?_); have H := D.blk0 (F.blk (L.blk0 hB) (Apart.new (Lt.blk hB) M).nmem1); refine aet 0 rfl (fun _ hS => aY rfl) (Evo.refl ob.toList B) ?_; refine aet 1 rfl (fun _ hS => aY rfl) (Evo.refl ob.toList B) ?_; refine aet 2 rfl (fun _ hS => aF rfl) (Evo.refl ob.toList B) ?_; refine aet 3 rfl (fun _ hS => aU rfl dX (bA (hS.blk H (hAJN.nmem)) rfl)) (Evo.refl ob.toList B) ?_; refine aet 4 rfl (fun _ hS => bV rfl oS jW (hS.blk (D.blk0 O) (a4.symm.nmem)) rfl) (Evo.refl ob.toList B) ?_; refine bR [5] (by kernel_rfl) rfl ⟨?_, trivial⟩; refine bY rfl ?_; refine bL (vs := [_]) rfl pA rfl rfl rfl rfl fun b7 b8 a5 b5 A => ?_; have U := ((((Evo.refl (cb :: ob.toList) w).then L).step F (Ge.new (Evo.refl (cb :: ob.toList) w) M).mem1).then D).then A; have V := (Evo.refl ob.toList B).then A; refine aP (bN (.inl V) ?_); refine bR [6] (by kernel_rfl) rfl ⟨?_, trivial⟩; refine bY rfl ?_; have hszg := (U).size
  refine dB rfl rfl rfl rfl mQ ((((hO.evo0 L).evo F a4.own1).evo0 D).evo0 A) (Src.ofOwn a5 ⟨by first | rfl | assumption, by first | rfl | assumption, by first | rfl | assumption, by first | rfl | assumption, by first | rfl | assumption, trivial⟩) (by omega) fun a2 c2 b9 ob2 b4 I hob45 => ?_; have a6 := U.step I (fun y hy => .inl (List.mem_cons_of_mem _ hy)); have a0 := V.step I (fun y hy => .inl hy); have hob2 : ob2 = ob ∨ ∃ g, ob2 = some g ∧ w.heap.size ≤ g := hob45.imp id (fun ⟨g, h1, h2⟩ => ⟨g, h1, Nat.le_trans hszg h2⟩); refine aP (bN (.inl a0) ?_); refine aet 7 rfl (fun _ hS => aF rfl) a0 ?_; refine bR [8] (by kernel_rfl) rfl ⟨?_, trivial⟩; refine bY rfl ?_; refine bC rfl rfl (by first | rfl | assumption) qQ (I.blk (A.blk0 H) hAJN.nmem) rfl fun c0 a1 a3 => ?_
  have J := a6.step a3 (fun y hy => .inl (by rw [List.mem_singleton.1 hy]; exact List.mem_cons_self ..))
  have a7 := b4.evo a3 (hAJN.app (Lt.blk (A.blk0 H)) hob45).symm.own1
  try simp only [cG, Nat.reduceAdd] at a1
  refine aP (bN (.inr (by kernel_rfl)) ?_); refine dJ (by kernel_rfl) (aB ?_); refine csr (aD (wan (aH (br1 ?_)))); refine ⟨rfl, J, a2, c2, ob2, ⟨?_, ?_, DJ hne (eO a8.blk) hob2, fun e he => ?_⟩, hob2⟩
  · rw [List.length_append]; exact a1
  · rw [List.length_append, rV]; exact a7
  · rcases List.mem_append.1 he with he | he
    · exact pJ (hrs e he) ((J).mono hmZ) (DV hob2)
    · rw [List.mem_singleton] at he; subst he; exact pJ hr ((J).mono hmZ) (DV hob2)
theorem turn_ok {w : World} {es : List Iv} {a : Option Addr} {c k : Nat} {ob : Option Nat} {i o : Int} {z : Bool} (hO : OwnS w 123 5 a es.length c (oX es) ob) (hk : k < es.length) :
    Calls Tryz.prog 100 #[.slice a es.length c, .int .i64 (k : Nat), .int .i64 i, .int .i64 o, .bool z] w (Ret fun v w' => v = .tuple #[] ∧ Evo ob.toList w w' ∧ OwnS w' 123 5 a es.length c (oX (es.modify k (fun e => (⟨e.1.op, if z then o else i, if z then i else o, e.1.arg, e.1.rs⟩, e.2)))) ob) := by
  obtain ⟨g0, hg0, rfl, -⟩ := hO.cells (by omega)
  have hsame : ∀ (f g : Iv → Iv), (∀ e, f e = g e) → es.modify k f = es.modify k g := fun f g h => by rw [show f = g from funext h]
  refine bD (N := 23) Tryz.func100 rfl rfl rfl ?_; refine aI (csr (aD (wnn (fN rfl (fun B => ?_) (fun B => ?_)))))
  ·refine aG (aD (aD (bX (wan (aG (aD (aD (aD (aD (aD (aD (aC (cF (n := k) rfl rfl jZ hk) ?_)))))))))))); refine aC (aA rfl fW) ?_
   obtain ⟨g10, cur1, hg2, hx3, hcu4, hcs5, -⟩ := hO.at (by omega)
   cases hx3; refine gD rfl rfl (rfl) bO hcu4 (hO.inb hcs5 (k := k) (j := 1) (by omega) (by omega) (by omega)) fun w6 a2 J => ?_; replace J := kD hg2 J; have I := hO.set' hg2 hcu4 a2; have O := (Evo.refl ob.toList w).step J (fun y hy => .inl hy); rw [show 0 + k * 5 + 1 = k * 5 + 1 from by omega, oN hk] at I; refine aC (cF (n := k) rfl rfl jZ hk) ?_; refine aC (aA rfl pC) ?_
   obtain ⟨g21, cur12, hg13, hx14, hcu15, hcs16, -⟩ := I.at (by omega)
   cases hx14; refine gD rfl rfl (rfl) bO hcu15 (I.inb hcs16 (k := k) (j := 2) (by omega) (by omega) (by omega)) fun a3 U D => ?_; replace D := kD hg13 D; have L := I.set' hg13 hcu15 U
   rw [show 0 + k * 5 + 2 = k * 5 + 2 from by omega, wN (by rw [List.length_modify]; exact hk)] at L
   refine aP (eC rfl ?_); refine ⟨rfl, (O.step D (fun y hy => .inl hy)), ?_⟩; have h := L; rw [yV] at h; subst B; exact h
  refine aL (aB (aG (aD (aD (aD (aD (aD (aD (aC (cF (n := k) rfl rfl jZ hk) ?_))))))))); refine aC (aA rfl fW) ?_
  obtain ⟨g32, cur23, hg24, hx25, hcu26, hcs27, -⟩ := hO.at (by omega)
  cases hx25; refine gD rfl rfl (rfl) bO hcu26 (hO.inb hcs27 (k := k) (j := 1) (by omega) (by omega) (by omega)) fun a4 V F => ?_; replace F := kD hg24 F; have A := hO.set' hg24 hcu26 V; have a0 := (Evo.refl ob.toList w).step F (fun y hy => .inl hy); rw [show 0 + k * 5 + 1 = k * 5 + 1 from by omega, oN hk] at A; refine aC (cF (n := k) rfl rfl jZ hk) ?_; refine aC (aA rfl pC) ?_
  obtain ⟨g43, cur34, hg35, hx36, hcu37, hcs38, -⟩ := A.at (by omega)
  cases hx36; refine gD rfl rfl (rfl) bO hcu37 (A.inb hcs38 (k := k) (j := 2) (by omega) (by omega) (by omega)) fun a5 a1 H => ?_; replace H := kD hg35 H; have M := A.set' hg35 hcu37 a1
  rw [show 0 + k * 5 + 2 = k * 5 + 2 from by omega, wN (by rw [List.length_modify]; exact hk)] at M
  refine aP (eC rfl ?_); refine ⟨rfl, (a0.step H (fun y hy => .inl hy)), ?_⟩; have h := M; rw [yV] at h; subst B; exact h
theorem LY {X Y : List Nat} {w : World} {v : Value} {l : List (Int × Int)} (hs : RSl 2 RRg Y w v l) (hX : ∀ b, b ∈ X → b < w.heap.size) (hl : l.length ≤ 1048576) :
    Calls Tryz.prog 82 #[v] w (Ret fun v' w' => RSl 2 RRg X w' v' l ∧ Evo [] w w') := by
  have I := hs; obtain ⟨sa, sc, rfl, hlc, e1⟩ := hs; refine bD (N := 8) Tryz.func82 rfl rfl rfl ?_; refine csr (wan (aI (csr (aD (aC (OP rfl rfl Tryz.underlying68) ?_))))); refine wnn (fN rfl (fun B => ?_) (fun B => ?_))
  ·refine csr (wan (aH (aE (br1 ?_))))
   have h0 : l = [] := by
      cases l with
      | nil => rfl
      | cons x xs => obtain ⟨b, o, vs, ha, -⟩ := e1 0 (by simp); subst ha; cases B
   subst h0; exact ⟨⟨none, 0, rfl, Nat.le_refl _, fun k hk => by cases hk⟩, (Evo.refl [] w)⟩
  refine aL (aB (csr (bL (vs := []) rfl fV rfl rfl rfl rfl fun b1 w2 J L M => ?_))); have D := Ge.new (Evo.refl [] w) L; have A := (Evo.refl [] w).then M; refine aD ?_; obtain ⟨rows, hrow, hsrc⟩ := I.rows (P := Tryz.prog) ((A).any _) RRg.one; refine dB rfl rfl rfl rfl eW J hsrc (by omega) fun a2 c2 O ob2 F H hob14 => ?_; refine wan (aH (br1 ?_)); refine ⟨?_, (A.step H D.mem)⟩; have hge := (D.app A hob14)
  exact RSl.ofOwn (rows := rows) F ⟨hrow.1, fun k hk hk' => hrow.2 k hk hk'⟩ (by omega) (fun g hg hm => by have := hge g hg; have := hX g hm; omega)
end Go.Proofs.YtidpigbinpaaeaaGreat
namespace Go.Proofs.YtidpigbinpaaeaaGreat
open Go.RowKit Go.W
theorem oZ (l : List In) (x : Rx) (a b : Nat) : Blk l x a b ↔
    (x.kind = 1 → b = a) ∧
    (x.kind = 2 → b = a + 1 ∧ l[a]? = some ⟨2, (a : Int) + 1, 0, 0, [(x.r, x.r)]⟩) ∧
    (x.kind = 3 → b = a + 1 ∧ l[a]? = some (if x.ranges = [] then ⟨11, 0, 0, 0, []⟩ else ⟨2, (a : Int) + 1, 0, 0, x.ranges⟩)) ∧
    (x.kind = 4 → iP l x.kids a b) ∧
    (x.kind = 5 → rG l x.kids a b) ∧
    (x.kind = 6 → ∃ m, Rep (iP l x.kids) x.min.toNat a m ∧ (x.max = -1 → ∃ m', l[m]? = some (In.sp x.lazy (m + 1) b) ∧ iP l x.kids (m + 1) m' ∧ l[m']? = some ⟨10, (m : Int), 0, 0, []⟩ ∧ b = m' + 1) ∧
      (x.max ≠ -1 → Opt l x.lazy (iP l x.kids) b (x.max - x.min).toNat m)) ∧
    (x.kind = 7 → ∃ m, l[a]? = some ⟨4, (a : Int) + 1, 0, 2 * x.cap, []⟩ ∧ iP l x.kids (a + 1) m ∧ l[m]? = some ⟨4, (m : Int) + 1, 0, 2 * x.cap + 1, []⟩ ∧ b = m + 1) ∧
    (8 ≤ x.kind → b = a + 1 ∧ l[a]? = some (lI x.kind a)) := by
  cases x; rw [Blk]; rfl
theorem CO {l : List In} {x : Rx} {b m : Nat} (hb : Blk l x m b) : ∀ {ks : List Rx} {a : Nat}, iP l ks a m → iP l (ks ++ [x]) a b
  | [], a, h => by rw [iP] at h; subst h; exact rY.2 hb
  | k :: ks, a, h => by
    rw [iP] at h
    obtain ⟨m', h1, h2⟩ := h
    rw [List.cons_append, iP]
    exact ⟨m', h1, CO hb h2⟩
def CatC (ks : List Rx) (a : Nat) (k : List In) : Prop := ∀ l, Has l a k → iP l ks a (a + k.length)
theorem CatC.nil (a : Nat) : CatC [] a [] := fun l _ => by rw [iP]; rfl
theorem CatC.snoc {ks : List Rx} {x : Rx} {a : Nat} {k kx : List In} (h : CatC ks a k) (hx : gR x (a + k.length) kx) : CatC (ks ++ [x]) a (k ++ kx) := fun l hl => by
  rw [List.length_append, ← Nat.add_assoc]
  exact CO (hx l hl.right) (h l hl.left)
section
variable {x y : Rx} {a : Nat} {k kx : List In}
theorem ID (h : x.kind = 1) : gR x a [] := fun l hl => (oZ l x a _).2 ⟨fun _ => rfl, fun _ => by omega, fun _ => by omega, fun _ => by omega, fun _ => by omega, fun _ => by omega, fun _ => by omega, fun _ => by omega⟩
theorem RG (h : x.kind = 2) : gR x a [⟨2, (a : Int) + 1, 0, 0, [(x.r, x.r)]⟩] := fun l hl => (oZ l x a _).2 ⟨fun _ => by omega, fun _ => ⟨rfl, hl.one⟩, fun _ => by omega, fun _ => by omega, fun _ => by omega, fun _ => by omega, fun _ => by omega, fun _ => by omega⟩
theorem LX (h : x.kind = 3) (hr : x.ranges = []) : gR x a [⟨11, 0, 0, 0, []⟩] := fun l hl => (oZ l x a _).2 ⟨fun _ => by omega, fun _ => by omega, fun _ => ⟨rfl, by rw [if_pos hr]; exact hl.one⟩, fun _ => by omega, fun _ => by omega, fun _ => by omega, fun _ => by omega, fun _ => by omega⟩
theorem IE (h : x.kind = 3) (hr : x.ranges ≠ []) : gR x a [⟨2, (a : Int) + 1, 0, 0, x.ranges⟩] := fun l hl => (oZ l x a _).2 ⟨fun _ => by omega, fun _ => by omega, fun _ => ⟨rfl, by rw [if_neg hr]; exact hl.one⟩, fun _ => by omega, fun _ => by omega, fun _ => by omega, fun _ => by omega, fun _ => by omega⟩
theorem RI (h : x.kind = 4) (hk : CatC x.kids a k) : gR x a k := fun l hl => (oZ l x a _).2 ⟨fun _ => by omega, fun _ => by omega, fun _ => by omega, fun _ => hk l hl, fun _ => by omega, fun _ => by omega, fun _ => by omega, fun _ => by omega⟩
theorem RJ (h : x.kind = 5) (hk : ∀ l, Has l a k → rG l x.kids a (a + k.length)) : gR x a k := fun l hl => (oZ l x a _).2 ⟨fun _ => by omega, fun _ => by omega, fun _ => by omega, fun _ => by omega, fun _ => hk l hl, fun _ => by omega, fun _ => by omega, fun _ => by omega⟩
theorem mD (h : 8 ≤ x.kind) : gR x a [lI x.kind a] := fun l hl => (oZ l x a _).2 ⟨fun _ => by omega, fun _ => by omega, fun _ => by omega, fun _ => by omega, fun _ => by omega, fun _ => by omega, fun _ => by omega, fun _ => ⟨rfl, hl.one⟩⟩
theorem RH (h : x.kind = 7) (hk : x.kids = [y]) (hc : gR y (a + 1) k) : gR x a ([⟨4, (a : Int) + 1, 0, 2 * x.cap, []⟩] ++ (k ++ [⟨4, ((a + 1 + k.length : Nat) : Int) + 1, 0, 2 * x.cap + 1, []⟩])) := fun l hl =>
  (oZ l x a _).2 ⟨fun _ => by omega, fun _ => by omega, fun _ => by omega, fun _ => by omega, fun _ => by omega, fun _ => by omega, fun _ => ⟨a + 1 + k.length, hl.left.one, by rw [hk]; exact rY.2 (hc l hl.right.left), hl.right.right.one, by simp only [List.length_append, List.length_cons, List.length_nil]; omega⟩, fun _ => by omega⟩
theorem LW (h : x.kind = 6) (hk : x.kids = [y]) (hm : x.max = -1) (hr : RepC [y] x.min.toNat a k) (hc : gR y (a + k.length + 1) kx) :
    gR x a (k ++ ([In.sp x.lazy (a + k.length + 1) (a + k.length + 1 + kx.length + 1)] ++ (kx ++ [⟨10, ((a + k.length : Nat) : Int), 0, 0, []⟩]))) := fun l hl => by
  have hlen : a + (k ++ ([In.sp x.lazy (a + k.length + 1) (a + k.length + 1 + kx.length + 1)] ++ (kx ++ [(⟨10, ((a + k.length : Nat) : Int), 0, 0, []⟩ : In)]))).length = a + k.length + 1 + kx.length + 1 := by simp only [List.length_append, List.length_cons, List.length_nil]; omega
  rw [hlen]
  refine (oZ l x a _).2 ⟨fun _ => by omega, fun _ => by omega, fun _ => by omega, fun _ => by omega, fun _ => by omega, fun _ => ⟨a + k.length, by rw [hk]; exact hr l hl.left, fun _ => ⟨a + k.length + 1 + kx.length, hl.right.left.one, by rw [hk]; exact rY.2 (hc l hl.right.right.left), hl.right.right.right.one, rfl⟩, fun h => (h hm).elim⟩, fun _ => by omega, fun _ => by omega⟩
theorem RF {js : List Nat} {kp : List In} {r : Nat} (h : x.kind = 6) (hk : x.kids = [y]) (hm : x.max ≠ -1) (hr : RepC [y] x.min.toNat a k) (hrn : r = (x.max - x.min).toNat) (ho : OptPre x.lazy y r (a + k.length) kx js) (hkp : kp.length = kx.length)
    (hp : ∀ l, Has l (a + k.length) kp → Pat l (a + k.length) kx js (turnTo x.lazy (a + k.length + kx.length))) : gR x a (k ++ kp) := fun l hl => by
  subst hrn
  rw [List.length_append, hkp, ← Nat.add_assoc]
  refine (oZ l x a _).2 ⟨fun _ => by omega, fun _ => by omega, fun _ => by omega, fun _ => by omega, fun _ => by omega, fun _ => ⟨a + k.length, by rw [hk]; exact hr l hl.left, fun h => (hm h).elim, fun _ => ?_⟩, fun _ => by omega, fun _ => by omega⟩
  rw [hk]
  exact ho.blk l _ (hp l hl.right) 0 rfl
end
end Go.Proofs.YtidpigbinpaaeaaGreat
namespace Go.Proofs.YtidpigbinpaaeaaGreat
open Go.RowKit Go.W
attribute [local irreducible] Decidable.decide
theorem tM : AG Tryz.prog 37 37 = some (3, 1, 8) := by kernel_rfl
theorem dG : Build Tryz.prog 123 #[(0, 1), (1, 1), (2, 1), (3, 1), (4, 1)] #[.int .i64 0, .int .i64 0, .int .i64 0, .int .i64 0, .slice none 0 0] := ⟨_, .agg #[.int .i64 0, .int .i64 0, .int .i64 0, .int .i64 0, .slice none 0 0], Tryz.underlying123, by kernel_rfl, rfl, fun w => by kernel_rfl⟩
theorem gA : pT Tryz.prog 37 = some 1 := by kernel_rfl
theorem iT : dU Tryz.prog 55 := ⟨_, Tryz.func55, by kernel_rfl, by kernel_rfl⟩
theorem eI : dU Tryz.prog 81 := ⟨_, Tryz.func81, by kernel_rfl, by kernel_rfl⟩
theorem qV : dU Tryz.prog 100 := ⟨_, Tryz.func100, by kernel_rfl, by kernel_rfl⟩
theorem qO : oT Tryz.prog 37 = some (3, 1) := by kernel_rfl
theorem CdAt.mod {w w' : World} {cb : Nat} {es : List Iv} {a : Option Addr} {c k : Nat} {ob : Option Nat} {Z : List Nat} {f : Iv → Iv} (h : CdAt w cb es a c ob Z) (he : Evo ob.toList w w') (ho : OwnS w' 123 5 a es.length c (oX (es.modify k f)) ob) (hf : ∀ e, (f e).2 = e.2 ∧ (f e).1.rs = e.1.rs) : CdAt w' cb (es.modify k f) a c ob Z := by
  refine ⟨?_, by rw [List.length_modify]; exact ho, h.ne, fun e hm => ?_⟩
  · rw [List.length_modify]
    exact he.blk h.blk (fun hm => h.ne cb (by simpa using hm) rfl)
  · obtain ⟨i, hi, rfl⟩ := List.getElem_of_mem hm
    rw [List.getElem_modify]
    have hi' : i < es.length := by simpa using hi
    have h1 := pJ (h.rs es[i] (List.getElem_mem hi')) (he.mono (fun b hb => List.mem_cons_of_mem _ (List.mem_append_left _ hb))) (fun y hy => .inl hy)
    split
    · rw [(hf _).1, (hf _).2]; exact h1
    · exact h1
theorem FZ {w : World} {cb : Nat} {es : List Iv} {a : Option Addr} {c k : Nat} {ob : Option Nat} {Z : List Nat} {i o : Int} {z : Bool} (h : CdAt w cb es a c ob Z) (hk : k < es.length) :
    Calls Tryz.prog 100 #[.slice a es.length c, .int .i64 (k : Nat), .int .i64 i, .int .i64 o, .bool z] w (Ret fun v w' => v = .tuple #[] ∧ Evo ob.toList w w' ∧ CdAt w' cb (es.modify k (fun e => (⟨e.1.op, if z then o else i, if z then i else o, e.1.arg, e.1.rs⟩, e.2))) a c ob Z) :=
  (turn_ok h.own hk).mono fun e w' ⟨v, h1, h2, h3, h4⟩ => ⟨v, h1, h2, h3, h.mod h3 h4 (fun _ => ⟨rfl, rfl⟩)⟩
theorem vN {jb : Nat} {o ob : Option Nat} (h1 : Apart o (some jb)) (h2 : Apart o ob) : ∀ g, o = some g → g ∉ jb :: ob.toList := fun g hg => by subst hg; exact nT h1 h2
theorem addr0 {b o c sz : Nat} : (if c = 0 then (some (⟨b, o, none⟩ : Addr)) else (some (⟨b, o, none⟩ : Addr)).map (·.add (0 * sz))) = some ⟨b, o, none⟩ := by
  split
  · rfl
  · simp [Addr.add]
theorem NT {A B : List Iv} {x y : Iv} {f : Iv → Iv} {k : Nat} (hk : k = A.length) : (((A ++ [x]) ++ B) ++ [y]).modify k f = A ++ ([f x] ++ (B ++ [y])) := by
  subst hk
  rw [List.append_assoc, List.append_assoc]
  induction A with
  | nil => simp [List.modify]
  | cons a A ih => rw [List.cons_append, List.length_cons, mA, ih]; rfl
theorem KZ (o al : Int) (ho : 0 ≤ o) (ha : 0 ≤ al) : mS ⟨3, o, al, 0, []⟩ := ⟨by simp, ho, ha, Nat.zero_le _⟩
theorem NO (z : Bool) (a b : Nat) : mS (In.sp z a b) := by unfold In.sp; split <;> exact ⟨by simp, Int.natCast_nonneg _, Int.natCast_nonneg _, Nat.zero_le _⟩
theorem QO (n : Nat) : mS ⟨10, (n : Int) + 1, 0, 0, []⟩ := ⟨by simp, by show (0 : Int) ≤ (n : Int) + 1; omega, Int.le_refl _, Nat.zero_le _⟩
theorem iC {A B : List Iv} (hA : ∀ e, e ∈ A → mS e.1) (hB : ∀ e, e ∈ B → mS e.1) : ∀ e, e ∈ A ++ B → mS e.1 := fun e he => by rcases List.mem_append.1 he with h | h; exact hA e h; exact hB e h
theorem gH {x : Iv} (h : mS x.1) : ∀ e, e ∈ [x] → mS e.1 := fun e he => by rw [List.mem_singleton] at he; subst he; exact h
theorem yP {f : Nat → Iv → Iv} {new new' : List Iv} {js : List Nat} {n : Nat} (h : ∀ e, e ∈ new → mS e.1) (hl : new'.length = new.length) (hg : ∀ i (h : i < new.length), new'[i]? = some (if n + i ∈ js then f (n + i) new[i] else new[i])) (hf : ∀ p e, mS e.1 → mS (f p e).1) : ∀ e, e ∈ new' → mS e.1 := fun e he => by
  obtain ⟨i, hi, rfl⟩ := List.getElem_of_mem he
  have h1 := hg i (by omega)
  rw [List.getElem?_eq_getElem hi, Option.some.injEq] at h1
  rw [h1]
  have h2 := h _ (List.getElem_mem (show i < new.length by omega))
  split
  · exact hf _ _ h2
  · exact h2
theorem JX {es : List Iv} {k n : Nat} (h : es.length = n) : es.modify k (Iv.setOut (es.length : Nat)) = es.modify k (Iv.outTo n k) := by subst h; rfl
theorem CdAt.cast {w : World} {cb : Nat} {es es' : List Iv} {a : Option Addr} {c : Nat} {ob : Option Nat} {Z : List Nat} (h : CdAt w cb es a c ob Z) (e : es = es') : CdAt w cb es' a c ob Z := e ▸ h
theorem GM {w : World} {e : TypeId} {a : Option Addr} {n c : Nat} {ys : List Nat} {ob : Option Nat} (h : OwnS w e 1 a n c (ys.map fun p => iv (p : Nat)) ob) (h0 : 0 < n) : ∃ g, a = some ⟨g, 0, none⟩ ∧ ∀ k (hk : k < ys.length), w.cell? ⟨g, 0 + k * 1, none⟩ = some (iv (ys[k] : Nat)) := by
  obtain ⟨g, hg, ha, hc⟩ := h.cells h0
  refine ⟨g, ha, fun k hk => ?_⟩
  rw [Nat.mul_one]
  exact hc k _ (by simp [hk])
theorem EJ {l : List Rx} {j : Nat} (h : j < l.length) : gV (l.take j) + l[j].esz ≤ gV l := by
  rw [← sV h]
  have : ∀ (l : List Rx) (k : Nat), gV (l.take k) ≤ gV l := by
    intro l
    induction l with
    | nil => intro k; simp
    | cons x xs ih =>
      intro k
      cases k with
      | zero => rw [List.take_zero, gV]; exact Nat.zero_le _
      | succ k => rw [List.take_succ_cons, gV, gV]; have := ih k; omega
  exact this l (j + 1)
structure ChG where
  j : Nat
  new : List Iv
  pa : Option Addr
  pc : Nat
  po : Option Nat
  js : List Nat
  ja : Option Addr
  jc : Nat
  jo : Option Nat
structure ChI (w wr : World) (cb : Nat) (es : List Iv) (ob : Option Nat) (Z : List Nat) (ks : List Rx) (x : ChG) : Prop where
  j : x.j + 1 ≤ ks.length
  cd : CdAt wr cb (es ++ x.new) x.pa x.pc x.po (x.jo.toList ++ Z)
  po : x.po = ob ∨ ∃ g, x.po = some g ∧ w.heap.size ≤ g
  pre : AltPre (ks.take x.j) es.length (x.new.map (·.1)) x.js
  len : x.new.length ≤ gV (ks.take x.j) + 2 * x.j
  jl : x.js.length = x.j
  nice : ∀ e, e ∈ x.new → mS e.1
  jo : OwnS wr 3 1 x.ja x.j x.jc (x.js.map fun p => iv (p : Nat)) x.jo
  ap1 : Apart (some cb) x.jo
  ap2 : Apart x.po x.jo
  ge : Ge w x.jo
theorem NU {w1 wb : World} {jo jo2 : Option Nat} {Z : List Nat} {X : List Nat} (he : Evo X w1 wb) (h : jo2 = jo ∨ ∃ g, jo2 = some g ∧ wb.heap.size ≤ g) : ∀ z, z ∈ jo2.toList ++ Z → z ∈ jo.toList ++ Z ∨ w1.heap.size ≤ z := fun z hz => by
  rcases List.mem_append.1 hz with h1 | h1
  · rcases h with rfl | ⟨g, h2, h3⟩
    · left; exact List.mem_append_left _ h1
    · right; have := he.size; rw [h2] at h1; simp at h1; omega
  · left; exact List.mem_append_right _ h1
theorem ltZ {w w1 : World} {X : List Nat} {o : Option Nat} {Z : List Nat} (hZ : ∀ z, z ∈ Z → z < w.heap.size) (he : Evo X w w1) (ho : Lt w1 o) : ∀ z, z ∈ o.toList ++ Z → z < w1.heap.size := fun z hz => by
  rcases List.mem_append.1 hz with h | h
  · exact ho z (by simpa using h)
  · exact Nat.lt_of_lt_of_le (hZ z h) he.size
set_option maxHeartbeats 4000000 in
theorem IF {n : Nat} (ih : ∀ {w : World} {cb : Nat} {es : List Iv} {a : Option Addr} {c : Nat} {ob : Option Nat} {Z : List Nat} {vs : List Value} {t : Rx} (hC : CdAt w cb es a c ob Z) (hx : RRx n (cb :: ob.toList) w vs t) (hg : Good t) (hl : es.length + t.esz ≤ 100000) (hZ : ∀ z, z ∈ Z → z < w.heap.size), Calls Tryz.prog 55 #[.pointer (some ⟨cb, 0, none⟩), .agg vs.toArray] w (Ret fun v w' => v = .tuple #[] ∧ Evo (cb :: ob.toList) w w' ∧ ∃ new, JO w w' cb ob (es ++ new) Z ∧ gR t es.length (new.map (·.1)) ∧ new.length ≤ t.esz ∧ ∀ e, e ∈ new → mS e.1)) {w : World} {cb : Nat} {es : List Iv} {a : Option Addr} {c : Nat} {ob : Option Nat} {Z : List Nat} {vk : Value} {ks : List Rx} (hC : CdAt w cb es a c ob Z) (hk : RSl 9 (RRx n) (cb :: ob.toList) w vk ks) (hkl : 2 ≤ ks.length) (hkb : ks.length ≤ 140737488351232) (hg : ∀ k, k ∈ ks → Good k) (hl : es.length + (gV ks + 2 * (ks.length - 1)) ≤ 100000) (hZ : ∀ z, z ∈ Z → z < w.heap.size) : Calls Tryz.prog 83 #[.pointer (some ⟨cb, 0, none⟩), vk] w (Ret fun v w' => v = .tuple #[] ∧ Evo (cb :: ob.toList) w w' ∧ ∃ new, JO w w' cb ob (es ++ new) Z ∧ (∀ l, Has l es.length (new.map (·.1)) → rG l ks es.length (es.length + new.length)) ∧ new.length ≤ gV ks + 2 * (ks.length - 1) ∧ ∀ e, e ∈ new → mS e.1) := by
  have hXlt := hC.lt; obtain ⟨ka, kc, rfl, hkc, e1⟩ := hk; obtain ⟨bk, ok, vk0, rfl, -⟩ := id (e1 0 (by omega)); refine bD (N := 69) Tryz.func83 rfl rfl rfl ?_; refine csr (wan (aI (csr (aD (aD (aC (bH rfl Tryz.underlying69 rfl) ?_)))))); refine aC (dL rfl rfl (by omega) (by omega)) ?_; refine aC (LR (h := ks.length - 1) rfl rfl Tryz.underlying69 aS (by omega) (by omega) hkc) ?_; rw [addr0]; refine aC (bH rfl Tryz.underlying69 rfl) ?_; refine aD (wnn (bG ?_))
  refine dC (α := ChG) (⟨0, [], a, c, ob, [], none, 0, none⟩) (fun x => [(16, .int .i64 (x.j : Nat)), (4, .slice x.ja x.j x.jc)]) [(0, _), (1, _), (14, _), (15, _)] (fun x wr => Evo (cb :: ob.toList) w wr ∧ (ChI w wr cb es ob Z ks x)) (fun x => ks.length - x.j) ⟨rfl, rfl, trivial⟩ ⟨rfl, rfl, rfl, rfl, trivial⟩ ⟨(Evo.refl (cb :: ob.toList) w), ⟨by show 0 + 1 ≤ _; omega, by rw [List.append_nil]; exact hC.evo0 (Evo.refl [] w), .inl rfl, AltPre.nil _, Nat.zero_le _, rfl, (fun _ h => by cases h), OwnS.nil _ _ _, Apart.nil _, Apart.nil _, Ge.nil _⟩⟩ ?_
  rintro ⟨j, new, pa, pc, po, js, ja, jc, jo⟩ wr1 ⟨I, ⟨hj, hcd, hq, hpre, hlen, hjl, hnice, hjo, hap1, hap2, hge⟩⟩; show CW _ _ _ _ [(16, .int .i64 (j : Nat)), (4, .slice ja j jc), (0, _), (1, _), (14, _), (15, _)] _
  try dsimp only at hj hcd hq hpre hlen hjl hnice hjo hap1 hap2 hge
  have a8 := Evo.refl ([]) wr1
  have hAJN : Apart (some cb) po := fun g h1 h2 => by cases h1; exact hcd.ne cb h2 rfl
  refine csr (aC (cX rfl rfl) ?_); refine wnn (aI (aX rfl (fun d3 => ?_) (fun d3 => ?_)))
  ·have hj' : j < ks.length := by omega
   obtain ⟨_, _, vs1, ha1, hb1, hvl1, a9, hrk⟩ := e1 j hj'; cases ha1; obtain ⟨m1, ra1, rc1, ka1, kc1, rfl, rfl, -⟩ := id hrk.get; have hek := EJ hj'; have hsn : (es ++ new).length = es.length + new.length := List.length_append; refine aL (aB (aI (bG (csr ?_)))); refine aC (cF (n := j) rfl rfl dO (by omega)) ?_; refine aC (dF rfl bQ aS (vs := [_, _, _, _, _, _, _, _, _]) rfl (a9.evo I hb1)) ?_; refine cK rfl eG fun b6 w4 d9 L b4 => ?_; have e0 := L; have d0 := Apart.new (Lt.blk hcd.blk) L; have d1 := Apart.new (Lt.own hcd.own) L; refine aW rfl rfl aS d9 rfl rfl ⟨by first | rfl | assumption, by first | rfl | assumption, by first | rfl | assumption, by first | rfl | assumption, by first | rfl | assumption, by first | rfl | assumption, by first | rfl | assumption, by first | rfl | assumption, by first | rfl | assumption, trivial⟩ fun f5 U V => ?_; have b5 := (I.then b4).step V (Ge.new I L).mem1; have b7 := (hjo.evo0 b4).evo V (Apart.new (Lt.own hjo) L).own1
   try simp only [cG, Nat.reduceAdd] at U
   refine wnn (csr (aD (aC (cC (vs := [(0, _)]) dG rfl (cells := [_, _, _, _, _]) rfl) ?_)))
   refine aK (vs := [_, _]) eI rfl (kQ (rs := []) (hcd.evo0 ((a8.then b4).step V (Ge.new a8 L).mem1)) mJ (by rw [List.length_append]; omega)) rfl ?_
   rintro _ e2 ⟨rfl, a0, hto1⟩; have hlt_JS_1 := (Lt.own b7); have hlt_b6_1 := (Lt.blk U); have hev_1 := b5; have M := b5.step a0 (dY hq); have a1 := b7.evo a0 (vN hap1.symm hap2.symm); have a2 := a0.blk U (nT d0.symm d1.symm); obtain ⟨pa_1, pc_1, po_1, hC_1, hp_1⟩ := hto1; have hq_1 := dZ hq hev_1 hp_1; have hA_JS_1 := fT hap2.symm hlt_JS_1 hp_1; have hA_b6_1 := fT d1.symm hlt_b6_1 hp_1
   have hAJN_1 : Apart (some cb) po_1 := fun g h1 h2 => by cases h1; exact hC_1.ne cb h2 rfl
   refine wan (csr (aD (aC (bV rfl bQ aS a2 rfl) ?_)))
   refine aK (vs := [_, _]) iT rfl (ih (t := ks[j]) (hC_1.evo (Evo.refl jo.toList e2) hap1.nmem hA_JS_1.symm.own (fun y hy => List.mem_append_left _ hy) (fun z hz => .inl hz)) (RRx.step hrk M (dY hq_1) hXlt) (hg _ (List.getElem_mem hj')) (by have := hek; simp only [List.length_append, List.length_cons, List.length_nil]; omega) (ltZ hZ M (Lt.own a1))) rfl ?_
   rintro _ e3 ⟨-, a3, kx, hto2, hkx, hkl, hkn⟩; have hlt_JS_2 := (Lt.own a1); have hlt_b6_2 := (Lt.blk a2); have hev_2 := M; have b8 := M.step a3 (dY hq_1); have b9 := a1.evo a3 (vN hap1.symm hA_JS_1); obtain ⟨pa_2, pc_2, po_2, hC_2, hp_2⟩ := hto2; have hq_2 := dZ hq_1 hev_2 hp_2; have hA_JS_2 := fT hA_JS_1 hlt_JS_2 hp_2
   have hAJN_2 : Apart (some cb) po_2 := fun g h1 h2 => by cases h1; exact hC_2.ne cb h2 rfl
   refine wnn (csr (aD (aD (aC (cC (vs := [(0, _)]) dG rfl (cells := [_, _, _, _, _]) rfl) ?_))))
   refine aK (vs := [_, _]) eI rfl (kQ (rs := []) (hC_2.evo (Evo.refl jo.toList e3) hap1.nmem hA_JS_2.symm.own (fun y hy => List.mem_append_left _ hy) (fun z hz => .inl hz)) mJ (by have := hek; simp only [List.length_append, List.length_cons, List.length_nil]; omega)) rfl ?_
   rintro _ e4 ⟨rfl, c0, hto3⟩; have hlt_JS_3 := (Lt.own b9); have hlt_b6_3 := (Lt.blk (a3.blk a2 (nT d0.symm hA_b6_1))); have hev_3 := b8; obtain ⟨pa_3, pc_3, po_3, hC_3, hp_3⟩ := hto3; have hq_3 := dZ hq_2 hev_3 hp_3; have hA_JS_3 := fT hA_JS_2 hlt_JS_3 hp_3
   have hAJN_3 : Apart (some cb) po_3 := fun g h1 h2 => by cases h1; exact hC_3.ne cb h2 rfl
   refine bL (vs := [_]) rfl qO rfl rfl rfl rfl fun f6 f7 d4 e9 H => ?_; have a4 := (b8.step c0 (dY hq_2)).then H; have c1 := (Evo.refl jo.toList e4).then H; have hev4 := a4; have hcd4 := c1; have hge4 := hge; refine dB rfl rfl rfl rfl tM ((b9.evo c0 (vN hap1.symm hA_JS_2)).evo0 H) (Src.ofOwn d4 ⟨by first | rfl | assumption, trivial⟩) (by omega) fun ja2 jc2 f8 jo2 e5 a5 hob67 => ?_; have c2 := hA_JS_3.symm.app (Lt.own (hC_3.own.evo0 H)) hob67; have hjo2 := hob67; refine wan ?_; refine fZ (fun w0 w' => Evo po_3.toList w0 w') (by kernel_rfl) (fun B O => ?_); have d5 := (c1.step a5 (fun y hy => .inl hy)).then O; have c3 := O.blk0 (a5.blk (H.blk0 hC_3.blk) hap1.nmem); refine aet 0 rfl (fun _ hS => aY rfl) (Evo.refl po_3.toList B) ?_; refine aet 1 rfl (fun _ hS => aF rfl) (Evo.refl po_3.toList B) ?_; refine aet 2 rfl (fun _ hS => aU rfl dX (bA (hS.blk c3 (hAJN_3.nmem)) rfl)) (Evo.refl po_3.toList B) ?_; refine aet 3 rfl (fun _ hS => aY rfl) (Evo.refl po_3.toList B) ?_; refine aet 4 rfl (fun _ hS => aY rfl) (Evo.refl po_3.toList B) ?_; refine aet 5 rfl (fun _ hS => aJ rfl rfl (by omega) (by omega)) (Evo.refl po_3.toList B) ?_
   refine aet 6 rfl (fun _ hS => aY rfl) (Evo.refl po_3.toList B) ?_; refine aet 7 rfl (fun _ hS => aF rfl) (Evo.refl po_3.toList B) ?_; refine aet 8 rfl (fun _ hS => aU rfl dX (bA (hS.blk c3 (hAJN_3.nmem)) rfl)) (Evo.refl po_3.toList B) ?_; refine aet 9 rfl (fun _ hS => bH rfl Tryz.underlying120 rfl) (Evo.refl po_3.toList B) ?_; refine bR [10] (by kernel_rfl) rfl ⟨?_, trivial⟩; refine bY rfl ?_; have e6 := hC_3.evo d5 hap1.nmem hA_JS_3.symm.own (fun y hy => List.mem_append_left _ hy) (NU hcd4 hjo2)
   refine aK (vs := [_, _, _, _, _]) qV rfl (FZ (k := (es ++ new).length) (e6.evo0 (Evo.refl [] B)) (by simp only [List.length_append, List.length_cons, List.length_nil]; omega)) rfl ?_
   rintro _ f9 ⟨rfl, a6, hT_5⟩; have d6 := ((a4.step a5 hge.mem).then O).step a6 (fun y hy => dY hq_3 y (List.mem_cons_of_mem _ hy)); have d7 := (e5.evo0 O).evo a6 (c2.symm.own); refine aP (bN (.inl ((Evo.refl po_3.toList B).step a6 (fun y hy => .inl hy))) ?_); refine dJ (by kernel_rfl) (aO (aB ?_)); refine aG ?_; refine aC (aJ rfl rfl (by omega) (by omega)) ?_; refine aD (aP (bB ?_)); refine ⟨⟨j + 1, new ++ ([(In.sp false (es.length + new.length + 1) (es.length + new.length + 1 + kx.length + 1), .slice none 0 0)] ++ (kx ++ [(⟨10, ((es.length + new.length + 1 + kx.length : Nat) : Int) + 1, 0, 0, []⟩, .slice none 0 0)])), pa_3, pc_3, po_3, js ++ [es.length + new.length + 1 + kx.length], ja2, jc2, jo2⟩, ?_, ⟨rfl, rfl, trivial⟩, ⟨rfl, rfl, rfl, rfl, trivial⟩, d6, ?_⟩
   · (try dsimp only); omega
   try dsimp only
   have hkx' : gR ks[j] (es.length + new.length + 1) (kx.map (·.1)) := by have h := hkx; rwa [List.length_append, List.length_append] at h
   have hs := hpre.snoc (x := ks[j]) (kx := kx.map (·.1)) (o := ((es.length + new.length + 1 + kx.length : Nat) : Int) + 1) (m' := es.length + new.length + 1 + kx.length) (by rw [List.length_map]; exact hkx') (by rw [List.length_map, List.length_map])
   rw [List.length_map] at hs; have hT := hT_5; rw [NT rfl] at hT
   refine ⟨by show j + 1 + 1 ≤ _; omega, hT.cast ?_, hq_3, ?_, ?_, ?_, ?_, ?_, (hap1.app (Lt.blk (H.blk0 hC_3.blk)) hob67), c2, (hge.app a4 hob67)⟩
   · rw [List.append_assoc]; refine congrArg (es ++ ·) (congrArg (new ++ ·) ?_)
     simp only [In.sp, List.length_append, List.length_cons, List.length_nil, List.singleton_append, Bool.false_eq_true, if_false]; push_cast; simp [Int.add_assoc, Nat.add_assoc]
   · show AltPre (ks.take (j + 1)) _ _ _
     rw [List.take_add_one, List.getElem?_eq_getElem hj']; rw [List.map_append, List.map_append, List.map_append]; exact hs
   · show _ ≤ gV (ks.take (j + 1)) + 2 * (j + 1)
     rw [sV hj']; simp only [List.length_append, List.length_cons, List.length_nil]; omega
   · show (js ++ [_]).length = j + 1; rw [List.length_append, hjl]; rfl
   · exact iC hnice (iC (gH (NO _ _ _)) (iC hkn (gH (QO _))))
   · have h : OwnS _ 3 1 ja2 (j + 1) jc2 (js.map (fun p => iv (p : Nat)) ++ [iv (((((es ++ new) ++ [_]) ++ kx).length : Nat))]) jo2 := d7
     simp only [List.length_append, List.length_cons, List.length_nil, Nat.zero_add] at h
     show OwnS _ 3 1 ja2 (j + 1) jc2 ((js ++ [_]).map _) jo2; rw [List.map_append]; exact h
  obtain rfl : j = ks.length - 1 := by omega
  have hj' : ks.length - 1 < ks.length := by omega
  obtain ⟨_, _, vs1, ha1, hb1, hvl1, a9, hrk⟩ := e1 (ks.length - 1) hj'; cases ha1; obtain ⟨m1, ra1, rc1, ka1, kc1, rfl, rfl, -⟩ := id hrk.get; have hek := EJ hj'; have hsn : (es ++ new).length = es.length + new.length := List.length_append; refine cM (bK (bK (cL (aB ?_)))); refine csr (aD (aD (aD (aC (bH rfl Tryz.underlying69 rfl) ?_)))); refine aC (dL rfl rfl (by omega) (by omega)) ?_; refine aC (fG (n := ks.length - 1) rfl rfl (by omega) dO (by omega)) ?_; refine aC (dF rfl bQ aS (vs := [_, _, _, _, _, _, _, _, _]) rfl (a9.evo I hb1)) ?_
  refine aK (vs := [_, _]) iT rfl (ih (t := ks[ks.length - 1]) (hcd.evo0 a8) (RRx.step hrk I (dY hq) hXlt) (hg _ (List.getElem_mem hj')) (by have := hek; simp only [List.length_append]; omega) (ltZ hZ I (Lt.own hjo))) rfl ?_
  rintro _ e7 ⟨-, c4, kx, hto7, hkx, hkl, hkn⟩; have hlt_JS_7 := (Lt.own hjo); have hev_7 := I; obtain ⟨pa_7, pc_7, po_7, hC_7, hp_7⟩ := hto7; have hq_7 := dZ hq hev_7 hp_7; have hA_JS_7 := fT hap2.symm hlt_JS_7 hp_7
  have hAJN_7 : Apart (some cb) po_7 := fun g h1 h2 => by cases h1; exact hC_7.ne cb h2 rfl
  refine wnn (csr (aD (aC (bH rfl Tryz.underlying37 rfl) ?_))); refine aD (wnn (bG ?_))
  refine dC (α := Nat) (0) (fun i => [(54, .int .i64 (i : Nat))]) [(0, _), (52, _), (53, _)] (fun i wr => Evo (cb :: ob.toList) w wr ∧ (i ≤ js.length ∧ CdAt wr cb (nO (Iv.outTo (es.length + new.length + kx.length)) (js.take i) (es ++ (new ++ kx))) pa_7 pc_7 po_7 (jo.toList ++ Z) ∧ OwnS wr 3 1 ja (ks.length - 1) jc (js.map fun p => iv (p : Nat)) jo)) (fun i => js.length - i) ⟨rfl, trivial⟩ ⟨rfl, rfl, rfl, trivial⟩ ⟨(I.step c4 (dY hq)), ⟨Nat.zero_le _, by rw [List.take_zero, ← List.append_assoc]; exact hC_7.evo0 (Evo.refl [] e7), (hjo.evo c4 (vN hap1.symm hap2.symm))⟩⟩ ?_
  rintro i wr98 ⟨c5, ⟨hi, hcd2, hjo2⟩⟩; show CW _ _ _ _ [(54, _), (0, _), (52, _), (53, _)] _
  have hpl : (nO (Iv.outTo (es.length + new.length + kx.length)) (js.take i) (es ++ (new ++ kx))).length = es.length + new.length + kx.length := by rw [pZ]; simp only [List.length_append]; omega
  refine csr (aC (cX rfl rfl) ?_); refine wnn (aI (aX rfl (fun d8 => ?_) (fun d8 => ?_)))
  ·have hi' : i < js.length := by omega
   have hat := hpre.at' js[i] (List.getElem_mem hi')
   rw [List.length_map] at hat; obtain ⟨gJ, haJ, hcJ⟩ := GM hjo2 (by omega); refine aL (aB (aI (bG (csr ?_))))
   refine aC (cF (n := i) (by rw [haJ]; rfl) rfl gA (by omega)) ?_
   refine aC (aU rfl aQ (hcJ i hi')) (wan ?_); refine fZ (fun w0 w' => Evo po_7.toList w0 w') (by kernel_rfl) (fun A D => ?_); have J := hcd2.own.evo0 D; refine aet 0 rfl (fun _ hS => aY rfl) (Evo.refl po_7.toList A) ?_; refine aet 1 rfl (fun _ hS => aF rfl) (Evo.refl po_7.toList A) ?_; refine aet 2 rfl (fun _ hS => aU rfl dX (bA (hS.blk (D.blk0 hcd2.blk) (hAJN_7.nmem)) rfl)) (Evo.refl po_7.toList A) ?_; refine aet 3 rfl (fun _ hS => aY rfl) (Evo.refl po_7.toList A) ?_; refine aet 4 rfl (fun _ hS => aY rfl) (Evo.refl po_7.toList A) ?_; refine aet 5 rfl (fun _ hS => aF rfl) (Evo.refl po_7.toList A) ?_; refine aet 6 rfl (fun _ hS => aU rfl dX (bA (hS.blk (D.blk0 hcd2.blk) (hAJN_7.nmem)) rfl)) (Evo.refl po_7.toList A) ?_; refine aet 7 rfl (fun _ hS => bH rfl Tryz.underlying120 rfl) (Evo.refl po_7.toList A) ?_; obtain ⟨gN, -, rfl, -⟩ := J.cells (by omega)
   have hjp : js[i] < (nO (Iv.outTo (es.length + new.length + kx.length)) (js.take i) (es ++ (new ++ kx))).length := by omega
   refine aet 8 rfl (fun _ hS => cF (n := js[i]) rfl rfl jZ hjp) (Evo.refl po_7.toList A) ?_; refine aet 9 rfl (fun _ hS => aA rfl fW) (Evo.refl po_7.toList A) ?_; refine bR [10] (by kernel_rfl) rfl ⟨?_, trivial⟩; refine bY rfl ?_
   obtain ⟨g117, cur108, hg109, hx110, hcu111, hcs112, -⟩ := J.at (by omega)
   cases hx110; refine gD rfl rfl (rfl) bO hcu111 (J.inb hcs112 (k := js[i]) (j := 1) (by omega) (by omega) (by omega)) fun f0 c7 F => ?_; replace F := kD hg109 F; have a7 := J.set' hg109 hcu111 c7; have c8 := (c5.then D).step F (fun y hy => dY hq_7 y (List.mem_cons_of_mem _ hy)); have c9 := ((Evo.refl (po_7.toList) wr98).then D).step F (fun y hy => .inl hy)
   rw [show 0 + js[i] * 5 + 1 = js[i] * 5 + 1 from by omega, oN (by rw [hpl]; omega), JX hpl] at a7
   refine aP (bN (.inl ((Evo.refl po_7.toList A).step F (fun y hy => .inl hy))) ?_); refine dJ (by kernel_rfl) (aO (aB ?_)); refine aG ?_; refine aC (aJ rfl rfl (by omega) (by omega)) ?_; refine aD (aP (bB ?_)); refine ⟨i + 1, ?_, ⟨rfl, trivial⟩, ⟨rfl, rfl, rfl, trivial⟩, c8, ?_⟩
   · omega
   refine ⟨by omega, ?_, ((hjo2.evo0 D).evo F hA_JS_7.own)⟩; rw [List.take_add_one, List.getElem?_eq_getElem hi']; have := hcd2.mod c9 a7 (fun _ => ⟨rfl, rfl⟩); rw [show (js.take i ++ (some js[i]).toList) = js.take i ++ [js[i]] from rfl, yF]; exact this
  refine cM (bK (bK (cL (eC rfl ?_)))); have hiE : js.take i = js := List.take_of_length_le (by omega); rw [hiE] at hcd2; have hatJ : ∀ p, p ∈ js → es.length ≤ p := fun p hp => (hpre.at' p hp).1; obtain ⟨new', e8, c6, d2⟩ := yE (f := Iv.outTo (es.length + new.length + kx.length)) (fun _ _ => rfl) (new := new ++ kx) hatJ; rw [e8] at hcd2
  have hnl : new'.length = new.length + kx.length := by rw [c6, List.length_append]
  have hkx' : gR ks[ks.length - 1] (es.length + new.length) (kx.map (·.1)) := by have h := hkx; rwa [List.length_append] at h
  have hks : ks = ks.take (ks.length - 1) ++ [ks[ks.length - 1]] := by rw [List.take_append_getElem, List.take_of_length_le (by omega)]
  refine ⟨rfl, c5, new', ⟨_, _, _, hcd2.evo (Evo.refl [] _) (by simp) (by simp) (by simp) (fun z hz => .inl (List.mem_append_right _ hz)), hq_7⟩, fun l hl => ?_, by omega, yP (iC hnice hkn) c6 d2 (fun p e h => ⟨h.1, Int.natCast_nonneg _, h.2.2⟩)⟩; have hp := UB (g := outTo (es.length + new.length + kx.length)) (fun _ _ => rfl) c6 d2 hl; rw [List.map_append] at hp
  have hd := hpre.done (x := ks[ks.length - 1]) (kx := kx.map (·.1)) (l := l) (by rw [List.length_map]; exact hkx') (by rw [List.length_map, List.length_map]; exact hp)
  rw [List.length_map, List.length_map, ← hks] at hd
  rw [hnl, ← Nat.add_assoc]; exact hd
structure RpG where
  k : Nat
  new : List Iv
  pa : Option Addr
  pc : Nat
  po : Option Nat
structure RpI (w wr : World) (cb : Nat) (es : List Iv) (ob : Option Nat) (Z : List Nat) (y : Rx) (b3 : Nat) (cs : Array Value) (k : Nat) (x : RpG) : Prop where
  cd : CdAt wr cb (es ++ x.new) x.pa x.pc x.po Z
  po : x.po = ob ∨ ∃ g, x.po = some g ∧ w.heap.size ≤ g
  pre : RepC [y] k es.length (x.new.map (·.1))
  len : x.new.length ≤ k * y.esz
  nice : ∀ e, e ∈ x.new → mS e.1
  bx : wr.heap[b3]? = some (.cells cs 71 (0, 0))
  a1 : Apart (some b3) (some cb)
  a2 : Apart (some b3) x.po
structure RkqG where
  j : Nat
  new2 : List Iv
  pa : Option Addr
  pc : Nat
  po : Option Nat
  js : List Nat
  ja : Option Addr
  jc : Nat
  jo : Option Nat
structure RkqI (w wr : World) (cb : Nat) (es new : List Iv) (ob : Option Nat) (Z : List Nat) (z : Bool) (y : Rx) (b3 : Nat) (cs : Array Value) (r : Nat) (x : RkqG) : Prop where
  j : x.j ≤ r
  cd : CdAt wr cb (es ++ (new ++ x.new2)) x.pa x.pc x.po (x.jo.toList ++ Z)
  po : x.po = ob ∨ ∃ g, x.po = some g ∧ w.heap.size ≤ g
  pre : OptPre z y x.j (es.length + new.length) (x.new2.map (·.1)) x.js
  len : x.new2.length ≤ x.j * (y.esz + 1)
  jl : x.js.length = x.j
  nice : ∀ e, e ∈ x.new2 → mS e.1
  jo : OwnS wr 3 1 x.ja x.j x.jc (x.js.map fun p => iv (p : Nat)) x.jo
  ap1 : Apart (some cb) x.jo
  ap2 : Apart x.po x.jo
  ge : Ge w x.jo
  bx : wr.heap[b3]? = some (.cells cs 71 (0, 0))
  a1 : Apart (some b3) (some cb)
  a2 : Apart (some b3) x.po
  a3 : Apart (some b3) x.jo
theorem AY {l : List Rx} (h : l.length = 1) : l = [l[0]] := by
  apply List.ext_getElem
  · simp [h]
  · intro i h1 h2
    have : i = 0 := by omega
    subst this
    rfl
theorem FY {w : World} {cb : Nat} {es : List Iv} {a : Option Addr} {c k m : Nat} {ob : Option Nat} {Z : List Nat} {i o : Int} {z : Bool} (h : CdAt w cb es a c ob Z) (hm : m = es.length) (hk : k < es.length) :
    Calls Tryz.prog 100 #[.slice a m c, .int .i64 (k : Nat), .int .i64 i, .int .i64 o, .bool z] w (Ret fun v w' => v = .tuple #[] ∧ Evo ob.toList w w' ∧ CdAt w' cb (es.modify k (fun e => (⟨e.1.op, if z then o else i, if z then i else o, e.1.arg, e.1.rs⟩, e.2))) a c ob Z) := by
  subst hm; exact FZ h hk
theorem SJ {es : List Iv} {k n : Nat} {z : Bool} (h : es.length = n) : es.modify k (fun e => (⟨e.1.op, if z then ((es.length : Nat) : Int) else (k : Int) + 1, if z then (k : Int) + 1 else ((es.length : Nat) : Int), e.1.arg, e.1.rs⟩, e.2)) = es.modify k (Iv.turnTo z n k) := by subst h; rfl
theorem VK {A : List Iv} {y : Iv} {f : Iv → Iv} {k : Nat} (hk : k = A.length) : (A ++ [y]).modify k f = A ++ [f y] := by
  subst hk
  induction A with
  | nil => simp [List.modify]
  | cons a A ih => rw [List.cons_append, List.length_cons, mA, ih]; rfl
theorem wJ {k m e : Nat} (h : k < m) : k * e + e ≤ m * e := by rw [← Nat.succ_mul]; exact Nat.mul_le_mul_right _ h
set_option maxHeartbeats 8000000 in
theorem GF {n : Nat} (ih : ∀ {w : World} {cb : Nat} {es : List Iv} {a : Option Addr} {c : Nat} {ob : Option Nat} {Z : List Nat} {vs : List Value} {t : Rx} (hC : CdAt w cb es a c ob Z) (hx : RRx n (cb :: ob.toList) w vs t) (hg : Good t) (hl : es.length + t.esz ≤ 100000) (hZ : ∀ z, z ∈ Z → z < w.heap.size), Calls Tryz.prog 55 #[.pointer (some ⟨cb, 0, none⟩), .agg vs.toArray] w (Ret fun v w' => v = .tuple #[] ∧ Evo (cb :: ob.toList) w w' ∧ ∃ new, JO w w' cb ob (es ++ new) Z ∧ gR t es.length (new.map (·.1)) ∧ new.length ≤ t.esz ∧ ∀ e, e ∈ new → mS e.1)) {w : World} {cb : Nat} {es : List Iv} {a : Option Addr} {c : Nat} {ob : Option Nat} {Z : List Nat} {vs : List Value} {t : Rx} (hC : CdAt w cb es a c ob Z) (hx : RRx (n + 1) (cb :: ob.toList) w vs t) (hg : Good t) (hl : es.length + t.esz ≤ 100000) (hZ : ∀ z, z ∈ Z → z < w.heap.size) (h6 : t.kind = 6) : Calls Tryz.prog 84 #[.pointer (some ⟨cb, 0, none⟩), .agg vs.toArray] w (Ret fun v w' => v = .tuple #[] ∧ Evo (cb :: ob.toList) w w' ∧ ∃ new, JO w w' cb ob (es ++ new) Z ∧ gR t es.length (new.map (·.1)) ∧ new.length ≤ t.esz ∧ ∀ e, e ∈ new → mS e.1) := by
  have hXlt := hC.lt; have hx0 := hx; obtain ⟨m, ra, rc, ka, kc, hm, rfl, hrg, hk, bl1, bl2, bl3⟩ := hx.get
  obtain rfl : m = n := by omega
  obtain ⟨_, _, hke, hkc, e1⟩ := hk; cases hke; have hn := (nH t).1 hg.node
  have hkl : t.kids.length = 1 := by have := hn.rep4 h6; omega
  have hj' : 0 < t.kids.length := by omega
  have hky : t.kids = [t.kids[0]] := AY hkl; obtain ⟨bk, ok, vs1, rfl, hb1, hvl1, a6, hrk⟩ := e1 0 hj'; obtain ⟨m1, ra1, rc1, ka1, kc1, rfl, rfl, -⟩ := id hrk.get; have he1 := HU hkl; have hr1 := hn.rep1 h6; have hr2 := hn.rep2 h6; have hr3 := hn.rep3 h6
  have hrs : t.esz = (if t.max = -1 then t.min.toNat * t.kids[0].esz + t.kids[0].esz + 2 else t.min.toNat * t.kids[0].esz + (t.max - t.min).toNat * (t.kids[0].esz + 1)) := by
    rw [Rx.esz_eq, if_neg (by omega), if_neg (by omega), if_neg (by omega), if_pos h6, he1]
  refine bD (N := 106) Tryz.func84 rfl rfl rfl ?_; refine csr (gK rfl rfl fun b3 w1 d4 a7 d5 => ?_); have f0 := a7; have f5 := Apart.new (Lt.blk hC.blk) a7; have f6 := Apart.new (Lt.own hC.own) a7; refine wnn (aI (nX (α := RpG) (fun x => []) [(0, _), (3, _)] (fun x wr => Evo (cb :: ob.toList) w wr ∧ (RpI w wr cb es ob Z t.kids[0] b3 #[iv t.kind, .int .i32 t.r, .slice ra t.ranges.length rc, iv t.min, iv t.max, .bool t.lazy, iv t.cap, .string t.name, .slice (some ⟨bk, ok, none⟩) t.kids.length kc] t.min.toNat x)) ⟨rfl, rfl, trivial⟩ ?_ ?_))
  ·refine csr (wfl rfl eB rfl aQ d4 rfl (aD (wnn (bG ?_))))
   refine dC (α := RpG) (⟨0, [], a, c, ob⟩) (fun x => [(12, .int .i64 (x.k : Nat))]) [(0, _), (3, _), (11, _)] (fun x wr => Evo (cb :: ob.toList) w wr ∧ (x.k ≤ t.min.toNat ∧ RpI w wr cb es ob Z t.kids[0] b3 #[iv t.kind, .int .i32 t.r, .slice ra t.ranges.length rc, iv t.min, iv t.max, .bool t.lazy, iv t.cap, .string t.name, .slice (some ⟨bk, ok, none⟩) t.kids.length kc] x.k x)) (fun x => t.min.toNat - x.k) ⟨rfl, trivial⟩ ⟨rfl, rfl, rfl, trivial⟩ ⟨((Evo.refl (cb :: ob.toList) w).then d5), ⟨Nat.zero_le _, by rw [List.append_nil]; exact hC.evo0 ((Evo.refl [] w).then d5), .inl rfl, RepC.nil _ _, Nat.zero_le _, (fun _ h => by cases h), d4, f5.symm, f6.symm⟩⟩ ?_
   rintro ⟨k, new, pa, pc, po⟩ wr13 ⟨F, ⟨hk, hcd, hq, hpre, hlen, hnice, hb3, ha1, ha2⟩⟩; show CW _ _ _ _ [(12, .int .i64 (k : Nat)), (0, _), (3, _), (11, _)] _
   try dsimp only at hk hcd hq hpre hlen hnice hb3 ha1 ha2
   have hAJN : Apart (some cb) po := fun g h1 h2 => by cases h1; exact hcd.ne cb h2 rfl
   refine csr (aC (cX rfl rfl) ?_); refine wnn (aI (aX rfl (fun d9 => ?_) (fun d9 => ?_)))
   ·have hkm : k < t.min.toNat := by omega
    have hms := wJ (e := t.kids[0].esz) hkm
    have hsz : es.length + t.min.toNat * t.kids[0].esz ≤ 100000 := by split at hrs <;> omega
    refine aL (aB (aI (bG (csr (aD (aC (aF rfl) (aC (aU rfl dX (bA hcd.blk rfl)) (aC (bH rfl Tryz.underlying120 rfl) ?_)))))))); refine wan (csr (aD (wfl rfl eL rfl gF hb3 rfl ?_))); refine aC (fG (n := 0) rfl rfl rfl dO (by omega)) ?_; refine aC (dF rfl bQ aS (vs := [_, _, _, _, _, _, _, _, _]) rfl (a6.evo F hb1)) ?_; have hZw : ∀ z, z ∈ Z → z < (wr13).heap.size := fun z hz => Nat.lt_of_lt_of_le (hZ z hz) (F).size
    refine aK (vs := [_, _]) iT rfl (ih (t := t.kids[0]) (hcd.evo0 (Evo.refl [] wr13)) (RRx.step hrk F (dY hq) hXlt) (hg.kid _ (List.getElem_mem hj')) (by simp only [List.length_append]; omega) hZw) rfl ?_
    rintro _ d6 ⟨-, a8, kx1, hto1, hkx1, hkl1, hkn1⟩; have hlt_b3_1 := (Lt.blk hb3); have hev_1 := F; have a9 := F.step a8 (dY hq); have b4 := a8.blk hb3 (nT ha1 ha2); obtain ⟨pa_1, pc_1, po_1, hC_1, hp_1⟩ := hto1; have hq_1 := dZ hq hev_1 hp_1; have hA_b3_1 := fT ha2 hlt_b3_1 hp_1
    have hAJN_1 : Apart (some cb) po_1 := fun g h1 h2 => by cases h1; exact hC_1.ne cb h2 rfl
    refine wnn (csr (aD (aC (aF rfl) (aC (aU rfl dX (bA hC_1.blk rfl)) (aC (bH rfl Tryz.underlying120 rfl) ?_))))); refine aD (wel ?_); refine wnn (aX rfl (fun b5 => ?_) (fun b5 => ?_))
    ·refine cM (sT rfl (bK (bK (cL (bB ?_))))); refine ⟨⟨k, new ++ kx1, pa_1, pc_1, po_1⟩, trivial, ⟨rfl, rfl, trivial⟩, a9, ?_⟩
     obtain rfl : kx1 = [] := List.length_eq_zero_iff.1 (by simp only [List.length_append] at b5; omega)
     have hx' : gR t.kids[0] (es.length + (new.map (·.1)).length) [] := by rw [List.length_map]; have h := hkx1; rwa [List.length_append] at h
     have hs := hpre.stop hx' (t.min.toNat - k); rw [show k + (t.min.toNat - k) = t.min.toNat from by omega] at hs
     refine ⟨(hC_1.evo0 (Evo.refl [] d6)).cast (by simp), hq_1, by rw [List.append_nil]; exact hs, ?_, by rw [List.append_nil]; exact hnice, b4, ha1, hA_b3_1⟩
     rw [List.append_nil]; show new.length ≤ _; omega
    refine aL (aO (aB (aG ?_))); refine aC (aJ rfl rfl (by omega) (by omega)) ?_; refine aD (aP (bB ?_)); refine ⟨⟨k + 1, new ++ kx1, pa_1, pc_1, po_1⟩, ?_, ⟨rfl, trivial⟩, ⟨rfl, rfl, rfl, trivial⟩, a9, ?_⟩
    · (try dsimp only); omega
    try dsimp only
    have hx' : gR t.kids[0] (es.length + (new.map (·.1)).length) (kx1.map (·.1)) := by rw [List.length_map]; have h := hkx1; rwa [List.length_append] at h
    refine ⟨by omega, (hC_1.evo0 (Evo.refl [] d6)).cast (List.append_assoc ..), hq_1, ?_, ?_, iC hnice hkn1, b4, ha1, hA_b3_1⟩
    · rw [List.map_append]; exact hpre.snoc hx'
    · rw [List.length_append, Nat.succ_mul]; omega
   refine cM (bK (bK (cL (bB ?_)))); refine ⟨⟨k, new, pa, pc, po⟩, trivial, ⟨rfl, rfl, trivial⟩, F, ?_⟩
   obtain rfl : k = t.min.toNat := by omega
   exact ⟨hcd.evo0 (Evo.refl [] wr13), hq, hpre, hlen, hnice, hb3, ha1, ha2⟩
  rintro ⟨k, new, pa, pc, po⟩ d7 ⟨V, ⟨hcd, hq, hpre, hlen, hnice, hb3, ha1, ha2⟩⟩; refine aB ?_; show CW _ _ _ _ [(0, _), (3, _)] _
  try dsimp only at hcd hq hpre hlen hnice hb3 ha1 ha2
  have hAJN : Apart (some cb) po := fun g h1 h2 => by cases h1; exact hcd.ne cb h2 rfl
  refine aI (csr (wfl rfl eY rfl aQ hb3 rfl (aC (cX rfl rfl) ?_))); refine wnn (aX rfl (fun e0 => ?_) (fun e0 => ?_))
  ·have hmx : t.max = -1 := by omega
   rw [if_pos hmx] at hrs; have hsn : (es ++ new).length = es.length + new.length := List.length_append; refine csr (aD (aC (cC (vs := [(0, _)]) dG rfl (cells := [_, _, _, _, _]) rfl) ?_))
   refine aK (vs := [_, _]) eI rfl (kQ (rs := []) (hcd.evo0 (Evo.refl [] d7)) mJ (by simp only [List.length_append]; omega)) rfl ?_
   rintro _ d8 ⟨rfl, b6, hto1⟩; have hlt_b3_1 := (Lt.blk hb3); have hev_1 := V; have L := V.step b6 (dY hq); have a0 := b6.blk hb3 (nT ha1 ha2); obtain ⟨pa_1, pc_1, po_1, hC_1, hp_1⟩ := hto1; have hq_1 := dZ hq hev_1 hp_1; have hA_b3_1 := fT ha2 hlt_b3_1 hp_1
   have hAJN_1 : Apart (some cb) po_1 := fun g h1 h2 => by cases h1; exact hC_1.ne cb h2 rfl
   refine wan (csr (aD (wfl rfl eL rfl gF a0 rfl ?_))); refine aC (fG (n := 0) rfl rfl rfl dO (by omega)) ?_; refine aC (dF rfl bQ aS (vs := [_, _, _, _, _, _, _, _, _]) rfl (a6.evo L hb1)) ?_; have hZw : ∀ z, z ∈ Z → z < (d8).heap.size := fun z hz => Nat.lt_of_lt_of_le (hZ z hz) (L).size
   refine aK (vs := [_, _]) iT rfl (ih (t := t.kids[0]) (hC_1.evo0 (Evo.refl [] d8)) (RRx.step hrk L (dY hq_1) hXlt) (hg.kid _ (List.getElem_mem hj')) (by simp only [List.length_append, List.length_cons, List.length_nil]; omega) hZw) rfl ?_
   rintro _ f7 ⟨-, b7, kx2, hto2, hkx2, hkl2, hkn2⟩; have hlt_b3_2 := (Lt.blk a0); have hev_2 := L; have b8 := L.step b7 (dY hq_1); have b9 := b7.blk a0 (nT ha1 hA_b3_1); obtain ⟨pa_2, pc_2, po_2, hC_2, hp_2⟩ := hto2; have hq_2 := dZ hq_1 hev_2 hp_2; have hA_b3_2 := fT hA_b3_1 hlt_b3_2 hp_2
   have hAJN_2 : Apart (some cb) po_2 := fun g h1 h2 => by cases h1; exact hC_2.ne cb h2 rfl
   refine wnn (csr (aD (aC (cC (vs := [(0, _)]) dG rfl (cells := [_, _, _, _, _]) rfl) ?_)))
   refine aK (vs := [_, _]) eI rfl (kQ (rs := []) (hC_2.evo0 (Evo.refl [] f7)) mJ (by simp only [List.length_append, List.length_cons, List.length_nil]; omega)) rfl ?_
   rintro _ f8 ⟨rfl, c0, hto3⟩; have hlt_b3_3 := (Lt.blk b9); have hev_3 := b8; obtain ⟨pa_3, pc_3, po_3, hC_3, hp_3⟩ := hto3; have hq_3 := dZ hq_2 hev_3 hp_3; have hA_b3_3 := fT hA_b3_2 hlt_b3_3 hp_3
   have hAJN_3 : Apart (some cb) po_3 := fun g h1 h2 => by cases h1; exact hC_3.ne cb h2 rfl
   refine wan (csr (aD (aC (aF rfl) (aC (aU rfl dX (bA hC_3.blk rfl)) (aD (aD ?_))))))
   obtain ⟨gN, -, rfl, -⟩ := hC_3.own.cells (by simp only [List.length_append, List.length_cons, List.length_nil]; omega)
   have hjp : (es ++ new ++ [((⟨3, ((es ++ new).length : Nat) + 1, 0, 0, []⟩ : In), Value.slice none 0 0)] ++ kx2).length < (es ++ new ++ [((⟨3, ((es ++ new).length : Nat) + 1, 0, 0, []⟩ : In), Value.slice none 0 0)] ++ kx2 ++ [((⟨10, ((es ++ new ++ [((⟨3, ((es ++ new).length : Nat) + 1, 0, 0, []⟩ : In), Value.slice none 0 0)] ++ kx2).length : Nat) + 1, 0, 0, []⟩ : In), Value.slice none 0 0)]).length := by simp only [List.length_append, List.length_cons, List.length_nil]; omega
   refine aC (cF (n := (es ++ new ++ [((⟨3, ((es ++ new).length : Nat) + 1, 0, 0, []⟩ : In), Value.slice none 0 0)] ++ kx2).length) rfl rfl jZ hjp) ?_; refine aC (aA rfl fW) ?_; have hcd9 := (Evo.refl [] f8)
   obtain ⟨g42, cur33, hg34, hx35, hcu36, hcs37, -⟩ := hC_3.own.at (by omega)
   cases hx35; refine gD rfl rfl (rfl) bO hcu36 (hC_3.own.inb hcs37 (k := (es ++ new ++ [((⟨3, ((es ++ new).length : Nat) + 1, 0, 0, []⟩ : In), Value.slice none 0 0)] ++ kx2).length) (j := 1) (by omega) (by omega) (by omega)) fun f9 e2 H => ?_; replace H := kD hg34 H; have c1 := hC_3.own.set' hg34 hcu36 e2; have e3 := (b8.step c0 (dY hq_2)).step H (fun y hy => dY hq_3 y (List.mem_cons_of_mem _ hy)); rw [show 0 + (es ++ new ++ [((⟨3, ((es ++ new).length : Nat) + 1, 0, 0, []⟩ : In), Value.slice none 0 0)] ++ kx2).length * 5 + 1 = (es ++ new ++ [((⟨3, ((es ++ new).length : Nat) + 1, 0, 0, []⟩ : In), Value.slice none 0 0)] ++ kx2).length * 5 + 1 from by omega, oN hjp] at c1; have hC_9 := hC_3.evo0 hcd9; have hC_8 := hC_9.mod H c1 (fun _ => ⟨rfl, rfl⟩); refine wnn (aI ?_); refine fZ (fun w0 w' => Evo po_3.toList w0 w') (by kernel_rfl) (fun B O => ?_); have c2 := O.blk0 (H.blk hC_3.blk hAJN_3.nmem); refine aet 0 rfl (fun _ hS => aY rfl) (Evo.refl po_3.toList B) ?_; refine aet 1 rfl (fun _ hS => aF rfl) (Evo.refl po_3.toList B) ?_; refine aet 2 rfl (fun _ hS => aU rfl dX (bA (hS.blk c2 (hAJN_3.nmem)) rfl)) (Evo.refl po_3.toList B) ?_; refine aet 3 rfl (fun _ hS => aY rfl) (Evo.refl po_3.toList B) ?_; refine aet 4 rfl (fun _ hS => aY rfl) (Evo.refl po_3.toList B) ?_
   refine aet 5 rfl (fun _ hS => aJ rfl rfl (by omega) (by omega)) (Evo.refl po_3.toList B) ?_; refine aet 6 rfl (fun _ hS => aY rfl) (Evo.refl po_3.toList B) ?_; refine aet 7 rfl (fun _ hS => aF rfl) (Evo.refl po_3.toList B) ?_; refine aet 8 rfl (fun _ hS => aU rfl dX (bA (hS.blk c2 (hAJN_3.nmem)) rfl)) (Evo.refl po_3.toList B) ?_; refine aet 9 rfl (fun _ hS => bH rfl Tryz.underlying120 rfl) (Evo.refl po_3.toList B) ?_; refine aet 10 rfl (fun _ hS => aA rfl lQ) (Evo.refl po_3.toList B) ?_; refine aet 11 rfl (fun _ hS => aU rfl gC (bA (hS.blk (O.blk0 (H.blk (c0.blk b9 (nT ha1 hA_b3_2)) hA_b3_3.nmem)) (hA_b3_3.nmem)) rfl)) (Evo.refl po_3.toList B) ?_; refine bR [12] (by kernel_rfl) rfl ⟨?_, trivial⟩; refine bY rfl ?_
   refine aK (vs := [_, _, _, _, _]) qV rfl (FY (k := (es ++ new).length) (hC_8.evo0 ((Evo.refl [] f9).then O)) (by rw [List.length_modify]) (by rw [List.length_modify]; simp only [List.length_append, List.length_cons, List.length_nil]; omega)) rfl ?_
   rintro _ g0 ⟨rfl, c3, hT_4⟩; have e4 := (e3.then O).step c3 (fun y hy => dY hq_3 y (List.mem_cons_of_mem _ hy)); refine aP (bN (.inl ((Evo.refl po_3.toList B).step c3 (fun y hy => .inl hy))) ?_); refine dJ (by kernel_rfl) (aB ?_); refine aH (aE (CN rfl ?_))
   have hx' : gR t.kids[0] (es.length + new.length + 1) (kx2.map (·.1)) := by have h := hkx2; rwa [List.length_append, List.length_append] at h
   have hT := hT_4.evo0 (Evo.refl [] g0); rw [VK rfl, NT rfl] at hT; refine ⟨rfl, e4, new ++ ([(In.sp t.lazy (es.length + new.length + 1) (es.length + new.length + 1 + kx2.length + 1), .slice none 0 0)] ++ (kx2 ++ [(⟨10, ((es.length + new.length : Nat) : Int), 0, 0, []⟩, .slice none 0 0)])), ⟨_, _, _, hT.cast ?_, hq_3⟩, ?_, ?_, ?_⟩
   · rw [List.append_assoc]; refine congrArg (es ++ ·) (congrArg (new ++ ·) ?_)
     cases t.lazy <;> (simp only [Iv.setOut, In.sp, List.length_append, List.length_cons, List.length_nil, List.singleton_append, Bool.false_eq_true, if_false, if_true]; push_cast; simp [Int.add_assoc, Nat.add_assoc])
   · rw [List.map_append, List.map_append, List.map_append]
     have h := LW (a := es.length) (k := new.map (·.1)) (kx := kx2.map (·.1)) h6 hky hmx hpre (by rw [List.length_map]; exact hx')
     rw [List.length_map, List.length_map] at h; exact h
   · simp only [List.length_append, List.length_cons, List.length_nil]; omega
   · exact iC hnice (iC (gH (NO _ _ _)) (iC hkn2 (gH ⟨by simp, Int.natCast_nonneg _, Int.le_refl _, Nat.zero_le _⟩)))
  have hmx : ¬ t.max = -1 := by omega
  rw [if_neg hmx] at hrs; have hpre0 := hpre; obtain ⟨r, hr⟩ : ∃ r, r = (t.max - t.min).toNat := ⟨_, rfl⟩; rw [← hr] at hrs; refine aL (aB (csr (wan (aI (csr (wfl rfl eY rfl aQ hb3 rfl (wfl rfl eB rfl aQ hb3 rfl ?_))))))); refine aC (dL rfl rfl (by omega) (by omega)) ?_; refine aD (wnn (bG ?_))
  refine dC (α := RkqG) (⟨0, [], pa, pc, po, [], none, 0, none⟩) (fun x => [(71, .int .i64 (x.j : Nat)), (7, .slice x.ja x.j x.jc)]) [(0, _), (3, _), (70, _)] (fun x wr => Evo (cb :: ob.toList) w wr ∧ (RkqI w wr cb es new ob Z t.lazy t.kids[0] b3 #[iv t.kind, .int .i32 t.r, .slice ra t.ranges.length rc, iv t.min, iv t.max, .bool t.lazy, iv t.cap, .string t.name, .slice (some ⟨bk, ok, none⟩) t.kids.length kc] r x)) (fun x => r - x.j) ⟨rfl, rfl, trivial⟩ ⟨rfl, rfl, rfl, trivial⟩ ⟨V, ⟨Nat.zero_le _, by rw [List.append_nil]; exact hcd.evo0 (Evo.refl [] d7), hq, OptPre.nil _ _ _, Nat.zero_le _, rfl, (fun _ h => by cases h), OwnS.nil _ _ _, Apart.nil _, Apart.nil _, Ge.nil _, hb3, ha1, ha2, Apart.nil _⟩⟩ ?_
  rintro ⟨j, new2, pa, pc, po, js, ja, jc, jo⟩ wr60 ⟨a1, ⟨hj, hcd, hq, hpre, hlen2, hjl, hnice2, hjo, hap1, hap2, hge, hb3, ha1, ha2, ha3⟩⟩; show CW _ _ _ _ [(71, .int .i64 (j : Nat)), (7, .slice ja j jc), (0, _), (3, _), (70, _)] _
  try dsimp only at hj hcd hq hpre hlen2 hjl hnice2 hjo hap1 hap2 hge hb3 ha1 ha2 ha3
  have hAJN : Apart (some cb) po := fun g h1 h2 => by cases h1; exact hcd.ne cb h2 rfl
  refine csr (aC (cX rfl rfl) ?_); refine wnn (aI (aX rfl (fun e5 => ?_) (fun e5 => ?_)))
  ·have hjr : j < r := by omega
   have hms := wJ (e := t.kids[0].esz + 1) hjr; refine aL (aB (aI (bG (csr (aD (aD (aC (cC (vs := [(0, _)]) dG rfl (cells := [_, _, _, _, _]) rfl) ?_)))))))
   refine aK (vs := [_, _]) eI rfl (kQ (rs := []) (hcd.evo0 (Evo.refl [] wr60)) mJ (by simp only [List.length_append]; omega)) rfl ?_
   rintro _ g1 ⟨rfl, a2, hto5⟩; have hlt_b3_5 := (Lt.blk hb3); have hlt_JS_5 := (Lt.own hjo); have hev_5 := a1; obtain ⟨pa_5, pc_5, po_5, hC_5, hp_5⟩ := hto5; have hq_5 := dZ hq hev_5 hp_5; have hA_b3_5 := fT ha2 hlt_b3_5 hp_5; have hA_JS_5 := fT hap2.symm hlt_JS_5 hp_5
   have hAJN_5 : Apart (some cb) po_5 := fun g h1 h2 => by cases h1; exact hC_5.ne cb h2 rfl
   refine bL (vs := [_]) rfl qO rfl rfl rfl rfl fun g7 g8 e6 g5 I => ?_; have c4 := (a1.step a2 (dY hq)).then I; have c5 := (Evo.refl jo.toList g1).then I; have c6 := I.blk0 (a2.blk hb3 (nT ha1 ha2)); have hcd4 := c5; refine dB rfl rfl rfl rfl tM ((hjo.evo a2 (vN hap1.symm hap2.symm)).evo0 I) (Src.ofOwn e6 ⟨by first | rfl | assumption, trivial⟩) (by omega) fun ja2 jc2 g2 jo2 c7 a3 hob90 => ?_; have c8 := hap1.app (Lt.blk (I.blk0 hC_5.blk)) hob90; have c9 := hA_JS_5.symm.app (Lt.own (hC_5.own.evo0 I)) hob90; have M := c4.step a3 hge.mem; have e7 := c5.step a3 (fun y hy => .inl hy); have a4 := a3.blk c6 ha3.nmem; have hjo2 := hob90; have g3 := hC_5.evo e7 hap1.nmem hA_JS_5.symm.own (fun y hy => List.mem_append_left _ hy) (NU hcd4 hjo2); refine wan (aG (aD (wfl rfl eL rfl gF a4 rfl ?_))); refine aC (fG (n := 0) rfl rfl rfl dO (by omega)) ?_; refine aC (dF rfl bQ aS (vs := [_, _, _, _, _, _, _, _, _]) rfl (a6.evo M hb1)) ?_
   refine aK (vs := [_, _]) iT rfl (ih (t := t.kids[0]) (g3.evo0 (Evo.refl [] g2)) (RRx.step hrk M (dY hq_5) hXlt) (hg.kid _ (List.getElem_mem hj')) (by simp only [List.length_append, List.length_cons, List.length_nil]; omega) (ltZ hZ M (Lt.own c7))) rfl ?_
   rintro _ g6 ⟨-, U, kx6, hto6, hkx6, hkl6, hkn6⟩; have hlt_b3_6 := (Lt.blk a4); have hlt_jo2_6 := (Lt.own c7); have hev_6 := M; have d2 := c7.evo U (vN c8.symm c9.symm); obtain ⟨pa_6, pc_6, po_6, hC_6, hp_6⟩ := hto6; have hq_6 := dZ hq_5 hev_6 hp_6; have hA_b3_6 := fT hA_b3_5 hlt_b3_6 hp_6; have hA_jo2_6 := fT c9.symm hlt_jo2_6 hp_6
   have hAJN_6 : Apart (some cb) po_6 := fun g h1 h2 => by cases h1; exact hC_6.ne cb h2 rfl
   refine aP (aO (aB (aG ?_))); refine aC (aJ rfl rfl (by omega) (by omega)) ?_; refine aD (aP (bB ?_)); refine ⟨⟨j + 1, new2 ++ ([(⟨3, ((es ++ (new ++ new2)).length : Nat) + 1, 0, 0, []⟩, .slice none 0 0)] ++ kx6), pa_6, pc_6, po_6, js ++ [(es ++ (new ++ new2)).length], ja2, jc2, jo2⟩, ?_, ⟨rfl, rfl, trivial⟩, ⟨rfl, rfl, rfl, trivial⟩, (M.step U (dY hq_5)), ?_⟩
   · (try dsimp only); omega
   try dsimp only
   have hm : (es ++ (new ++ new2)).length = es.length + new.length + (new2.map (·.1)).length := by simp only [List.length_append, List.length_map]; omega
   have hx' : gR t.kids[0] ((es ++ (new ++ new2)).length + 1) (kx6.map (·.1)) := by have h := hkx6; rwa [List.length_append] at h
   have hs := hpre.snoc (o := ((es ++ (new ++ new2)).length : Nat) + 1) (al := 0) hm hx'
   refine ⟨by show j + 1 ≤ r; omega, hC_6.cast (by simp), hq_6, ?_, ?_, ?_, iC hnice2 (iC (gH (KZ _ _ (by omega) (Int.le_refl _))) hkn6), ?_, c8, hA_jo2_6.symm, (hge.app c4 hob90), (U.blk a4 (nT ha1 hA_b3_5)), ha1, hA_b3_6, (ha3.app (Lt.blk c6) hob90)⟩
   · show OptPre _ _ (j + 1) _ _ _; rw [List.map_append, List.map_append]; exact hs
   · show _ ≤ (j + 1) * (t.kids[0].esz + 1); rw [Nat.succ_mul]; simp only [List.length_append, List.length_cons, List.length_nil]; omega
   · show (js ++ [_]).length = j + 1; rw [List.length_append, hjl]; rfl
   · have h : OwnS _ 3 1 ja2 (j + 1) jc2 (js.map (fun p => iv (p : Nat)) ++ [iv ((es ++ (new ++ new2)).length : Nat)]) jo2 := d2
     show OwnS _ 3 1 ja2 (j + 1) jc2 ((js ++ [_]).map _) jo2; rw [List.map_append]; exact h
  have hjr : j = r := by omega
  subst hjr; refine cM (bK (bK (cL (aB ?_)))); refine csr (aD (aC (bH rfl Tryz.underlying37 rfl) ?_)); refine aD (wnn (bG ?_))
  refine dC (α := Nat) (0) (fun i => [(88, .int .i64 (i : Nat))]) [(0, _), (3, _), (86, _), (87, _)] (fun i wr => Evo (cb :: ob.toList) w wr ∧ (i ≤ js.length ∧ CdAt wr cb (nO (Iv.turnTo t.lazy (es.length + new.length + new2.length)) (js.take i) (es ++ (new ++ new2))) pa pc po (jo.toList ++ Z) ∧ OwnS wr 3 1 ja j jc (js.map fun p => iv (p : Nat)) jo ∧ wr.heap[b3]? = some (.cells #[iv t.kind, .int .i32 t.r, .slice ra t.ranges.length rc, iv t.min, iv t.max, .bool t.lazy, iv t.cap, .string t.name, .slice (some ⟨bk, ok, none⟩) t.kids.length kc] 71 (0, 0)))) (fun i => js.length - i) ⟨rfl, trivial⟩ ⟨rfl, rfl, rfl, rfl, trivial⟩ ⟨a1, ⟨Nat.zero_le _, by rw [List.take_zero]; exact hcd.evo0 (Evo.refl [] wr60), hjo, hb3⟩⟩ ?_
  rintro i wr107 ⟨a5, ⟨hi, hcd2, hjo2, hb32⟩⟩; show CW _ _ _ _ [(88, _), (0, _), (3, _), (86, _), (87, _)] _
  have hpl : (nO (Iv.turnTo t.lazy (es.length + new.length + new2.length)) (js.take i) (es ++ (new ++ new2))).length = es.length + new.length + new2.length := by rw [pZ]; simp only [List.length_append]; omega
  refine csr (aC (cX rfl rfl) ?_); refine wnn (aI (aX rfl (fun e8 => ?_) (fun e8 => ?_)))
  ·have hi' : i < js.length := by omega
   have hat := hpre.at' js[i] (List.getElem_mem hi')
   rw [List.length_map] at hat; obtain ⟨gJ, haJ, hcJ⟩ := GM hjo2 (by omega); refine aL (aB (aI (bG (csr ?_))))
   refine aC (cF (n := i) (by rw [haJ]; rfl) rfl gA (by omega)) ?_
   refine aC (aU rfl aQ (hcJ i hi')) (wan ?_); refine fZ (fun w0 w' => Evo po.toList w0 w') (by kernel_rfl) (fun A D => ?_); refine aet 0 rfl (fun _ hS => aY rfl) (Evo.refl po.toList A) ?_; refine aet 1 rfl (fun _ hS => aF rfl) (Evo.refl po.toList A) ?_; refine aet 2 rfl (fun _ hS => aU rfl dX (bA (hS.blk (D.blk0 hcd2.blk) (hAJN.nmem)) rfl)) (Evo.refl po.toList A) ?_; refine aet 3 rfl (fun _ hS => aY rfl) (Evo.refl po.toList A) ?_; refine aet 4 rfl (fun _ hS => aY rfl) (Evo.refl po.toList A) ?_; refine aet 5 rfl (fun _ hS => aJ rfl rfl (by omega) (by omega)) (Evo.refl po.toList A) ?_; refine aet 6 rfl (fun _ hS => aY rfl) (Evo.refl po.toList A) ?_; refine aet 7 rfl (fun _ hS => aF rfl) (Evo.refl po.toList A) ?_; refine aet 8 rfl (fun _ hS => aU rfl dX (bA (hS.blk (D.blk0 hcd2.blk) (hAJN.nmem)) rfl)) (Evo.refl po.toList A) ?_; refine aet 9 rfl (fun _ hS => bH rfl Tryz.underlying120 rfl) (Evo.refl po.toList A) ?_
   refine aet 10 rfl (fun _ hS => aA rfl lQ) (Evo.refl po.toList A) ?_; refine aet 11 rfl (fun _ hS => aU rfl gC (bA (hS.blk (D.blk0 hb32) (ha2.nmem)) rfl)) (Evo.refl po.toList A) ?_; refine bR [12] (by kernel_rfl) rfl ⟨?_, trivial⟩; refine bY rfl ?_
   refine aK (vs := [_, _, _, _, _]) qV rfl (FY (k := js[i]) (hcd2.evo0 ((Evo.refl [] wr107).then D)) (rfl) (by rw [hpl]; omega)) rfl ?_
   rintro _ e9 ⟨rfl, J, hT_7⟩; have d3 := (a5.then D).step J (fun y hy => dY hq y (List.mem_cons_of_mem _ hy)); refine aP (bN (.inl ((Evo.refl po.toList A).step J (fun y hy => .inl hy))) ?_); refine dJ (by kernel_rfl) (aO (aB ?_)); refine aG ?_; refine aC (aJ rfl rfl (by omega) (by omega)) ?_; refine aD (aP (bB ?_)); refine ⟨i + 1, ?_, ⟨rfl, trivial⟩, ⟨rfl, rfl, rfl, rfl, trivial⟩, d3, ?_⟩
   · omega
   refine ⟨by omega, ?_, ((hjo2.evo0 D).evo J (hap2.symm.own)), (J.blk (D.blk0 hb32) (ha2.nmem))⟩; rw [List.take_add_one, List.getElem?_eq_getElem hi']; have h := hT_7.evo0 (Evo.refl [] e9); rw [SJ hpl] at h; rw [show (js.take i ++ (some js[i]).toList) = js.take i ++ [js[i]] from rfl, yF]; exact h
  refine cM (bK (bK (cL (eC rfl ?_)))); have hiE : js.take i = js := List.take_of_length_le (by omega); rw [hiE] at hcd2
  have hatJ : ∀ p, p ∈ js → (es ++ new).length ≤ p := fun p hp => by have := (hpre.at' p hp).1; rw [List.length_append]; exact this
  rw [← List.append_assoc] at hcd2; obtain ⟨new', g4, d0, d1⟩ := yE (f := Iv.turnTo t.lazy (es.length + new.length + new2.length)) (fun p e => rfl) (new := new2) hatJ; rw [g4, List.append_assoc] at hcd2; rw [List.length_append] at d1
  refine ⟨rfl, a5, new ++ new', ⟨_, _, _, hcd2.evo (Evo.refl [] _) (by simp) (by simp) (by simp) (fun z hz => .inl (List.mem_append_right _ hz)), hq⟩, ?_, ?_, iC hnice (yP hnice2 d0 d1 (fun p e h => ⟨h.1, by show (0 : Int) ≤ (if t.lazy then _ else _); split <;> omega, by show (0 : Int) ≤ (if t.lazy then _ else _); split <;> omega, h.2.2.2⟩))⟩
  · rw [List.map_append]
    refine RF (a := es.length) (k := new.map (·.1)) (kp := new'.map (·.1)) (kx := new2.map (·.1)) (js := js) (r := j) h6 hky hmx hpre0 hr (by rw [List.length_map]; exact hpre) (by rw [List.length_map, List.length_map]; exact d0) (fun l hl => ?_)
    rw [List.length_map] at hl ⊢; rw [List.length_map]; exact UB (g := turnTo t.lazy (es.length + new.length + new2.length)) (fun _ _ => rfl) d0 d1 hl
  · simp only [List.length_append]; omega
theorem JC : dU Tryz.prog 79 := ⟨_, Tryz.func79, by kernel_rfl, by kernel_rfl⟩
theorem wT : dU Tryz.prog 80 := ⟨_, Tryz.func80, by kernel_rfl, by kernel_rfl⟩
theorem PC {E s e : Int} (he : e = E + 2) (hs : s = min E 10001) : min (s + 2) 10001 = min e 10001 := by subst he hs; omega
theorem jK (a b : Int) : (if b < a then b else a) = min a b := by omega
theorem SL {a b : Nat} {s r : Int} (hs : s = min (a : Int) 10001) (hr : r = min (b : Int) 10001) : min (s + r) 10001 = min (((a + b : Nat) : Int)) 10001 := by subst hs hr; omega
set_option maxHeartbeats 4000000 in
theorem PP {n : Nat} (ih : ∀ {X : List Nat} {w : World} {vs : List Value} {t : Rx} (hx : RRx n X w vs t) (hg : Good t), Calls Tryz.prog 80 #[.agg vs.toArray] w (Ret fun v w' => v = .int .i64 (min (t.esz : Int) 10001) ∧ Evo [] w w')) {X : List Nat} {w : World} {vs : List Value} {t : Rx} (hx : RRx (n + 1) X w vs t) (hg : Good t) : Calls Tryz.prog 80 #[.agg vs.toArray] w (Ret fun v w' => v = .int .i64 (min (t.esz : Int) 10001) ∧ Evo [] w w') := by
  have hx0 := hx; obtain ⟨m, ra, rc, ka, kc, hm, rfl, hrg, hk, bl1, bl2, bl3⟩ := hx.get
  obtain rfl : m = n := by omega
  obtain ⟨_, _, hke, hkc, e1⟩ := hk; cases hke; have hn := (nH t).1 hg.node; refine bD (N := 64) Tryz.func80 rfl rfl rfl ?_; refine csr (gK rfl rfl fun b1 w2 V a8 a6 => ?_); refine wan (csr (wan (aI (csr (wfl rfl eL rfl gF V rfl (aC (bH rfl Tryz.underlying69 rfl) ?_)))))); refine aD (wnn (bG ?_))
  refine dC (α := Nat × Int) ((0, 0)) (fun x => [(3, .int .i64 x.2), (9, .int .i64 (x.1 : Nat))]) [(1, _), (2, _), (7, _), (8, _)] (fun x wr => Evo [] w2 wr ∧ (x.1 ≤ t.kids.length ∧ x.2 = min (gV (t.kids.take x.1) : Int) 10001)) (fun x => t.kids.length - x.1) ⟨rfl, rfl, trivial⟩ ⟨rfl, rfl, rfl, rfl, trivial⟩ ⟨Evo.refl _ _, ⟨Nat.zero_le _, by simp only [List.take_zero]; rfl⟩⟩ ?_
  rintro ⟨j, s⟩ wr8 ⟨L, ⟨hj, hs⟩⟩; show CW _ _ _ _ [(3, .int .i64 s), (9, .int .i64 (j : Nat)), (1, _), (2, _), (7, _), (8, _)] _
  try dsimp only at hj hs
  have A := ((Evo.refl [] w).then a6).then L; have B := L.blk0 V; refine csr (aC (cX rfl rfl) ?_); refine wnn (aI (aX rfl (fun a2 => ?_) (fun a2 => ?_)))
  ·have hj' : j < t.kids.length := by omega
   obtain ⟨b1, o1, vs1, ha1, hb1, hvl1, a7, hrk⟩ := e1 j hj'; obtain ⟨m1, ra1, rc1, ka1, kc1, rfl, rfl, -⟩ := id hrk.get; refine aL (aB (aI (bG (csr ?_))))
   refine aC (cF (n := j) (by rw [ha1]; rfl) rfl dO (by omega)) ?_
   refine aC (dF rfl bQ aS (vs := [_, _, _, _, _, _, _, _, _]) rfl (a7.evo A (by simp))) ?_; refine cK rfl eG fun a9 b4 a3 M O => ?_; refine aW rfl rfl aS a3 rfl rfl ⟨by first | rfl | assumption, by first | rfl | assumption, by first | rfl | assumption, by first | rfl | assumption, by first | rfl | assumption, by first | rfl | assumption, by first | rfl | assumption, by first | rfl | assumption, by first | rfl | assumption, trivial⟩ fun b5 a4 U => ?_; refine wnn (aG (aD (aC (bV rfl bQ aS a4 rfl) ?_))); refine aK (vs := [_]) wT rfl (ih (RRx.pers _ _ _ _ _ _ (((A.then O).step U (Ge.new A M).mem1).mono (fun b hb => by cases hb)) hrk) (hg.kid _ (List.getElem_mem hj'))) rfl ?_; rintro _ b6 ⟨rfl, a5⟩; refine aC (aJ rfl rfl (by omega) (by omega)) ?_; refine aC (jJ rfl rfl) ?_; refine bX (aP (aO (aB (aG ?_)))); refine aC (aJ rfl rfl (by omega) (by omega)) ?_; refine aD (aP (bB ?_)); refine ⟨(j + 1, if 10001 < s + min (t.kids[j].esz : Int) 10001 then 10001 else s + min (t.kids[j].esz : Int) 10001), ?_, ⟨rfl, rfl, trivial⟩, ⟨rfl, rfl, rfl, rfl, trivial⟩, (((L.then O).step U (Ge.new L M).mem1).then a5), ?_⟩
   · (try dsimp only); omega
   try dsimp only
   exact ⟨by omega, by rw [sV hj', jK]; exact SL hs rfl⟩
  have hall : s = min (gV t.kids : Int) 10001 := by rw [hs, List.take_of_length_le (by omega)]
  have a0 : 0 ≤ s := by omega
  have a1 : s ≤ 10001 := by omega
  refine cM (bK (bK (cL (aB ?_)))); refine aI (csr (wfl rfl iX rfl aQ B rfl (wnn (bG (aI (csr (wel ?_))))))); refine wan (aX rfl (fun D => ?_) (fun D => ?_))
  ·refine aL (aB (aX rfl (fun D => ?_) (fun D => ?_)))
   ·refine aL (aO (aB (csr (aD (aC (jJ rfl rfl) ?_))))); refine wan (aH (br1 ?_)); refine ⟨congrArg (Value.int .i64) ?_, A⟩; rw [jK]
    first | (rw [esz1 (by omega), hall]; have hk0 : t.kids = [] := hg.node.leaf (by unfold sF; omega); rw [hk0]; rfl) | (rw [esz4 (by omega), hall]; omega)
   refine csr (wel ?_); refine wan (aX rfl (fun F => ?_) (fun F => ?_))
   ·have h52 := hn.two (by omega); refine aG (aD (wfl rfl eL rfl gF B rfl (aC (bH rfl Tryz.underlying69 rfl) ?_))); refine aC (dL rfl rfl (by omega) (by omega)) ?_; refine aC (fL rfl rfl (by omega) (by omega)) ?_; refine aC (aJ rfl rfl (by omega) (by omega)) ?_; refine bX (aP (aO (aB (csr (aD (aC (jJ rfl rfl) ?_)))))); refine wan (aH (br1 ?_)); refine ⟨congrArg (Value.int .i64) ?_, A⟩; rw [jK]
    rw [esz5 (by omega) (by omega), hall]; omega
   refine csr (wel ?_); refine wan (aX rfl (fun H => ?_) (fun H => ?_))
   ·refine aG (aD ?_); refine aC (aJ rfl rfl (by omega) (by omega)) ?_; refine bX (aP (aO (aB (csr (aD (aC (jJ rfl rfl) ?_)))))); refine wan (aH (br1 ?_)); refine ⟨congrArg (Value.int .i64) ?_, A⟩; rw [jK]; exact PC (esz7 (by omega)) hall
   refine csr (wel ?_); refine wan (aX rfl (fun I => ?_) (fun I => ?_))
   ·have h6 := hn.rep1 (by omega); have h62 := hn.rep2 (by omega); have h63 := hn.rep3 (by omega); have hmu := DU h6 h62 a0 a1; refine csr (wfl rfl eY rfl aQ B rfl (aC (cX rfl rfl) ?_)); refine wnn (aX rfl (fun J => ?_) (fun J => ?_))
    ·refine aG (wfl rfl eB rfl aQ B rfl (aD ?_)); refine aC (fL rfl rfl (by omega) (by omega)) ?_; refine aD ?_; refine aC (aJ rfl rfl (by omega) (by omega)) ?_; refine aC (aJ rfl rfl (by omega) (by omega)) ?_; refine bX (aP (aO (aB (csr (aD (aC (jJ rfl rfl) ?_)))))); refine wan (aH (br1 ?_)); refine ⟨congrArg (Value.int .i64) ?_, A⟩; rw [jK]
     rw [esz6a (by omega) h6 (by omega), hall]; exact IH h6 (Int.natCast_nonneg _)
    have hmv := DU (show 0 ≤ t.max - t.min by omega) (show t.max - t.min ≤ 1000 by omega) (show 0 ≤ s + 1 by omega) (show s + 1 ≤ 10002 by omega); refine aG (wfl rfl eB rfl aQ B rfl (aD ?_)); refine aC (fL rfl rfl (by omega) (by omega)) ?_; refine wfl rfl eY rfl aQ B rfl (wfl rfl eB rfl aQ B rfl ?_); refine aC (dL rfl rfl (by omega) (by omega)) ?_; refine aD ?_; refine aC (aJ rfl rfl (by omega) (by omega)) ?_; refine aC (fL rfl rfl (by omega) (by omega)) ?_; refine aC (aJ rfl rfl (by omega) (by omega)) ?_; refine bX (aP (aO (aB (csr (aD (aC (jJ rfl rfl) ?_)))))); refine wan (aH (br1 ?_)); refine ⟨congrArg (Value.int .i64) ?_, A⟩; rw [jK]
    rw [esz6b (by omega) h6 (by omega), hall]; exact IG h6 (by omega) (Int.natCast_nonneg _)
   refine aG (bX (aP (aO (aB (csr (aD (aC (jJ rfl rfl) ?_))))))); refine wan (aH (br1 ?_)); refine ⟨congrArg (Value.int .i64) ?_, A⟩; rw [jK]; rw [zH (by omega)]
  refine aG (wel ?_); refine wan (aX rfl (fun D => ?_) (fun D => ?_))
  ·refine aL (aO (aB (csr (aD (aC (jJ rfl rfl) ?_))))); refine wan (aH (br1 ?_)); refine ⟨congrArg (Value.int .i64) ?_, A⟩; rw [jK]
   first | (rw [esz1 (by omega), hall]; have hk0 : t.kids = [] := hg.node.leaf (by unfold sF; omega); rw [hk0]; rfl) | (rw [esz4 (by omega), hall]; omega)
  refine csr (wel ?_); refine wan (aX rfl (fun F => ?_) (fun F => ?_))
  ·have h52 := hn.two (by omega); refine aG (aD (wfl rfl eL rfl gF B rfl (aC (bH rfl Tryz.underlying69 rfl) ?_))); refine aC (dL rfl rfl (by omega) (by omega)) ?_; refine aC (fL rfl rfl (by omega) (by omega)) ?_; refine aC (aJ rfl rfl (by omega) (by omega)) ?_; refine bX (aP (aO (aB (csr (aD (aC (jJ rfl rfl) ?_)))))); refine wan (aH (br1 ?_)); refine ⟨congrArg (Value.int .i64) ?_, A⟩; rw [jK]
   rw [esz5 (by omega) (by omega), hall]; omega
  refine csr (wel ?_); refine wan (aX rfl (fun H => ?_) (fun H => ?_))
  ·refine aG (aD ?_); refine aC (aJ rfl rfl (by omega) (by omega)) ?_; refine bX (aP (aO (aB (csr (aD (aC (jJ rfl rfl) ?_)))))); refine wan (aH (br1 ?_)); refine ⟨congrArg (Value.int .i64) ?_, A⟩; rw [jK]; exact PC (esz7 (by omega)) hall
  refine csr (wel ?_); refine wan (aX rfl (fun I => ?_) (fun I => ?_))
  ·have h6 := hn.rep1 (by omega); have h62 := hn.rep2 (by omega); have h63 := hn.rep3 (by omega); have hmu := DU h6 h62 a0 a1; refine csr (wfl rfl eY rfl aQ B rfl (aC (cX rfl rfl) ?_)); refine wnn (aX rfl (fun J => ?_) (fun J => ?_))
   ·refine aG (wfl rfl eB rfl aQ B rfl (aD ?_)); refine aC (fL rfl rfl (by omega) (by omega)) ?_; refine aD ?_; refine aC (aJ rfl rfl (by omega) (by omega)) ?_; refine aC (aJ rfl rfl (by omega) (by omega)) ?_; refine bX (aP (aO (aB (csr (aD (aC (jJ rfl rfl) ?_)))))); refine wan (aH (br1 ?_)); refine ⟨congrArg (Value.int .i64) ?_, A⟩; rw [jK]
    rw [esz6a (by omega) h6 (by omega), hall]; exact IH h6 (Int.natCast_nonneg _)
   have hmv := DU (show 0 ≤ t.max - t.min by omega) (show t.max - t.min ≤ 1000 by omega) (show 0 ≤ s + 1 by omega) (show s + 1 ≤ 10002 by omega); refine aG (wfl rfl eB rfl aQ B rfl (aD ?_)); refine aC (fL rfl rfl (by omega) (by omega)) ?_; refine wfl rfl eY rfl aQ B rfl (wfl rfl eB rfl aQ B rfl ?_); refine aC (dL rfl rfl (by omega) (by omega)) ?_; refine aD ?_; refine aC (aJ rfl rfl (by omega) (by omega)) ?_; refine aC (fL rfl rfl (by omega) (by omega)) ?_; refine aC (aJ rfl rfl (by omega) (by omega)) ?_; refine bX (aP (aO (aB (csr (aD (aC (jJ rfl rfl) ?_)))))); refine wan (aH (br1 ?_)); refine ⟨congrArg (Value.int .i64) ?_, A⟩; rw [jK]
   rw [esz6b (by omega) h6 (by omega), hall]; exact IG h6 (by omega) (Int.natCast_nonneg _)
  refine aG (bX (aP (aO (aB (csr (aD (aC (jJ rfl rfl) ?_))))))); refine wan (aH (br1 ?_)); refine ⟨congrArg (Value.int .i64) ?_, A⟩; rw [jK]; rw [zH (by omega)]
theorem MO : ∀ {n : Nat} {X : List Nat} {w : World} {vs : List Value} {t : Rx} (hx : RRx n X w vs t) (hg : Good t), Calls Tryz.prog 80 #[.agg vs.toArray] w (Ret fun v w' => v = .int .i64 (min (t.esz : Int) 10001) ∧ Evo [] w w')
  | 0, X, w, vs, t, hx, hg => hx.elim
  | n + 1, X, w, vs, t, hx, hg => PP (n := n) (fun hx hg => MO hx hg) hx hg
def SizeIs (t : Rx) (r : Int) : Prop := (t.Ok → r = min ((t.esz : Int) + 1) 10001) ∧ (¬ t.Ok → r = 0)
theorem cap_one (e : Int) : min (min e 10001 + 1) 10001 = min (e + 1) 10001 := by omega
theorem Size_ok {n : Nat} {w : World} {vs : List Value} {t : Rx} (hx : RRx n [] w vs t) : Calls Tryz.prog 54 #[.agg vs.toArray] w (Ret fun v w' => ∃ r, v = .int .i64 r ∧ SizeIs t r ∧ Evo [] w w') := by
  have hx0 := hx; obtain ⟨m, ra, rc, ka, kc, hm, rfl, hrg, hk, bl1, bl2, bl3⟩ := hx.get; refine bD (N := 10) Tryz.func54 rfl rfl rfl ?_; refine csr (gK rfl rfl fun b1 w2 D L J => ?_); have F := (Evo.refl [] w).then J; refine wan (aI (csr (aC (bV rfl bQ aS D rfl) (aK (vs := [_]) JC rfl (SC (RRx.pers _ _ _ _ _ _ F hx0)) rfl ?_)))); rintro _ w8 ⟨r, rfl, hr, H⟩; have A := F.then H; refine aC (fK rfl) ?_; refine wnn (fN rfl (fun B => ?_) (fun B => ?_))
  ·refine csr (wan (aH (aE (br1 ?_))))
   exact ⟨0, rfl, ⟨fun h => (by rw [hr.2 h] at B; cases B), fun _ => rfl⟩, A⟩
  have hok : t.Ok := hr.1 (by simpa using B); refine aL (aB (csr (aC (bV rfl bQ aS (H.blk0 D) rfl) (aK (vs := [_]) wT rfl (MO (RRx.pers _ _ _ _ _ _ A hx0) hok.good) rfl ?_)))); rintro _ M ⟨rfl, I⟩; refine aC (aJ rfl rfl (by omega) (by omega)) ?_; refine aC (jJ rfl rfl) ?_; refine wan (aH (br1 ?_))
  exact ⟨_, rfl, ⟨fun _ => by rw [jK]; exact cap_one _, fun h => (h hok).elim⟩, (A.then I)⟩
theorem jS : kU Tryz.prog 76 = some true := by kernel_rfl
theorem qZ : Build Tryz.prog 76 #[(0, 1), (1, 1), (2, 1), (3, 1)] #[.slice none 0 0, .int .i64 0, .int .i64 0, .slice none 0 0] := ⟨_, .agg #[.slice none 0 0, .int .i64 0, .int .i64 0, .slice none 0 0], Tryz.underlying76, by kernel_rfl, rfl, fun w => by kernel_rfl⟩
theorem jH : Build Tryz.prog 135 #[(0, 1), (1, 1)] #[.int .i32 0, .int .i32 0] := ⟨_, .agg #[.int .i32 0, .int .i32 0], Tryz.underlying135, by kernel_rfl, rfl, fun w => by kernel_rfl⟩
theorem JE : dU Tryz.prog 54 := ⟨_, Tryz.func54, by kernel_rfl, by kernel_rfl⟩
theorem JD : dU Tryz.prog 56 := ⟨_, Tryz.func56, by kernel_rfl, by kernel_rfl⟩
theorem sA : dU Tryz.prog 82 := ⟨_, Tryz.func82, by kernel_rfl, by kernel_rfl⟩
theorem JB : dU Tryz.prog 83 := ⟨_, Tryz.func83, by kernel_rfl, by kernel_rfl⟩
theorem JA : dU Tryz.prog 84 := ⟨_, Tryz.func84, by kernel_rfl, by kernel_rfl⟩
theorem fO : fR Tryz.prog 76 = some 4 := by kernel_rfl
theorem wP : mH Tryz.prog 76 = some #[.slice none 0 0, .int .i64 0, .int .i64 0, .slice none 0 0] := by kernel_rfl
theorem EV : mH Tryz.prog 120 = some #[.slice none 0 0] := by kernel_rfl
structure CtI (w wr : World) (cb : Nat) (es : List Iv) (ob : Option Nat) (Z : List Nat) (ks : List Rx) (x : RpG) : Prop where
  j : x.k ≤ ks.length
  cd : CdAt wr cb (es ++ x.new) x.pa x.pc x.po Z
  po : x.po = ob ∨ ∃ g, x.po = some g ∧ w.heap.size ≤ g
  pre : CatC (ks.take x.k) es.length (x.new.map (·.1))
  len : x.new.length ≤ gV (ks.take x.k)
  nice : ∀ e, e ∈ x.new → mS e.1
theorem RangesOk.low {l : List (Int × Int)} (h : RangesOk l) : ∀ i (hi : i < l.length), 2 * (i : Int) ≤ l[i].1
  | 0, hi => by have := (h.1 0 hi).1; omega
  | i + 1, hi => by
    have h1 := h.low i (by omega)
    have h2 := h.1 i (by omega)
    have h3 := (h.1 (i + 1) hi).2.2.2 i (by omega) rfl
    omega
theorem RangesOk.len {l : List (Int × Int)} (h : RangesOk l) : l.length ≤ 1048576 := by
  by_cases e : l.length = 0
  · omega
  · have h1 := h.low (l.length - 1) (by omega)
    have h2 := h.1 (l.length - 1) (by omega)
    omega
theorem rows_rr (X : List Nat) (w : World) (a b : Int) : RowsOk 2 RRg X w [[.int .i32 a, .int .i32 b]] [(a, b)] := by
  refine ⟨rfl, fun k hk hk' => ?_⟩
  simp at hk
  subst hk
  exact ⟨rfl, rfl⟩
theorem NV {w w1 : World} {cb : Nat} {es : List Iv} {a : Option Addr} {c : Nat} {ob : Option Nat} {Z X : List Nat} (h : CdAt w cb es a c ob Z) (hZ : ∀ z, z ∈ Z → z < w.heap.size) (he : Evo X w w1) : ∀ z, z ∈ cb :: (ob.toList ++ Z) → z < w1.heap.size := fun z hz => by
  rw [← List.cons_append] at hz
  rcases List.mem_append.1 hz with h1 | h1
  · exact Nat.lt_of_lt_of_le (h.lt z h1) he.size
  · exact Nat.lt_of_lt_of_le (hZ z h1) he.size
set_option maxHeartbeats 8000000 in
theorem RL {n : Nat} (ih : ∀ {w : World} {cb : Nat} {es : List Iv} {a : Option Addr} {c : Nat} {ob : Option Nat} {Z : List Nat} {vs : List Value} {t : Rx} (hC : CdAt w cb es a c ob Z) (hx : RRx n (cb :: ob.toList) w vs t) (hg : Good t) (hl : es.length + t.esz ≤ 100000) (hZ : ∀ z, z ∈ Z → z < w.heap.size), Calls Tryz.prog 55 #[.pointer (some ⟨cb, 0, none⟩), .agg vs.toArray] w (Ret fun v w' => v = .tuple #[] ∧ Evo (cb :: ob.toList) w w' ∧ ∃ new, JO w w' cb ob (es ++ new) Z ∧ gR t es.length (new.map (·.1)) ∧ new.length ≤ t.esz ∧ ∀ e, e ∈ new → mS e.1)) {w : World} {cb : Nat} {es : List Iv} {a : Option Addr} {c : Nat} {ob : Option Nat} {Z : List Nat} {vs : List Value} {t : Rx} (hC : CdAt w cb es a c ob Z) (hx : RRx (n + 1) (cb :: ob.toList) w vs t) (hg : Good t) (hl : es.length + t.esz ≤ 100000) (hZ : ∀ z, z ∈ Z → z < w.heap.size) : Calls Tryz.prog 55 #[.pointer (some ⟨cb, 0, none⟩), .agg vs.toArray] w (Ret fun v w' => v = .tuple #[] ∧ Evo (cb :: ob.toList) w w' ∧ ∃ new, JO w w' cb ob (es ++ new) Z ∧ gR t es.length (new.map (·.1)) ∧ new.length ≤ t.esz ∧ ∀ e, e ∈ new → mS e.1) := by
  have hXlt := hC.lt; have hx0 := hx; obtain ⟨m, ra, rc, ka, kc, hm, rfl, hrg, hk, bl1, bl2, bl3⟩ := hx.get
  obtain rfl : m = n := by omega
  have hk0 := hk; obtain ⟨_, _, hke, hkc, e1⟩ := hk; cases hke; have hn := (nH t).1 hg.node; have hcap := hg.capb
  have a4 : Apart (some cb) ob := fun g h1 h2 => by cases h1; exact hC.ne cb h2 rfl
  have hmZ : ∀ b, b ∈ cb :: ob.toList → b ∈ cb :: (ob.toList ++ Z) := fun b hb => by rw [← List.cons_append]; exact List.mem_append_left _ hb
  refine bD (N := 114) Tryz.func55 rfl rfl rfl ?_; refine csr (gK rfl rfl fun b3 w1 B a9 V => ?_); have i5 := a9; have e7 := Apart.new (Lt.blk hC.blk) a9; have F := Apart.new (Lt.own hC.own) a9; have A := (Evo.refl (cb :: ob.toList) w).then V; have D := (Evo.refl [] w).then V; refine wnn (csr (wfl rfl iX rfl aQ B rfl (wnn (bG (csr (wel ?_)))))); refine wan (aX rfl (fun i6 => ?_) (fun i6 => ?_))
  ·have hk2 : t.kind = 2 := by omega
   refine aG (aD (wfl rfl jY rfl cI B rfl (wfl rfl jY rfl cI B rfl (aC (cC (vs := [(0, _), (1, _)]) jH rfl (cells := [_, _]) rfl) ?_)))); have hev16 := A; refine bL (vs := [_]) rfl fV rfl rfl rfl rfl fun i7 j4 b4 e8 I => ?_; refine aC (cC (vs := [(0, _), (4, _)]) dG rfl (cells := [_, _, _, _, _]) rfl) ?_; have hsl := b4
   have hslx : ∀ g, some i7 = some g → g ∉ cb :: (ob.toList ++ Z) := fun g hg hm => by have h1 := NV hC hZ (Evo.refl [] w) _ hm; have h2 := (Ge.new A e8) g hg; omega
   refine aK (vs := [_, _]) eI rfl (kQ (rs := [(t.r, t.r)]) (hC.evo0 (D.then I)) (RSl.ofOwn (rows := [[.int .i32 t.r, .int .i32 t.r]]) hsl (rows_rr _ _ _ _) rfl hslx) (by omega)) rfl ?_; rintro _ i8 ⟨rfl, e9, hto1⟩; have hlt_b3_1 := (Lt.blk (I.blk0 B)); have hlt_b13_1 := (Lt.own b4); have hev_1 := (A.then I); have f0 := (A.then I).step e9 (dY (.inl rfl)); obtain ⟨pa_1, pc_1, po_1, hC_1, hp_1⟩ := hto1; have hq_1 := dZ (.inl rfl) hev_1 hp_1; have hA_b3_1 := fT F.symm hlt_b3_1 hp_1
   have hAJN_1 : Apart (some cb) po_1 := fun g h1 h2 => by cases h1; exact hC_1.ne cb h2 rfl
   refine aP (aO (eC rfl ?_))
   refine ⟨rfl, f0, [(⟨2, (es.length : Nat) + 1, 0, 0, [(t.r, t.r)]⟩, _)], ⟨_, _, _, hC_1.evo0 (Evo.refl [] i8), hq_1⟩, RG (by omega), by have := zH (t := t) (by omega); show 1 ≤ t.esz; omega, gH ⟨by simp, by show (0 : Int) ≤ (es.length : Nat) + 1; omega, Int.le_refl _, by show 1 ≤ 1048576; decide⟩⟩
  refine csr (wel ?_); refine wan (aX rfl (fun f5 => ?_) (fun f5 => ?_))
  ·refine aI (csr (wfl rfl lR rfl oB B rfl (aC (bH rfl Tryz.underlying68 rfl) ?_))); refine wel ?_; refine wnn (aX rfl (fun a0 => ?_) (fun a0 => ?_))
   ·refine csr (aD (aD (aC (aF rfl) (aC (aU rfl dX (bA (V.blk0 hC.blk) rfl)) (aC (cC (vs := [(0, _)]) dG rfl (cells := [_, _, _, _, _]) rfl) ?_))))); refine bL (vs := [_]) rfl pA rfl rfl rfl rfl fun j5 j6 f6 j3 J => ?_; have b6 := J.blk0 (V.blk0 hC.blk); have hszg := ((A.then J)).size; refine dB rfl rfl rfl rfl mQ ((hC.own.evo0 V).evo0 J) (Src.ofOwn f6 ⟨by first | rfl | assumption, by first | rfl | assumption, by first | rfl | assumption, by first | rfl | assumption, by first | rfl | assumption, trivial⟩) (by omega) fun a2 c2 j7 ob2 i9 b7 hob54 => ?_; have f7 := (A.then J).step b7 (fun y hy => .inl (List.mem_cons_of_mem _ hy)); have hob2 : ob2 = ob ∨ ∃ g, ob2 = some g ∧ w.heap.size ≤ g := hob54.imp id (fun ⟨g, h1, h2⟩ => ⟨g, h1, Nat.le_trans hszg h2⟩); refine aC (aF rfl) ?_; refine bC rfl rfl (by first | rfl | assumption) qQ (b7.blk b6 a4.nmem) rfl fun j8 b8 b9 => ?_
    have c0 := f7.step b9 (fun y hy => .inl (by rw [List.mem_singleton.1 hy]; exact List.mem_cons_self ..))
    have f8 := i9.evo b9 (a4.app (Lt.blk b6) hob54).symm.own1
    try simp only [cG, Nat.reduceAdd] at b8
    refine wnn (aH (aE (aM (CN rfl ?_))))
    refine ⟨rfl, c0, [(⟨11, 0, 0, 0, []⟩, .slice none 0 0)], ⟨a2, c2, ob2, ⟨?_, ?_, DJ hC.ne (eO hC.blk) hob2, fun e he => ?_⟩, hob2⟩, LX (by omega) (List.length_eq_zero_iff.1 (by omega)), by have := zH (t := t) (by omega); show 1 ≤ t.esz; omega, gH ⟨by simp, Int.le_refl _, Int.le_refl _, Nat.zero_le _⟩⟩
    · rw [List.length_append]; exact b8
    · rw [List.length_append, rV]; exact f8
    · rcases List.mem_append.1 he with he | he
      · exact pJ (hC.rs e he) ((c0).mono hmZ) (DV hob2)
      · rw [List.mem_singleton] at he; subst he; exact mJ
   refine aL (aB (aG (aD (wfl rfl lR rfl oB B rfl ?_)))); refine aK (vs := [_]) sA rfl (LY (RSl.evo RRg.pers ((D).any _) hrg) (NV hC hZ A) (hg.node.cls (by omega)).len) rfl ?_; rintro vr j9 ⟨hrc, L⟩; obtain ⟨va, vc, rfl, -⟩ := id hrc; refine aC (cC (vs := [(0, _), (4, _)]) dG rfl (cells := [_, _, _, _, _]) rfl) ?_; refine aK (vs := [_, _]) eI rfl (kQ (rs := t.ranges) (hC.evo0 (D.then L)) hrc (by omega)) rfl ?_; rintro _ j0 ⟨rfl, f9, hto1⟩; have hlt_b3_1 := (Lt.blk (L.blk0 B)); have hev_1 := (A.then L); have g0 := (A.then L).step f9 (dY (.inl rfl)); obtain ⟨pa_1, pc_1, po_1, hC_1, hp_1⟩ := hto1; have hq_1 := dZ (.inl rfl) hev_1 hp_1; have hA_b3_1 := fT F.symm hlt_b3_1 hp_1
   have hAJN_1 : Apart (some cb) po_1 := fun g h1 h2 => by cases h1; exact hC_1.ne cb h2 rfl
   refine aP (aO (eC rfl ?_))
   refine ⟨rfl, g0, [(⟨2, (es.length : Nat) + 1, 0, 0, t.ranges⟩, _)], ⟨_, _, _, hC_1.evo0 (Evo.refl [] j0), hq_1⟩, IE (by omega) (fun h => by rw [h] at a0; simp at a0), by have := zH (t := t) (by omega); show 1 ≤ t.esz; omega, gH ⟨by simp, by show (0 : Int) ≤ (es.length : Nat) + 1; omega, Int.le_refl _, (hg.node.cls (by omega)).len⟩⟩
  refine csr (wel ?_); refine wan (aX rfl (fun g1 => ?_) (fun g1 => ?_))
  ·have he4 := esz4 (t := t) (by omega); refine csr (wfl rfl eL rfl gF B rfl (aC (bH rfl Tryz.underlying69 rfl) ?_)); refine aD (wnn (bG ?_))
   refine dC (α := RpG) (⟨0, [], a, c, ob⟩) (fun x => [(44, .int .i64 (x.k : Nat))]) [(0, _), (42, _), (43, _)] (fun x wr => Evo (cb :: ob.toList) w wr ∧ (CtI w wr cb es ob Z t.kids x)) (fun x => t.kids.length - x.k) ⟨rfl, trivial⟩ ⟨rfl, rfl, rfl, trivial⟩ ⟨A, ⟨Nat.zero_le _, by rw [List.append_nil]; exact hC.evo0 D, .inl rfl, CatC.nil _, Nat.zero_le _, (fun _ h => by cases h)⟩⟩ ?_
   rintro ⟨k, new, pa, pc, po⟩ wr81 ⟨M, ⟨hj, hcd, hq, hpre, hlen, hnice⟩⟩; show CW _ _ _ _ [(44, .int .i64 (k : Nat)), (0, _), (42, _), (43, _)] _
   try dsimp only at hj hcd hq hpre hlen hnice
   have hAJN : Apart (some cb) po := fun g h1 h2 => by cases h1; exact hcd.ne cb h2 rfl
   refine csr (aC (cX rfl rfl) ?_); refine wnn (aI (aX rfl (fun g2 => ?_) (fun g2 => ?_)))
   ·have hj' : k < t.kids.length := by omega
    obtain ⟨b1, o1, vs1, ha1, hb1, hvl1, c1, hrk⟩ := e1 k hj'; obtain ⟨m1, ra1, rc1, ka1, kc1, rfl, rfl, -⟩ := id hrk.get; have hek := EJ hj'; refine aL (aB (aI (bG (csr ?_))))
    refine aC (cF (n := k) (by rw [ha1]; rfl) rfl dO (by omega)) ?_
    refine aC (dF rfl bQ aS (vs := [_, _, _, _, _, _, _, _, _]) rfl (c1.evo M hb1)) ?_; refine cK rfl eG fun b5 k0 g3 a1 c3 => ?_; have j1 := a1; refine aW rfl rfl aS g3 rfl rfl ⟨by first | rfl | assumption, by first | rfl | assumption, by first | rfl | assumption, by first | rfl | assumption, by first | rfl | assumption, by first | rfl | assumption, by first | rfl | assumption, by first | rfl | assumption, by first | rfl | assumption, trivial⟩ fun j2 a3 c4 => ?_; have O := (M.then c3).step c4 (Ge.new M a1).mem1
    try simp only [cG, Nat.reduceAdd] at a3
    refine wnn (aG (aD (aC (bV rfl bQ aS a3 rfl) ?_))); have hZw : ∀ z, z ∈ Z → z < (j2).heap.size := fun z hz => Nat.lt_of_lt_of_le (hZ z hz) (O).size
    refine aK (vs := [_, _]) iT rfl (ih (t := t.kids[k]) (hcd.evo0 (((Evo.refl [] wr81).then c3).step c4 (Ge.new (Evo.refl [] wr81) a1).mem1)) (RRx.step hrk O (dY hq) hXlt) (hg.kid _ (List.getElem_mem hj')) (by simp only [List.length_append, List.length_cons, List.length_nil]; omega) hZw) rfl ?_
    rintro _ g4 ⟨-, c6, kx1, hto1, hkx1, hkl1, hkn1⟩; have hlt_b5_1 := (Lt.blk a3); have hev_1 := O; obtain ⟨pa_1, pc_1, po_1, hC_1, hp_1⟩ := hto1; have hq_1 := dZ hq hev_1 hp_1
    have hAJN_1 : Apart (some cb) po_1 := fun g h1 h2 => by cases h1; exact hC_1.ne cb h2 rfl
    refine aP (aO (aB (aG ?_))); refine aC (aJ rfl rfl (by omega) (by omega)) ?_; refine aD (aP (bB ?_)); refine ⟨⟨k + 1, new ++ kx1, pa_1, pc_1, po_1⟩, ?_, ⟨rfl, trivial⟩, ⟨rfl, rfl, rfl, trivial⟩, (O.step c6 (dY hq)), ?_⟩
    · (try dsimp only); omega
    try dsimp only
    have hx' : gR t.kids[k] (es.length + (new.map (·.1)).length) (kx1.map (·.1)) := by rw [List.length_map]; have h := hkx1; rwa [List.length_append] at h
    refine ⟨by show k + 1 ≤ _; omega, (hC_1.evo0 (Evo.refl [] g4)).cast (List.append_assoc ..), hq_1, ?_, ?_, iC hnice hkn1⟩
    · show CatC (t.kids.take (k + 1)) _ _; rw [List.take_add_one, List.getElem?_eq_getElem hj', List.map_append]; exact hpre.snoc hx'
    · show _ ≤ gV (t.kids.take (k + 1)); rw [sV hj', List.length_append]; omega
   refine cM (bK (bK (cL (aO (eC rfl ?_))))); have hall : t.kids.take k = t.kids := List.take_of_length_le (by omega); rw [hall] at hpre hlen; exact ⟨rfl, M, new, ⟨_, _, _, hcd.evo0 (Evo.refl [] wr81), hq⟩, RI (by omega) hpre, by omega, hnice⟩
  refine csr (wel ?_); refine wan (aX rfl (fun g5 => ?_) (fun g5 => ?_))
  ·refine aG (aD (wfl rfl eL rfl gF B rfl ?_)); have hZw : ∀ z, z ∈ Z → z < (w1).heap.size := fun z hz => Nat.lt_of_lt_of_le (hZ z hz) (A).size
   refine aK (vs := [_, _]) JB rfl (IF ih (hC.evo0 D) (RSl.evo (RRx.pers _) A hk0) (by have := hn.two (by omega); omega) bl3 (fun k hk => hg.kid k hk) (by have h2 := hn.two (by omega); have := esz5 (t := t) (by omega) (by omega); omega) hZw) rfl ?_
   rintro _ g6 ⟨-, c7, kx1, hto1, hkx1, hkl1, hkn1⟩; have hlt_b3_1 := (Lt.blk B); have hev_1 := A; have c8 := A.step c7 (dY (.inl rfl)); obtain ⟨pa_1, pc_1, po_1, hC_1, hp_1⟩ := hto1; have hq_1 := dZ (.inl rfl) hev_1 hp_1; have hA_b3_1 := fT F.symm hlt_b3_1 hp_1
   have hAJN_1 : Apart (some cb) po_1 := fun g h1 h2 => by cases h1; exact hC_1.ne cb h2 rfl
   refine aP (aO (eC rfl ?_))
   exact ⟨rfl, c8, kx1, ⟨_, _, _, hC_1.evo0 (Evo.refl [] g6), hq_1⟩, RJ (by omega) (by intro l hl; rw [List.length_map]; exact hkx1 l hl), by have := esz5 (t := t) (by omega) (by have := hn.two (by omega); omega); have := hn.two (by omega); omega, hkn1⟩
  refine csr (wel ?_); refine wan (aX rfl (fun g7 => ?_) (fun g7 => ?_))
  ·refine aG (aD (aC (bV rfl bQ aS B rfl) ?_)); have hZw : ∀ z, z ∈ Z → z < (w1).heap.size := fun z hz => Nat.lt_of_lt_of_le (hZ z hz) (A).size; refine aK (vs := [_, _]) JA rfl (GF ih (hC.evo0 D) (RRx.pers _ _ _ _ _ _ A hx0) hg hl hZw (by omega)) rfl ?_; rintro _ g8 ⟨-, c9, kx1, hto1, hkx1, hkl1, hkn1⟩; have hlt_b3_1 := (Lt.blk B); have hev_1 := A; have d0 := A.step c9 (dY (.inl rfl)); obtain ⟨pa_1, pc_1, po_1, hC_1, hp_1⟩ := hto1; have hq_1 := dZ (.inl rfl) hev_1 hp_1; have hA_b3_1 := fT F.symm hlt_b3_1 hp_1
   have hAJN_1 : Apart (some cb) po_1 := fun g h1 h2 => by cases h1; exact hC_1.ne cb h2 rfl
   refine aP (aO (eC rfl ?_)); exact ⟨rfl, d0, kx1, ⟨_, _, _, hC_1.evo0 (Evo.refl [] g8), hq_1⟩, hkx1, hkl1, hkn1⟩
  refine csr (wel ?_); refine wan (aX rfl (fun g9 => ?_) (fun g9 => ?_))
  ·have hkl : t.kids.length = 1 := by have := hn.grp (by omega); omega
   have hky := AY hkl; have he1 := HU hkl; have he7 := esz7 (t := t) (by omega); have hcp := hcap (by omega)
   have hj' : 0 < t.kids.length := by omega
   obtain ⟨b1, o1, vs1, ha1, hb1, hvl1, c1, hrk⟩ := e1 0 hj'; obtain ⟨m1, ra1, rc1, ka1, kc1, rfl, rfl, -⟩ := id hrk.get; refine csr (aD (wfl rfl lP rfl aQ B rfl ?_)); refine aC (fL rfl rfl (by omega) (by omega)) ?_; refine aC (cC (vs := [(0, _), (3, _)]) dG rfl (cells := [_, _, _, _, _]) rfl) ?_; refine aK (vs := [_, _]) eI rfl (kQ (rs := []) (hC.evo0 D) mJ (by omega)) rfl ?_; rintro _ c5 ⟨rfl, a5, hto1⟩; have hlt_b3_1 := (Lt.blk B); have hev_1 := A; have H := A.step a5 (dY (.inl rfl)); have U := a5.blk B (nT e7.symm F.symm); obtain ⟨pa_1, pc_1, po_1, hC_1, hp_1⟩ := hto1; have hq_1 := dZ (.inl rfl) hev_1 hp_1; have hA_b3_1 := fT F.symm hlt_b3_1 hp_1
   have hAJN_1 : Apart (some cb) po_1 := fun g h1 h2 => by cases h1; exact hC_1.ne cb h2 rfl
   refine wnn (csr (aD (wfl rfl eL rfl gF U rfl ?_)))
   refine aC (fG (n := 0) (by rw [ha1]; rfl) rfl rfl dO (by omega)) ?_
   refine aC (dF rfl bQ aS (vs := [_, _, _, _, _, _, _, _, _]) rfl (c1.evo H hb1)) ?_; have hZw : ∀ z, z ∈ Z → z < (c5).heap.size := fun z hz => Nat.lt_of_lt_of_le (hZ z hz) (H).size
   refine aK (vs := [_, _]) iT rfl (ih (t := t.kids[0]) (hC_1.evo0 (Evo.refl [] c5)) (RRx.step hrk H (dY hq_1) hXlt) (hg.kid _ (List.getElem_mem hj')) (by simp only [List.length_append, List.length_cons, List.length_nil]; omega) hZw) rfl ?_
   rintro _ h0 ⟨-, a6, kx2, hto2, hkx2, hkl2, hkn2⟩; have hlt_b3_2 := (Lt.blk U); have hev_2 := H; have a7 := H.step a6 (dY hq_1); have a8 := a6.blk U (nT e7.symm hA_b3_1); obtain ⟨pa_2, pc_2, po_2, hC_2, hp_2⟩ := hto2; have hq_2 := dZ hq_1 hev_2 hp_2
   have hAJN_2 : Apart (some cb) po_2 := fun g h1 h2 => by cases h1; exact hC_2.ne cb h2 rfl
   refine wnn (aG (aD (wfl rfl lP rfl aQ a8 rfl ?_))); refine aC (fL rfl rfl (by omega) (by omega)) ?_; refine aC (aJ rfl rfl (by omega) (by omega)) ?_; refine aC (cC (vs := [(0, _), (3, _)]) dG rfl (cells := [_, _, _, _, _]) rfl) ?_
   refine aK (vs := [_, _]) eI rfl (kQ (rs := []) (hC_2.evo0 (Evo.refl [] h0)) mJ (by simp only [List.length_append, List.length_cons, List.length_nil]; omega)) rfl ?_
   rintro _ h3 ⟨rfl, d1, hto3⟩; have hlt_b3_3 := (Lt.blk a8); have hev_3 := a7; obtain ⟨pa_3, pc_3, po_3, hC_3, hp_3⟩ := hto3; have hq_3 := dZ hq_2 hev_3 hp_3
   have hAJN_3 : Apart (some cb) po_3 := fun g h1 h2 => by cases h1; exact hC_3.ne cb h2 rfl
   refine aP (aO (eC rfl ?_)); refine ⟨rfl, (a7.step d1 (dY hq_2)), [(⟨4, (es.length : Nat) + 1, 0, 2 * t.cap, []⟩, .slice none 0 0)] ++ (kx2 ++ [(⟨4, ((es.length + 1 + kx2.length : Nat) : Int) + 1, 0, 2 * t.cap + 1, []⟩, .slice none 0 0)]), ⟨_, _, _, (hC_3.evo0 (Evo.refl [] h3)).cast ?_, hq_3⟩, ?_, ?_, ?_⟩
   · simp [List.append_assoc] <;> omega
   · have h := RH (a := es.length) (k := kx2.map (·.1)) (by omega) hky (by have h := hkx2; rwa [List.length_append] at h)
     rw [List.length_map] at h
     rw [List.map_append, List.map_append]; exact h
   · simp only [List.length_append, List.length_cons, List.length_nil]; omega
   · exact iC (gH ⟨by simp, by show (0 : Int) ≤ (es.length : Nat) + 1; omega, Int.le_refl _, Nat.zero_le _⟩) (iC hkn2 (gH ⟨by simp, by show (0 : Int) ≤ ((es.length + 1 + kx2.length : Nat) : Int) + 1; omega, Int.le_refl _, Nat.zero_le _⟩))
  refine csr (wel ?_); refine wan (aX rfl (fun h4 => ?_) (fun h4 => ?_))
  ·refine aG (aD (aC (cC (vs := [(0, _)]) dG rfl (cells := [_, _, _, _, _]) rfl) ?_)); refine aK (vs := [_, _]) eI rfl (kQ (rs := []) (hC.evo0 D) mJ (by omega)) rfl ?_; rintro _ h5 ⟨rfl, d2, hto1⟩; have hlt_b3_1 := (Lt.blk B); have hev_1 := A; have d3 := A.step d2 (dY (.inl rfl)); obtain ⟨pa_1, pc_1, po_1, hC_1, hp_1⟩ := hto1; have hq_1 := dZ (.inl rfl) hev_1 hp_1; have hA_b3_1 := fT F.symm hlt_b3_1 hp_1
   have hAJN_1 : Apart (some cb) po_1 := fun g h1 h2 => by cases h1; exact hC_1.ne cb h2 rfl
   refine aP (aO (eC rfl ?_))
   refine ⟨rfl, d3, [(⟨5, (es.length : Nat) + 1, 0, 0, []⟩, .slice none 0 0)], ⟨_, _, _, hC_1.evo0 (Evo.refl [] h5), hq_1⟩, ?_, by have := zH (t := t) (by omega); show 1 ≤ t.esz; omega, gH ⟨by simp, by show (0 : Int) ≤ (es.length : Nat) + 1; omega, Int.le_refl _, Nat.zero_le _⟩⟩
   have h := mD (x := t) (a := es.length) (by omega)
   have e : lI t.kind es.length = ⟨5, (es.length : Int) + 1, 0, 0, []⟩ := by rw [show t.kind = 8 from by omega]; rfl
   rw [e] at h; exact h
  refine csr (wel ?_); refine wan (aX rfl (fun h6 => ?_) (fun h6 => ?_))
  ·refine aG (aD (aC (cC (vs := [(0, _)]) dG rfl (cells := [_, _, _, _, _]) rfl) ?_)); refine aK (vs := [_, _]) eI rfl (kQ (rs := []) (hC.evo0 D) mJ (by omega)) rfl ?_; rintro _ h7 ⟨rfl, d4, hto1⟩; have hlt_b3_1 := (Lt.blk B); have hev_1 := A; have d5 := A.step d4 (dY (.inl rfl)); obtain ⟨pa_1, pc_1, po_1, hC_1, hp_1⟩ := hto1; have hq_1 := dZ (.inl rfl) hev_1 hp_1; have hA_b3_1 := fT F.symm hlt_b3_1 hp_1
   have hAJN_1 : Apart (some cb) po_1 := fun g h1 h2 => by cases h1; exact hC_1.ne cb h2 rfl
   refine aP (aO (eC rfl ?_))
   refine ⟨rfl, d5, [(⟨6, (es.length : Nat) + 1, 0, 0, []⟩, .slice none 0 0)], ⟨_, _, _, hC_1.evo0 (Evo.refl [] h7), hq_1⟩, ?_, by have := zH (t := t) (by omega); show 1 ≤ t.esz; omega, gH ⟨by simp, by show (0 : Int) ≤ (es.length : Nat) + 1; omega, Int.le_refl _, Nat.zero_le _⟩⟩
   have h := mD (x := t) (a := es.length) (by omega)
   have e : lI t.kind es.length = ⟨6, (es.length : Int) + 1, 0, 0, []⟩ := by rw [show t.kind = 9 from by omega]; rfl
   rw [e] at h; exact h
  refine csr (wel ?_); refine wan (aX rfl (fun h8 => ?_) (fun h8 => ?_))
  ·refine aG (aD (aC (cC (vs := [(0, _)]) dG rfl (cells := [_, _, _, _, _]) rfl) ?_)); refine aK (vs := [_, _]) eI rfl (kQ (rs := []) (hC.evo0 D) mJ (by omega)) rfl ?_; rintro _ h9 ⟨rfl, d6, hto1⟩; have hlt_b3_1 := (Lt.blk B); have hev_1 := A; have d7 := A.step d6 (dY (.inl rfl)); obtain ⟨pa_1, pc_1, po_1, hC_1, hp_1⟩ := hto1; have hq_1 := dZ (.inl rfl) hev_1 hp_1; have hA_b3_1 := fT F.symm hlt_b3_1 hp_1
   have hAJN_1 : Apart (some cb) po_1 := fun g h1 h2 => by cases h1; exact hC_1.ne cb h2 rfl
   refine aP (aO (eC rfl ?_))
   refine ⟨rfl, d7, [(⟨7, (es.length : Nat) + 1, 0, 0, []⟩, .slice none 0 0)], ⟨_, _, _, hC_1.evo0 (Evo.refl [] h9), hq_1⟩, ?_, by have := zH (t := t) (by omega); show 1 ≤ t.esz; omega, gH ⟨by simp, by show (0 : Int) ≤ (es.length : Nat) + 1; omega, Int.le_refl _, Nat.zero_le _⟩⟩
   have h := mD (x := t) (a := es.length) (by omega)
   have e : lI t.kind es.length = ⟨7, (es.length : Int) + 1, 0, 0, []⟩ := by rw [show t.kind = 10 from by omega]; rfl
   rw [e] at h; exact h
  refine csr (wel ?_); refine wan (aX rfl (fun i1 => ?_) (fun i1 => ?_))
  ·refine aG (aD (aC (cC (vs := [(0, _)]) dG rfl (cells := [_, _, _, _, _]) rfl) ?_)); refine aK (vs := [_, _]) eI rfl (kQ (rs := []) (hC.evo0 D) mJ (by omega)) rfl ?_; rintro _ i2 ⟨rfl, d8, hto1⟩; have hlt_b3_1 := (Lt.blk B); have hev_1 := A; have d9 := A.step d8 (dY (.inl rfl)); obtain ⟨pa_1, pc_1, po_1, hC_1, hp_1⟩ := hto1; have hq_1 := dZ (.inl rfl) hev_1 hp_1; have hA_b3_1 := fT F.symm hlt_b3_1 hp_1
   have hAJN_1 : Apart (some cb) po_1 := fun g h1 h2 => by cases h1; exact hC_1.ne cb h2 rfl
   refine aP (aO (eC rfl ?_))
   refine ⟨rfl, d9, [(⟨8, (es.length : Nat) + 1, 0, 0, []⟩, .slice none 0 0)], ⟨_, _, _, hC_1.evo0 (Evo.refl [] i2), hq_1⟩, ?_, by have := zH (t := t) (by omega); show 1 ≤ t.esz; omega, gH ⟨by simp, by show (0 : Int) ≤ (es.length : Nat) + 1; omega, Int.le_refl _, Nat.zero_le _⟩⟩
   have h := mD (x := t) (a := es.length) (by omega)
   have e : lI t.kind es.length = ⟨8, (es.length : Int) + 1, 0, 0, []⟩ := by rw [show t.kind = 11 from by omega]; rfl
   rw [e] at h; exact h
  refine csr (wel ?_); refine wan (aX rfl (fun e0 => ?_) (fun e0 => ?_))
  ·refine aG (aD (aC (cC (vs := [(0, _)]) dG rfl (cells := [_, _, _, _, _]) rfl) ?_)); refine aK (vs := [_, _]) eI rfl (kQ (rs := []) (hC.evo0 D) mJ (by omega)) rfl ?_; rintro _ i3 ⟨rfl, e2, hto1⟩; have hlt_b3_1 := (Lt.blk B); have hev_1 := A; have e3 := A.step e2 (dY (.inl rfl)); obtain ⟨pa_1, pc_1, po_1, hC_1, hp_1⟩ := hto1; have hq_1 := dZ (.inl rfl) hev_1 hp_1; have hA_b3_1 := fT F.symm hlt_b3_1 hp_1
   have hAJN_1 : Apart (some cb) po_1 := fun g h1 h2 => by cases h1; exact hC_1.ne cb h2 rfl
   refine aP (aO (eC rfl ?_))
   refine ⟨rfl, e3, [(⟨9, (es.length : Nat) + 1, 0, 0, []⟩, .slice none 0 0)], ⟨_, _, _, hC_1.evo0 (Evo.refl [] i3), hq_1⟩, ?_, by have := zH (t := t) (by omega); show 1 ≤ t.esz; omega, gH ⟨by simp, by show (0 : Int) ≤ (es.length : Nat) + 1; omega, Int.le_refl _, Nat.zero_le _⟩⟩
   have h := mD (x := t) (a := es.length) (by omega)
   have e : lI t.kind es.length = ⟨9, (es.length : Int) + 1, 0, 0, []⟩ := by rw [show t.kind = 12 from by omega]; rfl
   rw [e] at h; exact h
  refine csr (wel ?_); refine wan (aX rfl (fun e4 => ?_) (fun e4 => ?_))
  ·refine aG (aD (aC (cC (vs := [(0, _), (3, _)]) dG rfl (cells := [_, _, _, _, _]) rfl) ?_)); refine aK (vs := [_, _]) eI rfl (kQ (rs := []) (hC.evo0 D) mJ (by omega)) rfl ?_; rintro _ i4 ⟨rfl, e5, hto1⟩; have hlt_b3_1 := (Lt.blk B); have hev_1 := A; have e6 := A.step e5 (dY (.inl rfl)); obtain ⟨pa_1, pc_1, po_1, hC_1, hp_1⟩ := hto1; have hq_1 := dZ (.inl rfl) hev_1 hp_1; have hA_b3_1 := fT F.symm hlt_b3_1 hp_1
   have hAJN_1 : Apart (some cb) po_1 := fun g h1 h2 => by cases h1; exact hC_1.ne cb h2 rfl
   refine aP (aO (eC rfl ?_))
   refine ⟨rfl, e6, [(⟨9, (es.length : Nat) + 1, 0, 1, []⟩, .slice none 0 0)], ⟨_, _, _, hC_1.evo0 (Evo.refl [] i4), hq_1⟩, ?_, by have := zH (t := t) (by omega); show 1 ≤ t.esz; omega, gH ⟨by simp, by show (0 : Int) ≤ (es.length : Nat) + 1; omega, Int.le_refl _, Nat.zero_le _⟩⟩
   have h := mD (x := t) (a := es.length) (by omega)
   have e : lI t.kind es.length = ⟨9, (es.length : Int) + 1, 0, 1, []⟩ := by rw [show t.kind = 13 from by omega]; rfl
   rw [e] at h; exact h
  refine aL (aO (eC rfl ?_))
  have h1 := hn.kind1; have h2 := hn.kind2
  exact ⟨rfl, A, [], ⟨a, c, ob, (by rw [List.append_nil]; exact hC.evo0 D), .inl rfl⟩, ID (by omega), Nat.zero_le _, fun _ h => by cases h⟩
theorem OY : ∀ {n : Nat} {w : World} {cb : Nat} {es : List Iv} {a : Option Addr} {c : Nat} {ob : Option Nat} {Z : List Nat} {vs : List Value} {t : Rx} (hC : CdAt w cb es a c ob Z) (hx : RRx n (cb :: ob.toList) w vs t) (hg : Good t) (hl : es.length + t.esz ≤ 100000) (hZ : ∀ z, z ∈ Z → z < w.heap.size), Calls Tryz.prog 55 #[.pointer (some ⟨cb, 0, none⟩), .agg vs.toArray] w (Ret fun v w' => v = .tuple #[] ∧ Evo (cb :: ob.toList) w w' ∧ ∃ new, JO w w' cb ob (es ++ new) Z ∧ gR t es.length (new.map (·.1)) ∧ new.length ≤ t.esz ∧ ∀ e, e ∈ new → mS e.1)
  | 0, w, cb, es, a, c, ob, Z, vs, t, hC, hx, hg, hl, hZ => hx.elim
  | n + 1, w, cb, es, a, c, ob, Z, vs, t, hC, hx, hg, hl, hZ => RL (n := n) (fun hC hx hg hl hZ => OY hC hx hg hl hZ) hC hx hg hl hZ
def RIn : Rel In := fun X w vs c => ∃ vr, vs = [iv c.op, iv c.out, iv c.alt, iv c.arg, vr] ∧ RSl 2 RRg X w vr c.rs ∧ c.rs.length ≤ 1048576
theorem RIn.pers : RIn.Pers := fun _ _ _ _ _ he ⟨v, h1, h2, h3⟩ => ⟨v, h1, RSl.evo RRg.pers he h2, h3⟩
theorem QX (es : List Iv) : (es.map Iv.cells).flatten = oX es := by unfold oX; rw [List.flatMap_def]
theorem prog_of {X : List Nat} {w : World} {es : List Iv} {a : Option Addr} {n c : Nat} {ob : Option Nat} (h1 : OwnS w 123 5 a n c (oX es) ob) (hx : ∀ g, ob = some g → g ∉ X) (hr : ∀ e, e ∈ es → RSl 2 RRg X w e.2 e.1.rs) (hn : ∀ e, e ∈ es → e.1.rs.length ≤ 1048576) : RSl 5 RIn X w (.slice a n c) (es.map (·.1)) := by
  have hl := h1.length
  rw [HL] at hl
  rw [← QX] at h1
  refine RSl.ofOwn (rows := es.map Iv.cells) h1 ⟨by simp, fun k hk hk' => ?_⟩ (by rw [List.length_map]; omega) hx
  have hk2 : k < es.length := by simpa using hk
  simp only [List.getElem_map]
  exact ⟨rfl, _, rfl, hr _ (List.getElem_mem hk2), hn _ (List.getElem_mem hk2)⟩
theorem QB {t : Rx} {new : List Iv} (hg : Good t) (hc : gR t ([] : List Iv).length (new.map (·.1))) (hn : ∀ e, e ∈ new → mS e.1) {v : Value} : ProgOk t ((new ++ [((⟨1, 0, 0, 0, []⟩ : In), v)]).map (·.1)) new.length := by
  have e : (new ++ [((⟨1, 0, 0, 0, []⟩ : In), v)]).map (·.1) = new.map (·.1) ++ [⟨1, 0, 0, 0, []⟩] := by simp
  rw [e]
  refine ⟨by simp, by simp, fun p c hp hl => ?_, ?_, hg⟩
  · rw [List.getElem?_append_left (by simpa using hp)] at hl
    obtain ⟨x, hx, rfl⟩ := List.mem_map.1 (List.mem_of_getElem? hl)
    exact hn x hx
  · have := hc (new.map (·.1) ++ [⟨1, 0, 0, 0, []⟩]) (fun i hi => by rw [List.length_nil, Nat.zero_add, List.getElem?_append_left hi, List.getElem?_eq_getElem hi])
    rwa [List.length_nil, Nat.zero_add, List.length_map] at this
theorem CdAt.new {w : World} {cb : Nat} {Z : List Nat} (h : w.heap[cb]? = some (.cells #[.slice none 0 0] 120 (0, 0))) : CdAt w cb [] none 0 none Z := ⟨h, OwnS.nil _ _ _, fun g hg => (by cases hg), fun e he => (by cases he)⟩
theorem SizeIs.zero {t : Rx} {r : Int} (h : SizeIs t r) (h0 : r = 0) : ¬ t.Ok := fun hk => by have := h.1 hk; omega
theorem SizeIs.big {t : Rx} {r : Int} (h : SizeIs t r) (hk : t.Ok) (h0 : 10000 < r) : 10000 < t.esz + 1 := by have := h.1 hk; omega
theorem SizeIs.fits {t : Rx} {r : Int} (h : SizeIs t r) (hk : t.Ok) (h0 : ¬ 10000 < r) : t.esz + 1 ≤ 10000 := by have := h.1 hk; omega
theorem SY {t : Rx} (h : t.esz + 1 ≤ 10000) : ([] : List Iv).length + t.esz ≤ 100000 := by rw [List.length_nil]; omega
theorem size_lt {t : Rx} (h : t.esz + 1 ≤ 10000) : t.esz ≤ 9999 := by omega
def Shp (ps : List Value) : Prop := ∃ a n c g nm, ps = [.slice a n c, iv 0, g, nm] ∧ g.oneCell' = true ∧ nm.oneCell' = true
end Go.Proofs.YtidpigbinpaaeaaGreat
namespace Go.W
open Go.RowKit
section
variable {P : Program} {N : NN} {R : iG} {σ : Env} {w w' : World} {ops : Array Oper} {rest : List Oper} {n d : Nat} {op : Op} {T : TypeId} {pos : String} {after : Array Edge}
end
abbrev pan (v : Value) : List PanicEntry := [{ v := v, recovered := false }]
def RetP (Φ : Value → World → Prop) (Ψ : Value → World → Prop) : Ending → World → Prop
  | .returned v, w => Φ v w
  | .panicked c, w => ∃ v, c = pan v ∧ Ψ v w
  | .outgrown, _ => False
theorem RetP.of {Φ Ψ : Value → World → Prop} {e : Ending} {w : World} (h : Ret Φ e w) : RetP Φ Ψ e w := by obtain ⟨v, rfl, h⟩ := h; exact h
section
variable {P : Program} {N : NN} {R : iG} {σ : Env} {w : World} {ops : Array Oper} {rest : List Oper} {T : TypeId} {pos : String} {after : Array Edge} {d : Nat}
theorem args_eq {σ : Env} {a : Act} {xs : Array Operand} {vs : List Value} (hag : FV σ a.eval) (hxs : xs.toList.map σ.ev = vs.map some) : xs.map a.eval = vs.toArray := by
  apply Array.ext'
  rw [Array.toList_map]
  generalize xs.toList = l at *
  clear xs
  revert vs
  induction l with
  | nil => intro vs hxs; cases vs with | nil => rfl | cons _ _ => simp at hxs
  | cons x l ih =>
    intro vs hxs
    cases vs with
    | nil => simp at hxs
    | cons v vs =>
      simp only [List.map_cons, List.cons.injEq] at hxs
      simp only [List.map_cons, hag x v hxs.1]
      exact congrArg _ (ih hxs.2)
theorem SA {dst : Option Nat} {f : FuncId} {xs : Array Operand} {ats : Array TypeId} {vs : List Value} {Φ Ψ : Value → World → Prop} (hgo : dU P f) (hxs : xs.toList.map σ.ev = vs.map some)
    (hc : Calls P f vs.toArray w (RetP Φ Ψ)) (hd : ∀ k, dst = some k → Nat.blt k N.1 = true) (hp : ∀ v w', Ψ v w' → R (.panic (pan v)) N σ w')
    (h : ∀ v w', Φ v w' → WL P N ops R rest (match dst with | some k => (k, v) :: σ | none => σ) w') :
    WL P N ops R (⟨dst, .call ⟨.value (.func f), xs, ats⟩, T, pos, after, none⟩ :: rest) σ w := fun a ha => wpList_plain rfl fun K hK => by
  have hargs := args_eq ha.agrees hxs
  obtain ⟨fn, hf, hn, hbd⟩ := hgo
  unfold Oper.wp
  have hrun : (execOp a.eval ⟨dst, .call ⟨.value (.func f), xs, ats⟩, T, pos, after, none⟩).run P w = .ok (.enter f vs.toArray) w := by
    have hn' : ¬ fn.name = "runtime.NumGoroutine" := by simpa using hn
    have hb' : ¬ fn.body = none := by intro hh; simp [hh] at hbd
    simp only [execOp, resolve, hargs]
    simp [Act.eval, Deferred.ofValue, invoke, callFunc, hf, hn', hb']
  rw [hrun]
  show Calls P f vs.toArray w _
  refine hc.mono ?_
  intro e w' he
  cases e with
  | returned v =>
    cases dst with
    | none => exact hK _ _ (h v w' he a ha)
    | some k => exact hK _ _ (h v w' he _ (ha.put (of_decide_eq_true (by simpa using hd k rfl)) v))
  | panicked c => obtain ⟨v, rfl, hΨ⟩ := he; exact ⟨N, σ, ha, hp v w' hΨ⟩
  | outgrown => exact he.elim
theorem cB {f : FuncId} {xs : Array Operand} {ats : Array TypeId} {vs : List Value} {Φ Ψ : Value → World → Prop} (hgo : dU P f) (hxs : xs.toList.map σ.ev = vs.map some)
    (hc : Calls P f vs.toArray w (RetP Φ Ψ)) (hd : Nat.blt d N.1 = true) (hp : ∀ v w', Ψ v w' → R (.panic (pan v)) N σ w') (h : ∀ v w', Φ v w' → WL P N ops R rest ((d, v) :: σ) w') :
    WL P N ops R (⟨some d, .call ⟨.value (.func f), xs, ats⟩, T, pos, after, none⟩ :: rest) σ w := SA hgo hxs hc (fun k hk => by cases hk; exact hd) hp h
theorem RV {dst : Option Nat} {x : Operand} {t : TypeId} {v : Value} (hx : σ.ev x = some (.iface t v)) (h : R (.panic (pan (.iface t v))) N σ w) : WL P N ops R (⟨dst, .panic x, T, pos, after, none⟩ :: rest) σ w :=
  fun a ha => wpList_plain rfl fun K hK => by
    unfold Oper.wp
    have hrun : (execOp a.eval ⟨dst, .panic x, T, pos, after, none⟩).run P w = .halt (.panic (.iface t v)) w := by
      simp only [execOp, ha.agrees x _ hx]
      rfl
    rw [hrun]
    exact ⟨N, σ, ha, h⟩
theorem WQ {dst : Option Nat} {g : Option (Nat × Bool)} {x : Operand} {t : TypeId} {v : Value} (hx : σ.ev x = some v) (ht : ∀ w, (Instr.makeInterface t v).run P w = .ok (.iface t v) w) : Ex P σ ⟨dst, .makeInterface t x, T, pos, after, g⟩ w (.iface t v) w := fun ρ h => by
  simp [execOp, h x _ hx, ht]
abbrev dfr (f : FuncId) (cap : Array Value) : Deferred := { target := .fn (.func f) cap, args := #[] }
theorem RY {x : Operand} {ats : Array TypeId} {f : FuncId} {cap : Array Value} (hx : σ.ev x = some (.func (.func f) #[] cap)) (h : WL P (N.1, dfr f cap :: N.2) ops R rest σ w) :
    WL P N ops R (⟨none, .defer ⟨.value x, #[], ats⟩, T, pos, after, none⟩ :: rest) σ w := fun a ha => wpList_plain rfl fun K hK => by
  unfold Oper.wp
  have hrun : (execOp a.eval ⟨none, .defer ⟨.value x, #[], ats⟩, T, pos, after, none⟩).run P w = .ok (.defer (dfr f cap)) w := by
    simp only [execOp, resolve, ha.agrees x _ hx]
    simp [Deferred.ofValue]
  rw [hrun]
  exact hK _ _ (h _ ⟨ha.1, by show dfr f cap :: a.defers = _; rw [ha.2.1], ha.2.2⟩)
end
section
variable {P : Program} {σ : Env} {w : World}
theorem cE {fn : Func} {Φ Ψ : Value → World → Prop} {N : NN} (h : nZ P fn (Ret Φ) .ret N σ w) : nZ P fn (RetP Φ Ψ) .ret N σ w :=
  ⟨h.1, fun a ha => by obtain ⟨v, h1, h2⟩ := h.2 a ha; exact ⟨v, h1, RetP.of h2⟩⟩
theorem XJ {n : Nat} {fn : Func} {Φ Ψ : Value → World → Prop} {v : Value} (h : Ψ v w) : nZ P fn (RetP Φ Ψ) (.panic (pan v)) (n, []) σ w := ⟨rfl, v, rfl, h⟩
def XK (P : Program) (fn : Func) (E : Ending → World → Prop) : iG
  | .normal, N, σ, w => ∀ a, Fits N σ a → Leaves P fn a.tmps E N.2 .returning w
  | .ret, N, σ, w => ∀ a, Fits N σ a → Leaves P fn a.tmps E N.2 .returning w
  | .panic chain, N, σ, w => ∀ a, Fits N σ a → Leaves P fn a.tmps E N.2 (.panicking chain) w
  | .outgrown, _, _, w => E .outgrown w
  | .exit _, _, _, _ => False
  | .goto _, _, _, _ => False
theorem EP {f : FuncId} {fn : Func} {c : Code} {args : List Value} {E : Ending → World → Prop} {N : Nat}
    (hf : P.funcs[f]? = some fn) (hb : fn.body = some c) (hN : fn.ntmps = N) (hle' : Nat.ble args.length N = true)
    (h : CW P (N, []) c (XK P fn E) (nP 0 args) w) : Calls P f args.toArray w E := by
  have hle : args.length ≤ N := Nat.le_of_ble_eq_true hle'; refine calls_of_wp_defers hf hb (wp_mono (h _ ⟨?_, rfl, ?_⟩) ?_)
  · simp [hN]; omega
  · intro t v hv
    obtain ⟨_, h2⟩ := qB args 0 t v hv; simp only [Nat.sub_zero] at h2; have hlt : t < args.length := (List.getElem?_eq_some_iff.1 h2).1
    have h3 : args[t] = v := by rw [List.getElem?_eq_getElem hlt] at h2; exact Option.some.inj h2
    simp [Array.getElem?_append, hlt, h3]
  · intro e a' w' hq
    cases e with
    | normal => obtain ⟨N', σ', hf', hk⟩ := hq; show Leaves _ _ _ _ _ _ _; rw [hf'.2.1]; exact hk a' hf'
    | ret => obtain ⟨N', σ', hf', hk⟩ := hq; show Leaves _ _ _ _ _ _ _; rw [hf'.2.1]; exact hk a' hf'
    | panic ch => obtain ⟨N', σ', hf', hk⟩ := hq; show Leaves _ _ _ _ _ _ _; rw [hf'.2.1]; exact hk a' hf'
    | outgrown => obtain ⟨_, hk⟩ := hq; exact hk
    | exit i => obtain ⟨_, _, _, hk⟩ := hq; exact hk
    | goto l => obtain ⟨_, _, _, hk⟩ := hq; exact hk
theorem LC {fn : Func} {tmps : Array Value} {E : Ending → World → Prop} {f : FuncId} {g : Func} {cap : Array Value} {u : FrameMode} (hg : P.funcs[f]? = some g) (hn : (g.name == "runtime.NumGoroutine") = false) (hb : g.body.isNone = false) (hu : u ≠ .run)
    (h : CallsD P f cap u w fun e u' w' => match e with
      | .returned _ => Leaves P fn tmps E [] (settle u') w'
      | .panicked chain => Leaves P fn tmps E [] (raised u' chain) w'
      | .outgrown => E .outgrown w') : Leaves P fn tmps E [dfr f cap] u w := by
  refine leaves_cons hu ?_ (h.mono ?_)
  · have hn' : ¬ g.name = "runtime.NumGoroutine" := by simpa using hn
    have hb' : ¬ g.body = none := by intro hh; simp [hh] at hb
    simp [invoke, callFunc, hg, hn', hb']
  · intro e u' w' he
    cases e <;> exact he
end
section
variable {P : Program} {σ : Env} {w : World} {dst : Option Nat} {T : TypeId} {pos : String} {after : Array Edge} {g : Option (Nat × Bool)}
theorem eE {x i : Operand} {t : TypeId} {k : IntKind} {z : Int} {n sz b o len c : Nat} {a : Option Addr} (hx : σ.ev x = some (.slice a len c)) (hi : σ.ev i = some (.int k z)) (ha : a = some ⟨b, o, none⟩) (hz : z = n) (he : pT P t = some sz) (hlt : n < len) :
    Ex P σ ⟨dst, .indexAddr t x i, T, pos, after, g⟩ w (.pointer (some ⟨b, o + n * sz, none⟩)) w := by subst ha; exact fG hx hi hz he hlt
theorem pI {t : TypeId} {m : Nat} (hs : fR P t = some m) (w : World) : (sizeOf t).run P w = .ok m w := by
  simp only [fR] at hs
  cases hi : P.info? t with
  | none => rw [hi] at hs; cases hs
  | some i => rw [hi] at hs; simp at hs; subst hs; simp [sizeOf, typeInfo, hi, go_sem]
theorem PT {t : TypeId} {cs : Array Value} {off m : Nat} (w : World) (ht : kU P t = some true) (hs : fR P t = some m) : (part t cs off).run P w = .ok (.agg (cs.extract off (off + m))) w := by
  simp [part, nG ht, pI hs]
theorem OR {x i : Operand} {t e : TypeId} {k : IntKind} {z : Int} {n len sz : Nat} {cs : Array Value} {v : Value} (hx : σ.ev x = some (.agg cs)) (hi : σ.ev i = some (.int k z)) (ht : P.underlying t = some (.array len e)) (hz : z = (n : Int)) (hn : n < len) (hs : fR P e = some sz)
    (hp : ∀ w, (part e cs (n * sz)).run P w = .ok v w) : Ex P σ ⟨dst, .index t x i, T, pos, after, g⟩ w v w := fun ρ h => by
  subst hz
  have hc : 0 ≤ (n : Int) ∧ (n : Int) < len := ⟨by omega, by omega⟩
  have hp' := hp w
  simp [pI hs, go_sem] at hp'
  simp [execOp, h x _ hx, h i _ hi, Instr.index, run_underlying ht, asIntOf, hc, hn, pI hs, go_sem]
  rw [hp']; rfl
theorem mC {x i : Operand} {t e : TypeId} {k : IntKind} {z : Int} {n len sz b o : Nat} (hx : σ.ev x = some (.pointer (some ⟨b, o, none⟩))) (hi : σ.ev i = some (.int k z)) (ht : P.underlying t = some (.array len e)) (hz : z = (n : Int)) (hn : n < len) (hs : fR P e = some sz) :
    Ex P σ ⟨dst, .indexAddr t x i, T, pos, after, g⟩ w (.pointer (some ⟨b, o + n * sz, none⟩)) w := fun ρ h => by
  subst hz
  have hc : 0 ≤ (n : Int) ∧ (n : Int) < len := ⟨by omega, by omega⟩
  simp [execOp, h x _ hx, h i _ hi, Instr.indexAt, run_underlying ht, Instr.sureAddr, asIntOf, hc, hn, pI hs, Addr.add, go_sem]
theorem sU {t e : TypeId} {len sz : Nat} {parts : Array (Nat × Operand)} {vs : List (Nat × Value)} {zero cells : Array Value} (ht : P.underlying t = some (.array len e)) (hz : mH P t = some zero) (hs : fR P e = some sz)
    (hp : parts.toList.map (fun p => (p.1, σ.ev p.2)) = vs.map (fun q => (q.1, some q.2))) (hf : Instr.fill (fun i => some (i * sz, sz)) zero vs = some cells) : Ex P σ ⟨dst, .build t parts, T, pos, after, g⟩ w (.agg cells) w := fun ρ ha => by
  obtain ⟨z, hz1, hz2⟩ := Option.map_eq_some_iff.1 hz
  obtain ⟨i, hi, hz'⟩ := Option.bind_eq_some_iff.1 hz1
  have hparts : (parts.map fun p => (p.1, ρ p.2)).toList = vs := by
    rw [Array.toList_map]
    clear hf
    revert hp
    generalize parts.toList = l
    intro hp
    induction l generalizing vs with
    | nil => cases vs with | nil => rfl | cons _ _ => simp at hp
    | cons p l ih =>
      cases vs with
      | nil => simp at hp
      | cons q vs =>
        simp only [List.map_cons, List.cons.injEq, Prod.mk.injEq] at hp
        obtain ⟨⟨h1, h2⟩, h3⟩ := hp
        rw [List.map_cons, ih h3, h1, ha _ _ h2]
  have hzero : (zeroValue t).run P w = .ok z w := by simp [zeroValue, typeInfo, hi, hz', go_sem]
  subst hz2
  rw [Array.toList_map] at hparts
  simp only [execOp, Instr.build, hzero, Sem.run_bind, Result.andThen_ok, run_underlying ht, pI hs, Array.toList_map, hparts, hf, Sem.run_pure]
theorem EE {x lo : Operand} {t : TypeId} {s r : ByteArray} {lv : Int} {l : Nat} (hx : σ.ev x = some (.string s)) (hlo : σ.ev lo = some (.int .i64 lv)) (ht : P.underlying t = some .string) (hl : lv = (l : Int)) (hlh : l ≤ s.size) (hr : s.extract l s.size = r) :
    Ex P σ ⟨dst, .slice t x (some lo) none none, T, pos, after, g⟩ w (.string r) w := by subst hr; exact jO hx hlo ht hl hlh
theorem rW {x lo hi : Operand} {t : TypeId} {s r : ByteArray} {lv hv : Int} {l h : Nat} (hx : σ.ev x = some (.string s)) (hlo : σ.ev lo = some (.int .i64 lv)) (hhi : σ.ev hi = some (.int .i64 hv)) (ht : P.underlying t = some .string) (hl : lv = (l : Int)) (hh : hv = (h : Int)) (hlh : l ≤ h) (hhc : h ≤ s.size) (hr : s.extract l h = r) :
    Ex P σ ⟨dst, .slice t x (some lo) (some hi) none, T, pos, after, g⟩ w (.string r) w := by subst hr; exact EF hx hlo hhi ht hl hh hlh hhc
theorem jB {x i : Operand} {t : TypeId} {k : IntKind} {s : ByteArray} {z : Int} {n m : Nat} (hx : σ.ev x = some (.string s)) (hi : σ.ev i = some (.int k z)) (ht : P.underlying t = some .string) (hz : z = (n : Int)) (hn : n < s.size) (hr : sb s n = m) :
    Ex P σ ⟨dst, .index t x i, T, pos, after, g⟩ w (.int .u8 (m : Nat)) w := by subst hr; exact eA hx hi ht hz hn
theorem OS {x y : Operand} {t t' : TypeId} {m n r : Int} (hx : σ.ev x = some (.int .i64 m)) (hy : σ.ev y = some (.int .i64 n)) (hr : m + n = r) (h1 : -9223372036854775808 ≤ r) (h2 : r ≤ 9223372036854775807) :
    Ex P σ ⟨dst, .binOp .add t x y t', T, pos, after, g⟩ w (.int .i64 r) w := by subst hr; exact aJ hx hy h1 h2
end
section
variable {P : Program} {N : NN} {R : iG} {σ : Env} {w : World} {ops : Array Oper} {rest : List Oper} {T : TypeId} {pos : String} {after : Array Edge}
theorem pG {t U : TypeId} {x y : Operand} {b : Nat} {f1 f2 f3 f4 v0 v1 g1 g2 g3 g4 v6 v7 : Value} (hx : σ.ev x = some (.pointer (some ⟨b, 2, none⟩))) (hy : σ.ev y = some (.agg #[f1, f2, f3, f4])) (hs : fR P t = some 4)
    (h1 : AllOne [f1, f2, f3, f4]) (hb : w.heap[b]? = some (.cells #[v0, v1, g1, g2, g3, g4, v6, v7] U (0, 0)))
    (h : ∀ w', w'.heap[b]? = some (.cells #[v0, v1, f1, f2, f3, f4, v6, v7] U (0, 0)) → Evo [b] w w' → WL P N ops R rest σ w') :
    WL P N ops R (⟨none, .store t x y, T, pos, after, none⟩ :: rest) σ w := by
  refine lU (v := .agg #[f1, f2, f3, f4]) hx hy hs rfl (fun u hu => h1.mem u hu) hb (by show 2 + 4 ≤ 8; omega) ?_
  intro w' hb' he
  exact h w' hb' he
end
end Go.W
namespace Go.W
section
variable {P : Program} {σ : Env} {w : World} {dst : Option Nat} {T : TypeId} {pos : String} {after : Array Edge} {g : Option (Nat × Bool)}
theorem uM {op : BinOp} {xt yt : TypeId} {x y : Operand} {a b r : Value} (hx : σ.ev x = some a) (hy : σ.ev y = some b) (h : ∀ w, (do eqGuard op xt x y a b; binOp op xt a b : Sem Value).run P w = .ok r w) : Ex P σ ⟨dst, .binOp op xt x y yt, T, pos, after, g⟩ w r w := fun ρ ha => by
  have h1 := h w
  simp only [Sem.run_bind] at h1
  simp only [execOp, ha _ _ hx, ha _ _ hy, Sem.run_bind, h1, Result.andThen_ok, Sem.run_pure]
def qH (l : List Nat) : List Value := l.map fun c => Value.int .u8 (c : Nat)
end
theorem zN {l : List Nat} (h : ∀ b, b ∈ l → b < 256) : Lib.byteCells (fS l).data.toList = qH l := by
  simp only [Lib.byteCells, fS, qH, List.map_map]
  refine List.map_congr_left fun b hb => ?_
  have := h b hb
  simp [Nat.mod_eq_of_lt this]
end Go.W
namespace Go.Proofs.YtidpigbinpaaeaaGreat
open Go.RowKit Go.Shelf Go.W
attribute [local irreducible] Decidable.decide
theorem MH : kU Tryz.prog 60 = some false := by kernel_rfl
def bren : Go.Shelf.Ren := ⟨fun | 240 => 50 | 276 => 75 | 169 => 28 | n => n, fun | 0 => 0 | 3 => 3 | 4 => 4 | 5 => 5 | 9 => 9 | 20 => 20 | 37 => 60 | 70 => 59 | 72 => 62 | 127 => 108 | 164 => 149 | n => n, fun | n => n⟩
theorem OC : Go.Proofs.Lays.n240 Tryz.prog bren := {
  mixed := by kernel_rfl
  f240 := Tryz.func50.trans (congrArg some (by kernel_rfl))
  f276 := Tryz.func75.trans (congrArg some (by kernel_rfl))
  t0 := Tryz.underlying0
  a0 := Tryz.isAgg0
  z0 := Tryz.sizeOf0
  v0 := Tryz.zeroValue0
  t4 := Tryz.underlying4
  a4 := Tryz.isAgg4
  z4 := Tryz.sizeOf4
  v4 := Tryz.zeroValue4
  t9 := Tryz.underlying9
  a9 := Tryz.isAgg9
  z9 := Tryz.sizeOf9
  v9 := Tryz.zeroValue9
  t20 := Tryz.underlying20
  a20 := Tryz.isAgg20
  z20 := Tryz.sizeOf20
  v20 := Tryz.zeroValue20
  t70 := Tryz.underlying59
  a70 := Tryz.isAgg59
  z70 := Tryz.sizeOf59
  v70 := Tryz.zeroValue59
  t72 := Tryz.underlying62
  a72 := Tryz.isAgg62
  z72 := Tryz.sizeOf62
  v72 := Tryz.zeroValue62
  t164 := Tryz.underlying149
  a164 := Tryz.isAgg149
  z164 := Tryz.sizeOf149
  v164 := Tryz.zeroValue149 }
theorem lays169 : Go.Proofs.Lays.n169 Tryz.prog bren := {
  mixed := by kernel_rfl
  f169 := Tryz.func28.trans (congrArg some (by kernel_rfl))
  t0 := Tryz.underlying0
  a0 := Tryz.isAgg0
  z0 := Tryz.sizeOf0
  v0 := Tryz.zeroValue0
  t3 := Tryz.underlying3
  a3 := Tryz.isAgg3
  z3 := Tryz.sizeOf3
  v3 := Tryz.zeroValue3
  t9 := Tryz.underlying9
  a9 := Tryz.isAgg9
  z9 := Tryz.sizeOf9
  v9 := Tryz.zeroValue9
  t37 := Tryz.underlying60
  a37 := Tryz.isAgg60
  z37 := Tryz.sizeOf60
  v37 := Tryz.zeroValue60
  t70 := Tryz.underlying59
  a70 := Tryz.isAgg59
  z70 := Tryz.sizeOf59
  v70 := Tryz.zeroValue59
  t72 := Tryz.underlying62
  a72 := Tryz.isAgg62
  z72 := Tryz.sizeOf62
  v72 := Tryz.zeroValue62
  t127 := Tryz.underlying108
  a127 := Tryz.isAgg108
  z127 := Tryz.sizeOf108
  v127 := Tryz.zeroValue108 }
theorem bextra : Builder.Extra Tryz.prog bren := {
  sizeBuilder := by kernel_rfl
  liesBuilder := by kernel_rfl
  t5 := Tryz.underlying5
  a5 := Tryz.isAgg5
  z5 := Tryz.sizeOf5
  v5 := Tryz.zeroValue5
  infoByte := by kernel_rfl
  cellsByte := by kernel_rfl
  sizeByte := by kernel_rfl
  neB5 := by decide }
theorem EM {w : World} {b : Nat} {p v : Value} (hb : w.heap[b]? = some (.cells #[p, v] 62 (0, 0))) (hp : p = .pointer none ∨ p = .pointer (some ⟨b, 0, none⟩)) :
    Calls Tryz.prog 50 #[.pointer (some ⟨b, 0, none⟩)] w (Ret fun r w' => r = .tuple #[] ∧ w'.heap[b]? = some (.cells #[.pointer (some ⟨b, 0, none⟩), v] 62 (0, 0)) ∧ Evo [b] w w') := by
  have h0 : w.cell? ⟨b, 0, none⟩ = some p := by simp [World.cell?, hb]
  rcases hp with rfl | rfl
  · refine (Any.Builder_copyCheck_fresh OC bextra.toX72 b w h0 (by simp [World.shape?, hb]; rfl) (by simp [World.frozen?, hb])).mono ?_
    rintro e w' ⟨rfl, rfl⟩
    exact ⟨_, rfl, rfl, by simp [World.setCell, Array.getElem?_modify, hb], wO w ⟨b, 0, none⟩ _⟩
  · refine (Any.Builder_copyCheck_used OC bextra.toX72 b w h0).mono ?_
    rintro e w' ⟨rfl, rfl⟩
    exact ⟨_, rfl, rfl, hb, Evo.refl _ _⟩
end Go.Proofs.YtidpigbinpaaeaaGreat
namespace Go.Proofs.YtidpigbinpaaeaaGreat
open Go.RowKit Go.W
attribute [local irreducible] Decidable.decide
theorem LB (a b : List Nat) : qH (a ++ b) = qH a ++ qH b := by simp [qH]
theorem orb192 : ∀ x, x < 32 → 192 ||| x = 192 + x := by decide
theorem orb224 : ∀ x, x < 16 → 224 ||| x = 224 + x := by decide
theorem orb240 : ∀ x, x < 8 → 240 ||| x = 240 + x := by decide
theorem r2 {m : Nat} (h : m < 2048) : 192 ||| (m / 2 ^ 6 % 256) = 192 + m / 64 := by
  rw [show (2 : Nat) ^ 6 = 64 from rfl, Nat.mod_eq_of_lt (show m / 64 < 256 by omega), orb192 _ (by omega)]
theorem r3 {m : Nat} (h : m < 65536) : 224 ||| (m / 2 ^ 12 % 256) = 224 + m / 4096 := by
  rw [show (2 : Nat) ^ 12 = 4096 from rfl, Nat.mod_eq_of_lt (show m / 4096 < 256 by omega), orb224 _ (by omega)]
theorem r4 {m : Nat} (h : m ≤ 1114111) : 240 ||| (m / 2 ^ 18 % 256) = 240 + m / 262144 := by
  rw [show (2 : Nat) ^ 18 = 262144 from rfl, Nat.mod_eq_of_lt (show m / 262144 < 256 by omega), orb240 _ (by omega)]
theorem AR : AG Tryz.prog 60 60 = some (5, 1, 1) := by kernel_rfl
theorem vF : cZ Tryz.prog 62 1 = some 1 := by kernel_rfl
theorem JF : dU Tryz.prog 50 := ⟨_, Tryz.func50, by kernel_rfl, by kernel_rfl⟩
theorem IW : fR Tryz.prog 60 = some 1 := by kernel_rfl
theorem EX : oT Tryz.prog 60 = some (5, 1) := by kernel_rfl
structure BdN (w : World) (b : Nat) (l : List Nat) (ob : Option Nat) : Prop where
  get : ∃ p a c, w.heap[b]? = some (.cells #[p, .slice a l.length c] 62 (0, 0)) ∧ (p = .pointer none ∨ p = .pointer (some ⟨b, 0, none⟩)) ∧ OwnS w 5 1 a l.length c (qH l) ob
  ne : ∀ g, ob = some g → g ≠ b
theorem BdN.new {w : World} {b : Nat} (h : w.heap[b]? = some (.cells #[.pointer none, .slice none 0 0] 62 (0, 0))) : BdN w b [] none := ⟨⟨_, _, _, h, .inl rfl, OwnS.nil _ _ _⟩, fun g h => by cases h⟩
theorem BdN.evo {X : List Nat} {w w' : World} {b : Nat} {l : List Nat} {ob : Option Nat} (h : BdN w b l ob) (he : Evo X w w') (h1 : b ∉ X) (h2 : ∀ g, ob = some g → g ∉ X) : BdN w' b l ob := by
  obtain ⟨⟨p, a, c, h3, h4, h5⟩, h6⟩ := h
  exact ⟨⟨p, a, c, he.blk h3 h1, h4, h5.evo he h2⟩, h6⟩
theorem BdN.evo0 {w w' : World} {b : Nat} {l : List Nat} {ob : Option Nat} (h : BdN w b l ob) (he : Evo [] w w') : BdN w' b l ob := h.evo he (fun h => by cases h) (fun _ _ h => by cases h)
def Wr (w : World) (b : Nat) (l : List Nat) (ob : Option Nat) (w' : World) : Prop := ∃ ob', BdN w' b l ob' ∧ Evo (b :: ob.toList) w w' ∧ (ob' = ob ∨ ∃ g, ob' = some g ∧ w.heap.size ≤ g)
def Lo (l : List Nat) : Prop := ∀ b, b ∈ l → b < 256
theorem bd_open {w : World} {b : Nat} {l : List Nat} {ob : Option Nat} (h : BdN w b l ob) : ∃ p a c, w.heap[b]? = some (.cells #[p, .slice a l.length c] 62 (0, 0)) ∧ (p = .pointer none ∨ p = .pointer (some ⟨b, 0, none⟩)) ∧ OwnS w 5 1 a l.length c (qH l) ob ∧ Apart (some b) ob := by
  obtain ⟨⟨p, a, c, h3, h4, h5⟩, h6⟩ := h
  exact ⟨p, a, c, h3, h4, h5, fun g h1 h2 => by cases h1; exact h6 b h2 rfl⟩
theorem bd_shut {w w' : World} {b : Nat} {l m : List Nat} {ob ob2 : Option Nat} {a2 : Option Addr} {c2 n : Nat} {hap : Apart (some b) ob} (hb : b < w.heap.size) (hn : n = (l ++ m).length) (h1 : w'.heap[b]? = some (.cells #[.pointer (some ⟨b, 0, none⟩), .slice a2 n c2] 62 (0, 0)))
    (h2 : OwnS w' 5 1 a2 n c2 (qH (l ++ m)) ob2) (h3 : Evo (b :: ob.toList) w w') (h4 : ob2 = ob ∨ ∃ g, ob2 = some g ∧ w.heap.size ≤ g) : Wr w b (l ++ m) ob w' := by
  subst hn
  refine ⟨ob2, ⟨⟨_, _, _, h1, .inr rfl, h2⟩, fun g hg e => ?_⟩, h3, h4⟩
  subst e
  rcases h4 with h4 | ⟨g', h4, h5⟩
  · exact hap g rfl (h4 ▸ hg)
  · rw [h4] at hg; cases hg; omega
theorem pW {w : World} {b : Nat} {l : List Nat} {ob : Option Nat} (x : Nat) (h : BdN w b l ob) (hl : l.length ≤ 100000000) :
    Calls Tryz.prog 27 #[.pointer (some ⟨b, 0, none⟩), .int .u8 (x : Nat)] w (Ret fun v w' => Wr w b (l ++ [x]) ob w') := by
  obtain ⟨p, a, c, hJ, hp, hO, hap⟩ := bd_open h; have hbl := eO hJ; refine bD (N := 17) Tryz.func27 rfl rfl rfl ?_; refine csr (wan (csr (aD (aK (vs := [_]) JF rfl (EM hJ hp) rfl ?_)))); rintro _ w1 ⟨rfl, B, I⟩
  have J := (Evo.refl (b :: ob.toList) w).step I (fun y hy => .inl (by rw [List.mem_singleton.1 hy]; exact List.mem_cons_self ..))
  refine wnn (csr (aD (aD (aC (aF rfl) (wfl rfl vF rfl MH B rfl (aD (bL (vs := [_]) rfl EX rfl rfl rfl rfl fun b5 w6 O V A => ?_))))))); have hszg := ((J.then A)).size; refine dB rfl rfl rfl rfl AR ((hO.evo I hap.symm.own1).evo0 A) (Src.ofOwn O ⟨rfl, trivial⟩) (by omega) fun a2 c2 a0 ob2 U D hob22 => ?_; have L := (J.then A).step D (fun y hy => .inl (List.mem_cons_of_mem _ hy)); have hob2 : ob2 = ob ∨ ∃ g, ob2 = some g ∧ w.heap.size ≤ g := hob22.imp id (fun ⟨g, h1, h2⟩ => ⟨g, h1, Nat.le_trans hszg h2⟩); refine aC (aF rfl) (aC (aA rfl vF) ?_); refine bC rfl rfl (by first | rfl | assumption) IW (D.blk (A.blk0 B) hap.nmem) rfl fun a1 F H => ?_
  have M := L.step H (fun y hy => .inl (by rw [List.mem_singleton.1 hy]; exact List.mem_cons_self ..))
  try simp only [cG, Nat.reduceAdd] at F
  refine wnn (csr (wan (aH (br1 ?_))))
  exact bd_shut (hap := hap) hbl (by rw [List.length_append]; rfl) F (by rw [LB]; exact (U.evo H (hap.app (Lt.blk (A.blk0 B)) hob22).symm.own1)) M hob2
theorem LZ {w : World} {b : Nat} {l : List Nat} {ob : Option Nat} (h : BdN w b l ob) (hl : Lo l) (hg : ∀ g, ob = some g → b ≤ g) :
    Calls Tryz.prog 28 #[.pointer (some ⟨b, 0, none⟩)] w (Ret fun v w' => v = .string (fS l) ∧ Evo (XB b w) w w') := by
  obtain ⟨⟨p, a, c, hJ, hp, hO⟩, hne⟩ := h
  have hbc := zN hl
  have hll : (fS l).data.toList.length = l.length := by simp [fS]
  have hown : w.ownsRow b 5 1 (.slice a l.length c) (Lib.byteCells (fS l).data.toList).length (Lib.byteCells (fS l).data.toList) := by
    rw [Lib.byteCells_length, hbc, hll]
    refine ⟨hO.1, ?_⟩
    rcases hO.2 with ⟨h1, h2, h3⟩ | ⟨g, cap, cur, h1, h2, h3, h4⟩
    · exact .inl ⟨h1, h2⟩
    · exact .inr ⟨g, cap, cur, h2, hg g h1, h3, h4⟩
  have hne2 : (Value.slice a l.length c).ownBlock ≠ some b := by
    rcases hO.2 with ⟨h1, h2, h3⟩ | ⟨g, cap, cur, h1, h2, h3, h4⟩
    · rw [h1]; simp [Value.ownBlock]
    · rw [h2]; simp only [Value.ownBlock]; intro e; cases e; exact hne _ h1 rfl
  have hB : Lib.IsBuilder 62 5 b b (Lib.byteCells (fS l).data.toList) w := by
    rcases hp with rfl | rfl
    · exact .inl ⟨Nat.le_refl _, _, hJ, hown, hne2⟩
    · exact .inr ⟨Nat.le_refl _, _, hJ, hown, hne2⟩
  refine (pV b b _ w hB (Nat.le_of_lt (eO hJ))).mono ?_
  rintro e w' ⟨rfl, h1⟩
  exact ⟨_, rfl, rfl, XN h1⟩
section
variable {P : Program} {σ : Env} {w : World} {dst : Option Nat} {T : TypeId} {pos : String} {after : Array Edge} {g : Option (Nat × Bool)}
end
def hx (d : Nat) : Nat := if d < 10 then 48 + d else 87 + d
theorem AQ : Build Tryz.prog 110 #[(0, 1)] #[.int .i64 0] := ⟨_, .agg #[.int .i64 0], Tryz.underlying110, by kernel_rfl, rfl, fun w => by kernel_rfl⟩
abbrev flt (e : Int) : Value := .iface 110 (.agg #[iv e])
theorem eD {w : World} (e : Int) : Calls Tryz.prog 53 #[iv e] w (RetP (fun _ _ => False) (fun v w' => v = flt e ∧ Evo [] w w')) := by
  refine bD (N := 5) Tryz.func53 rfl rfl rfl ?_; refine aG (aD (gI rfl (cC (vs := [(0, _)]) AQ rfl (cells := [_]) rfl) ?_)); refine gI rfl (WQ rfl (fun w => by kernel_rfl)) ?_; refine RV rfl ?_; exact XJ ⟨rfl, (Evo.refl [] w)⟩
end Go.Proofs.YtidpigbinpaaeaaGreat
namespace Go.Proofs.YtidpigbinpaaeaaGreat
open Go.RowKit Go.W
def jA : Int → List (Int × Int) → Prop
  | _, [] => True
  | b, g :: l => b ≤ g.1 ∧ g.1 ≤ g.2 ∧ g.2 ≤ 1114111 ∧ jA (g.2 + 2) l
abbrev tB (l : List (Int × Int)) : Prop := jA 0 l
theorem fB {c : Int} {g : Int × Int} {l : List (Int × Int)} : InR c (g :: l) ↔ (g.1 ≤ c ∧ c ≤ g.2) ∨ InR c l := by
  constructor
  · rintro ⟨x, hx, h⟩
    cases hx with
    | head => exact .inl h
    | tail _ hx => exact .inr ⟨x, hx, h⟩
  · rintro (h | ⟨x, hx, h⟩)
    · exact ⟨g, List.mem_cons_self .., h⟩
    · exact ⟨x, List.mem_cons_of_mem _ hx, h⟩
theorem kJ (c : Int) : ¬ InR c [] := by rintro ⟨g, h, -⟩; cases h
theorem mZ {c : Int} {l m : List (Int × Int)} : InR c (l ++ m) ↔ InR c l ∨ InR c m := by
  constructor
  · rintro ⟨x, hx, h⟩
    rcases List.mem_append.1 hx with hx | hx
    · exact .inl ⟨x, hx, h⟩
    · exact .inr ⟨x, hx, h⟩
  · rintro (⟨x, hx, h⟩ | ⟨x, hx, h⟩)
    · exact ⟨x, List.mem_append_left _ hx, h⟩
    · exact ⟨x, List.mem_append_right _ hx, h⟩
theorem kP {c : Int} {g : Int × Int} : InR c [g] ↔ g.1 ≤ c ∧ c ≤ g.2 := by
  rw [fB]
  exact ⟨fun h => h.elim id (fun h => (kJ c h).elim), .inl⟩
theorem GZ {c : Int} {l m : List (Int × Int)} (h : l.Perm m) : InR c l ↔ InR c m := by
  constructor
  · rintro ⟨x, hx, h2⟩; exact ⟨x, h.mem_iff.1 hx, h2⟩
  · rintro ⟨x, hx, h2⟩; exact ⟨x, h.mem_iff.2 hx, h2⟩
theorem mE : ∀ {l : List (Int × Int)} {b c : Int}, jA b l → InR c l → b ≤ c ∧ c ≤ 1114111
  | [], b, c, _, h => (kJ c h).elim
  | g :: l, b, c, hc, h => by
    rw [jA] at hc
    rcases fB.1 h with h | h
    · omega
    · have := mE hc.2.2.2 h; omega
theorem EO : ∀ {l : List (Int × Int)} {a b : Int}, jA b l → a ≤ b → jA a l
  | [], a, b, _, _ => trivial
  | g :: l, a, b, h, hab => by
    rw [jA] at h ⊢
    exact ⟨by omega, h.2⟩
theorem CL : ∀ {l m : List (Int × Int)} {b : Int}, jA b l → jA b m → (∀ c, InR c l ↔ InR c m) → l = m
  | [], [], b, _, _, _ => rfl
  | [], h :: m, b, hl, hm, he => by
    rw [jA] at hm
    exact (kJ h.1 ((he h.1).2 (fB.2 (.inl ⟨Int.le_refl _, hm.2.1⟩)))).elim
  | g :: l, [], b, hl, hm, he => by
    rw [jA] at hl
    exact (kJ g.1 ((he g.1).1 (fB.2 (.inl ⟨Int.le_refl _, hl.2.1⟩)))).elim
  | g :: l, h :: m, b, hl, hm, he => by
    rw [jA] at hl hm
    have h1 := (he g.1).1 (fB.2 (.inl ⟨Int.le_refl _, hl.2.1⟩))
    have h2 := (he h.1).2 (fB.2 (.inl ⟨Int.le_refl _, hm.2.1⟩))
    have e1 : g.1 = h.1 := by
      rcases fB.1 h1 with h1 | h1 <;> rcases fB.1 h2 with h2 | h2
      · omega
      · have := mE hl.2.2.2 h2; omega
      · have := mE hm.2.2.2 h1; omega
      · have := mE hl.2.2.2 h2; have := mE hm.2.2.2 h1; omega
    have e2 : g.2 = h.2 := by
      rcases Int.lt_trichotomy g.2 h.2 with c | c | c
      · have h3 := (he (g.2 + 1)).2 (fB.2 (.inl (by omega)))
        rcases fB.1 h3 with h3 | h3
        · omega
        · have := mE hl.2.2.2 h3; omega
      · exact c
      · have h3 := (he (h.2 + 1)).1 (fB.2 (.inl (by omega)))
        rcases fB.1 h3 with h3 | h3
        · omega
        · have := mE hm.2.2.2 h3; omega
    have e : g = h := Prod.ext e1 e2
    subst e
    have : l = m := CL hl.2.2.2 hm.2.2.2 fun c => by
      constructor
      · intro hc
        have h3 := mE hl.2.2.2 hc
        rcases fB.1 ((he c).1 (fB.2 (.inr hc))) with h4 | h4
        · omega
        · exact h4
      · intro hc
        have h3 := mE hm.2.2.2 hc
        rcases fB.1 ((he c).2 (fB.2 (.inr hc))) with h4 | h4
        · omega
        · exact h4
    rw [this]
theorem vX : ∀ {l : List (Int × Int)} {b : Int} {x : Int × Int}, jA b l → b ≤ x.1 → x.1 ≤ x.2 → x.2 ≤ 1114111 → (∀ g, g ∈ l → g.2 + 1 < x.1) → jA b (l ++ [x])
  | [], b, x, _, h1, h2, h3, _ => by show jA b [x]; rw [jA]; exact ⟨h1, h2, h3, trivial⟩
  | g :: l, b, x, h, h1, h2, h3, h4 => by
    rw [jA] at h
    show jA b (g :: (l ++ [x]))
    rw [jA]
    have := h4 g (List.mem_cons_self ..)
    exact ⟨h.1, h.2.1, h.2.2.1, vX h.2.2.2 (by omega) h2 h3 (fun y hy => h4 y (List.mem_cons_of_mem _ hy))⟩
theorem vY : ∀ {l : List (Int × Int)} {b : Int} {x : Int × Int}, jA b (l ++ [x]) → jA b l ∧ b ≤ x.1 ∧ x.1 ≤ x.2 ∧ x.2 ≤ 1114111 ∧ ∀ g, g ∈ l → g.2 + 1 < x.1
  | [], b, x, h => by
    have h' : jA b [x] := h
    rw [jA] at h'
    exact ⟨trivial, h'.1, h'.2.1, h'.2.2.1, fun g hg => by cases hg⟩
  | g :: l, b, x, h => by
    have h' : jA b (g :: (l ++ [x])) := h
    rw [jA] at h'
    obtain ⟨h1, h2, h3, h4, h5⟩ := vY h'.2.2.2
    refine ⟨by rw [jA]; exact ⟨h'.1, h'.2.1, h'.2.2.1, h1⟩, by omega, h3, h4, fun y hy => ?_⟩
    cases hy with
    | head => omega
    | tail _ hy => exact h5 y hy
theorem II {out : List (Int × Int)} {g x : Int × Int} (h : tB (out ++ [g])) (h1 : g.1 ≤ x.1) (h2 : x.1 ≤ x.2) (h3 : x.2 ≤ 1114111) :
    (x.1 ≤ g.2 + 1 → tB (out ++ [(g.1, max g.2 x.2)]) ∧ ∀ c, InR c (out ++ [(g.1, max g.2 x.2)]) ↔ InR c (out ++ [g]) ∨ (x.1 ≤ c ∧ c ≤ x.2)) ∧
    (¬ x.1 ≤ g.2 + 1 → tB (out ++ [g] ++ [x]) ∧ ∀ c, InR c (out ++ [g] ++ [x]) ↔ InR c (out ++ [g]) ∨ (x.1 ≤ c ∧ c ≤ x.2)) := by
  obtain ⟨i1, i2, i3, i4, i5⟩ := vY h
  refine ⟨fun hx => ⟨vX i1 i2 (by show g.1 ≤ max g.2 x.2; omega) (by show max g.2 x.2 ≤ _; omega) i5, fun c => ?_⟩, fun hx => ⟨vX h (by omega) h2 h3 (fun y hy => ?_), fun c => ?_⟩⟩
  · rw [mZ, mZ, kP, kP]
    show _ ∨ (g.1 ≤ c ∧ c ≤ max g.2 x.2) ↔ _
    constructor
    · rintro (h | h)
      · exact .inl (.inl h)
      · by_cases hc : c ≤ g.2
        · exact .inl (.inr ⟨h.1, hc⟩)
        · exact .inr (by omega)
    · rintro ((h | h) | h)
      · exact .inl h
      · exact .inr (by omega)
      · exact .inr (by omega)
  · rcases List.mem_append.1 hy with hy | hy
    · have := i5 y hy; omega
    · rw [List.mem_singleton.1 hy]; omega
  · rw [mZ, kP]
noncomputable def jP (S : Int → Prop) : List (Int × Int) := open Classical in if h : ∃ l, tB l ∧ ∀ c, InR c l ↔ S c then Classical.choose h else []
theorem uN {S : Int → Prop} {l : List (Int × Int)} (h : tB l) (h2 : ∀ c, InR c l ↔ S c) : jP S = l := by
  have hx : ∃ l, tB l ∧ ∀ c, InR c l ↔ S c := ⟨l, h, h2⟩
  unfold jP
  rw [dif_pos hx]
  have h3 := Classical.choose_spec hx
  exact CL h3.1 h fun c => (h3.2 c).trans (h2 c).symm
theorem IK {a b : Int} (h0 : 0 ≤ a) (h1 : a ≤ b) (h2 : b ≤ 1114111) : tB [(a, b)] := by
  show jA 0 [(a, b)]
  rw [jA]; exact ⟨h0, h1, h2, trivial⟩
theorem RN {c : Int} (h0 : 0 ≤ c) (h1 : c ≤ 1114111) : jP (fun x => x = c) = [(c, c)] :=
  uN (IK h0 (Int.le_refl _) h1) fun x => by rw [kP]; show c ≤ x ∧ x ≤ c ↔ x = c; omega
def rS : Int → List (Int × Int) → List (Int × Int)
  | b, [] => if b ≤ 1114111 then [(b, 1114111)] else []
  | b, g :: l => (if b < g.1 then [(b, g.1 - 1)] else []) ++ rS (g.2 + 1) l
theorem EA : ∀ {l : List (Int × Int)} {b d : Int}, 0 ≤ b → d ≤ b → jA b l → jA d (rS b l) ∧ ∀ c, InR c (rS b l) ↔ b ≤ c ∧ c ≤ 1114111 ∧ ¬ InR c l
  | [], b, d, h0, hd, _ => by
    rw [rS]
    by_cases h : b ≤ 1114111
    · rw [if_pos h]
      refine ⟨by rw [jA]; exact ⟨hd, h, Int.le_refl _, trivial⟩, fun c => ?_⟩
      rw [kP]
      exact ⟨fun h => ⟨h.1, h.2, kJ c⟩, fun h => ⟨h.1, h.2.1⟩⟩
    · rw [if_neg h]
      exact ⟨trivial, fun c => ⟨fun h => (kJ c h).elim, fun h => by omega⟩⟩
  | g :: l, b, d, h0, hd, hc => by
    rw [jA] at hc
    rw [rS]
    by_cases h : b < g.1
    · rw [if_pos h]
      obtain ⟨i1, i2⟩ := EA (b := g.2 + 1) (d := g.1 + 1) (by omega) (by omega) (EO hc.2.2.2 (by omega))
      refine ⟨?_, fun c => ?_⟩
      · show jA d ((b, g.1 - 1) :: rS (g.2 + 1) l)
        rw [jA]; exact ⟨hd, by show b ≤ g.1 - 1; omega, by show g.1 - 1 ≤ _; omega, by show jA (g.1 - 1 + 2) _; rw [show g.1 - 1 + 2 = g.1 + 1 by omega]; exact i1⟩
      · rw [mZ, kP, i2, fB]
        show (b ≤ c ∧ c ≤ g.1 - 1) ∨ _ ↔ _
        constructor
        · rintro (h3 | h3)
          · exact ⟨h3.1, by omega, fun h4 => by rcases h4 with h4 | h4; omega; (have := mE hc.2.2.2 h4; omega)⟩
          · exact ⟨by omega, h3.2.1, fun h4 => by rcases h4 with h4 | h4; omega; exact h3.2.2 h4⟩
        · rintro ⟨h3, h4, h5⟩
          by_cases h6 : c ≤ g.1 - 1
          · exact .inl ⟨h3, h6⟩
          · refine .inr ⟨?_, h4, fun h7 => h5 (.inr h7)⟩
            by_cases h8 : c ≤ g.2
            · exact (h5 (.inl ⟨by omega, h8⟩)).elim
            · omega
    · rw [if_neg h, List.nil_append]
      obtain ⟨i1, i2⟩ := EA (b := g.2 + 1) (d := d) (by omega) (by omega) (EO hc.2.2.2 (by omega))
      refine ⟨i1, fun c => ?_⟩
      rw [i2, fB]
      constructor
      · rintro ⟨h3, h4, h5⟩
        exact ⟨by omega, h4, fun h6 => by rcases h6 with h6 | h6; omega; exact h5 h6⟩
      · rintro ⟨h3, h4, h5⟩
        refine ⟨?_, h4, fun h6 => h5 (.inr h6)⟩
        by_cases h8 : c ≤ g.2
        · exact (h5 (.inl ⟨by omega, h8⟩)).elim
        · omega
structure Fl where
  fold : Bool
  lines : Bool
  dots : Bool
  lazy : Bool
structure PS where
  pos : Nat
  now : Fl
  opn : Nat
  names : List ByteArray
abbrev PX (α : Type) := Except Int (α × PS)
abbrev emp : ByteArray := ByteArray.mk #[]
def rxK (k : Int) : Rx := .mk k 0 [] 0 0 false 0 emp []
def dK (c : Int) : Rx := .mk 2 c [] 0 0 false 0 emp []
def uD (l : List (Int × Int)) : Rx := .mk 3 0 l 0 0 false 0 emp []
def lG (k : Int) (l : List Rx) : Rx := .mk k 0 [] 0 0 false 0 emp l
def lS (lo hi : Int) (z : Bool) (x : Rx) : Rx := .mk 6 0 [] lo hi z 0 emp [x]
def oE (n : Int) (nm : ByteArray) (x : Rx) : Rx := .mk 7 0 [] 0 0 false n nm [x]
def lC (k : Int) : List Rx → Rx
  | [] => rxK 1
  | [x] => x
  | l => lG k l
noncomputable def kI (S : Int → Prop) : Rx := match jP S with
  | [(a, b)] => if a = b then dK a else uD [(a, b)]
  | l => uD l
def oM (S : Int → Prop) : Int → Prop := fun c => S c ∨ (97 ≤ c ∧ c ≤ 122 ∧ S (c - 32)) ∨ (65 ≤ c ∧ c ≤ 90 ∧ S (c + 32))
def vO (S : Int → Prop) : Int → Prop := fun c => 0 ≤ c ∧ c ≤ 1114111 ∧ ¬ S c
noncomputable def lD (f : Fl) (c : Int) : Rx := kI (if f.fold = true then oM (fun x => x = c) else fun x => x = c)
def isB (s : ByteArray) (i b : Nat) : Prop := i < s.size ∧ sb s i = b
instance (s : ByteArray) (i b : Nat) : Decidable (isB s i b) := by unfold isB; infer_instance
def digN (c : Nat) : Prop := 48 ≤ c ∧ c ≤ 57
instance (c : Nat) : Decidable (digN c) := by unfold digN; infer_instance
def iQ (s : ByteArray) : Nat → Nat → Int → Int × Nat
  | 0, i, n => (n, i)
  | f + 1, i, n => if i < s.size ∧ digN (sb s i) then iQ s f (i + 1) (min (n * 10 + ((sb s i : Int) - 48)) 1001) else (n, i)
def mP (r : ByteArray) : Int × Int × Nat :=
  if sb r 0 = 42 then (0, -1, 1) else if sb r 0 = 43 then (1, -1, 1) else if sb r 0 = 63 then (0, 1, 1) else if sb r 0 ≠ 123 then (0, 0, 0)
  else if 1 < (iQ r r.size 1 0).2 ∧ isB r (iQ r r.size 1 0).2 44 then
    if isB r (iQ r r.size ((iQ r r.size 1 0).2 + 1) 0).2 125 then
      ((iQ r r.size 1 0).1, (if (iQ r r.size ((iQ r r.size 1 0).2 + 1) 0).2 = (iQ r r.size 1 0).2 + 1 then -1 else (iQ r r.size ((iQ r r.size 1 0).2 + 1) 0).1), (iQ r r.size ((iQ r r.size 1 0).2 + 1) 0).2 + 1)
    else (0, 0, 0)
  else if (iQ r r.size 1 0).2 = 1 ∨ ¬ isB r (iQ r r.size 1 0).2 125 then (0, 0, 0)
  else ((iQ r r.size 1 0).1, (iQ r r.size 1 0).1, (iQ r r.size 1 0).2 + 1)
def oW (c : Nat) : Option Nat := if 48 ≤ c ∧ c ≤ 57 then some (c - 48) else if 97 ≤ c ∧ c ≤ 102 then some (c - 97 + 10) else if 65 ≤ c ∧ c ≤ 70 then some (c - 65 + 10) else none
def gG (s : ByteArray) (i : Nat) : Except Int (Nat × Nat) := if i < s.size then (match oW (sb s i) with | some d => .ok (d, i + 1) | none => .error 83) else .error 83
def mK (s : ByteArray) : Nat → Nat → Nat → Except Int (Nat × Nat)
  | 0, n, i => .error 83
  | f + 1, n, i => if isB s i 125 then .ok (n, i + 1) else match gG s i with
    | .error e => .error e
    | .ok (d, j) => if 1114111 < n * 16 + d then .error 83 else mK s f (n * 16 + d) j
def qC (s : ByteArray) (i : Nat) : Except Int (Nat × Nat) :=
  if isB s i 123 then (match gG s (i + 1) with | .error e => .error e | .ok (d, j) => mK s (s.size + 1 - j) d j)
  else match gG s i with
    | .error e => .error e
    | .ok (a, j) => match gG s j with | .error e => .error e | .ok (b, k) => .ok (a * 16 + b, k)
def vT (c : Nat) : Option Nat := if c = 97 then some 7 else if c = 102 then some 12 else if c = 116 then some 9 else if c = 110 then some 10 else if c = 114 then some 13 else if c = 118 then some 11 else none
def mX (s : ByteArray) (i : Nat) : Except Int (Nat × Nat) :=
  if s.size ≤ i + 1 then .error 83 else match vT (sb s (i + 1)) with
    | some v => .ok (v, i + 2)
    | none => if sb s (i + 1) = 120 then qC s (i + 2) else if 128 ≤ sb s (i + 1) ∨ (fU (sb s (i + 1)) ∧ sb s (i + 1) ≠ 95) then .error 83 else .ok (sb s (i + 1), i + 2)
def rs (l : List (Int × Int)) : Int → Prop := fun c => InR c l
def vR (c : Nat) : Option (Int → Prop) :=
  if c = 100 then some (rs [(48, 57)]) else if c = 115 then some (rs [(9, 10), (12, 13), (32, 32)]) else if c = 119 then some (rs [(48, 57), (65, 90), (95, 95), (97, 122)])
  else if c = 68 then some (vO (rs [(48, 57)])) else if c = 83 then some (vO (rs [(9, 10), (12, 13), (32, 32)])) else if c = 87 then some (vO (rs [(48, 57), (65, 90), (95, 95), (97, 122)])) else none
def asc (l : List Nat) : ByteArray := fS l
def iR (n : ByteArray) : Option (Int → Prop) :=
  if n = asc [97, 108, 110, 117, 109] then some (rs [(48, 57), (65, 90), (97, 122)])
  else if n = asc [97, 108, 112, 104, 97] then some (rs [(65, 90), (97, 122)])
  else if n = asc [97, 115, 99, 105, 105] then some (rs [(0, 127)])
  else if n = asc [98, 108, 97, 110, 107] then some (rs [(9, 9), (32, 32)])
  else if n = asc [99, 110, 116, 114, 108] then some (rs [(0, 31), (127, 127)])
  else if n = asc [100, 105, 103, 105, 116] then some (rs [(48, 57)])
  else if n = asc [103, 114, 97, 112, 104] then some (rs [(33, 126)])
  else if n = asc [108, 111, 119, 101, 114] then some (rs [(97, 122)])
  else if n = asc [112, 114, 105, 110, 116] then some (rs [(32, 126)])
  else if n = asc [112, 117, 110, 99, 116] then some (rs [(33, 47), (58, 64), (91, 96), (123, 126)])
  else if n = asc [115, 112, 97, 99, 101] then some (rs [(9, 13), (32, 32)])
  else if n = asc [117, 112, 112, 101, 114] then some (rs [(65, 90)])
  else if n = asc [119, 111, 114, 100] then some (rs [(48, 57), (65, 90), (95, 95), (97, 122)])
  else if n = asc [120, 100, 105, 103, 105, 116] then some (rs [(48, 57), (65, 70), (97, 102)]) else none
def lX (s : ByteArray) (i : Nat) : Except Int (Int × Nat) :=
  if sb s i = 92 then (match mX s i with | .ok (v, j) => .ok ((v : Int), j) | .error e => .error e) else .ok ((bJ s i).1, i + (bJ s i).2)
def kH (s : ByteArray) (a b : Nat) : Nat → Nat → Option Nat
  | 0, _ => none
  | f + 1, j => if j + 1 < s.size ∧ sb s j = a ∧ sb s (j + 1) = b then some j else kH s a b f (j + 1)
def unS (S T : Int → Prop) : Int → Prop := fun c => S c ∨ T c
def rgS (lo hi : Int) : Int → Prop := fun c => lo ≤ c ∧ c ≤ hi
abbrev PR := Except Int ((Int → Prop) × Nat)
noncomputable def iL (s : ByteArray) (i : Nat) : PR := match lX s i with
  | .error e => .error e
  | .ok (lo, j) => if isB s j 45 ∧ j + 1 < s.size ∧ sb s (j + 1) ≠ 93 then
      (match lX s (j + 1) with | .error e => .error e | .ok (hi, k) => if hi < lo then .error 81 else .ok (rgS lo hi, k))
    else .ok (rgS lo lo, j)
noncomputable def kS (s : ByteArray) (i : Nat) : PR :=
  if i + 1 < s.size ∧ sb s i = 92 then (match vR (sb s (i + 1)) with | some S => .ok (S, i + 2) | none => iL s i) else iL s i
noncomputable def jM (s : ByteArray) (i : Nat) : PR :=
  if isB s i 91 ∧ isB s (i + 1) 58 then
    (match kH s 58 93 s.size (i + 2) with
    | none => kS s i
    | some j =>
      if i + 2 < j ∧ sb s (i + 2) = 94 then (match iR (s.extract (i + 3) j) with | none => .error 81 | some S => .ok (vO S, j + 2))
      else (match iR (s.extract (i + 2) j) with | none => .error 81 | some S => .ok (S, j + 2)))
  else kS s i
noncomputable def gE (s : ByteArray) : Nat → Bool → (Int → Prop) → Nat → PR
  | 0, _, _, _ => .error 81
  | f + 1, fst, S, i => if s.size ≤ i then .error 81 else if fst = false ∧ sb s i = 93 then .ok (S, i + 1) else match jM s i with
    | .error e => .error e
    | .ok (T, j) => gE s f false (unS S T) j
noncomputable def lH (s : ByteArray) (fl : Fl) (i : Nat) : Except Int (Rx × Nat) :=
  match gE s (s.size + 1) true (fun _ => False) (if isB s i 94 then i + 1 else i) with
  | .error e => .error e
  | .ok (S, j) => .ok (kI (if isB s i 94 then vO (if fl.fold = true then oM S else S) else if fl.fold = true then oM S else S), j)
structure Opn where
  size : Nat
  name : ByteArray
  thn : Fl
  capt : Bool
  sett : Bool
  err : Int
def iB (s : ByteArray) : Nat → Nat → Nat
  | 0, j => j
  | f + 1, j => if j < s.size ∧ fU (sb s j) then iB s f (j + 1) else j
def nR (s : ByteArray) (i h : Nat) (fl : Fl) : Opn :=
  if iB s s.size (i + h) = i + h ∨ ¬ isB s (iB s s.size (i + h)) 62 then ⟨0, emp, fl, false, false, 85⟩
  else ⟨iB s s.size (i + h) + 1 - i, s.extract (i + h) (iB s s.size (i + h)), fl, true, false, 0⟩
def hD (s : ByteArray) (i : Nat) : Nat → Nat → Bool → Int → Bool → Fl → Opn
  | 0, _, _, _, _, fl => ⟨0, emp, fl, false, false, 84⟩
  | f + 1, j, b, n, m, fl =>
    if s.size ≤ j then ⟨0, emp, fl, false, false, 84⟩
    else if sb s j = 105 then hD s i f (j + 1) b (n + 1) m { fl with fold := b }
    else if sb s j = 109 then hD s i f (j + 1) b (n + 1) m { fl with lines := b }
    else if sb s j = 115 then hD s i f (j + 1) b (n + 1) m { fl with dots := b }
    else if sb s j = 85 then hD s i f (j + 1) b (n + 1) m { fl with lazy := b }
    else if sb s j = 45 then (if m = true then ⟨0, emp, fl, false, false, 84⟩ else hD s i f (j + 1) false 0 true fl)
    else if sb s j = 58 ∨ sb s j = 41 then ⟨j + 1 - i, emp, fl, false, decide (sb s j = 41), if n = 0 then 84 else 0⟩
    else ⟨0, emp, fl, false, false, 84⟩
def fI (s : ByteArray) (i : Nat) (fl : Fl) : Opn :=
  if ¬ (isB s i 40 ∧ isB s (i + 1) 63) then ⟨1, emp, fl, true, false, 0⟩
  else if isB s (i + 2) 80 ∧ isB s (i + 3) 60 then nR s i 4 fl
  else if isB s (i + 2) 60 then nR s i 3 fl
  else if isB s (i + 2) 58 then ⟨3, emp, fl, false, false, 0⟩
  else hD s i s.size (i + 2) true 0 false fl
abbrev PL := PX (List Rx)
open Classical in
noncomputable def qE (s : ByteArray) (ex : PS → PX Rx) (st : PS) : PL :=
  let o := fI s st.pos st.now
  if o.err = 0 ∧ o.sett = true then .ok ([], { st with pos := st.pos + o.size, now := o.thn })
  else if st.opn = 250 then .error 3
  else if o.err ≠ 0 then .error o.err
  else if o.capt = true ∧ (st.names.length = 100 ∨ (o.name ≠ emp ∧ o.name ∈ st.names)) then .error 85
  else match ex ⟨st.pos + o.size, o.thn, st.opn + 1, if o.capt = true then st.names ++ [o.name] else st.names⟩ with
    | .error e => .error e
    | .ok (x, st2) => if isB s st2.pos 41 then
        .ok ([if o.capt = true then oE ((st.names.length : Int) + 1) o.name x else x], { st2 with pos := st2.pos + 1, opn := st2.opn - 1, now := st.now })
      else .error 80
noncomputable def kR (s : ByteArray) (fl : Fl) (e : Nat) : Nat → List Rx → Nat → List Rx × Nat
  | 0, l, i => (l, i)
  | f + 1, l, i => if i < e then kR s fl e f (l ++ [lD fl (bJ s i).1]) (i + (bJ s i).2) else (l, i)
noncomputable def nQ (s : ByteArray) (st : PS) : PL := match kH s 92 69 s.size (st.pos + 2) with
  | some e => .ok ((kR s st.now e s.size [] (st.pos + 2)).1, { st with pos := (kR s st.now e s.size [] (st.pos + 2)).2 + 2 })
  | none => .ok ((kR s st.now s.size s.size [] (st.pos + 2)).1, { st with pos := (kR s st.now s.size s.size [] (st.pos + 2)).2 })
noncomputable def fQ (s : ByteArray) (st : PS) : PL :=
  if s.size ≤ st.pos + 1 then .error 83
  else if sb s (st.pos + 1) = 65 then .ok ([rxK 8], { st with pos := st.pos + 2 })
  else if sb s (st.pos + 1) = 122 then .ok ([rxK 9], { st with pos := st.pos + 2 })
  else if sb s (st.pos + 1) = 98 then .ok ([rxK 12], { st with pos := st.pos + 2 })
  else if sb s (st.pos + 1) = 66 then .ok ([rxK 13], { st with pos := st.pos + 2 })
  else if sb s (st.pos + 1) = 81 then nQ s st
  else match vR (sb s (st.pos + 1)) with
    | some S => .ok ([kI S], { st with pos := st.pos + 2 })
    | none => match mX s st.pos with
      | .error e => .error e
      | .ok (v, j) => .ok ([lD st.now v], { st with pos := j })
noncomputable def kC (s : ByteArray) (st : PS) : PL :=
  .ok ([if (bJ s st.pos).1 = 46 then (if st.now.dots = true then kI (rs [(0, 1114111)]) else kI (rs [(0, 9), (11, 1114111)]))
    else if (bJ s st.pos).1 = 94 then rxK (if st.now.lines = true then 10 else 8)
    else if (bJ s st.pos).1 = 36 then rxK (if st.now.lines = true then 11 else 9)
    else lD st.now (bJ s st.pos).1], { st with pos := st.pos + (bJ s st.pos).2 })
noncomputable def eJ (s : ByteArray) (ex : PS → PX Rx) (st : PS) : PL :=
  if sb s st.pos = 40 then qE s ex st
  else if sb s st.pos = 91 then (match lH s st.now (st.pos + 1) with | .error e => .error e | .ok (x, j) => .ok ([x], { st with pos := j }))
  else if sb s st.pos = 92 then fQ s st
  else kC s st
noncomputable def iK (s : ByteArray) (ex : PS → PX Rx) : Nat → List Rx → Bool → PS → PX Rx
  | 0, l, ah, st => .ok (lC 4 l, st)
  | f + 1, l, ah, st =>
    if s.size ≤ st.pos ∨ sb s st.pos = 124 ∨ sb s st.pos = 41 then .ok (lC 4 l, st)
    else
      let r := mP (s.extract st.pos s.size)
      if r.2.2 = 0 then (match eJ s ex st with
        | .error e => .error e
        | .ok (g, st2) => iK s ex f (l ++ g) (decide (0 < g.length)) st2)
      else if ah = false ∨ 1000 < r.1 ∨ 1000 < r.2.1 ∨ (0 ≤ r.2.1 ∧ r.2.1 < r.1) then .error 82
      else if isB s (st.pos + r.2.2) 63 then iK s ex f (l.dropLast ++ [lS r.1 r.2.1 (!st.now.lazy) (l.getLastD (rxK 1))]) false { st with pos := st.pos + r.2.2 + 1 }
      else iK s ex f (l.dropLast ++ [lS r.1 r.2.1 st.now.lazy (l.getLastD (rxK 1))]) false { st with pos := st.pos + r.2.2 }
noncomputable def mU (s : ByteArray) (ex : PS → PX Rx) : Nat → List Rx → PS → PX Rx
  | 0, l, st => .ok (lC 5 l, st)
  | f + 1, l, st => if isB s st.pos 124 then (match iK s ex (s.size + 1) [] false { st with pos := st.pos + 1 } with
      | .error e => .error e
      | .ok (x, st2) => mU s ex f (l ++ [x]) st2)
    else .ok (lC 5 l, st)
noncomputable def mL (s : ByteArray) (ex : PS → PX Rx) (st : PS) : PX Rx := match iK s ex (s.size + 1) [] false st with
  | .error e => .error e
  | .ok (x, st2) => mU s ex (s.size + 1) [x] st2
noncomputable def qD (s : ByteArray) : Nat → PS → PX Rx
  | 0 => fun st => mL s (fun _ => .error 3) st
  | n + 1 => fun st => mL s (qD s n) st
noncomputable def eZ (s : ByteArray) : Except Int Rx := open Classical in
  if 4096 < s.size then .error 1 else if ¬ ∃ N, Utf s N then .error 4
  else match qD s 250 ⟨0, ⟨false, false, false, false⟩, 0, []⟩ with
    | .error e => .error e
    | .ok (x, st) => if st.pos < s.size then .error 80 else .ok x
end Go.Proofs.YtidpigbinpaaeaaGreat
namespace Go.Proofs.YtidpigbinpaaeaaGreat
open Go.RowKit Go.W
attribute [local irreducible] Decidable.decide
theorem cP : cZ Tryz.prog 116 0 = some 0 := by kernel_rfl
theorem aV : cZ Tryz.prog 116 1 = some 1 := by kernel_rfl
abbrev rdc (s : ByteArray) (st : PS) (a : Option Addr) (c : Nat) : Array Value := #[.string s, iv (st.pos : Nat), .bool st.now.fold, .bool st.now.lines, .bool st.now.dots, .bool st.now.lazy, iv (st.opn : Nat), .slice a st.names.length c]
structure RdAt (w : World) (b : Nat) (s : ByteArray) (st : PS) (a : Option Addr) (c : Nat) (ob : Option Nat) : Prop where
  blk : w.heap[b]? = some (.cells (rdc s st a c) 116 (0, 0))
  own : OwnS w 9 1 a st.names.length c (st.names.map sv) ob
  ne : ∀ g, ob = some g → g ≠ b
theorem RdAt.ap {w : World} {b : Nat} {s : ByteArray} {st : PS} {a : Option Addr} {c : Nat} {ob : Option Nat} (h : RdAt w b s st a c ob) : Apart (some b) ob := fun g h1 h2 => by cases h1; exact h.ne b h2 rfl
def adv (st : PS) (n : Nat) : PS := { st with pos := st.pos + n }
theorem mW {w : World} {b : Nat} {s : ByteArray} {st : PS} {a : Option Addr} {c : Nat} {ob : Option Nat} (hR : RdAt w b s st a c ob) (hs : s.size ≤ 1000000) (ch : Nat) (hc : ch < 256) :
    Calls Tryz.prog 77 #[.pointer (some ⟨b, 0, none⟩), .int .u8 (ch : Nat)] w (Ret fun v w' => v = .bool (decide (isB s st.pos ch)) ∧ Evo [b] w w' ∧ RdAt w' b s (if isB s st.pos ch then adv st 1 else st) a c ob) := by
  have hap := hR.ap; refine bD (N := 35) Tryz.func77 rfl rfl rfl ?_; refine csr (wan (aI (aI ?_))); refine eM (by kernel_rfl) (by kernel_rfl) ?_; refine bE (fun _ A => aY rfl) ?_; refine bE (fun _ A => aF rfl) ?_; refine bE (fun _ A => aA rfl aV) ?_; refine bE (fun _ A => aU rfl aQ (bA (A.blk0 hR.blk) rfl)) ?_; refine bE (fun _ A => aY rfl) ?_; refine bE (fun _ A => aF rfl) ?_; refine bE (fun _ A => aA rfl cP) ?_; refine bE (fun _ A => aU rfl cT (bA (A.blk0 hR.blk) rfl)) ?_; refine bE (fun _ A => cA rfl Tryz.underlying9 rfl) ?_; refine bE (fun _ A => cX rfl rfl) ?_; refine bE (fun _ A => aY rfl) ?_; refine kG (t := 15) rfl (fun B => ?_) (fun B => ?_)
  ·have hlt : st.pos < s.size := by omega
   refine qlg ?_; refine bE (fun _ A => aY rfl) ?_; refine qlg ?_; refine bE (fun _ A => aF rfl) ?_; refine qlg ?_; refine bE (fun _ A => aA rfl cP) ?_; refine qlg ?_; refine bE (fun _ A => aU rfl cT (bA (A.blk0 hR.blk) rfl)) ?_; refine qlg ?_; refine bE (fun _ A => aY rfl) ?_; refine qlg ?_; refine bE (fun _ A => aF rfl) ?_; refine qlg ?_; refine bE (fun _ A => aA rfl aV) ?_; refine qlg ?_; refine bE (fun _ A => aU rfl aQ (bA (A.blk0 hR.blk) rfl)) ?_; refine qlg ?_; refine bE (fun _ A => eA (n := st.pos) rfl rfl Tryz.underlying9 rfl hlt) ?_; refine qlg ?_; refine bE (fun _ A => aY rfl) ?_; refine qlg ?_; refine bE (fun _ A => mB rfl rfl) ?_; refine bE (fun _ A => gB rfl rfl) ?_; refine eS (fun V A => aB ?_); have H := (Evo.refl [b] w).then A; have F := A.blk0 hR.blk; have I := hR.own.evo0 A; refine aX rfl (fun D => ?_) (fun D => ?_)
   ·refine csr (aD (aC (aF rfl) (wfl rfl aV rfl aQ F rfl ?_))); refine aC (aJ rfl rfl (by omega) (by omega)) ?_; refine aC (aF rfl) (aC (aA rfl aV) ?_); refine bC rfl rfl (by first | rfl | assumption) bO F rfl fun w6 J L => ?_; have M := I.evo L hap.symm.own1
    try simp only [cG, Nat.reduceAdd] at J
    refine wnn (csr (wan (aH (aE (br1 ?_))))); have hb : isB s st.pos ch := ⟨hlt, by omega⟩; refine ⟨congrArg Value.bool (decide_eq_true hb).symm, (H.step L (fun y hy => .inl hy)), ?_⟩
    rw [if_pos hb]; exact ⟨J, M, hR.ne⟩
   refine aL (aB (csr (wan (aH (br1 ?_)))))
   have hb : ¬ isB s st.pos ch := fun h => by first | exact B (by have := h.1; omega) | exact D (by have := h.2; omega)
   refine ⟨congrArg Value.bool (decide_eq_false hb).symm, H, ?_⟩
   rw [if_neg hb]; exact ⟨F, I, hR.ne⟩
  refine qln ?_; refine qln ?_; refine qln ?_; refine qln ?_; refine qln ?_; refine qln ?_; refine qln ?_; refine qln ?_; refine qln ?_; refine qln ?_; refine qln ?_; refine bE (fun _ A => gT rfl rfl) ?_; refine eS (fun V A => aB ?_); have O := A.blk0 hR.blk; have U := hR.own.evo0 A; refine cS rfl ?_; refine aL (aB (csr (wan (aH (br1 ?_)))))
  have hb : ¬ isB s st.pos ch := fun h => by first | exact B (by have := h.1; omega) | exact D (by have := h.2; omega)
  refine ⟨congrArg Value.bool (decide_eq_false hb).symm, ((Evo.refl [b] w).then A), ?_⟩
  rw [if_neg hb]; exact ⟨O, U, hR.ne⟩
theorem cN : dU Tryz.prog 53 := ⟨_, Tryz.func53, by kernel_rfl, by kernel_rfl⟩
theorem tA {r : Int} (h0 : -2147483648 ≤ r) (h1 : r ≤ 2147483647) : IntKind.i64.min ≤ r ∧ r ≤ IntKind.i64.max := by
  constructor <;> simp [IntKind.min, IntKind.max, IntKind.signed, IntKind.bits] <;> omega
theorem hexd_no {s : ByteArray} {i : Nat} (h : ¬ i < s.size) : gG s i = .error 83 := by unfold gG; rw [if_neg h]
theorem nW {s : ByteArray} {i d : Nat} (h : i < s.size) (hd : oW (sb s i) = some d) : gG s i = .ok (d, i + 1) := by unfold gG; rw [if_pos h, hd]
theorem lA {s : ByteArray} {i : Nat} (h : i < s.size) (hd : oW (sb s i) = none) : gG s i = .error 83 := by unfold gG; rw [if_pos h, hd]
theorem tW {z : Int} {d : Nat} (h : z = d) : Value.int .i64 z = iv (d : Nat) := by rw [h]
theorem oJ {w : World} {b : Nat} {s : ByteArray} {st : PS} {a : Option Addr} {c : Nat} {ob : Option Nat} (hR : RdAt w b s st a c ob) (hs : s.size ≤ 1000000) :
    Calls Tryz.prog 170 #[.pointer (some ⟨b, 0, none⟩)] w (RetP (fun v w' => ∃ d, gG s st.pos = .ok (d, st.pos + 1) ∧ v = iv (d : Nat) ∧ Evo [b] w w' ∧ RdAt w' b s (adv st 1) a c ob) (fun v w' => gG s st.pos = .error 83 ∧ v = flt 83 ∧ Evo [b] w w')) := by
  have hap := hR.ap; have hb9 := iS s st.pos; refine bD (N := 63) Tryz.func170 rfl rfl rfl ?_; refine csr (wan (aI (aI ?_))); refine eM (by kernel_rfl) (by kernel_rfl) ?_; refine bE (fun _ D => aY rfl) ?_; refine bE (fun _ D => aF rfl) ?_; refine bE (fun _ D => aA rfl aV) ?_; refine bE (fun _ D => aU rfl aQ (bA (D.blk0 hR.blk) rfl)) ?_; refine bE (fun _ D => aY rfl) ?_; refine bE (fun _ D => aF rfl) ?_; refine bE (fun _ D => aA rfl cP) ?_; refine bE (fun _ D => aU rfl cT (bA (D.blk0 hR.blk) rfl)) ?_; refine bE (fun _ D => cA rfl Tryz.underlying9 rfl) ?_; refine bE (fun _ D => cX rfl rfl) ?_; refine eS (fun a3 D => aB ?_); have V := (Evo.refl [b] w).then D; have O := D.blk0 hR.blk; refine aX rfl (fun a0 => ?_) (fun a0 => ?_)
  ·have hlt : st.pos < s.size := by omega
   refine aI ?_; refine eM (by kernel_rfl) (by kernel_rfl) ?_; refine bE (fun _ B => aY rfl) ?_; refine bE (fun _ B => aF rfl) ?_; refine bE (fun _ B => aA rfl cP) ?_; refine bE (fun _ B => aU rfl cT (bA (B.blk0 O) rfl)) ?_; refine bE (fun _ B => aY rfl) ?_; refine bE (fun _ B => aF rfl) ?_; refine bE (fun _ B => aA rfl aV) ?_; refine bE (fun _ B => aU rfl aQ (bA (B.blk0 O) rfl)) ?_; refine bE (fun _ B => eA (n := st.pos) rfl rfl Tryz.underlying9 rfl hlt) ?_; refine bE (fun _ B => eK rfl) ?_; refine eS (fun a4 B => aB ?_); refine csr (aD (aC (aF rfl) (wfl rfl aV rfl aQ (B.blk0 O) rfl ?_))); refine aC (aJ rfl rfl (by omega) (by omega)) ?_; refine aC (aF rfl) (aC (aA rfl aV) ?_); refine bC rfl rfl (by first | rfl | assumption) bO (B.blk0 O) rfl fun a5 F U => ?_; have A := (V.then B).step U (fun y hy => .inl hy); have H := ((hR.own.evo0 D).evo0 B).evo U hap.symm.own1
   try simp only [cG, Nat.reduceAdd] at F
   refine wnn (bG (csr (aD (aC (eF rfl rfl) ?_)))); refine aD (bF (t := 33) rfl (fun a1 => ?_) (fun a1 => ?_))
   ·refine aT (aD (aT (aC (fE rfl rfl) ?_))); refine bW (wan (aX rfl (fun a2 => ?_) (fun a2 => ?_)))
    ·refine csr (aD ?_); refine aC (lB rfl rfl (by omega) (by omega)) ?_; refine aC (iN rfl Tryz.underlying5 Tryz.underlying3 (tA (by omega) (by omega)).1 (tA (by omega) (by omega)).2) ?_; refine wan (aH (aM (aE (cE (br1 ?_)))))
     exact ⟨_, nW hlt (by unfold oW; rw [if_pos (by omega)]), tW (by omega), A, F, H, hR.ne⟩
    refine csr (aD (aC (eF rfl rfl) ?_)); refine aD (bF (t := 43) rfl (fun L => ?_) (fun L => ?_))
    ·refine aT (aD (aT (aC (fE rfl rfl) ?_))); refine bW (wan (aX rfl (fun M => ?_) (fun M => ?_)))
     ·refine csr (aD ?_); refine aC (lB rfl rfl (by omega) (by omega)) ?_; refine aC (iN rfl Tryz.underlying5 Tryz.underlying3 (tA (by omega) (by omega)).1 (tA (by omega) (by omega)).2) ?_; refine aC (aJ rfl rfl (by omega) (by omega)) ?_; refine wan (aH (aM (aE (cE (br1 ?_)))))
      exact ⟨_, nW hlt (by unfold oW; rw [if_neg (by omega), if_pos (by omega)]), tW (by omega), A, F, H, hR.ne⟩
     refine csr (aD (aC (eF rfl rfl) ?_)); refine aD (bF (t := 54) rfl (fun I => ?_) (fun I => ?_))
     ·refine aT (aD (aT (aC (fE rfl rfl) ?_))); refine bW (wan (aX rfl (fun J => ?_) (fun J => ?_)))
      ·refine csr (aD ?_); refine aC (lB rfl rfl (by omega) (by omega)) ?_; refine aC (iN rfl Tryz.underlying5 Tryz.underlying3 (tA (by omega) (by omega)).1 (tA (by omega) (by omega)).2) ?_; refine aC (aJ rfl rfl (by omega) (by omega)) ?_; refine wan (aH (aM (aE (cE (br1 ?_)))))
       exact ⟨_, nW hlt (by unfold oW; rw [if_neg (by omega), if_neg (by omega), if_pos (by omega)]), tW (by omega), A, F, H, hR.ne⟩
      refine aL (aO (aB (csr (cB (vs := [_]) cN rfl (eD 83) rfl ?_ ?_))))
      ·intro pv wp hpp; obtain ⟨rfl, hpe⟩ := hpp
       exact And.intro rfl ⟨_, rfl, lA hlt (by unfold oW; rw [if_neg (by omega), if_neg (by omega), if_neg (by omega)]), rfl, (A).then hpe⟩
      intro _ _ hF; exact hF.elim
     refine aN (aN (bM (wan (cS rfl ?_)))); refine aL (aO (aB (csr (cB (vs := [_]) cN rfl (eD 83) rfl ?_ ?_))))
     ·intro pv wp hpp; obtain ⟨rfl, hpe⟩ := hpp
      exact And.intro rfl ⟨_, rfl, lA hlt (by unfold oW; rw [if_neg (by omega), if_neg (by omega), if_neg (by omega)]), rfl, (A).then hpe⟩
     intro _ _ hF; exact hF.elim
    refine aN (aN (bM (wan (cS rfl ?_)))); refine csr (aD (aC (eF rfl rfl) ?_)); refine aD (bF (t := 54) rfl (fun I => ?_) (fun I => ?_))
    ·refine aT (aD (aT (aC (fE rfl rfl) ?_))); refine bW (wan (aX rfl (fun J => ?_) (fun J => ?_)))
     ·refine csr (aD ?_); refine aC (lB rfl rfl (by omega) (by omega)) ?_; refine aC (iN rfl Tryz.underlying5 Tryz.underlying3 (tA (by omega) (by omega)).1 (tA (by omega) (by omega)).2) ?_; refine aC (aJ rfl rfl (by omega) (by omega)) ?_; refine wan (aH (aM (aE (cE (br1 ?_)))))
      exact ⟨_, nW hlt (by unfold oW; rw [if_neg (by omega), if_neg (by omega), if_pos (by omega)]), tW (by omega), A, F, H, hR.ne⟩
     refine aL (aO (aB (csr (cB (vs := [_]) cN rfl (eD 83) rfl ?_ ?_))))
     ·intro pv wp hpp; obtain ⟨rfl, hpe⟩ := hpp
      exact And.intro rfl ⟨_, rfl, lA hlt (by unfold oW; rw [if_neg (by omega), if_neg (by omega), if_neg (by omega)]), rfl, (A).then hpe⟩
     intro _ _ hF; exact hF.elim
    refine aN (aN (bM (wan (cS rfl ?_)))); refine aL (aO (aB (csr (cB (vs := [_]) cN rfl (eD 83) rfl ?_ ?_))))
    ·intro pv wp hpp; obtain ⟨rfl, hpe⟩ := hpp
     exact And.intro rfl ⟨_, rfl, lA hlt (by unfold oW; rw [if_neg (by omega), if_neg (by omega), if_neg (by omega)]), rfl, (A).then hpe⟩
    intro _ _ hF; exact hF.elim
   refine aN (aN (bM (wan (cS rfl ?_)))); refine csr (aD (aC (eF rfl rfl) ?_)); refine aD (bF (t := 43) rfl (fun L => ?_) (fun L => ?_))
   ·refine aT (aD (aT (aC (fE rfl rfl) ?_))); refine bW (wan (aX rfl (fun M => ?_) (fun M => ?_)))
    ·refine csr (aD ?_); refine aC (lB rfl rfl (by omega) (by omega)) ?_; refine aC (iN rfl Tryz.underlying5 Tryz.underlying3 (tA (by omega) (by omega)).1 (tA (by omega) (by omega)).2) ?_; refine aC (aJ rfl rfl (by omega) (by omega)) ?_; refine wan (aH (aM (aE (cE (br1 ?_)))))
     exact ⟨_, nW hlt (by unfold oW; rw [if_neg (by omega), if_pos (by omega)]), tW (by omega), A, F, H, hR.ne⟩
    refine csr (aD (aC (eF rfl rfl) ?_)); refine aD (bF (t := 54) rfl (fun I => ?_) (fun I => ?_))
    ·refine aT (aD (aT (aC (fE rfl rfl) ?_))); refine bW (wan (aX rfl (fun J => ?_) (fun J => ?_)))
     ·refine csr (aD ?_); refine aC (lB rfl rfl (by omega) (by omega)) ?_; refine aC (iN rfl Tryz.underlying5 Tryz.underlying3 (tA (by omega) (by omega)).1 (tA (by omega) (by omega)).2) ?_; refine aC (aJ rfl rfl (by omega) (by omega)) ?_; refine wan (aH (aM (aE (cE (br1 ?_)))))
      exact ⟨_, nW hlt (by unfold oW; rw [if_neg (by omega), if_neg (by omega), if_pos (by omega)]), tW (by omega), A, F, H, hR.ne⟩
     refine aL (aO (aB (csr (cB (vs := [_]) cN rfl (eD 83) rfl ?_ ?_))))
     ·intro pv wp hpp; obtain ⟨rfl, hpe⟩ := hpp
      exact And.intro rfl ⟨_, rfl, lA hlt (by unfold oW; rw [if_neg (by omega), if_neg (by omega), if_neg (by omega)]), rfl, (A).then hpe⟩
     intro _ _ hF; exact hF.elim
    refine aN (aN (bM (wan (cS rfl ?_)))); refine aL (aO (aB (csr (cB (vs := [_]) cN rfl (eD 83) rfl ?_ ?_))))
    ·intro pv wp hpp; obtain ⟨rfl, hpe⟩ := hpp
     exact And.intro rfl ⟨_, rfl, lA hlt (by unfold oW; rw [if_neg (by omega), if_neg (by omega), if_neg (by omega)]), rfl, (A).then hpe⟩
    intro _ _ hF; exact hF.elim
   refine aN (aN (bM (wan (cS rfl ?_)))); refine csr (aD (aC (eF rfl rfl) ?_)); refine aD (bF (t := 54) rfl (fun I => ?_) (fun I => ?_))
   ·refine aT (aD (aT (aC (fE rfl rfl) ?_))); refine bW (wan (aX rfl (fun J => ?_) (fun J => ?_)))
    ·refine csr (aD ?_); refine aC (lB rfl rfl (by omega) (by omega)) ?_; refine aC (iN rfl Tryz.underlying5 Tryz.underlying3 (tA (by omega) (by omega)).1 (tA (by omega) (by omega)).2) ?_; refine aC (aJ rfl rfl (by omega) (by omega)) ?_; refine wan (aH (aM (aE (cE (br1 ?_)))))
     exact ⟨_, nW hlt (by unfold oW; rw [if_neg (by omega), if_neg (by omega), if_pos (by omega)]), tW (by omega), A, F, H, hR.ne⟩
    refine aL (aO (aB (csr (cB (vs := [_]) cN rfl (eD 83) rfl ?_ ?_))))
    ·intro pv wp hpp; obtain ⟨rfl, hpe⟩ := hpp
     exact And.intro rfl ⟨_, rfl, lA hlt (by unfold oW; rw [if_neg (by omega), if_neg (by omega), if_neg (by omega)]), rfl, (A).then hpe⟩
    intro _ _ hF; exact hF.elim
   refine aN (aN (bM (wan (cS rfl ?_)))); refine aL (aO (aB (csr (cB (vs := [_]) cN rfl (eD 83) rfl ?_ ?_))))
   ·intro pv wp hpp; obtain ⟨rfl, hpe⟩ := hpp
    exact And.intro rfl ⟨_, rfl, lA hlt (by unfold oW; rw [if_neg (by omega), if_neg (by omega), if_neg (by omega)]), rfl, (A).then hpe⟩
   intro _ _ hF; exact hF.elim
  refine aL (aB (csr (cB (vs := [_]) cN rfl (eD 83) rfl ?_ ?_)))
  ·intro pv wp hpp; obtain ⟨rfl, hpe⟩ := hpp; exact And.intro rfl ⟨_, rfl, hexd_no (by omega), rfl, (V).then hpe⟩
  intro _ _ hF; exact hF.elim
theorem nB : dU Tryz.prog 170 := ⟨_, Tryz.func170, by kernel_rfl, by kernel_rfl⟩
theorem iF : dU Tryz.prog 77 := ⟨_, Tryz.func77, by kernel_rfl, by kernel_rfl⟩
def gX (st : PS) (j : Nat) : PS := { st with pos := j }
theorem yZ (s : ByteArray) (i : Nat) : gG s i = .error 83 ∨ ∃ d, d < 16 ∧ i < s.size ∧ gG s i = .ok (d, i + 1) := by
  unfold gG
  by_cases h : i < s.size
  · rw [if_pos h]
    unfold oW
    split
    · rename_i d hd
      refine .inr ⟨d, ?_, h, rfl⟩
      split at hd
      · cases hd; omega
      · split at hd
        · cases hd; omega
        · split at hd
          · cases hd; omega
          · cases hd
    · exact .inl rfl
  · rw [if_neg h]; exact .inl rfl
theorem AD {r : Int} (h0 : -2147483648 ≤ r) (h1 : r ≤ 2147483647) : IntKind.i32.min ≤ r ∧ r ≤ IntKind.i32.max := by
  constructor <;> simp [IntKind.min, IntKind.max, IntKind.signed, IntKind.bits] <;> omega
theorem VW {s : ByteArray} {n i : Nat} (hi : i ≤ s.size) (h : isB s i 125) : mK s (s.size + 1 - i) n i = .ok (n, i + 1) := by
  rw [show s.size + 1 - i = (s.size - i) + 1 by omega, mK, if_pos h]
theorem VV {s : ByteArray} {n i : Nat} (hi : i ≤ s.size) (h : ¬ isB s i 125) (he : gG s i = .error 83) : mK s (s.size + 1 - i) n i = .error 83 := by
  rw [show s.size + 1 - i = (s.size - i) + 1 by omega, mK, if_neg h, he]
theorem VX {s : ByteArray} {n i d : Nat} (hi : i ≤ s.size) (h : ¬ isB s i 125) (he : gG s i = .ok (d, i + 1)) (hb : 1114111 < n * 16 + d) : mK s (s.size + 1 - i) n i = .error 83 := by
  rw [show s.size + 1 - i = (s.size - i) + 1 by omega, mK, if_neg h, he]
  show (if 1114111 < n * 16 + d then _ else _) = _
  rw [if_pos hb]
theorem hexl_go {s : ByteArray} {n i d : Nat} (hi : i < s.size) (h : ¬ isB s i 125) (he : gG s i = .ok (d, i + 1)) (hb : ¬ 1114111 < n * 16 + d) : mK s (s.size + 1 - i) n i = mK s (s.size + 1 - (i + 1)) (n * 16 + d) (i + 1) := by
  rw [show s.size + 1 - i = (s.size + 1 - (i + 1)) + 1 by omega, mK, if_neg h, he]
  show (if 1114111 < n * 16 + d then _ else _) = _
  rw [if_neg hb]
theorem xN {s : ByteArray} {i d j : Nat} (h : gG s i = .ok (d, j)) : d < 16 := by
  rcases yZ s i with e | ⟨d', h1, _, e⟩ <;> rw [e] at h <;> cases h
  exact h1
theorem hex_a {s : ByteArray} {i : Nat} (h : ¬ isB s i 123) (e : gG s i = .error 83) : qC s i = .error 83 := by unfold qC; rw [if_neg h, e]
theorem hex_b {s : ByteArray} {i d : Nat} (h : ¬ isB s i 123) (e : gG s i = .ok (d, i + 1)) (e2 : gG s (i + 1) = .error 83) : qC s i = .error 83 := by
  unfold qC; rw [if_neg h, e]; show (match gG s (i + 1) with | .error e => _ | .ok (b, k) => _) = _; rw [e2]
theorem hex_c {s : ByteArray} {i d f : Nat} (h : ¬ isB s i 123) (e : gG s i = .ok (d, i + 1)) (e2 : gG s (i + 1) = .ok (f, i + 1 + 1)) : qC s i = .ok (d * 16 + f, i + 1 + 1) := by
  unfold qC; rw [if_neg h, e]; show (match gG s (i + 1) with | .error e => _ | .ok (b, k) => _) = _; rw [e2]
theorem hex_d {s : ByteArray} {i : Nat} (h : isB s i 123) (e : gG s (i + 1) = .error 83) : qC s i = .error 83 := by unfold qC; rw [if_pos h, e]
theorem hex_e {s : ByteArray} {i d : Nat} (h : isB s i 123) (e : gG s (i + 1) = .ok (d, i + 1 + 1)) : qC s i = mK s (s.size + 1 - (i + 1 + 1)) d (i + 1 + 1) := by unfold qC; rw [if_pos h, e]
structure HxG where
  n : Nat
  p : Nat
structure HxI (w : World) (b : Nat) (s : ByteArray) (st : PS) (a : Option Addr) (c : Nat) (ob : Option Nat) (x : HxG) : Prop where
  hp : x.p ≤ s.size
  hn : x.n ≤ 1114111
  hr : RdAt w b s (gX st x.p) a c ob
  eq : qC s st.pos = mK s (s.size + 1 - x.p) x.n x.p
theorem OJ {s : ByteArray} {i d j : Nat} (h : gG s i = .ok (d, j)) : i < s.size := by
  rcases yZ s i with e | ⟨d', _, h1, e⟩ <;> rw [e] at h <;> cases h
  exact h1
theorem hex_ok {w : World} {b : Nat} {s : ByteArray} {st : PS} {a : Option Addr} {c : Nat} {ob : Option Nat} (hR : RdAt w b s st a c ob) (hs : s.size ≤ 1000000) :
    Calls Tryz.prog 164 #[.pointer (some ⟨b, 0, none⟩)] w (RetP (fun v w' => ∃ n j, qC s st.pos = .ok (n, j) ∧ v = .int .i32 (n : Nat) ∧ Evo [b] w w' ∧ RdAt w' b s (gX st j) a c ob) (fun v w' => qC s st.pos = .error 83 ∧ v = flt 83 ∧ Evo [b] w w')) := by
  have hap := hR.ap; refine bD (N := 33) Tryz.func164 rfl rfl rfl ?_; refine csr (wan (aI (csr (aD ?_)))); refine aK (vs := [_, _]) iF rfl (mW hR hs 123 (by decide)) rfl ?_; rintro _ w1 ⟨rfl, a2, F⟩; have H := (Evo.refl [b] w).step a2 (fun y hy => .inl hy); refine aC (oY rfl) ?_; refine wnn (aX rfl (fun B => ?_) (fun B => ?_))
  ·rw [if_neg B] at F; refine csr (aD (cB (vs := [_]) nB rfl (oJ F hs) rfl ?_ ?_))
   ·intro pv wp hpp; obtain ⟨hpe, rfl, hpw⟩ := hpp; exact And.intro rfl ⟨_, rfl, hex_a B hpe, rfl, (H).step hpw (fun y hy => .inl hy)⟩
   rintro _ w4 ⟨d1, hd1, rfl, a3, a4⟩; have L := H.step a3 (fun y hy => .inl hy); have hl1 := xN hd1; refine aD (cB (vs := [_]) nB rfl (oJ a4 hs) rfl ?_ ?_)
   ·intro pv wp hpp; obtain ⟨hpe, rfl, hpw⟩ := hpp; exact And.intro rfl ⟨_, rfl, hex_b B hd1 hpe, rfl, (L).step hpw (fun y hy => .inl hy)⟩
   rintro _ w7 ⟨d2, hd2, rfl, a5, a6⟩; have hl2 := xN hd2; refine bX (wan (csr (aD ?_))); refine aC (fL rfl rfl (by omega) (by omega)) ?_; refine aD ?_; refine aC (aJ rfl rfl (by omega) (by omega)) ?_; refine aC (iN rfl Tryz.underlying3 Tryz.underlying21 (AD (by omega) (by omega)).1 (AD (by omega) (by omega)).2) ?_; refine wan (aH (aE (cE (br1 ?_)))); exact ⟨_, _, hex_c B hd1 hd2, (by congr 1), (L.step a5 (fun y hy => .inl hy)), a6⟩
  have hb8 : isB s st.pos 123 := Classical.not_not.1 B; rw [if_pos hb8] at F; refine aL (aB (csr (aD (cB (vs := [_]) nB rfl (oJ F hs) rfl ?_ ?_))))
  ·intro pv wp hpp; obtain ⟨hpe, rfl, hpw⟩ := hpp; exact And.intro rfl ⟨_, rfl, hex_d hb8 hpe, rfl, (H).step hpw (fun y hy => .inl hy)⟩
  rintro _ b4 ⟨d1, hd1, rfl, O, a7⟩; have hl1 := xN hd1; have hin := OJ hd1; refine wan (aI (bG ?_))
  refine dC (α := HxG) (⟨d1, st.pos + 1 + 1⟩) (fun x => [(5, .int .i64 (x.n : Nat))]) [(0, _), (2, _)] (fun x wr => Evo [b] w wr ∧ (HxI wr b s st a c ob x)) (fun x => s.size + 1 - x.p) ⟨rfl, trivial⟩ ⟨rfl, rfl, trivial⟩ ⟨(H.step O (fun y hy => .inl hy)), ⟨by show st.pos + 1 + 1 ≤ _; have : st.pos + 1 < s.size := hin; omega, by show d1 ≤ _; omega, a7, hex_e hb8 hd1⟩⟩ ?_
  rintro ⟨n, p⟩ wr13 ⟨U, ⟨hp9, a8, M, heq⟩⟩; show CW _ _ _ _ [(5, .int .i64 (n : Nat)), (0, _), (2, _)] _
  try dsimp only at hp9 a8 M heq
  refine aI (csr (aD ?_)); refine aK (vs := [_, _]) iF rfl (mW M hs 125 (by decide)) rfl ?_; rintro _ b5 ⟨rfl, V, I⟩; have D := U.step V (fun y hy => .inl hy); refine aC (oY rfl) ?_; refine wnn (aX rfl (fun A => ?_) (fun A => ?_))
  ·rw [if_neg A] at I; refine aL (aB (bG (csr (aD ?_)))); refine aC (fL rfl rfl (by omega) (by omega)) ?_; refine aD (cB (vs := [_]) nB rfl (oJ I hs) rfl ?_ ?_)
   ·intro pv wp hpp; obtain ⟨hpe, rfl, hpw⟩ := hpp; exact And.intro rfl ⟨_, rfl, heq.trans (VV hp9 A hpe), rfl, (D).step hpw (fun y hy => .inl hy)⟩
   rintro _ b6 ⟨d2, hd2, rfl, a0, a9⟩; have J := D.step a0 (fun y hy => .inl hy); have hl2 := xN hd2; have hin2 : p < s.size := OJ hd2; refine aC (aJ rfl rfl (by omega) (by omega)) ?_; refine wan (csr (aD (aC (gL rfl rfl) ?_))); refine wnn (aX rfl (fun a1 => ?_) (fun a1 => ?_))
   ·refine aG (cB (vs := [_]) cN rfl (eD 83) rfl ?_ ?_)
    ·intro pv wp hpp; obtain ⟨rfl, hpw⟩ := hpp; exact And.intro rfl ⟨_, rfl, heq.trans (VX hp9 A hd2 (by omega)), rfl, (J).then hpw⟩
    intro _ _ hF; exact hF.elim
   refine aL (aO (bB ?_)); refine ⟨⟨n * 16 + d2, p + 1⟩, ?_, ⟨rfl, trivial⟩, ⟨rfl, rfl, trivial⟩, J, ?_⟩
   · (try dsimp only); omega
   try dsimp only
   exact ⟨by show p + 1 ≤ _; omega, by show n * 16 + d2 ≤ _; omega, a9, heq.trans (hexl_go hin2 A hd2 (by omega))⟩
  have hb22 : isB s (gX st p).pos 125 := Classical.not_not.1 A; rw [if_pos hb22] at I; refine cM (bK (bK (cL (aB ?_)))); refine csr (aD ?_); refine aC (iN rfl Tryz.underlying3 Tryz.underlying21 (AD (by omega) (by omega)).1 (AD (by omega) (by omega)).2) ?_; refine wan (aH (cE (br1 ?_))); exact ⟨_, _, heq.trans (VW hp9 hb22), rfl, D, I⟩
end Go.Proofs.YtidpigbinpaaeaaGreat
namespace Go.Proofs.YtidpigbinpaaeaaGreat
open Go.RowKit Go.W
def HX (g : Int × Int) : List Value := [.int .i32 g.1, .int .i32 g.2]
def dA (l : List (Int × Int)) : List Value := l.flatMap HX
theorem wG (g : Int × Int) (l : List (Int × Int)) : dA (g :: l) = .int .i32 g.1 :: .int .i32 g.2 :: dA l := rfl
theorem jL (l m : List (Int × Int)) : dA (l ++ m) = dA l ++ dA m := List.flatMap_append
theorem iU : ∀ l : List (Int × Int), (dA l).length = l.length * 2
  | [] => rfl
  | g :: l => by rw [wG, List.length_cons, List.length_cons, iU l, List.length_cons]; omega
theorem tR : ∀ {l : List (Int × Int)} {i : Nat} (h : i < l.length), (dA l)[i * 2]? = some (.int .i32 l[i].1) ∧ (dA l)[i * 2 + 1]? = some (.int .i32 l[i].2)
  | g :: l, 0, h => ⟨rfl, rfl⟩
  | g :: l, i + 1, h => by
    have := tR (l := l) (i := i) (by simpa using h)
    rw [wG, show (i + 1) * 2 = i * 2 + 1 + 1 by omega]
    exact this
theorem pY : ∀ l : List (Int × Int), AllOne (dA l)
  | [] => trivial
  | g :: l => ⟨rfl, rfl, pY l⟩
section
variable {w : World} {e : TypeId} {a : Option Addr} {n c : Nat} {l : List (Int × Int)} {ob : Option Nat}
theorem qF (h : OwnS w e 2 a n c (dA l) ob) : n = l.length := by have := h.length; rw [iU] at this; omega
theorem pL (h : OwnS w e 2 a n c (dA l) ob) {i : Nat} (hi : i < l.length) : ∃ g, ob = some g ∧ a = some ⟨g, 0, none⟩ ∧ CellsAt w g (0 + i * 2) (HX l[i]) := by
  have hn := qF h
  obtain ⟨g, hg, ha, hc⟩ := h.cells (by omega)
  refine ⟨g, hg, ha, fun j v hj => ?_⟩
  obtain ⟨h0, h1⟩ := tR hi
  match j, hj with
  | 0, hj => cases hj; have := hc _ _ h0; simpa using this
  | 1, hj => cases hj; have := hc _ _ h1; simpa [Nat.add_assoc] using this
  | j + 2, hj => cases hj
theorem UM (h : OwnS w e 2 a n c (dA l) ob) : (a = none ∧ n = 0 ∧ l = [] ∧ ob = none) ∨ ∃ g, a = some ⟨g, 0, none⟩ ∧ ob = some g := by
  have hn := qF h
  rcases h.2 with ⟨h1, h2, h3⟩ | ⟨g, cap, cur, hg, hv, _⟩
  · cases h1; exact .inl ⟨rfl, rfl, List.length_eq_zero_iff.1 hn.symm, h3⟩
  · cases hv; exact .inr ⟨g, rfl, hg⟩
theorem own_rrg (h : OwnS w e 2 a n c (dA l) ob) {X : List Nat} (hx : ∀ g, ob = some g → g ∉ X) : RSl 2 RRg X w (.slice a l.length c) l := by
  have hn := qF h
  refine ⟨a, c, rfl, by rw [← hn]; exact h.le, fun k hk => ?_⟩
  obtain ⟨g, hg, ha, hc⟩ := pL h hk
  exact ⟨g, 0, _, ha, hx g hg, rfl, hc, rfl⟩
end
theorem rU (l : List (Int × Int)) : Sort.flatK HX 2 l.toArray = (dA l).toArray := by
  apply Array.ext
  · simp [iU]
  · intro t h1 h2
    have h3 : t < l.length * 2 := by simpa [iU] using h2
    have h4 := Sort.get_flatK HX 2 l.toArray t (by simpa using h3)
    rw [getElem!_pos _ t h1] at h4
    rw [h4]
    have h5 : t / 2 < l.length := by omega
    have h6 : (l.toArray)[t / 2]! = l[t / 2] := by simp [h5]
    rw [h6]
    obtain ⟨g0, g1⟩ := tR h5
    rcases Nat.mod_two_eq_zero_or_one t with hm | hm <;> rw [hm]
    · rw [show t / 2 * 2 = t by omega] at g0
      show (Value.int .i32 l[t / 2].1) = _
      simp only [List.getElem_toArray]
      exact (Option.some.inj ((List.getElem?_eq_getElem (by rw [iU]; exact h3)).symm.trans g0)).symm
    · rw [show t / 2 * 2 + 1 = t by omega] at g1
      show (Value.int .i32 l[t / 2].2) = _
      simp only [List.getElem_toArray]
      exact (Option.some.inj ((List.getElem?_eq_getElem (by rw [iU]; exact h3)).symm.trans g1)).symm
theorem WS (w : World) (g n : Nat) (d : Array Value) (os : Array Obj) : Evo [g] w (Sort.grow (Sort.putRow id (Sort.ahead w n) g 0 d) os) := by
  refine ⟨rfl, rfl, rfl, ?_, fun b hb hx => ?_⟩
  · simp [Sort.grow, Sort.putRow, Sort.mapBlock, Sort.ahead]
  · have hne : g ≠ b := fun e => hx (by simp [e])
    simp only [Sort.grow, Sort.putRow, Sort.mapBlock, Sort.ahead]
    rw [Array.getElem?_append_left (by simpa using hb), Array.getElem?_modify, if_neg hne]
theorem TH {w : World} {g : Nat} {cur : Array Value} {e : TypeId} (hb : w.heap[g]? = some (.cells cur e (0, 0))) (n : Nat) (d : Array Value) (os : Array Obj) :
    (Sort.grow (Sort.putRow id (Sort.ahead w n) g 0 d) os).heap[g]? = some (.cells (Sort.putCells id 0 d cur) e (0, 0)) := by
  have hlt := eO hb
  simp only [Sort.grow, Sort.putRow, Sort.mapBlock, Sort.ahead]
  rw [Array.getElem?_append_left (by simpa using hlt), Array.getElem?_modify, if_pos rfl, hb]
  rfl
theorem yC (cur : Array Value) (ds : List Value) (hc : ds.length ≤ cur.size) : (Sort.putCells id 0 ds.toArray cur).toList.take ds.length = ds := by
  apply List.ext_getElem?
  intro k
  by_cases hk : k < ds.length
  · rw [List.getElem?_take, if_pos hk]
    simp only [Sort.putCells, Array.getElem?_toList, Array.getElem?_mapIdx, List.getElem?_map]
    have h1 : k < cur.size := by omega
    simp [h1, hk]
  · rw [List.getElem?_eq_none (by simp; omega), List.getElem?_eq_none (by omega)]
theorem QH {w : World} {e : TypeId} {g n c sz : Nat} {xs ds : List Value} (h : OwnS w e sz (some ⟨g, 0, none⟩) n c xs (some g)) (hd : ds.length = n * sz) (q : Nat) (os : Array Obj) :
    OwnS (Sort.grow (Sort.putRow id (Sort.ahead w q) g 0 ds.toArray) os) e sz (some ⟨g, 0, none⟩) n c ds (some g) := by
  refine ⟨hd, ?_⟩
  rcases h.2 with ⟨h1, _⟩ | ⟨g', cap, cur, hg, hv, hb, hn, hc, hs, ht⟩
  · cases h1
  · cases hg; cases hv
    have hle : n * sz ≤ c * sz := Nat.mul_le_mul_right sz hn
    refine .inr ⟨g, c, _, rfl, rfl, TH hb q ds.toArray os, hn, hc, by simpa [Sort.putCells] using hs, ?_⟩
    rw [← hd]
    exact yC cur ds (by omega)
theorem KU {w : World} {e : TypeId} {g n c : Nat} {l : List (Int × Int)} (h : OwnS w e 2 (some ⟨g, 0, none⟩) n c (dA l) (some g)) : Sort.HoldsK HX 2 w g 0 l.toArray := fun j hj => by
  rw [rU] at hj ⊢
  have hj' : j < (dA l).length := by simpa using hj
  have hl := h.length
  rcases h.2 with ⟨h1, _⟩ | ⟨g', cap, cur, hg, hv, hb, hn, hc, hs, ht⟩
  · cases h1
  · cases hg; cases hv
    constructor
    · refine fC hb ?_
      have h1 : (cur.toList.take (n * 2))[j]? = some (dA l)[j] := by rw [ht]; exact List.getElem?_eq_getElem hj'
      rw [List.getElem?_take, if_pos (by omega)] at h1
      rw [Nat.zero_add]
      simpa [hj'] using h1
    · simp [World.frozen?, hb]
end Go.Proofs.YtidpigbinpaaeaaGreat
namespace Go.Proofs.YtidpigbinpaaeaaGreat
open Go.RowKit Go.W
attribute [local irreducible] Decidable.decide
theorem vG : pT Tryz.prog 217 = some 1 := by kernel_rfl
def Vr (l : List (Int × Int)) : Prop := ∀ g, g ∈ l → 0 ≤ g.1 ∧ g.1 ≤ g.2 ∧ g.2 ≤ 1114111
def lT : List Int → List (Int × Int)
  | a :: b :: r => (a, b) :: lT r
  | _ => []
theorem BE : ∀ (l : List Int), (lT l).length = l.length / 2
  | [] => rfl
  | [a] => by rw [show lT [a] = [] from rfl]; simp
  | a :: b :: r => by rw [lT, List.length_cons, BE r]; simp only [List.length_cons]; omega
theorem BF : ∀ {l : List Int} {k : Nat} (h : k < (lT l).length) (h0 : 2 * k < l.length) (h1 : 2 * k + 1 < l.length), (lT l)[k] = (l[2 * k], l[2 * k + 1])
  | [], k, h, _, _ => by cases h
  | [a], k, h, _, _ => by cases h
  | a :: b :: r, 0, h, _, _ => rfl
  | a :: b :: r, k + 1, h, h0, h1 => by
    have := BF (l := r) (k := k) (by rw [lT] at h; simpa using h) (by simp only [List.length_cons] at h0; omega) (by simp only [List.length_cons] at h1; omega)
    have h2 : (lT (a :: b :: r))[k + 1] = (lT r)[k]'(by rw [lT] at h; simpa using h) := rfl
    rw [h2, this]
    simp only [show 2 * (k + 1) = 2 * k + 1 + 1 by omega, List.getElem_cons_succ]
theorem oG (l : List (Int × Int)) (a b : Int) : dA (l ++ [(a, b)]) = dA l ++ [.int .i32 a, .int .i32 b] := by rw [jL]; rfl
abbrev i32v (l : List Int) : List Value := l.map fun c => Value.int .i32 c
theorem GN {w : World} {e : TypeId} {a : Option Addr} {n c : Nat} {ys : List Int} {ob : Option Nat} (h : OwnS w e 1 a n c (i32v ys) ob) {k : Nat} (hk : k < ys.length) : ∃ g, ob = some g ∧ a = some ⟨g, 0, none⟩ ∧ w.cell? ⟨g, 0 + k * 1, none⟩ = some (.int .i32 ys[k]) := by
  have hl : ys.length = n * 1 := by have := h.length; simpa using this
  obtain ⟨g, hg, ha, hc⟩ := h.cells (by omega)
  refine ⟨g, hg, ha, ?_⟩
  rw [Nat.mul_one]
  exact hc k _ (by simp [hk])
structure SpG where
  k : Nat
  sa : Option Addr
  sc : Nat
  so : Option Nat
structure SpI (w wr : World) (n : Nat) (l : List (Int × Int)) (a : Option Addr) (c : Nat) (ob : Option Nat) : Prop where
  hk : n = l.length
  own : OwnS wr 135 2 a n c (dA l) ob
  ge : Ge w ob
theorem CJ {w : World} {a : Option Addr} {c : Nat} {l : List (Int × Int)} {ob : Option Nat} (hO : OwnS w 135 2 a l.length c (dA l) ob) (hl : l.length ≤ 1000000) :
    Calls Tryz.prog 82 #[.slice a l.length c] w (Ret fun v w' => ∃ a' c' ob', v = .slice a' l.length c' ∧ OwnS w' 135 2 a' l.length c' (dA l) ob' ∧ Ge w ob' ∧ Evo [] w w') := by
  refine bD (N := 8) Tryz.func82 rfl rfl rfl ?_; refine csr (wan (aI (csr (aD (aC (OP rfl rfl Tryz.underlying68) ?_))))); refine wnn (fN rfl (fun B => ?_) (fun B => ?_))
  ·refine csr (wan (aH (aE (br1 ?_))))
   obtain ⟨rfl, h1, rfl, rfl⟩ := (UM hO).resolve_right (fun ⟨g, h, _⟩ => by rw [h] at B; cases B)
   exact ⟨none, 0, none, rfl, OwnS.nil _ _ _, Ge.nil _, (Evo.refl [] w)⟩
  refine aL (aB (csr (bL (vs := []) rfl fV rfl rfl rfl rfl fun b1 w2 A I J => ?_))); have F := Ge.new (Evo.refl [] w) I; have D := (Evo.refl [] w).then J; refine aD ?_; refine dB rfl rfl rfl rfl eW A (Src.ofOwn (hO.evo0 D) (pY l)) (by omega) fun a2 c2 M ob2 L H hob16 => ?_; refine wan (aH (br1 ?_)); have A := L; rw [Nat.zero_add] at A; exact ⟨a2, c2, ob2, by rw [Nat.zero_add], by simpa using A, (F.app D hob16), (D.step H F.mem)⟩
theorem fP {w : World} {a : Option Addr} {n c : Nat} {es : List Int} {ob : Option Nat} (hO : OwnS w 21 1 a n c (i32v es) ob) (hl : es.length ≤ 1000) :
    Calls Tryz.prog 132 #[.slice a n c] w (Ret fun v w' => ∃ a' c' ob', v = .slice a' (lT es).length c' ∧ OwnS w' 135 2 a' (lT es).length c' (dA (lT es)) ob' ∧ Ge w ob' ∧ Evo [] w w') := by
  have hn : n = es.length := by have := hO.length; simp at this; omega
  subst hn; have hpl := BE es; refine bD (N := 26) Tryz.func132 rfl rfl rfl ?_; refine csr (wan (csr (wan (aI (csr (wan (bG ?_))))))); refine dC (α := SpG) (⟨0, none, 0, none⟩) (fun x => [(3, .slice x.sa x.k x.sc), (4, .int .i64 ((2 * x.k : Nat) : Int))]) [(0, _), (2, _)] (fun x wr => Evo [] w wr ∧ (x.k ≤ (lT es).length ∧ SpI w wr x.k ((lT es).take x.k) x.sa x.sc x.so)) (fun x => (lT es).length - x.k) ⟨rfl, rfl, trivial⟩ ⟨rfl, rfl, trivial⟩ ⟨(Evo.refl [] w), ⟨Nat.zero_le _, by simp, OwnS.nil _ _ _, Ge.nil _⟩⟩ ?_; rintro ⟨k, sa, sc, so⟩ wr1 ⟨I, ⟨hk, hkl, hown, hge⟩⟩; show CW _ _ _ _ [(3, .slice sa k sc), (4, .int .i64 ((2 * k : Nat) : Int)), (0, _), (2, _)] _
  try dsimp only at hk hkl hown hge
  refine aI (csr (aD ?_)); refine aC (aJ rfl rfl (by omega) (by omega)) ?_; refine aD (aC (bH rfl Tryz.underlying217 rfl) ?_); refine aC (cX rfl rfl) ?_; refine wnn (aX rfl (fun L => ?_) (fun L => ?_))
  ·have h0 : 2 * k < es.length := by omega
   have h1 : 2 * k + 1 < es.length := by omega
   have hk' : k < (lT es).length := by omega
   obtain ⟨g0, hg0, ha0, M⟩ := GN hO h0; obtain ⟨g1, hg1, ha1, O⟩ := GN hO h1; refine aL (aB (aI (bG ?_))); refine fZ (fun w0 w' => Evo so.toList w0 w') (by kernel_rfl) (fun w3 J => ?_); have B := I.then J; refine aet 0 rfl (fun _ hS => aY rfl) (Evo.refl so.toList w3) ?_; refine aet 1 rfl (fun _ hS => aY rfl) (Evo.refl so.toList w3) ?_; refine aet 2 rfl (fun _ hS => aY rfl) (Evo.refl so.toList w3) ?_; refine aet 3 rfl (fun _ hS => eT (n := 2 * k) rfl (by rfl) ha0 vG h0) (Evo.refl so.toList w3) ?_; refine aet 4 rfl (fun _ hS => aU rfl cI (((B.step hS (hge.mem))).cell M (by simp))) (Evo.refl so.toList w3) ?_; refine aet 5 rfl (fun _ hS => aY rfl) (Evo.refl so.toList w3) ?_; refine aet 6 rfl (fun _ hS => aY rfl) (Evo.refl so.toList w3) ?_; refine aet 7 rfl (fun _ hS => aJ rfl rfl (by omega) (by omega)) (Evo.refl so.toList w3) ?_; refine aet 8 rfl (fun _ hS => eT (n := 2 * k + 1) rfl (by rfl) ha1 vG h1) (Evo.refl so.toList w3) ?_; refine aet 9 rfl (fun _ hS => aU rfl cI (((B.step hS (hge.mem))).cell O (by simp))) (Evo.refl so.toList w3) ?_
   refine aet 10 rfl (fun _ hS => cC (vs := [(0, _), (1, _)]) jH rfl (cells := [_, _]) rfl) (Evo.refl so.toList w3) ?_; refine bR [11] (by kernel_rfl) rfl ⟨?_, trivial⟩; refine bY rfl ?_; refine bL (vs := [_]) rfl fV rfl rfl rfl rfl fun b7 w8 U a0 A => ?_; have D := (Evo.refl so.toList w3).then A; refine aP (bN (.inl D) ?_); refine bR [12] (by kernel_rfl) rfl ⟨?_, trivial⟩; refine bY rfl ?_; refine dB rfl rfl rfl rfl eW ((hown.evo0 J).evo0 A) (Src.ofOwn U ⟨by first | rfl | assumption, by first | rfl | assumption, trivial⟩) (by omega) fun a2 c2 a1 ob2 V F hob24 => ?_; have H := D.step F (fun y hy => .inl hy); refine aP (bN (.inl H) ?_); refine aet 13 rfl (fun _ hS => eK rfl) H ?_; refine dJ (by kernel_rfl) (aO (aB ?_)); refine aG (aD ?_); refine aC (aJ rfl rfl (by omega) (by omega)) ?_; refine bX (aP (bB ?_)); refine ⟨⟨k + 1, a2, c2, ob2⟩, ?_, ⟨rfl, rfl, trivial⟩, ⟨rfl, rfl, trivial⟩, ((B.then A).step F hge.mem), ?_⟩
   · (try dsimp only); omega
   try dsimp only
   refine ⟨hk', ⟨by rw [List.length_take]; omega, ?_, (hge.app (B.then A) hob24)⟩⟩
   rw [List.take_add_one, List.getElem?_eq_getElem hk', BF hk' h0 h1, Option.toList_some, oG]; exact V
  refine cM (bK (bK (cL (aB ?_)))); refine csr (aD (wan (aH (br1 ?_))))
  obtain rfl : k = (lT es).length := by omega
  rw [List.take_length] at hown; exact ⟨sa, sc, so, rfl, hown, hge, I⟩
open Go.Shelf Go.Lib Go.Sort in
section
def cl (z : Int) : Int := max 0 (min z 1114111)
def EK (g : Int × Int) : List Value := HX (cl g.1, cl g.2)
def cmC (x y : Int × Int) : Int := cl x.1 - cl y.1
theorem OZ {z : Int} (h0 : 0 ≤ z) (h1 : z ≤ 1114111) : cl z = z := by unfold cl; omega
theorem cl_b (z : Int) : 0 ≤ cl z ∧ cl z ≤ 1114111 := by unfold cl; omega
set_option maxHeartbeats 1000000 in
theorem clos_ok (x y : Int × Int) (W : World) : Calls Tryz.prog 166 #[.agg (EK x).toArray, .agg (EK y).toArray] W fun e w' => e = .returned (.int .i64 (cmC x y)) ∧ ∃ q os', w' = Sort.grow (W.drewN q) os' := by
  have hx := cl_b x.1
  have hy := cl_b y.1
  unfold EK HX cmC
  generalize cl x.1 = p at *
  generalize cl y.1 = q at *
  generalize cl x.2 = p' at *
  generalize cl y.2 = q' at *
  show Calls Tryz.prog 166 #[.agg #[.int .i32 p, .int .i32 p'], .agg #[.int .i32 q, .int .i32 q']] W _
  go_enter Tryz.func166, Tryz.ntmps166
  go_wp2
  go_ret
  refine ⟨?_, 0, _, by rw [Sort.alloc_eq_grow, Sort.alloc_eq_grow, Sort.grow_grow]; rfl⟩
  rfl
end
theorem XG {l : List (Int × Int)} (h : Vr l) : l.map (fun g => (cl g.1, cl g.2)) = l := by
  conv => rhs; rw [← List.map_id l]
  refine List.map_congr_left fun g hg => ?_
  have := h g hg
  rw [OZ (by omega) (by omega), OZ (by omega) (by omega)]; rfl
theorem zJ (l : List (Int × Int)) : Sort.flatK EK 2 l.toArray = (dA (l.map fun g => (cl g.1, cl g.2))).toArray := by
  rw [← rU]
  unfold Sort.flatK
  apply Array.ext
  · simp
  · intro t h1 h2
    have h3 : t < l.length * 2 := by simpa using h1
    have h5 : t / 2 < l.length := by omega
    simp [h5]
    rfl
theorem ML {l m : List (Int × Int)} (h : m.Perm l) (hv : Vr l) : Vr m := fun g hg => hv g (h.mem_iff.1 hg)
theorem NW (x y : Int × Int) : Go.Proofs.ltOf cmC x y = decide (cl x.1 < cl y.1) := by unfold Go.Proofs.ltOf cmC; exact decide_eq_decide.2 (by omega)
theorem swo_cm : Sort.SWO (Go.Proofs.ltOf cmC) where
  irrefl x := by rw [NW]; simp
  trans x y z h1 h2 := by rw [NW] at *; simp at *; omega
  ntrans x y z h1 h2 := by rw [NW] at *; simp at *; omega
theorem SV {w : World} {a : Option Addr} {c : Nat} {l : List (Int × Int)} {ob : Option Nat} (hO : OwnS w 135 2 a l.length c (dA l) ob) (hv : Vr l) (hl : l.length ≤ 1000000) :
    Calls Tryz.prog 165 #[.slice a l.length c, .func (.func 166) #[] #[]] w (Ret fun v w' => v = .tuple #[] ∧ ∃ m, m.Perm l ∧ (∀ i j (hij : i < j) (hj : j < m.length), m[i].1 ≤ m[j].1) ∧ OwnS w' 135 2 a l.length c (dA m) ob ∧ Evo ob.toList w w') := by
  rcases UM hO with ⟨rfl, hn, rfl, rfl⟩ | ⟨g, rfl, rfl⟩
  · refine (Go.Proofs.AnyF.slices_SortFunc_none { zT with } none c (.func (.func 166) #[] #[]) w).mono ?_
    rintro e w' ⟨rfl, rfl⟩
    exact ⟨_, rfl, rfl, [], .refl _, (fun i j hij hj => by cases hj), hO, Evo.refl _ _⟩
  · have eg : ∀ args w, (callFunc 166 args).run Tryz.prog w = .ok (.enter 166 args) w := enters_of Tryz.func166 (by kernel_rfl) rfl
    have hH : Sort.HoldsK EK 2 w g 0 l.toArray := by
      have := KU hO
      unfold Sort.HoldsK at *
      rw [zJ, XG hv]; rw [rU] at this; exact this
    have hcon := Go.Proofs.AnyQ.slices_SortFunc zT 2 Tryz.isAgg135 Tryz.sizeOf135 EK (fun _ => rfl) (fun x v hv => by simp [EK, HX] at hv; rcases hv with rfl | rfl <;> rfl) cmC swo_cm 166 #[] g 0 c l.toArray w eg (fun _ _ _ _ x y => clos_ok x y _) hH hO.lt (by simp; omega)
    refine Calls.mono hcon ?_
    rintro e w' ⟨rfl, d', q, os, hp, hs, rfl⟩
    obtain ⟨h1, h2, h3⟩ := hp
    have hperm : d'.toList.Perm l := by
      have e1 : d'.extract 0 l.toArray.size = d' := by rw [← h1, Array.extract_size]
      have e2 : l.toArray.extract 0 l.toArray.size = l.toArray := Array.extract_size
      rw [e1, e2] at h3
      exact h3
    have hvm := ML hperm hv
    have hlen : d'.toList.length = l.length := by simpa using h1
    refine ⟨_, rfl, rfl, d'.toList, hperm, fun i j hij hj => ?_, ?_, ?_⟩
    · have hjs : j < d'.size := by simpa using hj
      have h5 := hs i j (Nat.zero_le _) hij (by rw [← h1]; exact hjs)
      rw [NW, decide_eq_false_iff_not] at h5
      have h6 := hvm _ (List.getElem_mem hj)
      have h7 := hvm _ (List.getElem_mem (show i < d'.toList.length by omega))
      have e1 : d'[j]! = d'.toList[j] := by rw [getElem!_pos d' j hjs]; simp
      have e2 : d'[i]! = d'.toList[i] := by rw [getElem!_pos d' i (by omega)]; simp
      rw [e1, e2, OZ (by omega) (by omega), OZ (by omega) (by omega)] at h5
      omega
    · have h8 := QH hO (ds := dA d'.toList) (by rw [iU, hlen]) q os
      have e3 : Sort.flatK EK 2 d' = (dA d'.toList).toArray := by
        have := zJ d'.toList
        rw [XG hvm] at this
        simpa using this
      show OwnS (Sort.grow (Sort.putRow id (Sort.ahead w q) g 0 (Sort.flatK EK 2 d')) os) _ _ _ _ _ _ _
      rw [e3]
      exact h8
    · exact WS w g q _ os
end Go.Proofs.YtidpigbinpaaeaaGreat
